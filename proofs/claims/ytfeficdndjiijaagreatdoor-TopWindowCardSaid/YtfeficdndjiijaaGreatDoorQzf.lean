import Derived.StillTail
import Derived.Deep.MidRow
import Derived.Test.YtfeficdndjiijaaGreatDoorQza
import Derived.Lib.LazyBuf
import Derived.Lib.ItoaNum
import Derived.Lib.ItoaLen
import Derived.Lib.Strings
import Derived.Lib.ParseIntB
import Derived.Laws.BytesArg
import Derived.Laws.IdiomStrings
import Derived.StillTailTactics
import Derived.Deep.RegionHeld3
import Derived.Lib.OthersKept
import Derived.WalkSpells
import Derived.Maps.AppendAt
import Derived.Shelf.Strings.Builder1
import Derived.Shelf.Small.Strs
import Derived.Shelf.Small.Wraps
import Derived.Shelf.Strings.BuilderF
import Derived.Shelf.Strings.BuilderK
import Derived.Shelf.Strconv.Itoa0
import Derived.Shelf.Strconv.Itoa1
import Derived.Shelf.LaysM
import Derived.Shelf.Strconv.Itoa2
import Derived.Shelf.Strconv.Itoa3
import Derived.Shelf.Strconv.Itoa4
import Derived.Shelf.Strconv.ParseIntEmpty
import Derived.Shelf.Strconv.Clone
import Derived.Shelf.Strconv.SyntaxError
import Derived.Shelf.LaysC
import Derived.Shelf.Strconv.ToError
import Derived.Shelf.Strconv.Lower
import Derived.Shelf.Strconv.ParseUint10
import Derived.Shelf.Strconv.ParseUint10Empty
import Derived.Shelf.Strconv.ParseUint10Any
import Derived.Shelf.Strconv.ParseInt10
import Derived.Shelf.Strconv.RangeError
import Derived.Shelf.Strconv.ToErrorRange
import Derived.Shelf.Strconv.ParseUintEmpty
import Derived.Shelf.Strconv.ParseUint10b64
import Derived.Shelf.Strconv.ParseUint10b32
import Derived.Shelf.Strconv.ParseUint10b16
import Derived.Shelf.Strconv.ParseUint10b8
import Derived.Shelf.Strconv.ParseUint10At
import Derived.Shelf.Strconv.ParseInt10At64
import Derived.Shelf.Strconv.ParseInt10At32
import Derived.Shelf.Strconv.ParseInt10At16
import Derived.Shelf.Strconv.ParseInt10At8
import Derived.Shelf.Strconv.ParseInt10All
import Derived.Shelf.Strconv.ParseIntPublic10
import Derived.Shelf.Strings.Search1
import Derived.Shelf.Strings.Search2
import Derived.Shelf.Strings.Search3
import Derived.Shelf.Strings.Shaped
import Derived.Shelf.Bits.Mul64
import Derived.Shelf.Unicode.DecodeSlow
import Derived.Ground.SlgmProg
import Derived.Shelf.SortM.Plain
import Derived.Shelf.SortM.SortNone
import Derived.Test.YtfeficdndjiijaaGreatDoorProg
import Derived.Lib.SmallJoins
import Derived.Test.YtfeficdndjiijaaGreatDoorQzc
import Derived.Defers
import Derived.Recover
/-
  Contracts of the functions that TopWindow reaches, and the plain laws that it leans on. Conditions: none beyond those stated at each theorem.
-/
namespace Go.Proofs.YtfeficdndjiijaaGreatDoor
open Go
set_option linter.unusedVariables false
set_option linter.unusedSimpArgs false
section
variable {P : Program} {ops : Array Oper} {md : Region.Mode} {w : World}
def sinkS (md : Region.Mode) (ops : Array Oper) (skip : List Nat) (n : Nat) : Bool :=
  (List.range n).all fun i => skip.contains i || (List.range (n + 1)).any fun j => decide (i < j) && Region.waitsFor md ops j i
theorem tail_waits_s {skip : List Nat} {n : Nat} {listed : Array Bool} (hs : sinkS md ops skip n = true) (hc : Region.chainB md ops n = true) (hn : n < ops.size) (inv : HeadInv md ops n listed) (hk : ∀ i ∈ skip, listed.getD i true ≠ false) :
  ∀ (d i : Nat), n - i = d → i < n → listed.getD i true = false → ∀ t, n ≤ t → t ∉ Region.ready md ops listed := by
 intro d
 induction d using Nat.strongRecOn with
 | _ d ih =>
  intro i hd hi hun t ht hr
  obtain ⟨_, ot, hot, hall⟩ := mem_ready.1 hr
  have htlt : t < ops.size := (Array.getElem?_eq_some_iff.1 hot).1
  by_cases htn : t = n
  ·subst htn
   have h0 := List.all_eq_true.1 hs i (List.mem_range.2 hi)
   rw [Bool.or_eq_true] at h0
   have h1 : (List.range (t + 1)).any (fun j => decide (i < j) && Region.waitsFor md ops j i) = true := by
    rcases h0 with h0 | h0
    ·exact absurd hun (hk i (by simpa using h0))
    ·exact h0
   obtain ⟨j, hj, hj2⟩ := List.any_eq_true.1 h1
   simp only [Bool.and_eq_true, decide_eq_true_eq] at hj2
   obtain ⟨oj, hoj, e, he, hb, hon⟩ := Region.waitsFor_spec hj2.2
   have hjle : j ≤ t := by have := List.mem_range.1 hj; omega
   by_cases hjt : j = t
   ·subst hjt
    have : oj = ot := Option.some.inj (hoj.symm.trans hot)
    subst this
    have h2 := hall e he hb
    rw [hon, getD_both hun] at h2
    cases h2
   ·cases hl : listed.getD j false with
    | true =>
     have h2 := inv.closed j oj hoj hl e he hb
     rw [hon, getD_both hun] at h2
     cases h2
    | false =>
     have hjs : j < listed.size := by rw [inv.size]; omega
     exact ih (t - j) (by omega) j rfl (by omega) (getD_in hjs hl) t (Nat.le_refl _) hr
  ·have h1 := List.all_eq_true.1 hc t (List.mem_range.2 htlt)
   simp only [Bool.or_eq_true, decide_eq_true_eq] at h1
   rcases h1 with h1 | h1
   ·omega
   ·obtain ⟨o', ho', e, he, hb, hon⟩ := Region.waitsFor_spec h1
    have : o' = ot := Option.some.inj (ho'.symm.trans hot)
    subst this
    have h2 := hall e he hb
    rw [hon, getD_both (inv.tail (t - 1) (by omega) (by omega))] at h2
    cases h2
theorem skip_set {skip : List Nat} {listed : Array Bool} (hk : ∀ i ∈ skip, listed.getD i true ≠ false) (j : Nat) : ∀ i ∈ skip, (listed.setIfInBounds j true).getD i true ≠ false := fun i hi => by
  by_cases h : j = i
  · subst h
    intro h2
    rcases Nat.lt_or_ge j listed.size with h3 | h3
    · simp [h3] at h2
    · simp [Array.getElem?_eq_none h3] at h2
  · rw [getD_set_ne true h]; exact hk i hi
theorem wpAnyL_first_s {skip : List Nat} {n i : Nat} {oi : Oper} {v : Value} {L : Array Bool → Act → Prop} (hi : ops[i]? = some oi) (hsel : ∀ (j : Nat) (o : Oper) cs b, ops[j]? = some o → o.op ≠ .select cs b)
  (hs : sinkS md ops skip n = true) (hc : Region.chainB md ops n = true) (hn : n < ops.size) (hin : i < n)
  (hdone : ∀ listed a, L listed a → ∀ j ∈ Region.ready md ops listed, n ≤ j) :
  ∀ (f : Nat) (listed : Array Bool) (a : Act), HeadInv md ops n listed → (∀ i ∈ skip, listed.getD i true ≠ false) →
   (∀ j oj, ops[j]? = some oj → j ≠ i → listed.getD j true = false → (∀ e ∈ oj.after, Region.binds md e = true → e.on ≠ i) → oi.apart ops oj = true) →
   i ∈ Region.ready md ops listed → YieldsAt P ops w oi v a →
   wpAnyL P md ops w n L f (listed.setIfInBounds i true) (a.put oi.dst v) → wpAnyL P md ops w n L (f + 1) listed a := by
 intro f
 induction f with
 | zero =>
  intro listed a inv hk _ hr hy H
  have hun := (mem_ready.1 hr).1
  refine ⟨fun h => (by rw [h] at hr; cases hr), fun j hj => ?_⟩
  have hjn : j < n := by
   rcases Nat.lt_or_ge j n with h | h
   ·exact h
   ·exact absurd hj (tail_waits_s hs hc hn inv hk _ i rfl hin hun j h)
  refine ⟨hjn, ?_⟩
  by_cases hji : j = i
  ·subst hji; exact hy.stOp hi H
  ·have := hdone _ _ H j (ready_mono hj hji)
   omega
 | succ f ih =>
  intro listed a inv hk hfree hr hy H
  have hun := (mem_ready.1 hr).1
  refine ⟨fun h => (by rw [h] at hr; cases hr), fun j hj => ?_⟩
  have hjn : j < n := by
   rcases Nat.lt_or_ge j n with h | h
   ·exact h
   ·exact absurd hj (tail_waits_s hs hc hn inv hk _ i rfl hin hun j h)
  refine ⟨hjn, ?_⟩
  by_cases hji : j = i
  ·subst hji; exact hy.stOp hi H
  ·have h1 := (H.2 j (ready_mono hj hji)).2
   obtain ⟨hjun, oj, hoj, hall⟩ := mem_ready.1 hj
   have hnot : ∀ e ∈ oj.after, Region.binds md e = true → e.on ≠ i := fun e he hb heq => by
    have h1 := hall e he hb
    rw [heq, getD_both hun] at h1
    cases h1
   have h2 := stOp_put hoj (hfree j oj hoj hji hjun hnot) (fun cs b => hsel i oi cs b hi) (fun cs b => hsel j oj cs b hoj) hy h1
   have hfree' : ∀ k ok, ops[k]? = some ok → k ≠ i → (listed.setIfInBounds j true).getD k true = false →
     (∀ e ∈ ok.after, Region.binds md e = true → e.on ≠ i) → oi.apart ops ok = true := fun k ok hk hki hun hno => by
    refine hfree k ok hk hki ?_ hno
    by_cases hjk : j = k
    ·subst hjk; exact hjun
    ·rw [getD_set_ne true hjk] at hun; exact hun
   refine stOp_mono (fun a' h3 => ih (listed.setIfInBounds j true) a' (inv.set hj hjn) (skip_set hk j) hfree' (ready_mono hr (Ne.symm hji)) h3.1 ?_) h2
   rw [Array.setIfInBounds_comm _ _ hji]
   exact h3.2
def lexHeadM (md : Region.Mode) (ops : Array Oper) (g : Nat) : List Bool → Nat → Array Bool → Bool
  | [], k, listed => Region.seqB md ops g k listed
  | true :: m, k, listed => (Region.ready md ops listed).contains k && Region.free md ops listed k && lexHeadM md ops g m (k + 1) (listed.setIfInBounds k true)
  | false :: m, k, listed => lexHeadM md ops g m (k + 1) listed
def dropAt {α : Type} : List Bool → List α → List α
  | true :: m, x :: l => x :: dropAt m l
  | false :: m, _ :: l => dropAt m l
  | _, _ => []
def cntM : List Bool → Nat
  | [] => 0
  | true :: m => cntM m + 1
  | false :: m => cntM m
theorem wpAnyL_lexM {skip : List Nat} {n g : Nat} {Lq : Act → Prop} (hsel : Region.noSelect ops = true) (hs : sinkS md ops skip n = true) (hc : Region.chainB md ops n = true) (hn : n < ops.size) :
  ∀ (m : List Bool) (l : List Oper) (k : Nat) (listed : Array Bool) (a : Act), (∀ j, j < m.length → l[j]? = ops[k + j]?) → m.length ≤ l.length → k + m.length = n → HeadInv md ops n listed → (∀ i ∈ skip, listed.getD i true ≠ false) →
  lexHeadM md ops g m k listed = true → wpStill P ops w Lq (dropAt m l) a →
  wpAnyL P md ops w n (fun listed' a' => Region.seqB md ops g n listed' = true ∧ Lq a') (cntM m) listed a
 | [], l, k, listed, a, _, _, hk, _, _, hB, h => by
  have : k = n := by simpa using hk
  subst this
  exact ⟨by simpa [lexHeadM] using hB, by cases l <;> exact h⟩
 | _ :: _, [], k, listed, a, _, hl, _, _, _, _, _ => by simp at hl
 | true :: m, o :: l, k, listed, a, hl, hml, hk, inv, hsk, hB, h => by
  have h0 : ops[k]? = some o := by simpa using (hl 0 (by simp)).symm
  simp only [lexHeadM, Bool.and_eq_true] at hB
  obtain ⟨⟨hr, hf⟩, hB'⟩ := hB
  have hkn : k < n := by simp only [List.length_cons] at hk; omega
  have hr' : k ∈ Region.ready md ops listed := by simpa using hr
  have hst : stOp P ops w k (wpStill P ops w Lq (dropAt m l)) a := by unfold stOp; simp only [h0]; exact h
  obtain ⟨v, hy, hK⟩ := yieldsAt_of_stOp h0 hst
  exact wpAnyL_first_s h0 (Region.noSelect_spec hsel) hs hc hn hkn (fun listed' a' hL => seqB_ready hL.1) (cntM m) listed a inv hsk (Region.free_spec h0 hf) hr' hy
   (wpAnyL_lexM hsel hs hc hn m l (k + 1) _ _ (fun j hj => by have := hl (j + 1) (by simp; omega); simpa [Nat.add_assoc, Nat.add_comm 1 j] using this) (by simpa using hml) (by simp only [List.length_cons] at hk; omega) (inv.set hr' hkn) (skip_set hsk k) hB' hK)
 | false :: m, o :: l, k, listed, a, hl, hml, hk, inv, hsk, hB, h => by
  exact wpAnyL_lexM hsel hs hc hn m l (k + 1) listed a (fun j hj => by have := hl (j + 1) (by simp; omega); simpa [Nat.add_assoc, Nat.add_comm 1 j] using this) (by simpa using hml) (by simp only [List.length_cons] at hk; omega) inv hsk hB h
def closedB (md : Region.Mode) (ops : Array Oper) (listed : Array Bool) : Bool :=
  (List.range ops.size).all fun j => !(listed.getD j false) || match ops[j]? with
    | some oj => oj.after.all fun e => !(Region.binds md e) || listed.getD e.on false
    | none => true
def stillB (md : Region.Mode) (ops : Array Oper) (m : List Bool) (skip : List Nat) (listed : Array Bool) : Bool :=
  Region.noSelect ops && decide (m.length < ops.size) && sinkS md ops skip m.length && Region.chainB md ops m.length && decide (listed.size = ops.size) && closedB md ops listed &&
    ((List.range ops.size).all fun t => decide (t < m.length) || !(listed.getD t true)) && (skip.all fun i => listed.getD i true) && lexHeadM md ops (ops.size - m.length) m 0 listed
theorem wpAny_still_tail {Q : Exit → Act → World → Prop} {a : Act} {l : List Oper} {listed : Array Bool} (m : List Bool) (skip : List Nat) (f : Nat) (hf : f = cntM m + (l.toArray.size - m.length)) (hB : stillB .any l.toArray m skip listed = true)
  (h : wpStill P l.toArray w (fun a' => wpList P l.toArray Q (l.drop m.length) a' w) (dropAt m l) a) : wpAny P .any l.toArray Q f listed a w := by
 simp only [stillB, Bool.and_eq_true, decide_eq_true_eq] at hB
 obtain ⟨⟨⟨⟨⟨⟨⟨⟨hsel, hn⟩, hs⟩, hc⟩, hsz⟩, hcl⟩, htl⟩, hsk⟩, hlex⟩ := hB
 have inv0 : HeadInv .any l.toArray m.length listed := by
  refine ⟨hsz, fun j oj hj hl e he hb => ?_, fun t ht ht' => ?_⟩
  ·have h1 := List.all_eq_true.1 hcl j (List.mem_range.2 (Array.getElem?_eq_some_iff.1 hj).1)
   rw [hl, hj] at h1
   simp only [Bool.not_true, Bool.false_or] at h1
   have h2 := Array.all_eq_true'.1 h1 e he
   rw [hb] at h2
   simpa using h2
  ·have h1 := List.all_eq_true.1 htl t (List.mem_range.2 ht')
   have h2 : ¬ t < m.length := by omega
   simpa [h2] using h1
 have hsk' : ∀ i ∈ skip, listed.getD i true ≠ false := fun i hi => by
  have := List.all_eq_true.1 hsk i hi
  rw [this]; decide
 have H := wpAnyL_lexM (md := .any) (g := l.toArray.size - m.length) hsel hs hc hn m l 0 listed a (fun j hj => by simp) (by simp at hn; omega) (by simp) inv0 hsk' hlex h
 have hdl : (l.drop m.length).length = l.toArray.size - m.length := by simp
 have := wpAny_of_head (Q' := Q) (g := l.toArray.size - m.length) (fun listed a' hL => by
  have := wpAny_of_seq (md := .any) (Q' := Q) (l.drop m.length) m.length listed a' w (fun j => by simp [List.getElem?_drop]) (by rw [hdl]; exact hL.1) hL.2
  rwa [hdl] at this) (cntM m) listed a H
 rw [hf]
 exact this
end
section
variable {P : Program}
theorem still_load_mid {op : Oper} {a : Act} {w : World} {K : Act → Prop} (ty : TypeId) (x : Operand) (ho : op.op = .load ty x)
    (b o : Nat) (hx : a.eval x = .pointer (some ⟨b, o, none⟩)) (cs : List Value) (d : TypeDesc) (hc : w.rangeAt b o cs)
    (hu : P.underlying ty = some d) (hd : d.isRow = true) (hi : (P.info? ty).map (·.size) = some cs.length)
    (h : K (a.put op.dst (.agg cs.toArray))) : op.still P a w K := by
  unfold Oper.still execOp
  simp only [ho, hx, Instr.loadAt, Instr.sureAddr, Sem.run_bind, Sem.run_pure, Result.andThen_ok, run_loadVar_mid w b o ty cs d hc hu hd hi, Oper.stillUpon]
  exact ⟨trivial, h⟩
theorem wpStill_load_mid {ops : Array Oper} {rest : List Oper} {op : Oper} {a : Act} {w : World} {Q : Act → Prop} (hw : Region.wanted op (yielded ops a.tmps) = true) (ty : TypeId) (x : Operand) (ho : op.op = .load ty x)
    (b o : Nat) (hx : a.eval x = .pointer (some ⟨b, o, none⟩)) (cs : List Value) (d : TypeDesc) (hc : w.rangeAt b o cs)
    (hu : P.underlying ty = some d) (hd : d.isRow = true) (hi : (P.info? ty).map (·.size) = some cs.length)
    (h : wpStill P ops w Q rest (a.put op.dst (.agg cs.toArray))) : wpStill P ops w Q (op :: rest) a := by
  refine wpStill_step (fun K hK => ?_)
  rw [if_pos hw]
  exact still_load_mid ty x ho b o hx cs d hc hu hd hi (hK _ h)
end
end Go.Proofs.YtfeficdndjiijaaGreatDoor


namespace Go.Proofs.YtfeficdndjiijaaGreatDoor
open Go.RowKit
set_option linter.unusedVariables false
set_option linter.unusedSimpArgs false

def pc2 (p : Nat × Nat) : List Value := [.int .i64 (p.1 : Int), .int .u64 (p.2 : Int)]
structure PcAt (w : World) (g : Nat) (l : List (Nat × Nat)) : Prop where
  lt : g < w.heap.size
  nofr : ∀ o, w.frozen? ⟨g, o, none⟩ = false
  rng : ∀ t p, l[t]? = some p → w.rangeAt g (t * 2) (pc2 p)
theorem rangeBlock {w w' : World} {g o : Nat} {cs : List Value} (h : w.rangeAt g o cs) (e : w'.heap[g]? = w.heap[g]?) : w'.rangeAt g o cs := fun j v hv => by
  rw [World.cell?_of_block (by exact e)]
  exact h j v hv
theorem PcAt.of_block {w w' : World} {g : Nat} {l : List (Nat × Nat)} (h : PcAt w g l) (e : w'.heap[g]? = w.heap[g]?) : PcAt w' g l := by
  refine ⟨?_, fun o => ?_, fun t p hp => rangeBlock (h.rng t p hp) e⟩
  · have h1 := h.lt
    rcases Nat.lt_or_ge g w'.heap.size with h2 | h2
    · exact h2
    · rw [Array.getElem?_eq_none h2, Array.getElem?_eq_getElem h1] at e
      cases e
  · rw [World.frozen?_of_block (by exact e)]
    exact h.nofr o
theorem PcAt.kept {w w' : World} {g : Nat} {l : List (Nat × Nat)} (h : PcAt w g l) (hb : Below w.heap.size w w') : PcAt w' g l := h.of_block (hb.block g h.lt)
theorem PcAt.there {w : World} {g : Nat} {l : List (Nat × Nat)} (h : PcAt w g l) {t : Nat} (ht : t < l.length) : w.there g (t * 2) 2 := fun j hj =>
  ⟨(h.rng t _ (List.getElem?_eq_getElem ht)).isSome j (by simpa [pc2] using hj), h.nofr _⟩
theorem sizeSetC (g : Nat) : ∀ (vs : List Value) (o : Nat) (w : World), (w.setCells g o vs).heap.size = w.heap.size
  | [], _, _ => rfl
  | v :: vs, o, w => by
    show ((w.setCell ⟨g, o, none⟩ v).setCells g (o + 1) vs).heap.size = _
    rw [sizeSetC g vs]
    simp [World.setCell]
theorem PcAt.set {w : World} {g : Nat} {l : List (Nat × Nat)} (h : PcAt w g l) {i : Nat} (hi : i < l.length) (p : Nat × Nat) : PcAt (w.setCells g (i * 2) (pc2 p)) g (l.set i p) := by
  refine ⟨by rw [sizeSetC]; exact h.lt, fun o => by rw [World.frozen?_setCells]; exact h.nofr o, fun t q hq => ?_⟩
  rw [List.getElem?_set] at hq
  by_cases e : i = t
  · subst e
    rw [if_pos rfl, if_pos hi] at hq
    cases hq
    exact World.rangeAt_setCells_same _ _ _ _ (h.there hi)
  · rw [if_neg e] at hq
    exact World.rangeAt_setCells_apart (h.rng t q hq) _ _ _ (.inr (by simp [pc2]; omega))
theorem grownSetCells (w : World) (g : Nat) : ∀ (vs : List Value) (o : Nat) (w1 : World), w.grownBy w1 (some g) → w.grownBy (w1.setCells g o vs) (some g)
  | [], _, _, h => h
  | v :: vs, o, w1, h => grownSetCells w g vs (o + 1) _ ⟨h.os, h.tape, h.output, by have := h.size; simpa [World.setCell] using this, fun k hk hne => by
    rw [show (w1.setCell ⟨g, o, none⟩ v).heap[k]? = w1.heap[k]? from Below.heap_setCell _ _ _ _ (by intro e; exact hne (by rw [e]))]
    exact h.block k hk hne⟩
theorem grRefl (w : World) (r : Option Nat) : w.grownBy w r := ⟨rfl, rfl, rfl, Nat.le_refl _, fun _ _ _ => rfl⟩
theorem grDrew {w w1 : World} {r : Option Nat} (h : w.grownBy w1 r) : w.grownBy { heap := w1.heap, tape := w1.tape, drawn := w1.drawn + 1, os := w1.os, output := w1.output } r := ⟨h.os, h.tape, h.output, h.size, h.block⟩
theorem PcAt.drew {w1 : World} {g : Nat} {l : List (Nat × Nat)} (h : PcAt w1 g l) : PcAt { heap := w1.heap, tape := w1.tape, drawn := w1.drawn + 1, os := w1.os, output := w1.output } g l := h.of_block rfl
theorem pc2_info (p : Nat × Nat) : (Tryz.prog.info? 155).map (·.size) = some (pc2 p).toArray.size := by
  show _ = some 2
  kernel_rfl
theorem pc2_one (p : Nat × Nat) : (pc2 p).toArray.all (·.oneCell') = true := by simp [pc2, Value.oneCell']
def IsRv {α : Type} (l y : List α) (k : Nat) : Prop := y.length = l.length ∧ ∀ t, t < l.length → y[t]? = if t < k ∨ l.length ≤ t + k then l[l.length - 1 - t]? else l[t]?
theorem IsRv.zero {α : Type} (l : List α) : IsRv l l 0 := ⟨rfl, fun t ht => by rw [if_neg (by omega)]⟩
theorem IsRv.next {α : Type} {l y : List α} {k q : Nat} (h : IsRv l y k) (hq : q = l.length - 1 - k) (hk : k < q) {u v : α} (hu : y[k]? = some u) (hv : y[q]? = some v) : IsRv l ((y.set k v).set q u) (k + 1) := by
  refine ⟨by simp [h.1], fun t ht => ?_⟩
  have h1 := h.2 k (by omega)
  have h2 := h.2 q (by omega)
  rw [if_neg (by omega), hu] at h1
  rw [if_neg (by omega), hv] at h2
  rw [List.getElem?_set, List.getElem?_set]
  simp only [List.length_set, h.1]
  by_cases e : q = t
  · subst e
    rw [if_pos rfl, if_pos ht, if_pos (by omega), h1]
    congr 1
    omega
  · rw [if_neg e]
    by_cases e2 : k = t
    · subst e2
      rw [if_pos rfl, if_pos (by omega), if_pos (by omega), h2, hq]
    · rw [if_neg e2, h.2 t ht]
      have : (t < k ∨ l.length ≤ t + k) ↔ (t < k + 1 ∨ l.length ≤ t + (k + 1)) := by omega
      simp only [this]
theorem IsRv.done {α : Type} {l y : List α} {k : Nat} (h : IsRv l y k) (hk : l.length ≤ 2 * k + 1) : y = l.reverse := by
  apply List.ext_getElem?
  intro t
  by_cases ht : t < l.length
  · rw [h.2 t ht, List.getElem?_reverse ht]
    split
    · rfl
    · congr 1; omega
  · rw [List.getElem?_eq_none (by rw [h.1]; omega), List.getElem?_eq_none (by simp; omega)]
set_option maxRecDepth 100000 in
set_option maxHeartbeats 8000000 in
theorem pcrev (g cap : Nat) (l : List (Nat × Nat)) (hlen : l.length ≤ 100000) (w : World) (h : PcAt w g l) :
  Calls Tryz.prog 212 #[.slice (some ⟨g, 0, none⟩) l.length cap] w fun e w' => e = .returned (.tuple #[]) ∧ PcAt w' g l.reverse ∧ w.grownBy w' (some g) := by
 obtain ⟨L, hL⟩ : ∃ L, L = l.length := ⟨_, rfl⟩
 have HL := Lib.hid hL
 rw [← hL] at hlen ⊢
 have HF := Lib.hid h
 clear h hL
 have hL1 : IntKind.i64.wrap ((L : Int) - 1) = (L : Int) - 1 := wrapI_of _ (by omega) (by omega)
 go_enter Tryz.func212, Tryz.ntmps212
 go_wp2_with fail
 go_loopw [2, 3] (fun i j wr => ∃ (k : Nat) (jv : Int) (y : List (Nat × Nat)), i = .int .i64 (k : Int) ∧ j = .int .i64 jv ∧ jv = (L : Int) - 1 - (k : Int) ∧ 2 * k ≤ L + 1 ∧ PcAt wr g y ∧ w.grownBy wr (some g) ∧ IsRv l y k) (fun i _ _ => L + 1 - (intOf i).toNat)
 case atStart => exact ⟨0, (L : Int) - 1, l, rfl, rfl, by omega, by omega, HF.out, grRefl _ _, IsRv.zero _⟩
 case round =>
  obtain ⟨k, jv, y, rfl, rfl, hjv, hk, hf, hg, hs⟩ := hrel
  have HFY := Lib.hid hf
  have HG := Lib.hid hg
  have HS := Lib.hid hs
  clear hf hg hs
  by_cases hkn : (k : Int) < jv
  ·obtain ⟨q, hq⟩ : ∃ q : Nat, jv = (q : Int) := ⟨jv.toNat, by omega⟩
   subst hq
   have hkL : (k : Int) < (L : Int) := by omega
   have hqL : (q : Int) < (L : Int) := by omega
   have hk0 : (0 : Int) ≤ (k : Int) := by omega
   have hq0 : (0 : Int) ≤ (q : Int) := by omega
   have hyl : y.length = L := by rw [HS.out.1, HL.out]
   obtain ⟨u, hu⟩ : ∃ u, y[k]? = some u := ⟨_, List.getElem?_eq_getElem (by omega)⟩
   obtain ⟨v, hv⟩ : ∃ v, y[q]? = some v := ⟨_, List.getElem?_eq_getElem (by omega)⟩
   have HPQ : Hid (q = L - 1 - k ∧ k < q ∧ y.length = L ∧ y[k]? = some u ∧ y[q]? = some v) := Lib.hid ⟨by omega, by omega, hyl, hu, hv⟩
   have HJ := Lib.hid hjv
   clear hyl hu hv hjv
   go_wp2_with fail
   have HFD := Lib.hid HFY.out.drew
   have HGD := Lib.hid (grDrew HG.out)
   refine wp_region_any (by kernel_rfl) ?_
   generalize ({ heap := wr.heap, tape := wr.tape, drawn := wr.drawn + 1, os := wr.os, output := wr.output } : World) = wd at *
   have hlp := HFD.out.rng k u HPQ.out.2.2.2.1
   have hlq := HFD.out.rng q v HPQ.out.2.2.2.2
   refine tkA (i := 2) (v := ?_) rfl (by kernel_rfl) (fun _ _ _ h => h) (Or.inl ⟨by rfl, ?_⟩) ?_
   rotate_left
   ·intro w
    go_simp
    try with_reducible rfl
   simp only [Act.put, z1, z2, z3, z4, z5, z6]
   refine tkA (i := 3) (v := ?_) rfl (by kernel_rfl) (fun _ _ _ h => h) (Or.inl ⟨by rfl, ?_⟩) ?_
   rotate_left
   ·intro w
    go_simp
    try with_reducible rfl
   simp only [Act.put, z1, z2, z3, z4, z5, z6]
   refine wpAny_still_tail [true, true, false, false, true, true, true, true, true, true, true, true, true] [2, 3] _ (by kernel_rfl) (by kernel_rfl) ?_
   simp only [dropAt, List.length_cons, List.length_nil, List.drop_succ_cons, List.drop_zero]
   repeat (first | refine wpStill_load_mid (by rfl) 155 _ rfl g (k * 2) rfl (pc2 u) _ hlp Tryz.underlying155 rfl (by kernel_rfl) ?_ | refine wpStill_load_mid (by rfl) 155 _ rfl g (q * 2) rfl (pc2 v) _ hlq Tryz.underlying155 rfl (by kernel_rfl) ?_ | still_step)
   refine wpStill_nil ?_
   try simp only [Act.put, z1, z2, z3, z4, z5, z6]
   have ht1 := HFD.out.there (t := k) (by have := HPQ.out.2.2.1; omega)
   have hf2 := HFD.out.set (i := k) (by have := HPQ.out.2.2.1; omega) v
   have ht2 := hf2.there (t := q) (by have := HPQ.out.2.2.1; simp; omega)
   have HF3 : Hid (PcAt ((wd.setCells g (k * 2) (pc2 v).toArray.toList).setCells g (q * 2) (pc2 u).toArray.toList) g ((y.set k v).set q u)) := Lib.hid (hf2.set (i := q) (by have := HPQ.out.2.2.1; simp; omega) u)
   have HG3 : Hid (w.grownBy ((wd.setCells g (k * 2) (pc2 v).toArray.toList).setCells g (q * 2) (pc2 u).toArray.toList) (some g)) := Lib.hid (grownSetCells w g (pc2 u) (q * 2) _ (grownSetCells w g (pc2 v) (k * 2) _ HGD.out))
   have HS3 : Hid (IsRv l ((y.set k v).set q u) (k + 1)) := Lib.hid (HS.out.next (by rw [← HL.out]; exact HPQ.out.1) HPQ.out.2.1 HPQ.out.2.2.2.1 HPQ.out.2.2.2.2)
   have HT1 := Lib.hid ht1
   have HT2 := Lib.hid ht2
   clear hf2 hlp hlq ht1 ht2
   refine wpList_store_mid rfl 155 _ _ rfl g (k * 2) (pc2 v).toArray rfl (by rfl) HT1.out (pc2_info v) (pc2_one v) ?_
   iterate 3 go_step
   refine wpList_store_mid rfl 155 _ _ rfl g (q * 2) (pc2 u).toArray rfl (by rfl) HT2.out (pc2_info u) (pc2_one u) ?_
   generalize ((wd.setCells g (k * 2) (pc2 v).toArray.toList).setCells g (q * 2) (pc2 u).toArray.toList) = w3 at *
   go_wp2_with fail
   go_roundw
   case rel => exact ⟨k + 1, (q : Int) - 1, _, by go_num, by go_num, by have := HJ.out; omega, by have := HJ.out; have := HPQ.out.2.1; omega, HF3.out, HG3.out, HS3.out⟩
   case measure => simp [intOf]; omega
  ·have HR : Hid (PcAt wr g l.reverse) := Lib.hid (by rw [← HS.out.done (by rw [← HL.out]; omega)]; exact HFY.out)
   go_wp2_with fail
   go_end0
   exact ⟨rfl, HR.out, HG.out⟩
end Go.Proofs.YtfeficdndjiijaaGreatDoor


namespace Go.Proofs.YtfeficdndjiijaaGreatDoor
open Go.RowKit
set_option linter.unusedVariables false
set_option linter.unusedSimpArgs false

def sB (l : List UInt8) : ByteArray := ⟨l.toArray⟩
theorem sB_append (a b : List UInt8) : sB a ++ sB b = sB (a ++ b) := by
  unfold sB
  apply ByteArray.ext
  simp
theorem sB_list (a : List UInt8) : (sB a).toList = a := by unfold sB; exact ByteArray.toList_mk _
theorem sB_size (a : List UInt8) : (sB a).size = a.length := by unfold sB; simp [ByteArray.size]
theorem sB_extract (l : List UInt8) (p a : Nat) : (sB l).extract p (p + a) = sB ((l.drop p).take a) := by
  have h := Lib.extract_data (sB l) p (p + a)
  rw [show p + a - p = a by omega] at h
  have h2 : (sB l).data.toList = l := by simp [sB]
  rw [h2] at h
  apply ByteArray.ext
  show _ = ((l.drop p).take a).toArray
  rw [← h]
theorem sB_data (l : List UInt8) : (sB l).data.toList = l := by simp [sB]
theorem dec_small {u : Nat} (h : u < 10) : Lib.decDigits u = [UInt8.ofNat (48 + u)] := by rw [Lib.decDigits, dif_pos h]
theorem dec_big {u : Nat} (h : ¬ u < 10) : Lib.decDigits u = Lib.decDigits (u / 10) ++ [UInt8.ofNat (48 + u % 10)] := by rw [Lib.decDigits, dif_neg h]
theorem dec_ne (u : Nat) : Lib.decDigits u ≠ [] := by
  by_cases h : u < 10
  · rw [dec_small h]; simp
  · rw [dec_big h]; simp
theorem dec_len (u : Nat) (h : u < 18446744073709551616) : (Lib.decDigits u).length ≤ 20 := by
  rw [Lib.decDigits_length]; exact Lib.nDigits_le20 u h
theorem dec_step (X0 X : Nat) (l : List UInt8) (h : Lib.decDigits X0 = Lib.decDigits X ++ l) :
    (X / 10 = 0 → Lib.decDigits X0 = UInt8.ofNat (48 + X % 10) :: l) ∧ (X / 10 ≠ 0 → Lib.decDigits X0 = Lib.decDigits (X / 10) ++ (UInt8.ofNat (48 + X % 10) :: l)) := by
  constructor
  · intro h0
    have hx : X < 10 := by omega
    rw [h, dec_small hx, Nat.mod_eq_of_lt hx]; rfl
  · intro h0
    rw [h, dec_big (by omega), List.append_assoc]; rfl
theorem digit_div (X : Int) (k : Nat) (h : 0 ≤ X) : (X / 65536 ^ (k + 1) % 10 * 65536 + digit X k) / 10 = digit (X / 10) k ∧ (X / 65536 ^ (k + 1) % 10 * 65536 + digit X k) % 10 = X / 65536 ^ k % 10 := by
  have hp := pw_pos k
  have e : X / 10 / 65536 ^ k = X / 65536 ^ k / 10 := by
    rw [Int.ediv_ediv_of_nonneg (by decide), Int.ediv_ediv_of_nonneg (by omega), Int.mul_comm]
  unfold digit
  rw [div_next, e]
  generalize X / 65536 ^ k = Y
  omega
theorem zero_div (X : Int) (k : Nat) (h : 0 ≤ X) : (decide (X / 10 / 65536 ^ (k + 1) = 0) && decide (digit (X / 10) k = 0)) = decide (X / 10 / 65536 ^ k = 0) := by
  unfold digit
  rw [div_next]
  have h0 : 0 ≤ X / 10 / 65536 ^ k := Int.ediv_nonneg (Int.ediv_nonneg h (by decide)) (by have := pw_pos k; omega)
  generalize X / 10 / 65536 ^ k = Y at *
  rw [Bool.eq_iff_iff]
  simp
  omega
theorem digit_start (X : Nat) (h : X ≤ 9223372036854775808) : (X : Int) / 65536 ^ 10 % 10 = 0 ∧ decide ((X : Int) / 10 / 65536 ^ 10 = 0) = true := by
  have e : (65536 : Int) ^ 10 = 1461501637330902918203684832716283019655932542976 := by decide
  rw [e]
  have h1 : (X : Int) / 1461501637330902918203684832716283019655932542976 = 0 := Int.ediv_eq_zero_of_lt (by omega) (by omega)
  have h2 : (X : Int) / 10 / 1461501637330902918203684832716283019655932542976 = 0 := Int.ediv_eq_zero_of_lt (by omega) (by omega)
  rw [h1, h2]
  exact ⟨rfl, rfl⟩
theorem parseM_snoc (M : Nat) : ∀ (l : List UInt8) (acc v : Nat) (c : UInt8), Lib.parseUintM M acc l = .ok v → Lib.parseUintM M acc (l ++ [c]) = Lib.parseUintM M v [c]
  | [], acc, v, c, h => by
    simp only [Lib.parseUintM] at h
    cases h
    rfl
  | x :: r, acc, v, c, h => by
    rw [List.cons_append, Lib.parseUintM]
    rw [Lib.parseUintM] at h
    split at h
    · rename_i h1
      rw [if_pos h1]
      split at h
      · cases h
      · rename_i h2
        rw [if_neg h2]
        split at h
        · cases h
        · rename_i h3
          rw [if_neg h3]
          exact parseM_snoc M r _ v c h
    · cases h
theorem dig_u8 (d : Nat) (h : d < 10) : (UInt8.ofNat (48 + d)).toNat = 48 + d := by
  rw [UInt8.toNat_ofNat']; omega
theorem parseM_dec : ∀ (f u : Nat), u < f → u ≤ 18446744073709551615 → Lib.parseUintM 18446744073709551615 0 (Lib.decDigits u) = .ok u
  | 0, u, h, _ => by omega
  | f + 1, u, h, hu => by
    by_cases h10 : u < 10
    · rw [dec_small h10, Lib.parseUintM, dig_u8 u h10, if_pos (by omega), if_neg (by omega), if_neg (by omega), Lib.parseUintM]
      congr 1
      omega
    · rw [dec_big h10, parseM_snoc _ _ _ _ _ (parseM_dec f (u / 10) (by omega) (by omega)), Lib.parseUintM, dig_u8 (u % 10) (by omega), if_pos (by omega), if_neg (by omega), if_neg (by omega), Lib.parseUintM]
      congr 1
      omega
theorem dec_digit : ∀ (f u : Nat), u < f → ∀ x ∈ Lib.decDigits u, 48 ≤ x.toNat ∧ x.toNat ≤ 57
  | 0, u, h => by omega
  | f + 1, u, h => by
    intro x hx
    by_cases h10 : u < 10
    · rw [dec_small h10] at hx
      simp only [List.mem_singleton] at hx
      subst hx
      rw [dig_u8 u h10]; omega
    · rw [dec_big h10] at hx
      rcases List.mem_append.1 hx with h1 | h1
      · exact dec_digit f (u / 10) (by omega) x h1
      · simp only [List.mem_singleton] at h1
        subst h1
        rw [dig_u8 (u % 10) (by omega)]; omega
theorem itoa_chars (n : Int) : ∀ x ∈ Lib.itoa n, x.toNat = 45 ∨ (48 ≤ x.toNat ∧ x.toNat ≤ 57) := by
  intro x hx
  unfold Lib.itoa at hx
  split at hx
  · rcases List.mem_cons.1 hx with h | h
    · subst h; left; rfl
    · right; exact dec_digit _ _ (Nat.lt_succ_self _) x h
  · right; exact dec_digit _ _ (Nat.lt_succ_self _) x hx
theorem itoa_ne (n : Int) : Lib.itoa n ≠ [] := by
  unfold Lib.itoa
  split
  · simp
  · exact dec_ne _
theorem parse_itoa (n : Int) (h0 : -9223372036854775808 ≤ n) (h1 : n ≤ 9223372036854775807) : Lib.parseIntB 64 (Lib.itoa n) = .ok n := by
  have hp : ∀ u : Nat, u ≤ 18446744073709551615 → Lib.parseUintB 64 (Lib.decDigits u) = .ok u := fun u hu => by
    unfold Lib.parseUintB
    rw [if_neg (dec_ne u)]
    exact parseM_dec _ u (Nat.lt_succ_self _) hu
  unfold Lib.itoa
  by_cases hn : n < 0
  · rw [if_pos hn]
    simp only [Lib.parseIntB]
    rw [show (45 : UInt8).toNat = 45 from rfl]
    simp only [or_true, if_true, hp n.natAbs (by omega)]
    rw [if_neg (by simp), if_neg (by simp; omega)]
    simp
    omega
  · rw [if_neg hn]
    have hd := dec_digit _ n.toNat (Nat.lt_succ_self _)
    have hpn := hp n.toNat (by omega)
    cases hl : Lib.decDigits n.toNat with
    | nil => exact absurd hl (dec_ne _)
    | cons c r =>
      rw [hl] at hd hpn
      have hc := hd c (by simp)
      simp only [Lib.parseIntB]
      rw [if_neg (by omega), hpn]
      simp only
      rw [if_neg (by omega), if_neg (by omega), if_neg (by omega)]
      congr 1
      omega
end Go.Proofs.YtfeficdndjiijaaGreatDoor


namespace Go.Proofs.YtfeficdndjiijaaGreatDoor
open Go.RowKit
set_option linter.unusedVariables false
set_option linter.unusedSimpArgs false

def PO : BitVec 32 := 3988292384#32
def step1 (r : BitVec 32) : BitVec 32 := r >>> 1 ^^^ (if r.getLsbD 0 then PO else 0#32)
def stepN : Nat → BitVec 32 → BitVec 32
  | 0, r => r
  | n + 1, r => step1 (stepN n r)
theorem step1_xor (a b : BitVec 32) : step1 (a ^^^ b) = step1 a ^^^ step1 b := by
  unfold step1
  rw [BitVec.ushiftRight_xor_distrib, BitVec.getLsbD_xor]
  cases a.getLsbD 0 <;> cases b.getLsbD 0 <;> simp <;> apply BitVec.eq_of_getLsbD_eq <;> intro i hi <;> simp only [BitVec.getLsbD_xor] <;> cases (a >>> 1).getLsbD i <;> cases (b >>> 1).getLsbD i <;> cases PO.getLsbD i <;> rfl
theorem stepN_xor (n : Nat) (a b : BitVec 32) : stepN n (a ^^^ b) = stepN n a ^^^ stepN n b := by
  induction n with
  | zero => rfl
  | succ n ih => simp only [stepN, ih, step1_xor]
theorem stepN_shift (n : Nat) (a : BitVec 32) (h : ∀ i, i < n → a.getLsbD i = false) : stepN n a = a >>> n := by
  induction n with
  | zero => simp [stepN]
  | succ n ih =>
    rw [stepN, ih (fun i hi => h i (by omega)), step1, ← BitVec.shiftRight_add]
    rw [show (a >>> n).getLsbD 0 = false by rw [BitVec.getLsbD_ushiftRight]; exact h _ (by omega)]
    simp
def crcB (r x : BitVec 32) : BitVec 32 := stepN 8 (r ^^^ x)
theorem lo_hi (v : BitVec 32) : v = (v &&& 255#32) ^^^ (v &&& 4294967040#32) := by
  have h : ∀ i, i < 32 → (255#32).getLsbD i = !(4294967040#32).getLsbD i := by decide +kernel
  apply BitVec.eq_of_getLsbD_eq
  intro i hi
  rw [BitVec.getLsbD_xor, BitVec.getLsbD_and, BitVec.getLsbD_and, h i hi]
  cases v.getLsbD i <;> cases (4294967040#32).getLsbD i <;> rfl
theorem crcB_table (r x : BitVec 32) (hx : x.toNat < 256) : crcB r x = r >>> 8 ^^^ stepN 8 ((r ^^^ x) &&& 255#32) := by
  have hlow : ∀ i, i < 8 → (4294967040#32).getLsbD i = false := by decide +kernel
  have hhi : ∀ i, i < 32 → 8 ≤ i → (4294967040#32).getLsbD i = true := by decide +kernel
  unfold crcB
  conv => lhs; rw [lo_hi (r ^^^ x), stepN_xor, stepN_shift 8 ((r ^^^ x) &&& 4294967040#32) (fun i hi => by rw [BitVec.getLsbD_and, hlow i hi, Bool.and_false])]
  rw [BitVec.xor_comm]
  congr 1
  apply BitVec.eq_of_getLsbD_eq
  intro i hi
  rw [BitVec.getLsbD_ushiftRight, BitVec.getLsbD_ushiftRight, BitVec.getLsbD_and, BitVec.getLsbD_xor]
  have hx0 : x.getLsbD (8 + i) = false := by
    rw [BitVec.getLsbD, Nat.testBit_lt_two_pow]
    exact Nat.lt_of_lt_of_le hx (by rw [show (256 : Nat) = 2 ^ 8 from rfl]; exact Nat.pow_le_pow_right (by decide) (by omega))
  rw [hx0]
  by_cases h2 : 8 + i < 32
  · rw [hhi _ h2 (by omega)]; simp
  · rw [show r.getLsbD (8 + i) = false from BitVec.getLsbD_of_ge _ _ (by omega)]; simp

def bw (a : Int) : BitVec 32 := BitVec.ofInt 32 a
def nw (x : BitVec 32) : Int := (x.toNat : Int)
theorem nw_bd (x : BitVec 32) : 0 ≤ nw x ∧ nw x ≤ 4294967295 := by
  have := x.isLt; unfold nw; omega
theorem nw_bw (a : Int) (h0 : 0 ≤ a) (h1 : a ≤ 4294967295) : nw (bw a) = a := by
  unfold nw bw
  rw [BitVec.toNat_ofInt]
  omega
theorem bw_nw (x : BitVec 32) : bw (nw x) = x := by
  unfold bw nw
  rw [BitVec.ofInt_natCast, BitVec.ofNat_toNat, BitVec.setWidth_eq]
theorem wrap_bw (a : Int) : IntKind.u32.wrap a = nw (bw a) := by
  unfold nw bw
  rw [BitVec.toNat_ofInt]
  simp [IntKind.wrap, IntKind.bits, IntKind.signed]
  omega
def crcL (r : BitVec 32) : List Int → BitVec 32
  | [] => r
  | x :: l => crcL (crcB r (bw x)) l
theorem crcL_append (l m : List Int) : ∀ r, crcL r (l ++ m) = crcL (crcL r l) m := by
  induction l with
  | nil => intro r; rfl
  | cons x l ih => intro r; exact ih _
def sumI (s : Int) (l : List Int) : Int := nw (~~~ (crcL (~~~ (bw s)) l))
theorem sumI_bd (s : Int) (l : List Int) : 0 ≤ sumI s l ∧ sumI s l ≤ 4294967295 := nw_bd _
end Go.Proofs.YtfeficdndjiijaaGreatDoor


namespace Go.Proofs.YtfeficdndjiijaaGreatDoor
open Go.RowKit
set_option linter.unusedVariables false
set_option linter.unusedSimpArgs false

def Byts (bs : List Int) : Prop := ∀ u ∈ bs, 0 ≤ u ∧ u ≤ 255
def BytesAt (w : World) (v : Value) (bs : List Int) : Prop :=
  ∃ (ao : Option Addr) (cap : Nat), v = .slice ao bs.length cap ∧ bs.length ≤ cap ∧ cap ≤ maxLen ∧ ((bs = [] ∧ ao = none) ∨ ∃ g off, ao = some ⟨g, off, none⟩ ∧ g < w.heap.size ∧ ∀ (i : Nat) (u : Int), bs[i]? = some u → w.cell? ⟨g, off + i, none⟩ = some (.int .u8 u))
theorem BytesAt.kept {w w' : World} {v : Value} {bs : List Int} (h : BytesAt w v bs) (hb : Below w.heap.size w w') : BytesAt w' v bs := by
  obtain ⟨ao, cap, e, h1, h2, h3⟩ := h
  refine ⟨ao, cap, e, h1, h2, ?_⟩
  rcases h3 with h3 | ⟨g, off, e2, hg, hc⟩
  · exact .inl h3
  · exact .inr ⟨g, off, e2, Nat.lt_of_lt_of_le hg hb.size, fun i u hu => (hb.cell (p := ⟨g, off + i, none⟩) hg).trans (hc i u hu)⟩
theorem BytesAt.below {w w' : World} {B : Nat} {v : Value} {bs : List Int} (h : BytesAt w v bs) (hb : Below B w w') (hB : ∀ g off, v = .slice (some ⟨g, off, none⟩) bs.length (match v with | .slice _ _ c => c | _ => 0) → g < B) : BytesAt w' v bs := by
  obtain ⟨ao, cap, e, h1, h2, h3⟩ := h
  refine ⟨ao, cap, e, h1, h2, ?_⟩
  rcases h3 with h3 | ⟨g, off, e2, hg, hc⟩
  · exact .inl h3
  · have hgB : g < B := hB g off (by subst e; subst e2; rfl)
    exact .inr ⟨g, off, e2, Nat.lt_of_lt_of_le hg hb.size, fun i u hu => (hb.cell (p := ⟨g, off + i, none⟩) hgB).trans (hc i u hu)⟩
def strB (bs : List Int) : ByteArray := strOfNums bs
theorem strB_conv {P : Program} {w : World} {v : Value} {bs : List Int} (h : BytesAt w v bs) (src e dst : TypeId) (hs : P.underlying src = some (.slice e)) (he : P.underlying e = some (.int .u8)) (hd : P.underlying dst = some .string) :
    (convert src dst v).run P w = .ok (.string (strB bs)) w := by
  obtain ⟨ao, cap, rfl, h1, h2, h3⟩ := h
  rcases h3 with ⟨rfl, rfl⟩ | ⟨g, off, rfl, hg, hc⟩
  · exact run_convert_bytes_nil w src e hs he _ _ dst hd
  · refine run_convert_bytes_arg w src e hs he g off _ cap bs rfl (fun i hi => ?_) dst hd
    exact hc i _ (by simp [List.getD, List.getElem?_eq_getElem hi])
theorem Byts.nil : Byts [] := fun u hu => by cases hu
theorem Byts.append {a b : List Int} (ha : Byts a) (hb : Byts b) : Byts (a ++ b) := fun u hu => by
  rcases List.mem_append.1 hu with h | h
  · exact ha u h
  · exact hb u h
theorem Byts.take {a : List Int} (ha : Byts a) (n : Nat) : Byts (a.take n) := fun u hu => ha u (List.mem_of_mem_take hu)
theorem Byts.drop {a : List Int} (ha : Byts a) (n : Nat) : Byts (a.drop n) := fun u hu => ha u (List.mem_of_mem_drop hu)
theorem Byts.get {a : List Int} (ha : Byts a) {i : Nat} {u : Int} (h : a[i]? = some u) : 0 ≤ u ∧ u ≤ 255 := ha u (List.mem_of_getElem? h)
theorem Byts.cellD {a : List Int} (ha : Byts a) (i : Nat) : 0 ≤ cellD a i ∧ cellD a i ≤ 255 := by
  unfold Go.Proofs.YtfeficdndjiijaaGreatDoor.cellD
  cases hz : a[i]? with
  | none => exact ⟨by simp, by simp⟩
  | some x => simpa using ha.get hz
theorem Tryz.info8 : (Tryz.prog.info? 5).map (fun i => (i.zero, i.size, i.bytes)) = some (some (.int .u8 0), 1, 1) := by kernel_rfl
theorem BytesAt.of_own {w : World} {base : Nat} {v : Value} {bs : List Int} (h : w.ownsRow base 5 1 v bs.length (bs.map (Value.int .u8))) : BytesAt w v bs := by
  obtain ⟨h0, h1⟩ := h
  rcases h1 with ⟨rfl, hl⟩ | ⟨g, cap, cur, rfl, hg, hblk, hcap, hm, hsz, htk⟩
  · exact ⟨none, 0, by rw [hl], by omega, by unfold maxLen; omega, .inl ⟨List.eq_nil_of_length_eq_zero hl, rfl⟩⟩
  · refine ⟨_, cap, rfl, hcap, hm, .inr ⟨g, 0, rfl, (show Blk w g 5 cur from hblk).lt, fun i u hu => ?_⟩⟩
    rw [Nat.zero_add, (show Blk w g 5 cur from hblk).cell i]
    have h1 : (bs.map (Value.int .u8))[i]? = some (.int .u8 u) := by rw [List.getElem?_map, hu]; rfl
    rw [← htk, List.getElem?_take] at h1
    split at h1
    · simpa using h1
    · cases h1
end Go.Proofs.YtfeficdndjiijaaGreatDoor


namespace Go.Proofs.YtfeficdndjiijaaGreatDoor
open Go.RowKit
set_option linter.unusedVariables false
set_option linter.unusedSimpArgs false

def Asc (l : List UInt8) : Prop := ∀ x ∈ l, x.toNat < 128
theorem sB_get (l : List UInt8) (i : Nat) (h : i < (sB l).size) : ((sB l)[i]'h) = l[i]'(by rw [sB_size] at h; exact h) := by
  show (sB l).data[i]'h = _
  simp [sB]
theorem Asc.str {l : List UInt8} (h : Asc l) (i : Nat) (hi : i < (sB l).size) : ((sB l)[i]'hi).toNat < 128 := by
  rw [sB_get]
  exact h _ (List.getElem_mem _)
set_option maxRecDepth 100000 in
set_option maxHeartbeats 2000000 in
theorem torn_any (s : ByteArray) (hascii : ∀ i (h : i < s.size), (s[i]'h).toNat < 128) (w : World) :
  Calls Tryz.prog 42 #[.string s] w fun e w' => e = .returned (.int .i64 (-1)) ∧ Below w.heap.size w w' := by
 have hk0 : (w.iter s 0).heap[w.heap.size]? = some (.stringIter s 0) := World.iter_heap w s 0
 have hb0 : Below w.heap.size w (w.iter s 0) := (Below.refl _ w).alloc (Nat.le_refl _) _
 go_enter Tryz.func42, Tryz.ntmps42
 go_wp2_with fail
 go_loopw [9] (fun _ wr => ∃ pos : Nat, pos ≤ s.size ∧ wr.heap[w.heap.size]? = some (.stringIter s pos) ∧ Below w.heap.size w wr) (fun _ wr => s.size - wr.iterPos w.heap.size)
 case atStart => exact ⟨0, Nat.zero_le _, hk0, hb0⟩
 case round =>
  obtain ⟨pos, hps, hk, hnx⟩ := hrel
  clear hk0 hb0
  by_cases hp : pos < s.size
  ·have h128 := hascii pos hp
   have hnext : ∀ ty, (Instr.next (.pointer (some ⟨w.heap.size, 0, none⟩)) true ty).run Tryz.prog wr = _ := fun ty => Lib.run_next_ascii_at wr w.heap.size s pos ty hk hp h128
   have hk1 := Lib.iterAt_heap wr w.heap.size s pos (pos + 1) hk
   have hnx1 : Below w.heap.size w (wr.iterAt w.heap.size s (pos + 1)) := Lib.below_iterAt hnx (by omega) s (pos + 1)
   have hmu : wr.iterPos w.heap.size = pos := by simp [World.iterPos, hk]
   have hmu2 : (wr.iterAt w.heap.size s (pos + 1)).iterPos w.heap.size = pos + 1 := by simp [World.iterPos, hk1]
   generalize wr.iterAt w.heap.size s (pos + 1) = W1 at hnext hk1 hnx1 hmu2
   generalize (s[pos]'hp).toNat = c at *
   have hc : ¬ ((c : Int) = 65533) := by omega
   go_wp2_with fail
   exact ⟨⟨pos + 1, by omega, hk1, hnx1⟩, by omega⟩
  ·have hnext : ∀ ty, (Instr.next (.pointer (some ⟨w.heap.size, 0, none⟩)) true ty).run Tryz.prog wr = _ := fun ty => Lib.run_next_end_at wr w.heap.size s pos ty hk hp
   go_wp2_with fail
   go_ret
   exact ⟨rfl, hnx⟩
def joinW : List (List UInt8) → List UInt8
  | [] => []
  | [a] => a
  | a :: b :: r => a ++ 32 :: joinW (b :: r)
def GoodW (a : List UInt8) : Prop := a ≠ [] ∧ a.head? ≠ some 34 ∧ ∀ x ∈ a, x ≠ 32
theorem joinW_cons (a : List UInt8) (r : List (List UInt8)) : joinW (a :: r) = a ++ (if r = [] then [] else 32 :: joinW r) := by
  cases r with
  | nil => simp [joinW]
  | cons b r => simp [joinW]
def wCells (ps : List (List UInt8 × Int)) : List Value := ps.flatMap fun p => [.string (sB p.1), .int .i64 p.2]
theorem wCells_append (a b : List (List UInt8 × Int)) : wCells (a ++ b) = wCells a ++ wCells b := by simp [wCells]
def WdOwn (w : World) (base : Nat) (v : Value) (ws : List (List UInt8)) : Prop := ∃ ps : List (List UInt8 × Int), ps.map (·.1) = ws ∧ w.ownsRow base 190 2 v ps.length (wCells ps)
theorem Tryz.infoWd : (Tryz.prog.info? 190).map (fun i => (i.zero, i.size, i.bytes)) = some (some (.agg #[.string ⟨#[]⟩, .int .i64 0]), 2, 24) := by kernel_rfl
theorem cellsNew {w : World} {cs : Array Value} {t : TypeId} (vs : List Value) (hv : vs = cs.toList) : ∀ (j : Nat) (u : Value), vs[j]? = some u → (w.alloc (.cells cs t)).cell? ((⟨w.heap.size, 0, none⟩ : Addr).add j) = some u := fun j u hu => by
  subst hv
  rw [Addr.add_mid, Nat.zero_add, (Blk.new w t cs).cell j]
  simpa using hu
theorem own_form {w : World} {base n s : Nat} {t : TypeId} {v : Value} {xs : List Value} (h : w.ownsRow base t s v n xs) : ∃ ao cap, v = .slice ao n cap := by
  rcases h.2 with ⟨rfl, h0⟩ | ⟨g, cap, cur, rfl, -⟩
  · subst h0; exact ⟨_, _, rfl⟩
  · exact ⟨_, _, rfl⟩
theorem drop_get {l r : List UInt8} {p : Nat} {x : UInt8} (h : l.drop p = x :: r) : l[p]? = some x ∧ l.drop (p + 1) = r := by
  constructor
  · have := congrArg List.head? h
    rw [List.head?_drop] at this
    simpa using this
  · have := congrArg (List.drop 1) h
    rw [List.drop_drop] at this
    simpa [Nat.add_comm] using this
theorem drop_at {l r : List UInt8} {p : Nat} (h : l.drop p = r) (j : Nat) : l[p + j]? = r[j]? := by
  rw [← h, List.getElem?_drop]
set_option maxRecDepth 100000 in
set_option maxHeartbeats 4000000 in
theorem words_any (l : List UInt8) (ws : List (List UInt8)) (hl : l = joinW ws) (hg : ∀ a ∈ ws, GoodW a) (hn : l.length ≤ 65536) (w : World) :
  Calls Tryz.prog 43 #[.string (sB l)] w fun e w' => ∃ v, e = .returned v ∧ WdOwn w' w.heap.size v ws ∧ Below w.heap.size w w' := by
 obtain ⟨iW, hW, hW0, hW1, hW2⟩ := info_parts Tryz.infoWd
 have HG := Lib.hid hg
 have HL := Lib.hid hl
 obtain ⟨n, hnn⟩ : ∃ n, n = l.length := ⟨_, rfl⟩
 have hsz : (sB l).size = n := by rw [sB_size, hnn]
 have HAT : Hid (∀ i x, l[i]? = some x → ∃ h : i < (sB l).size, (sB l)[i]'h = x) := Lib.hid (fun i x hx => by
  have hi : i < l.length := (List.getElem?_eq_some_iff.1 hx).1
  refine ⟨by rw [sB_size]; exact hi, ?_⟩
  rw [sB_get]
  rw [List.getElem?_eq_getElem hi] at hx
  exact Option.some.inj hx)
 have HN := Lib.hid hnn
 have hn6 : n ≤ 65536 := by omega
 have HDR := Lib.hid (sB_extract l)
 clear hg hl hnn hn
 generalize hS : sB l = S at *
 go_enter Tryz.func43, Tryz.ntmps43
 go_wp2_with fail
 go_loopw [2, 3] (fun o at_ wr => ∃ (ps : List (List UInt8 × Int)) (rem : List (List UInt8)) (p : Nat), at_ = .int .i64 (p : Int) ∧ p ≤ n ∧ ps.length ≤ p ∧ ws = ps.map (·.1) ++ rem ∧ (l.drop p = joinW rem ∨ (rem ≠ [] ∧ l.drop p = 32 :: joinW rem)) ∧ wr.ownsRow w.heap.size 190 2 o ps.length (wCells ps) ∧ Below w.heap.size w wr) (fun _ at_ _ => n - (intOf at_).toNat)
 case atStart => exact ⟨[], ws, 0, rfl, by omega, by simp, rfl, .inl (by simpa using HL.out), World.ownsRow_nil _ _ _ _, Below.refl _ _⟩
 case round =>
  obtain ⟨ps, rem, p, rfl, hp, hpl, hws, hd, hown, hb⟩ := hrel
  have HO := Lib.hid hown
  have HB := Lib.hid hb
  have HWS := Lib.hid hws
  clear hown hb hws
  have p0 : (0 : Int) ≤ (p : Int) := by omega
  rcases hd with hd | ⟨hne, hd⟩
  ·cases rem with
   | nil =>
    have HPN : Hid (n ≤ p) := Lib.hid (by
     have := congrArg List.length hd
     simp [joinW] at this
     rw [HN.out]; omega)
    have p1 : ¬ ((p : Int) < (n : Int)) := by have := HPN.out; omega
    obtain ⟨ao, cap, rfl⟩ := own_form HO.out
    go_wp2_with fail
    go_ret
    exact ⟨_, rfl, ⟨ps, by rw [HWS.out, List.append_nil], HO.out⟩, HB.out⟩
   | cons a rem =>
    have HGA := Lib.hid (HG.out a (by rw [HWS.out]; simp))
    rw [joinW_cons] at hd
    have HD := Lib.hid hd
    obtain ⟨m, hm⟩ : ∃ m, m = a.length := ⟨_, rfl⟩
    have HM := Lib.hid hm
    clear hd hm
    have HAJ : Hid (∀ j x, a[j]? = some x → ∃ h : p + j < S.size, (S[p + j]'h).toNat ≠ 32) := Lib.hid (fun j x hx => by
     have h1 := drop_at HD.out j
     have hj : j < a.length := (List.getElem?_eq_some_iff.1 hx).1
     rw [List.getElem?_append_left hj, hx] at h1
     obtain ⟨h2, h3⟩ := HAT.out _ _ h1
     refine ⟨h2, ?_⟩
     rw [h3]
     have := HGA.out.2.2 x (List.mem_of_getElem? hx)
     intro e
     exact this (UInt8.toNat_inj.1 e))
    have HEND : Hid (p + m ≤ n ∧ (p + m < n → rem ≠ [] ∧ ∃ h : p + m < S.size, (S[p + m]'h).toNat = 32)) := Lib.hid (by
     have h0 := congrArg List.length HD.out
     simp only [List.length_drop, List.length_append] at h0
     refine ⟨by rw [HN.out, HM.out]; have := HN.out; omega, fun hlt => ?_⟩
     have hr : rem ≠ [] := by
      rintro rfl
      simp at h0
      rw [HN.out, HM.out] at hlt
      omega
     rw [if_neg hr] at h0
     have h1 := drop_at HD.out m
     rw [HM.out, List.getElem?_append_right (Nat.le_refl _), if_neg hr] at h1
     simp at h1
     rw [← HM.out] at h1
     obtain ⟨h2, h3⟩ := HAT.out _ _ h1
     exact ⟨hr, h2, by rw [h3]; rfl⟩)
    have HPOS : Hid (0 < m) := Lib.hid (by rw [HM.out]; exact List.length_pos_iff.2 HGA.out.1)
    obtain ⟨x0, hx0⟩ : ∃ x, a[0]? = some x := ⟨_, List.getElem?_eq_getElem (by rw [← HM.out]; exact HPOS.out)⟩
    obtain ⟨hlt, hc32⟩ := HAJ.out 0 x0 hx0
    simp only [Nat.add_zero] at hlt hc32
    have hc34 : (S[p]'hlt).toNat ≠ 34 := by
     have h1 := drop_at HD.out 0
     rw [List.getElem?_append_left (by rw [← HM.out]; exact HPOS.out), hx0, Nat.add_zero] at h1
     obtain ⟨h2, h3⟩ := HAT.out _ _ h1
     rw [h3]
     intro e
     have e : x0 = 34 := UInt8.toNat_inj.1 e
     subst e
     refine HGA.out.2.1 ?_
     rw [List.head?_eq_getElem?, hx0]
    have hltn : p < n := by have := HEND.out.1; have := HPOS.out; omega
    have p1 : (p : Int) < (n : Int) := by omega
    have hi32 : ¬ ((((S[p]'hlt).toNat : Nat) : Int) = 32) := by omega
    have hi34 : ¬ ((((S[p]'hlt).toNat : Nat) : Int) = 34) := by omega
    clear hx0 hc32 hc34
    go_wp2_with fail
    generalize wr = wo at *
    go_loopw [4] (fun e wr => ∃ j k : Nat, k = p + j ∧ j ≤ m ∧ e = .int .i64 (k : Int) ∧ wr.ownsRow w.heap.size 190 2 u2 ps.length (wCells ps) ∧ Below w.heap.size w wr) (fun e _ => n - (intOf e).toNat)
    case atStart => exact ⟨0, p, rfl, by omega, rfl, HO.out, HB.out⟩
    case round =>
     obtain ⟨j, k, hk, hj, rfl, hown, hb⟩ := hrel
     have HO1 := Lib.hid hown
     have HB1 := Lib.hid hb
     have HK := Lib.hid hk
     clear hown hb HO HB
     have q0 : (0 : Int) ≤ (k : Int) := by omega
     by_cases hjm : j < m
     ·obtain ⟨hl2, hc2⟩ : ∃ h : k < S.size, (S[k]'h).toNat ≠ 32 := by
       rw [HK.out]
       exact HAJ.out j _ (List.getElem?_eq_getElem (by rw [← HM.out]; exact hjm))
      have q1 : (k : Int) < (n : Int) := by omega
      have hi2 : ¬ ((((S[k]'hl2).toNat : Nat) : Int) = 32) := by omega
      clear hk hc2
      go_wp2_with fail
      go_roundw
      case rel => exact ⟨j + 1, k + 1, by rw [HK.out]; omega, by omega, by go_num, HO1.out, HB1.out⟩
      case measure => simp [intOf]; omega
     ·have hjm2 : j = m := by omega
      have HNEW : Hid (S.extract p k = sB a) := Lib.hid (by
       rw [hk, hjm2, HDR.out p m, HD.out, HM.out, List.take_left])
      have hpk : p ≤ k := by omega
      have hkn : k ≤ n := by have := HEND.out.1; omega
      have HW2 : Hid (ws = (ps ++ [(a, (p : Int))]).map (·.1) ++ rem) := Lib.hid (by rw [HWS.out]; simp)
      have HDK : Hid (l.drop k = if rem = [] then [] else 32 :: joinW rem) := Lib.hid (by
       have h1 := congrArg (List.drop m) HD.out
       rw [List.drop_drop, HM.out, List.drop_left, ← HM.out] at h1
       rw [hk, hjm2]
       exact h1)
      have HDK2 : Hid (l.drop k = joinW rem ∨ (rem ≠ [] ∧ l.drop k = 32 :: joinW rem)) := Lib.hid (by
       by_cases hr : rem = []
       ·left; rw [HDK.out, if_pos hr, hr]; rfl
       ·right; exact ⟨hr, by rw [HDK.out, if_neg hr]⟩)
      have HKP : Hid (ps.length + 1 ≤ k) := Lib.hid (by have := HPOS.out; omega)
      have HPK : Hid (p < k) := Lib.hid (by have := HPOS.out; omega)
      obtain ⟨ao, cap, rfl⟩ := own_form HO1.out
      have HOA := Lib.hid (World.ownsRow.alloc HO1.out (.cells #[.string (sB a), .int .i64 (p : Int)] 190))
      have HBA := Lib.hid (HB1.out.alloc HB1.out.size (.cells #[.string (sB a), .int .i64 (p : Int)] 190))
      have hl9 : ps.length + 1 ≤ maxLen := by unfold maxLen; omega
      have hl8 : (ps.length + 1) * 24 ≤ 140737488355328 := by omega
      have hc := Blk.new wr 190 #[.string (sB a), .int .i64 (p : Int)]
      have hne' : S.extract p k = sB a := HNEW.out
      clear hk hjm2
      by_cases hpn : k < n
      ·obtain ⟨hl2, hc2⟩ : ∃ h : k < S.size, (S[k]'h).toNat = 32 := by
        have h0 := HK.out
        have h1 : k = p + m := by omega
        rw [h1]
        exact (HEND.out.2 (by omega)).2
       have q1 : (k : Int) < (n : Int) := by omega
       have hi2 : ((((S[k]'hl2).toNat : Nat) : Int) = 32) := by omega
       clear hc2
       go_wp2_with (at_builtin; go_loud (refine wpList_append_own_at _ rfl _ _ 104 rfl w.heap.size 190 iW (.agg #[.string ⟨#[]⟩, .int .i64 0]) 2 24 Tryz.underlying104 hW hW0 hW1 hW2 rfl (by decide) _ ps.length _ rfl HOA.out ⟨wr.heap.size, 0, none⟩ 1 1 [.string (sB a), .int .i64 (p : Int)] rfl rfl (cellsNew _ rfl) ?c2 hl9 hl8 ?c5 ?_))
       case c2 => simp [Value.oneCell']
       case c5 => have h9 := HBA.out.size; simpa using h9
       intro v5 w5 hown' hgrow hnil' hq5
       have HO5 : Hid (w5.ownsRow w.heap.size 190 2 v5 (ps ++ [(a, (p : Int))]).length (wCells (ps ++ [(a, (p : Int))]))) := Lib.hid (by
        rw [wCells_append, List.length_append]; exact hown')
       have HB5 : Hid (Below w.heap.size w w5) := Lib.hid (HBA.out.grown hgrow HBA.out.size (fun x e => (HOA.out.lt x e).1))
       clear hown' hgrow hnil' hq5 hc hne'
       go_wp2_with fail
       go_roundw
       case rel => exact ⟨ps ++ [(a, (p : Int))], rem, k, rfl, hkn, by simp; exact HKP.out, HW2.out, HDK2.out, HO5.out, HB5.out⟩
       case measure => simp [intOf]; have := HPK.out; omega
      ·have q1 : ¬ ((k : Int) < (n : Int)) := by omega
       go_wp2_with (at_builtin; go_loud (refine wpList_append_own_at _ rfl _ _ 104 rfl w.heap.size 190 iW (.agg #[.string ⟨#[]⟩, .int .i64 0]) 2 24 Tryz.underlying104 hW hW0 hW1 hW2 rfl (by decide) _ ps.length _ rfl HOA.out ⟨wr.heap.size, 0, none⟩ 1 1 [.string (sB a), .int .i64 (p : Int)] rfl rfl (cellsNew _ rfl) ?c2 hl9 hl8 ?c5 ?_))
       case c2 => simp [Value.oneCell']
       case c5 => have h9 := HBA.out.size; simpa using h9
       intro v5 w5 hown' hgrow hnil' hq5
       have HO5 : Hid (w5.ownsRow w.heap.size 190 2 v5 (ps ++ [(a, (p : Int))]).length (wCells (ps ++ [(a, (p : Int))]))) := Lib.hid (by
        rw [wCells_append, List.length_append]; exact hown')
       have HB5 : Hid (Below w.heap.size w w5) := Lib.hid (HBA.out.grown hgrow HBA.out.size (fun x e => (HOA.out.lt x e).1))
       clear hown' hgrow hnil' hq5 hc hne'
       go_wp2_with fail
       go_roundw
       case rel => exact ⟨ps ++ [(a, (p : Int))], rem, k, rfl, hkn, by simp; exact HKP.out, HW2.out, HDK2.out, HO5.out, HB5.out⟩
       case measure => simp [intOf]; have := HPK.out; omega
  ·have hx := drop_get hd
   obtain ⟨hlt, hc⟩ := HAT.out p 32 hx.1
   have HD2 := Lib.hid hx.2
   clear hx hd
   have p1 : (p : Int) < (n : Int) := by omega
   have hlt2 : p < S.size := hlt
   have hc' : (S[p]'hlt).toNat = 32 := by rw [hc]; rfl
   clear hc
   go_wp2_with fail
   exact ⟨⟨ps, rem, p + 1, by go_num, by omega, by omega, HWS.out, .inl HD2.out, HO.out, HB.out⟩, by simp [intOf]; omega⟩
end Go.Proofs.YtfeficdndjiijaaGreatDoor


namespace Go.Proofs
open Go.Shelf
def Tryz.sh_lays169_ren : Go.Shelf.Ren := ⟨fun | 169 => 58 | n => n, fun | 70 => 130 | 9 => 9 | 0 => 0 | 72 => 132 | 37 => 41 | 127 => 220 | 3 => 3 | 5 => 5 | n => n, fun | n => n⟩
theorem Tryz.sh_lays169 : Go.Proofs.Lays.n169 Tryz.prog Tryz.sh_lays169_ren := {
  mixed := by kernel_rfl
  f169 := Tryz.func58.trans (congrArg some (by kernel_rfl))
  t0 := Tryz.underlying0
  a0 := Tryz.isAgg0
  z0 := Tryz.sizeOf0
  v0 := Tryz.zeroValue0
  t3 := Tryz.underlying3
  a3 := Tryz.isAgg3
  z3 := Tryz.sizeOf3
  v3 := Tryz.zeroValue3
  t9 := Tryz.underlying9
  a9 := Tryz.isAgg9
  z9 := Tryz.sizeOf9
  v9 := Tryz.zeroValue9
  t37 := Tryz.underlying41
  a37 := Tryz.isAgg41
  z37 := Tryz.sizeOf41
  v37 := Tryz.zeroValue41
  t70 := Tryz.underlying130
  a70 := Tryz.isAgg130
  z70 := Tryz.sizeOf130
  v70 := Tryz.zeroValue130
  t72 := Tryz.underlying132
  a72 := Tryz.isAgg132
  z72 := Tryz.sizeOf132
  v72 := Tryz.zeroValue132
  t127 := Tryz.underlying220
  a127 := Tryz.isAgg220
  z127 := Tryz.sizeOf220
  v127 := Tryz.zeroValue220 }
theorem Tryz.Builder_Extra_169 : Builder.Extra Tryz.prog Tryz.sh_lays169_ren := {
  sizeBuilder := by kernel_rfl
  liesBuilder := by kernel_rfl
  t5 := Tryz.underlying5
  a5 := Tryz.isAgg5
  z5 := Tryz.sizeOf5
  v5 := Tryz.zeroValue5
  infoByte := by kernel_rfl
  cellsByte := by kernel_rfl
  sizeByte := by kernel_rfl
  neB5 := by decide }
open Go.RowKit in
theorem Tryz.Builder_String_any (B b : Nat) (l : List UInt8) (w : World) (h : Lib.IsBuilder 132 5 B b (Lib.byteCells l) w) (hBw : B ≤ w.heap.size) :
    Calls Tryz.prog 58 #[.pointer (some ⟨b, 0, none⟩)] w fun e w' => e = .returned (.string ⟨l.toArray⟩) ∧ Below B w w' := Any.Builder_String_any Tryz.sh_lays169 Tryz.Builder_Extra_169 B b l w h hBw
def Tryz.sh_lays283_ren : Go.Shelf.Ren := ⟨fun | 283 => 124 | n => n, fun | 3 => 3 | 9 => 9 | 4 => 4 | n => n, fun | n => n⟩
theorem Tryz.sh_lays283 : Go.Proofs.Lays.n283 Tryz.prog Tryz.sh_lays283_ren := {
  mixed := by kernel_rfl
  f283 := Tryz.func124.trans (congrArg some (by kernel_rfl))
  t3 := Tryz.underlying3
  a3 := Tryz.isAgg3
  z3 := Tryz.sizeOf3
  v3 := Tryz.zeroValue3
  t4 := Tryz.underlying4
  a4 := Tryz.isAgg4
  z4 := Tryz.sizeOf4
  v4 := Tryz.zeroValue4
  t9 := Tryz.underlying9
  a9 := Tryz.isAgg9
  z9 := Tryz.sizeOf9
  v9 := Tryz.zeroValue9 }
open Go.Lib in
theorem Tryz.internal_strconv_small (i : Nat) (h : i < 100) (w : World) :
    Calls Tryz.prog 124 #[.int .i64 i] w fun e w' => e = .returned (.string ⟨(Lib.decDigits i).toArray⟩) ∧ w' = w := Any.internal_strconv_small Tryz.sh_lays283 i h w
def Tryz.sh_laysM171_ren : Go.Shelf.Ren := ⟨fun | 171 => 23 | 243 => 46 | 246 => 82 | 283 => 124 | 284 => 125 | 285 => 126 | 286 => 127 | 129 => 116 | 317 => 165 | 318 => 166 | 319 => 167 | 320 => 168 | 337 => 207 | 338 => 208 | n => n, fun | 3 => 3 | 9 => 9 | 2 => 2 | 4 => 4 | 171 => 242 | 0 => 0 | 53 => 22 | 37 => 41 | 5 => 5 | 173 => 244 | 212 => 297 | 51 => 73 | 20 => 20 | 213 => 298 | 46 => 160 | 232 => 366 | 233 => 367 | n => n, fun | 17 => 4 | 18 => 6 | 19 => 7 | n => n⟩
theorem Tryz.sh_laysM171 : Go.Proofs.LaysM.n171 Tryz.prog Tryz.sh_laysM171_ren := {
 mixed := by kernel_rfl
 f129 := Tryz.func116.trans (congrArg some (by kernel_rfl))
 f171 := Tryz.func23.trans (congrArg some (by kernel_rfl))
 f243 := Tryz.func46.trans (congrArg some (by kernel_rfl))
 f246 := Tryz.func82.trans (congrArg some (by kernel_rfl))
 f283 := Tryz.func124.trans (congrArg some (by kernel_rfl))
 f284 := Tryz.func125.trans (congrArg some (by kernel_rfl))
 f285 := Tryz.func126.trans (congrArg some (by kernel_rfl))
 f286 := Tryz.func127.trans (congrArg some (by kernel_rfl))
 f317 := Tryz.func165.trans (congrArg some (by kernel_rfl))
 f318 := Tryz.func166.trans (congrArg some (by kernel_rfl))
 f319 := Tryz.func167.trans (congrArg some (by kernel_rfl))
 f320 := Tryz.func168.trans (congrArg some (by kernel_rfl))
 f337 := Tryz.func207.trans (congrArg some (by kernel_rfl))
 f338 := Tryz.func208.trans (congrArg some (by kernel_rfl))
 t0 := Tryz.underlying0
 a0 := Tryz.isAgg0
 z0 := Tryz.sizeOf0
 v0 := Tryz.zeroValue0
 t2 := Tryz.underlying2
 a2 := Tryz.isAgg2
 z2 := Tryz.sizeOf2
 v2 := Tryz.zeroValue2
 t3 := Tryz.underlying3
 a3 := Tryz.isAgg3
 z3 := Tryz.sizeOf3
 v3 := Tryz.zeroValue3
 t4 := Tryz.underlying4
 a4 := Tryz.isAgg4
 z4 := Tryz.sizeOf4
 v4 := Tryz.zeroValue4
 t5 := Tryz.underlying5
 a5 := Tryz.isAgg5
 z5 := Tryz.sizeOf5
 v5 := Tryz.zeroValue5
 t9 := Tryz.underlying9
 a9 := Tryz.isAgg9
 z9 := Tryz.sizeOf9
 v9 := Tryz.zeroValue9
 t20 := Tryz.underlying20
 a20 := Tryz.isAgg20
 z20 := Tryz.sizeOf20
 v20 := Tryz.zeroValue20
 t37 := Tryz.underlying41
 a37 := Tryz.isAgg41
 z37 := Tryz.sizeOf41
 v37 := Tryz.zeroValue41
 t46 := Tryz.underlying160
 a46 := Tryz.isAgg160
 z46 := Tryz.sizeOf160
 v46 := Tryz.zeroValue160
 t51 := Tryz.underlying73
 a51 := Tryz.isAgg73
 z51 := Tryz.sizeOf73
 v51 := Tryz.zeroValue73
 t53 := Tryz.underlying22
 a53 := Tryz.isAgg22
 z53 := Tryz.sizeOf22
 v53 := Tryz.zeroValue22
 t171 := Tryz.underlying242
 a171 := Tryz.isAgg242
 z171 := Tryz.sizeOf242
 v171 := Tryz.zeroValue242
 t173 := Tryz.underlying244
 a173 := Tryz.isAgg244
 z173 := Tryz.sizeOf244
 v173 := Tryz.zeroValue244
 t212 := Tryz.underlying297
 a212 := Tryz.isAgg297
 z212 := Tryz.sizeOf297
 v212 := Tryz.zeroValue297
 t213 := Tryz.underlying298
 a213 := Tryz.isAgg298
 z213 := Tryz.sizeOf298
 t232 := Tryz.underlying366
 a232 := Tryz.isAgg366
 z232 := Tryz.sizeOf366
 v232 := Tryz.zeroValue366
 t233 := Tryz.underlying367
 a233 := Tryz.isAgg367
 z233 := Tryz.sizeOf367
 v233 := Tryz.zeroValue367
 g17 := by kernel_rfl
 g18 := by kernel_rfl
 g19 := by kernel_rfl
 i0 := by kernel_rfl
 i2 := by kernel_rfl
 i3 := by kernel_rfl
 i4 := by kernel_rfl
 i5 := by kernel_rfl
 i9 := by kernel_rfl
 i20 := by kernel_rfl
 i37 := by kernel_rfl
 i46 := by kernel_rfl
 i51 := by kernel_rfl
 i53 := by kernel_rfl
 i171 := by kernel_rfl
 i173 := by kernel_rfl
 i212 := by kernel_rfl
 i232 := by kernel_rfl
 i233 := by kernel_rfl
 m17 := by kernel_rfl
 m18 := by kernel_rfl
 m19 := by kernel_rfl }
open Go.RowKit Go.Sort Go.Lib in
theorem Tryz.strconv_Itoa (n : Int) (h0 : -9223372036854775808 ≤ n) (h1 : n ≤ 9223372036854775807) (w : World) (htab : Lib.TabIs Tryz.prog w "internal/strconv.uint64pow10" .u64 Lib.pow10Tab) :
    Calls Tryz.prog 23 #[.int .i64 n] w fun e w' => e = .returned (.string ⟨(Lib.itoa n).toArray⟩) ∧ ∃ k os, w' = grow (w.drewN k) os := Any.strconv_Itoa Tryz.sh_laysM171 n h0 h1 w htab
def Tryz.sh_laysM173_ren : Go.Shelf.Ren := ⟨fun | 173 => 53 | 246 => 82 | 283 => 124 | 284 => 125 | 285 => 126 | 286 => 127 | 129 => 116 | 317 => 165 | 318 => 166 | 319 => 167 | 320 => 168 | 337 => 207 | 338 => 208 | n => n, fun | 2 => 2 | 3 => 3 | 9 => 9 | 4 => 4 | 171 => 242 | 0 => 0 | 53 => 22 | 37 => 41 | 5 => 5 | 173 => 244 | 212 => 297 | 51 => 73 | 20 => 20 | 213 => 298 | 46 => 160 | 232 => 366 | 233 => 367 | n => n, fun | 17 => 4 | 18 => 6 | 19 => 7 | n => n⟩
theorem Tryz.sh_laysM173 : Go.Proofs.LaysM.n173 Tryz.prog Tryz.sh_laysM173_ren := {
 mixed := by kernel_rfl
 f129 := Tryz.func116.trans (congrArg some (by kernel_rfl))
 f173 := Tryz.func53.trans (congrArg some (by kernel_rfl))
 f246 := Tryz.func82.trans (congrArg some (by kernel_rfl))
 f283 := Tryz.func124.trans (congrArg some (by kernel_rfl))
 f284 := Tryz.func125.trans (congrArg some (by kernel_rfl))
 f285 := Tryz.func126.trans (congrArg some (by kernel_rfl))
 f286 := Tryz.func127.trans (congrArg some (by kernel_rfl))
 f317 := Tryz.func165.trans (congrArg some (by kernel_rfl))
 f318 := Tryz.func166.trans (congrArg some (by kernel_rfl))
 f319 := Tryz.func167.trans (congrArg some (by kernel_rfl))
 f320 := Tryz.func168.trans (congrArg some (by kernel_rfl))
 f337 := Tryz.func207.trans (congrArg some (by kernel_rfl))
 f338 := Tryz.func208.trans (congrArg some (by kernel_rfl))
 t0 := Tryz.underlying0
 a0 := Tryz.isAgg0
 z0 := Tryz.sizeOf0
 v0 := Tryz.zeroValue0
 t2 := Tryz.underlying2
 a2 := Tryz.isAgg2
 z2 := Tryz.sizeOf2
 v2 := Tryz.zeroValue2
 t3 := Tryz.underlying3
 a3 := Tryz.isAgg3
 z3 := Tryz.sizeOf3
 v3 := Tryz.zeroValue3
 t4 := Tryz.underlying4
 a4 := Tryz.isAgg4
 z4 := Tryz.sizeOf4
 v4 := Tryz.zeroValue4
 t5 := Tryz.underlying5
 a5 := Tryz.isAgg5
 z5 := Tryz.sizeOf5
 v5 := Tryz.zeroValue5
 t9 := Tryz.underlying9
 a9 := Tryz.isAgg9
 z9 := Tryz.sizeOf9
 v9 := Tryz.zeroValue9
 t20 := Tryz.underlying20
 a20 := Tryz.isAgg20
 z20 := Tryz.sizeOf20
 v20 := Tryz.zeroValue20
 t37 := Tryz.underlying41
 a37 := Tryz.isAgg41
 z37 := Tryz.sizeOf41
 v37 := Tryz.zeroValue41
 t46 := Tryz.underlying160
 a46 := Tryz.isAgg160
 z46 := Tryz.sizeOf160
 v46 := Tryz.zeroValue160
 t51 := Tryz.underlying73
 a51 := Tryz.isAgg73
 z51 := Tryz.sizeOf73
 v51 := Tryz.zeroValue73
 t53 := Tryz.underlying22
 a53 := Tryz.isAgg22
 z53 := Tryz.sizeOf22
 v53 := Tryz.zeroValue22
 t171 := Tryz.underlying242
 a171 := Tryz.isAgg242
 z171 := Tryz.sizeOf242
 v171 := Tryz.zeroValue242
 t173 := Tryz.underlying244
 a173 := Tryz.isAgg244
 z173 := Tryz.sizeOf244
 v173 := Tryz.zeroValue244
 t212 := Tryz.underlying297
 a212 := Tryz.isAgg297
 z212 := Tryz.sizeOf297
 v212 := Tryz.zeroValue297
 t213 := Tryz.underlying298
 a213 := Tryz.isAgg298
 z213 := Tryz.sizeOf298
 t232 := Tryz.underlying366
 a232 := Tryz.isAgg366
 z232 := Tryz.sizeOf366
 v232 := Tryz.zeroValue366
 t233 := Tryz.underlying367
 a233 := Tryz.isAgg367
 z233 := Tryz.sizeOf367
 v233 := Tryz.zeroValue367
 g17 := by kernel_rfl
 g18 := by kernel_rfl
 g19 := by kernel_rfl
 i0 := by kernel_rfl
 i2 := by kernel_rfl
 i3 := by kernel_rfl
 i4 := by kernel_rfl
 i5 := by kernel_rfl
 i9 := by kernel_rfl
 i20 := by kernel_rfl
 i37 := by kernel_rfl
 i46 := by kernel_rfl
 i51 := by kernel_rfl
 i53 := by kernel_rfl
 i171 := by kernel_rfl
 i173 := by kernel_rfl
 i212 := by kernel_rfl
 i232 := by kernel_rfl
 i233 := by kernel_rfl
 m17 := by kernel_rfl
 m18 := by kernel_rfl
 m19 := by kernel_rfl }
open Go.RowKit Go.Sort Go.Lib in
theorem Tryz.strconv_FormatInt_10 (n : Int) (h0 : -9223372036854775808 ≤ n) (h1 : n ≤ 9223372036854775807) (w : World) (htab : Lib.TabIs Tryz.prog w "internal/strconv.uint64pow10" .u64 Lib.pow10Tab) :
    Calls Tryz.prog 53 #[.int .i64 n, .int .i64 10] w fun e w' => e = .returned (.string ⟨(Lib.itoa n).toArray⟩) ∧ ∃ k os, w' = grow (w.drewN k) os := Any.strconv_FormatInt_10 Tryz.sh_laysM173 n h0 h1 w htab
def Tryz.sh_laysC174_ren : Go.Shelf.Ren := ⟨fun | 174 => 164 | 247 => 205 | 245 => 206 | 287 => 230 | 279 => 231 | 280 => 232 | 281 => 233 | 282 => 234 | 321 => 240 | 322 => 241 | 316 => 242 | 171 => 23 | 205 => 243 | 243 => 46 | 246 => 82 | 283 => 124 | 284 => 125 | 285 => 126 | 286 => 127 | 129 => 116 | 317 => 165 | 318 => 166 | 319 => 167 | 320 => 168 | 337 => 207 | 338 => 208 | n => n, fun | 9 => 9 | 3 => 3 | 2 => 2 | 75 => 151 | 85 => 294 | 4 => 4 | 167 => 360 | 5 => 5 | 53 => 22 | 175 => 361 | 46 => 160 | 168 => 363 | 37 => 41 | 0 => 0 | 210 => 375 | 21 => 21 | 127 => 220 | 145 => 379 | 143 => 377 | 171 => 242 | 173 => 244 | 212 => 297 | 51 => 73 | 20 => 20 | 213 => 298 | 232 => 366 | 233 => 367 | 80 => 65 | n => n, fun | 15 => 8 | 16 => 9 | 17 => 4 | 18 => 6 | 19 => 7 | n => n⟩
theorem Tryz.sh_laysC174 : Go.Proofs.LaysC.n174 Tryz.prog Tryz.sh_laysC174_ren := {
 mixed := by kernel_rfl
 f129 := Tryz.func116.trans (congrArg some (by kernel_rfl))
 f171 := Tryz.func23.trans (congrArg some (by kernel_rfl))
 f174 := Tryz.func164.trans (congrArg some (by kernel_rfl))
 f205 := Tryz.func243.trans (congrArg some (by kernel_rfl))
 f243 := Tryz.func46.trans (congrArg some (by kernel_rfl))
 f245 := Tryz.func206.trans (congrArg some (by kernel_rfl))
 f246 := Tryz.func82.trans (congrArg some (by kernel_rfl))
 f247 := Tryz.func205.trans (congrArg some (by kernel_rfl))
 f279 := Tryz.func231.trans (congrArg some (by kernel_rfl))
 f280 := Tryz.func232.trans (congrArg some (by kernel_rfl))
 f281 := Tryz.func233.trans (congrArg some (by kernel_rfl))
 f282 := Tryz.func234.trans (congrArg some (by kernel_rfl))
 f283 := Tryz.func124.trans (congrArg some (by kernel_rfl))
 f284 := Tryz.func125.trans (congrArg some (by kernel_rfl))
 f285 := Tryz.func126.trans (congrArg some (by kernel_rfl))
 f286 := Tryz.func127.trans (congrArg some (by kernel_rfl))
 f287 := Tryz.func230.trans (congrArg some (by kernel_rfl))
 f316 := Tryz.func242.trans (congrArg some (by kernel_rfl))
 f317 := Tryz.func165.trans (congrArg some (by kernel_rfl))
 f318 := Tryz.func166.trans (congrArg some (by kernel_rfl))
 f319 := Tryz.func167.trans (congrArg some (by kernel_rfl))
 f320 := Tryz.func168.trans (congrArg some (by kernel_rfl))
 f321 := Tryz.func240.trans (congrArg some (by kernel_rfl))
 f322 := Tryz.func241.trans (congrArg some (by kernel_rfl))
 f337 := Tryz.func207.trans (congrArg some (by kernel_rfl))
 f338 := Tryz.func208.trans (congrArg some (by kernel_rfl))
 t0 := Tryz.underlying0
 a0 := Tryz.isAgg0
 z0 := Tryz.sizeOf0
 v0 := Tryz.zeroValue0
 t2 := Tryz.underlying2
 a2 := Tryz.isAgg2
 z2 := Tryz.sizeOf2
 v2 := Tryz.zeroValue2
 t3 := Tryz.underlying3
 a3 := Tryz.isAgg3
 z3 := Tryz.sizeOf3
 v3 := Tryz.zeroValue3
 t4 := Tryz.underlying4
 a4 := Tryz.isAgg4
 z4 := Tryz.sizeOf4
 v4 := Tryz.zeroValue4
 t5 := Tryz.underlying5
 a5 := Tryz.isAgg5
 z5 := Tryz.sizeOf5
 v5 := Tryz.zeroValue5
 t9 := Tryz.underlying9
 a9 := Tryz.isAgg9
 z9 := Tryz.sizeOf9
 v9 := Tryz.zeroValue9
 t20 := Tryz.underlying20
 a20 := Tryz.isAgg20
 z20 := Tryz.sizeOf20
 v20 := Tryz.zeroValue20
 t21 := Tryz.underlying21
 a21 := Tryz.isAgg21
 z21 := Tryz.sizeOf21
 v21 := Tryz.zeroValue21
 t37 := Tryz.underlying41
 a37 := Tryz.isAgg41
 z37 := Tryz.sizeOf41
 v37 := Tryz.zeroValue41
 t46 := Tryz.underlying160
 a46 := Tryz.isAgg160
 z46 := Tryz.sizeOf160
 v46 := Tryz.zeroValue160
 t51 := Tryz.underlying73
 a51 := Tryz.isAgg73
 z51 := Tryz.sizeOf73
 v51 := Tryz.zeroValue73
 t53 := Tryz.underlying22
 a53 := Tryz.isAgg22
 z53 := Tryz.sizeOf22
 v53 := Tryz.zeroValue22
 t75 := Tryz.underlying151
 a75 := Tryz.isAgg151
 z75 := Tryz.sizeOf151
 v75 := Tryz.zeroValue151
 t85 := Tryz.underlying294
 a85 := Tryz.isAgg294
 z85 := Tryz.sizeOf294
 v85 := Tryz.zeroValue294
 t127 := Tryz.underlying220
 a127 := Tryz.isAgg220
 z127 := Tryz.sizeOf220
 v127 := Tryz.zeroValue220
 t143 := Tryz.underlying377
 a143 := Tryz.isAgg377
 z143 := Tryz.sizeOf377
 v143 := Tryz.zeroValue377
 t145 := Tryz.underlying379
 a145 := Tryz.isAgg379
 z145 := Tryz.sizeOf379
 v145 := Tryz.zeroValue379
 t167 := Tryz.underlying360
 a167 := Tryz.isAgg360
 z167 := Tryz.sizeOf360
 v167 := Tryz.zeroValue360
 t168 := Tryz.underlying363
 a168 := Tryz.isAgg363
 z168 := Tryz.sizeOf363
 v168 := Tryz.zeroValue363
 t171 := Tryz.underlying242
 a171 := Tryz.isAgg242
 z171 := Tryz.sizeOf242
 v171 := Tryz.zeroValue242
 t173 := Tryz.underlying244
 a173 := Tryz.isAgg244
 z173 := Tryz.sizeOf244
 v173 := Tryz.zeroValue244
 t175 := Tryz.underlying361
 a175 := Tryz.isAgg361
 z175 := Tryz.sizeOf361
 v175 := Tryz.zeroValue361
 t210 := Tryz.underlying375
 a210 := Tryz.isAgg375
 z210 := Tryz.sizeOf375
 v210 := Tryz.zeroValue375
 t212 := Tryz.underlying297
 a212 := Tryz.isAgg297
 z212 := Tryz.sizeOf297
 v212 := Tryz.zeroValue297
 t213 := Tryz.underlying298
 a213 := Tryz.isAgg298
 z213 := Tryz.sizeOf298
 t232 := Tryz.underlying366
 a232 := Tryz.isAgg366
 z232 := Tryz.sizeOf366
 v232 := Tryz.zeroValue366
 t233 := Tryz.underlying367
 a233 := Tryz.isAgg367
 z233 := Tryz.sizeOf367
 v233 := Tryz.zeroValue367
 g15 := by kernel_rfl
 g16 := by kernel_rfl
 g17 := by kernel_rfl
 g18 := by kernel_rfl
 g19 := by kernel_rfl
 t80 := Tryz.underlying65
 a80 := Tryz.isAgg65
 z80 := Tryz.sizeOf65
 v80 := Tryz.zeroValue65
 i0 := by kernel_rfl
 i2 := by kernel_rfl
 i3 := by kernel_rfl
 i4 := by kernel_rfl
 i5 := by kernel_rfl
 i9 := by kernel_rfl
 i20 := by kernel_rfl
 i21 := by kernel_rfl
 i37 := by kernel_rfl
 i46 := by kernel_rfl
 i51 := by kernel_rfl
 i53 := by kernel_rfl
 i75 := by kernel_rfl
 i80 := by kernel_rfl
 i85 := by kernel_rfl
 i127 := by kernel_rfl
 i143 := by kernel_rfl
 i145 := by kernel_rfl
 i167 := by kernel_rfl
 i168 := by kernel_rfl
 i171 := by kernel_rfl
 i173 := by kernel_rfl
 i175 := by kernel_rfl
 i210 := by kernel_rfl
 i212 := by kernel_rfl
 i232 := by kernel_rfl
 i233 := by kernel_rfl
 m15 := by kernel_rfl
 m16 := by kernel_rfl
 m17 := by kernel_rfl
 m18 := by kernel_rfl
 m19 := by kernel_rfl
 c0 := by kernel_rfl
 c2 := by kernel_rfl
 c3 := by kernel_rfl
 c4 := by kernel_rfl
 c5 := by kernel_rfl
 c9 := by kernel_rfl
 c20 := by kernel_rfl
 c21 := by kernel_rfl
 c37 := by kernel_rfl
 c46 := by kernel_rfl
 c51 := by kernel_rfl
 c53 := by kernel_rfl
 c75 := by kernel_rfl
 c80 := by kernel_rfl
 c85 := by kernel_rfl
 c127 := by kernel_rfl
 c143 := by kernel_rfl
 c145 := by kernel_rfl
 c167 := by kernel_rfl
 c168 := by kernel_rfl
 c171 := by kernel_rfl
 c173 := by kernel_rfl
 c175 := by kernel_rfl
 c210 := by kernel_rfl
 c212 := by kernel_rfl
 c213 := by kernel_rfl
 c232 := by kernel_rfl
 c233 := by kernel_rfl }
open Go.RowKit in
theorem Tryz.strconv_ParseInt_10_at64_ok (s : ByteArray) (hmax : s.size ≤ 9223372036854775806) (v : Int) (h : Lib.parseIntB 64 s.data.toList = .ok v) (w : World) :
    Calls Tryz.prog 164 #[.string s, .int .i64 10, .int .i64 64] w fun e w' => e = .returned (.tuple #[.int .i64 v, .nilIface]) ∧ (w' = w ∨ ∃ t, w' = Lib.bytesWorld w 5 t) := Any.strconv_ParseInt_10_at64_ok Tryz.sh_laysC174 s hmax v h w
def Tryz.sh_lays143_ren : Go.Shelf.Ren := ⟨fun | 143 => 118 | 219 => 160 | 217 => 120 | 225 => 200 | 224 => 201 | 267 => 202 | 266 => 161 | 314 => 229 | n => n, fun | 9 => 9 | 3 => 3 | 4 => 4 | 5 => 5 | 46 => 160 | 146 => 358 | 51 => 73 | n => n, fun | 1 => 5 | n => n⟩
theorem Tryz.sh_lays143 : Go.Proofs.Lays.n143 Tryz.prog Tryz.sh_lays143_ren := {
 mixed := by kernel_rfl
 f143 := Tryz.func118.trans (congrArg some (by kernel_rfl))
 f217 := Tryz.func120.trans (congrArg some (by kernel_rfl))
 f219 := Tryz.func160.trans (congrArg some (by kernel_rfl))
 f224 := Tryz.func201.trans (congrArg some (by kernel_rfl))
 f225 := Tryz.func200.trans (congrArg some (by kernel_rfl))
 f266 := Tryz.func161.trans (congrArg some (by kernel_rfl))
 f267 := Tryz.func202.trans (congrArg some (by kernel_rfl))
 f314 := Tryz.func229.trans (congrArg some (by kernel_rfl))
 t3 := Tryz.underlying3
 a3 := Tryz.isAgg3
 z3 := Tryz.sizeOf3
 v3 := Tryz.zeroValue3
 t4 := Tryz.underlying4
 a4 := Tryz.isAgg4
 z4 := Tryz.sizeOf4
 v4 := Tryz.zeroValue4
 t5 := Tryz.underlying5
 a5 := Tryz.isAgg5
 z5 := Tryz.sizeOf5
 v5 := Tryz.zeroValue5
 t9 := Tryz.underlying9
 a9 := Tryz.isAgg9
 z9 := Tryz.sizeOf9
 v9 := Tryz.zeroValue9
 t46 := Tryz.underlying160
 a46 := Tryz.isAgg160
 z46 := Tryz.sizeOf160
 v46 := Tryz.zeroValue160
 t51 := Tryz.underlying73
 a51 := Tryz.isAgg73
 z51 := Tryz.sizeOf73
 v51 := Tryz.zeroValue73
 t146 := Tryz.underlying358
 a146 := Tryz.isAgg358
 z146 := Tryz.sizeOf358
 v146 := Tryz.zeroValue358
 g1 := by kernel_rfl }
open Go.RowKit Go.Lib in
theorem Tryz.strings_Index_one (s : ByteArray) (c : UInt8) (w : World) :
    Calls Tryz.prog 118 #[.string s, .string ⟨#[c]⟩] w fun e w' => e = .returned (.int .i64 (Lib.indexByte s.data.toList c)) ∧ w' = w := Any.strings_Index_one Tryz.sh_lays143 s c w
def Tryz.sh_laysSlM5_f62_ren : Go.Shelf.Ren := ⟨fun | 5 => 62 | 8 => 110 | 7 => 109 | 19 => 158 | 20 => 116 | 10 => 149 | 11 => 150 | 12 => 151 | 13 => 152 | 14 => 153 | 15 => 154 | 16 => 155 | 17 => 156 | 18 => 157 | 30 => 194 | 31 => 195 | 32 => 196 | 33 => 197 | 34 => 198 | 35 => 199 | 40 => 228 | n => n, fun | 23 => 45 | 25 => 3 | 3 => 3 | 32 => 160 | 22 => 45 | 0 => 0 | 44 => 73 | 46 => 22 | 4 => 4 | 36 => 272 | 35 => 271 | 41 => 277 | 5 => 5 | 9 => 9 | 53 => 330 | 57 => 334 | 63 => 355 | 64 => 356 | n => n, fun | n => n⟩
theorem Tryz.sh_laysSlM5_f62 : Go.Proofs.SlLaysM.n5 Tryz.prog Tryz.sh_laysSlM5_f62_ren := {
 mixed := by kernel_rfl
 f5 := ⟨Tryz.f62.name, by decide, Tryz.func62.trans (congrArg some (by kernel_rfl))⟩
 f7 := ⟨Tryz.f109.name, by decide, Tryz.func109.trans (congrArg some (by kernel_rfl))⟩
 f8 := Tryz.func110.trans (congrArg some (by kernel_rfl))
 f10 := ⟨Tryz.f149.name, by decide, Tryz.func149.trans (congrArg some (by kernel_rfl))⟩
 f11 := ⟨Tryz.f150.name, by decide, Tryz.func150.trans (congrArg some (by kernel_rfl))⟩
 f12 := ⟨Tryz.f151.name, by decide, Tryz.func151.trans (congrArg some (by kernel_rfl))⟩
 f13 := ⟨Tryz.f152.name, by decide, Tryz.func152.trans (congrArg some (by kernel_rfl))⟩
 f14 := ⟨Tryz.f153.name, by decide, Tryz.func153.trans (congrArg some (by kernel_rfl))⟩
 f15 := ⟨Tryz.f154.name, by decide, Tryz.func154.trans (congrArg some (by kernel_rfl))⟩
 f16 := ⟨Tryz.f155.name, by decide, Tryz.func155.trans (congrArg some (by kernel_rfl))⟩
 f17 := ⟨Tryz.f156.name, by decide, Tryz.func156.trans (congrArg some (by kernel_rfl))⟩
 f18 := ⟨Tryz.f157.name, by decide, Tryz.func157.trans (congrArg some (by kernel_rfl))⟩
 f19 := Tryz.func158.trans (congrArg some (by kernel_rfl))
 f20 := Tryz.func116.trans (congrArg some (by kernel_rfl))
 f30 := ⟨Tryz.f194.name, by decide, Tryz.func194.trans (congrArg some (by kernel_rfl))⟩
 f31 := Tryz.func195.trans (congrArg some (by kernel_rfl))
 f32 := Tryz.func196.trans (congrArg some (by kernel_rfl))
 f33 := ⟨Tryz.f197.name, by decide, Tryz.func197.trans (congrArg some (by kernel_rfl))⟩
 f34 := ⟨Tryz.f198.name, by decide, Tryz.func198.trans (congrArg some (by kernel_rfl))⟩
 f35 := ⟨Tryz.f199.name, by decide, Tryz.func199.trans (congrArg some (by kernel_rfl))⟩
 f40 := ⟨Tryz.f228.name, by decide, Tryz.func228.trans (congrArg some (by kernel_rfl))⟩
 t0 := Tryz.underlying0
 a0 := Tryz.isAgg0
 z0 := Tryz.sizeOf0
 v0 := Tryz.zeroValue0
 t3 := Tryz.underlying3
 a3 := Tryz.isAgg3
 z3 := Tryz.sizeOf3
 v3 := Tryz.zeroValue3
 t4 := Tryz.underlying4
 a4 := Tryz.isAgg4
 z4 := Tryz.sizeOf4
 v4 := Tryz.zeroValue4
 t5 := Tryz.underlying5
 a5 := Tryz.isAgg5
 z5 := Tryz.sizeOf5
 v5 := Tryz.zeroValue5
 t9 := Tryz.underlying9
 a9 := Tryz.isAgg9
 z9 := Tryz.sizeOf9
 v9 := Tryz.zeroValue9
 t22 := Tryz.underlying45
 a22 := Tryz.isAgg45
 z22 := Tryz.sizeOf45
 v22 := Tryz.zeroValue45
 t23 := Tryz.underlying45
 a23 := Tryz.isAgg45
 z23 := Tryz.sizeOf45
 v23 := Tryz.zeroValue45
 t25 := Tryz.underlying3
 a25 := Tryz.isAgg3
 z25 := Tryz.sizeOf3
 v25 := Tryz.zeroValue3
 t32 := Tryz.underlying160
 a32 := Tryz.isAgg160
 z32 := Tryz.sizeOf160
 v32 := Tryz.zeroValue160
 t35 := Tryz.underlying271
 a35 := Tryz.isAgg271
 z35 := Tryz.sizeOf271
 v35 := Tryz.zeroValue271
 t36 := Tryz.underlying272
 a36 := Tryz.isAgg272
 z36 := Tryz.sizeOf272
 v36 := Tryz.zeroValue272
 t41 := Tryz.underlying277
 a41 := Tryz.isAgg277
 z41 := Tryz.sizeOf277
 v41 := Tryz.zeroValue277
 t44 := Tryz.underlying73
 a44 := Tryz.isAgg73
 z44 := Tryz.sizeOf73
 v44 := Tryz.zeroValue73
 t46 := Tryz.underlying22
 a46 := Tryz.isAgg22
 z46 := Tryz.sizeOf22
 v46 := Tryz.zeroValue22
 t53 := Tryz.underlying330
 a53 := Tryz.isAgg330
 z53 := Tryz.sizeOf330
 v53 := Tryz.zeroValue330
 t57 := Tryz.underlying334
 a57 := Tryz.isAgg334
 z57 := Tryz.sizeOf334
 v57 := Tryz.zeroValue334
 t63 := Tryz.underlying355
 a63 := Tryz.isAgg355
 z63 := Tryz.sizeOf355
 v63 := Tryz.zeroValue355
 t64 := Tryz.underlying356
 a64 := Tryz.isAgg356
 z64 := Tryz.sizeOf356
 v64 := Tryz.zeroValue356 }
open Go.Sort Go.RowKit in
theorem Tryz.slices_Sort_int (blk off cap : Nat) (zs : List Int) (w : World) (hH : Holds (Value.int .i64) w blk off zs.toArray) (hblk : blk < w.heap.size) (hsz : zs.length < 4611686018427387904) :
    Calls Tryz.prog 62 #[.slice (some ⟨blk, off, none⟩) zs.length cap] w fun e w' =>
      e = .returned (.tuple #[]) ∧ ∃ n os, w' = grow (putRow (Value.int .i64) (Sort.ahead w n) blk off (zs.mergeSort fun x y => decide (x ≤ y)).toArray) os := AnyM.slices_Sort_int Tryz.sh_laysSlM5_f62 blk off cap zs w hH hblk hsz
open Go.RowKit Go.Sort in
theorem Tryz.slices_Sort_int_none (p : Option Addr) (cap : Nat) (w : World) :
    Calls Tryz.prog 62 #[.slice p 0 cap] w fun e w' => e = .returned (.tuple #[]) ∧ w' = w := AnyM.slices_Sort_int_none Tryz.sh_laysSlM5_f62 p cap w
end Go.Proofs


namespace Go.Proofs.YtfeficdndjiijaaGreatDoor
open Go.RowKit
set_option linter.unusedVariables false
set_option linter.unusedSimpArgs false

def Tab (w : World) : Prop := Lib.TabIs Tryz.prog w "internal/strconv.uint64pow10" .u64 Lib.pow10Tab
theorem Tryz.tabNum : Tryz.prog.globalNamed "internal/strconv.uint64pow10" = some 4 := by kernel_rfl
theorem Tab.kept {w w' : World} (h : Tab w) (hb : Below w.heap.size w w') : Tab w' := Joins.tab_stays Tryz.tabNum h hb (Nat.le_refl _)
theorem belowGrow (w : World) (k : Nat) (os : Array Obj) : Below w.heap.size w (Sort.grow (w.drewN k) os) :=
  ⟨rfl, rfl, rfl, by simp [Sort.grow, World.drewN], fun j hj => by simp [Sort.grow, World.drewN, Array.getElem?_append_left hj]⟩
theorem fmtInt (n : Int) (h0 : -9223372036854775808 ≤ n) (h1 : n ≤ 9223372036854775807) (w : World) (ht : Tab w) :
    Calls Tryz.prog 53 #[.int .i64 n, .int .i64 10] w fun e w' => e = .returned (.string (sB (Lib.itoa n))) ∧ Below w.heap.size w w' := by
  refine (Tryz.strconv_FormatInt_10 n h0 h1 w ht).mono ?_
  rintro e w' ⟨rfl, k, os, rfl⟩
  exact ⟨rfl, belowGrow w k os⟩
theorem itoaAny (n : Int) (h0 : -9223372036854775808 ≤ n) (h1 : n ≤ 9223372036854775807) (w : World) (ht : Tab w) :
    Calls Tryz.prog 23 #[.int .i64 n] w fun e w' => e = .returned (.string (sB (Lib.itoa n))) ∧ Below w.heap.size w w' := by
  refine (Tryz.strconv_Itoa n h0 h1 w ht).mono ?_
  rintro e w' ⟨rfl, k, os, rfl⟩
  exact ⟨rfl, belowGrow w k os⟩
theorem itoa_len (n : Int) (h0 : -9223372036854775808 ≤ n) (h1 : n ≤ 9223372036854775807) : (sB (Lib.itoa n)).size ≤ 21 := by
  rw [sB_size]; exact Lib.itoa_length_le n h0 h1
theorem parseInt (n : Int) (h0 : -9223372036854775808 ≤ n) (h1 : n ≤ 9223372036854775807) (w : World) :
    Calls Tryz.prog 164 #[.string (sB (Lib.itoa n)), .int .i64 10, .int .i64 64] w fun e w' => e = .returned (.tuple #[.int .i64 n, .nilIface]) ∧ Below w.heap.size w w' := by
  refine (Tryz.strconv_ParseInt_10_at64_ok (sB (Lib.itoa n)) (by have := itoa_len n h0 h1; omega) n (by rw [sB_data]; exact parse_itoa n h0 h1) w).mono ?_
  rintro e w' ⟨rfl, h⟩
  refine ⟨rfl, ?_⟩
  rcases h with rfl | ⟨t, rfl⟩
  · exact Below.refl _ _
  · exact Joins.below_bytesWorld _ _ _ _ (Nat.le_refl _)
theorem number_any (n : Int) (h0 : -9223372036854775808 ≤ n) (h1 : n ≤ 9223372036854775807) (w : World) (ht : Tab w) :
    Calls Tryz.prog 123 #[.string (sB (Lib.itoa n))] w fun e w' => e = .returned (.tuple #[.int .i64 n, .bool true]) ∧ Below w.heap.size w w' := by
  have P1 := Lib.hid (fun w => parseInt n h0 h1 w)
  have P2 := Lib.hid (fun w ht => fmtInt n h0 h1 w ht)
  have HT := Lib.hid ht
  clear ht h0 h1
  generalize sB (Lib.itoa n) = S at *
  go_enter Tryz.func123, Tryz.ntmps123
  go_wp2_with fail
  with_reducible refine (P1.out _).mono ?_
  rintro e w2 ⟨rfl, hb⟩
  have HB := Lib.hid hb
  have HT2 := Lib.hid (HT.out.kept hb)
  clear hb
  go_wp2_with fail
  with_reducible refine (P2.out _ HT2.out).mono ?_
  rintro e w3 ⟨rfl, hb⟩
  have HB3 := Lib.hid (btr HB.out hb)
  clear hb
  go_wp2_with fail
  go_ret2
  exact ⟨by simp, HB3.out⟩
theorem named_no (s : List UInt8) (hs : s.head? ≠ some 34) (hl : s.length ≤ 65536) (w : World) :
    Calls Tryz.prog 121 #[.string (sB s)] w fun e w' => e = .returned (.tuple #[.string ⟨#[]⟩, .bool false]) ∧ w = w' := by
  have hsz : (sB s).size = s.length := sB_size s
  by_cases h2 : s.length < 2
  · obtain ⟨n, hn⟩ : ∃ n, n = s.length := ⟨_, rfl⟩
    rw [← hn] at hsz h2
    clear hn hs hl
    generalize sB s = S at *
    have h2' : (n : Int) < 2 := by omega
    go_enter Tryz.func121, Tryz.ntmps121
    go_wp2_with fail
    go_ret2
    exact ⟨rfl, rfl⟩
  · have h0 : 0 < (sB s).size := by omega
    have hc : ((sB s)[0]'h0).toNat ≠ 34 := by
      rw [sB_get]
      intro e
      apply hs
      rw [List.head?_eq_getElem?, List.getElem?_eq_getElem (by omega)]
      exact congrArg some (UInt8.toNat_inj.1 e)
    obtain ⟨n, hn⟩ : ∃ n, n = s.length := ⟨_, rfl⟩
    rw [← hn] at hsz h2
    clear hn hs hl
    generalize sB s = S at *
    have h2' : ¬ ((n : Int) < 2) := by omega
    have hc' : ¬ ((((S[0]'h0).toNat : Nat) : Int) = 34) := by omega
    go_enter Tryz.func121, Tryz.ntmps121
    go_wp2_with fail
    go_ret2
    exact ⟨rfl, rfl⟩
end Go.Proofs.YtfeficdndjiijaaGreatDoor


namespace Go.Proofs.YtfeficdndjiijaaGreatDoor
open Go.RowKit
set_option linter.unusedVariables false
set_option linter.unusedSimpArgs false

def WdAt (w : World) (v : Value) (ws : List (List UInt8)) : Prop := ∃ (g cap : Nat) (cur : Array Value), v = .slice (some ⟨g, 0, none⟩) ws.length cap ∧ Blk w g 190 cur ∧ ∀ (i : Nat) (a : List UInt8), ws[i]? = some a → cur[i * 2]? = some (.string (sB a))
theorem WdAt.kept {w w' : World} {v : Value} {ws : List (List UInt8)} (h : WdAt w v ws) (hb : Below w.heap.size w w') : WdAt w' v ws := by
  obtain ⟨g, cap, cur, h1, h2, h3⟩ := h
  exact ⟨g, cap, cur, h1, h2.kept hb, h3⟩
theorem WdAt.grown {w w' : World} {v : Value} {ws : List (List UInt8)} {R : Nat} {t : TypeId} {cs : Array Value} (h : WdAt w v ws) (hR : Blk w R t cs) (ht : 190 ≠ t) (hb : w.grownBy w' (some R)) : WdAt w' v ws := by
  obtain ⟨g, cap, cur, h1, h2, h3⟩ := h
  exact ⟨g, cap, cur, h1, h2.grown hb (by simpa using h2.ne_ hR ht), h3⟩
theorem wCells_get : ∀ (ps : List (List UInt8 × Int)) (i : Nat) (a : List UInt8), (ps.map (·.1))[i]? = some a → (wCells ps)[i * 2]? = some (.string (sB a))
  | [], i, a, h => by simp at h
  | p :: r, 0, a, h => by
    simp at h
    subst h
    rfl
  | p :: r, i + 1, a, h => by
    simp only [List.map_cons, List.getElem?_cons_succ] at h
    have := wCells_get r i a h
    show ([_, _] ++ wCells r)[(i + 1) * 2]? = _
    rw [List.getElem?_append_right (by simp; omega)]
    rw [show (i + 1) * 2 - [Value.string (sB p.1), Value.int .i64 p.2].length = i * 2 by simp; omega]
    exact this
theorem WdOwn.at_ {w : World} {base : Nat} {v : Value} {ws : List (List UInt8)} (h : WdOwn w base v ws) (h0 : ws ≠ []) : WdAt w v ws := by
  obtain ⟨ps, rfl, hown⟩ := h
  have hp : 0 < ps.length := by
    cases ps with
    | nil => simp at h0
    | cons a r => simp
  rcases hown.2 with ⟨rfl, hz⟩ | ⟨g, cap, cur, rfl, hb, hg, hnc, hcm, hsz, htake⟩
  · omega
  · refine ⟨g, cap, cur, by simp, hg, fun i a ha => ?_⟩
    have h1 := wCells_get ps i a ha
    have hi : i * 2 < (wCells ps).length := (List.getElem?_eq_some_iff.1 h1).1
    rw [← htake, List.getElem?_take] at h1
    split at h1
    · simpa using h1
    · cases h1
theorem gr_setC {w w' : World} {R : Nat} (h : w.grownBy w' (some R)) (i : Nat) (v : Value) : w.grownBy (w'.setCell ⟨R, i, none⟩ v) (some R) :=
  ⟨h.os, h.tape, h.output, by simpa using h.size, fun k hk hne => (Below.heap_setCell w' ⟨R, i, none⟩ v k (fun e => hne (by rw [e]))).trans (h.block k hk hne)⟩
theorem gr_setNew {w w' : World} {row : Option Nat} (h : w.grownBy w' row) {p : Addr} (hp : w.heap.size ≤ p.block) (v : Value) : w.grownBy (w'.setCell p v) row :=
  ⟨h.os, h.tape, h.output, by simpa using h.size, fun k hk hne => (Below.heap_setCell w' p v k (fun e => by omega)).trans (h.block k hk hne)⟩
theorem Tab.grown {w w' : World} {R : Nat} {t : TypeId} {cs : Array Value} (h : Tab w) (hR : Blk w R t cs) (hs : cs.size ≠ 20) (hb : w.grownBy w' (some R)) : Tab w' := by
  unfold Tab Lib.TabIs World.var? at h ⊢
  rw [Tryz.tabNum] at h ⊢
  simp only [Option.bind_some] at h ⊢
  have hlt : 4 < w.heap.size := by
    cases hx : w.heap[4]? with
    | none => rw [hx] at h; simp at h
    | some o => exact (Array.getElem?_eq_some_iff.1 hx).1
  rw [hb.block _ hlt (fun e => ?_)]
  · exact h
  · have e := Option.some.inj e
    rw [e, show w.heap[R]? = _ from hR] at h
    simp at h
    apply hs
    rw [h]
    simp [Lib.pow10Tab]
def Rd (w : World) (R : Nat) (v : Value) (k en : Int) : Prop := Blk w R 107 #[v, .int .i64 k, .int .i64 (-1), .int .i64 en]
set_option maxRecDepth 100000 in
set_option maxHeartbeats 2000000 in
theorem rdnext (w : World) (R : Nat) (v : Value) (ws : List (List UInt8)) (k : Nat) (en : Int) (a : List UInt8) (h : Rd w R v k en) (hv : WdAt w v ws) (ha : ws[k]? = some a) (hl : ws.length ≤ 65536) :
    Calls Tryz.prog 77 #[.pointer (some ⟨R, 0, none⟩)] w fun e w' => e = .returned (.string (sB a)) ∧ Below w.heap.size w w' := by
  obtain ⟨g, cap, cur, rfl, hg, hc⟩ := hv
  have hk : k < ws.length := (List.getElem?_eq_some_iff.1 ha).1
  obtain ⟨n, hn⟩ : ∃ n, n = ws.length := ⟨_, rfl⟩
  rw [← hn] at h hl hk
  have c0 := h.cell 0
  have c1 := h.cell 1
  have c2 := h.cell 2
  simp at c0 c1 c2
  have ck := (hg.cell (k * 2)).trans (hc k a ha)
  have k0 : (0 : Int) ≤ (k : Int) := by omega
  have k1 : (k : Int) < (n : Int) := by omega
  have hb : ¬ ((0 : Int) ≤ -1) := by omega
  clear hg hc ha hn h
  go_enter Tryz.func77, Tryz.ntmps77
  go_wp2_with fail
  go_quiet (fail)
  go_wp2_with fail
  go_quiet (fail)
  go_wp2_with fail
  go_ret
  exact ⟨rfl, below_drewN (below_drewN (Below.refl _ _) _) _⟩
set_option maxRecDepth 100000 in
set_option maxHeartbeats 2000000 in
theorem rdnum (w : World) (R : Nat) (v : Value) (ws : List (List UInt8)) (k : Nat) (en : Int) (x : Int) (h : Rd w R v k en) (hv : WdAt w v ws) (ha : ws[k]? = some (Lib.itoa x)) (hl : ws.length ≤ 65536) (x0 : -9223372036854775808 ≤ x) (x1 : x ≤ 9223372036854775807) (ht : Tab w) :
  Calls Tryz.prog 80 #[.pointer (some ⟨R, 0, none⟩)] w fun e w' => e = .returned (.int .i64 x) ∧ Rd w' R v ((k + 1 : Nat) : Int) en ∧ w.grownBy w' (some R) := by
 have PN := Lib.hid (rdnext w R v ws k en _ h hv ha hl)
 have PU := Lib.hid (fun w ht => number_any x x0 x1 w ht)
 have HT := Lib.hid ht
 have H := Lib.hid h
 have hk : k < ws.length := (List.getElem?_eq_some_iff.1 ha).1
 have hk2 : k < 65536 := by omega
 clear h hv ha hl hk ht x0 x1
 generalize sB (Lib.itoa x) = S at *
 go_enter Tryz.func80, Tryz.ntmps80
 go_wp2_with fail
 with_reducible refine PN.out.mono ?_
 rintro e w2 ⟨rfl, hb⟩
 have HT2 := Lib.hid (HT.out.kept hb)
 have H2 := Lib.hid (Blk.kept H.out hb)
 have HB2 := Lib.hid hb
 clear hb
 go_wp2_with fail
 with_reducible refine (PU.out _ HT2.out).mono ?_
 rintro e w3 ⟨rfl, hb⟩
 have h3 := Blk.kept H2.out hb
 have H3 := Lib.hid h3
 have HB3 := Lib.hid (btr HB2.out hb)
 have c1 := h3.cell 1
 have f1 := h3.frozen 1
 simp at c1
 clear hb h3
 go_wp2_with fail
 go_ret
 exact ⟨rfl, by unfold Rd; simpa using Blk.set_ H3.out 1 (.int .i64 ((k : Int) + 1)), gr_setC (below_gr HB3.out) 1 _⟩
theorem RowUpTo.gr {w w' : World} {b R : Nat} {t : TypeId} {n : Nat} {f : Nat → Int} {j : Nat} (h : RowUpTo w b t n f j) (hg : w.grownBy w' (some R)) (hne : b ≠ R) : RowUpTo w' b t n f j := by
  obtain ⟨g, h1, h2⟩ := h
  exact ⟨g, h1.of_block (hg.block b h1.lt (by simpa using hne)), h2⟩
set_option maxRecDepth 100000 in
set_option maxHeartbeats 4000000 in
theorem rdnums (w : World) (R : Nat) (v : Value) (ws : List (List UInt8)) (k n : Nat) (q : Int) (hq : q = (n : Int)) (en : Int) (xs : List Int) (h : Rd w R v k en) (hv : WdAt w v ws) (hx : xs.length = n) (hn : n ≤ 10) (ha : ∀ j x, xs[j]? = some x → ws[k + j]? = some (Lib.itoa x)) (hx64 : ∀ x ∈ xs, -9223372036854775808 ≤ x ∧ x ≤ 9223372036854775807) (hl : ws.length ≤ 65536) (ht : Tab w) :
  Calls Tryz.prog 78 #[.pointer (some ⟨R, 0, none⟩), .int .i64 q] w fun e w' => ∃ g, e = .returned (.slice (some ⟨g, 0, none⟩) n n) ∧ w.heap.size ≤ g ∧ w'.rowIs g 2 n (fun j => .int .i64 (cellD xs j)) ∧ Rd w' R v ((k + n : Nat) : Int) en ∧ w.grownBy w' (some R) := by
 subst hq
 have HA := Lib.hid ha
 have H64 := Lib.hid hx64
 have HT := Lib.hid ht
 have HV := Lib.hid hv
 have HLW := Lib.hid hl
 have HXL := Lib.hid hx
 have hRlt := Blk.lt h
 have hmk := fun W => run_make_row' (P := Tryz.prog) 93 2 (.int .i64 0) 8 Tryz.underlying93 Tryz.info64 rfl .i64 .i64 n (by omega) (by omega) W
 have hrow := World.rowIs_made w (.int .i64 0) n 2
 have HR := Lib.hid (RowUpTo.zeros hrow (fun j => cellD xs j))
 have hba : Below w.heap.size w (w.alloc (.cells (madeCells #[.int .i64 0] n) 2)) := (Below.refl _ w).alloc (Nat.le_refl _) _
 have H1 := Lib.hid (Blk.kept h hba)
 have HV1 := Lib.hid (hv.kept hba)
 have HT1 := Lib.hid (ht.kept hba)
 have HG1 : Hid (w.grownBy (w.alloc (.cells (madeCells #[.int .i64 0] n) 2)) (some R)) := Lib.hid (below_gr hba)
 clear ha hx64 ht hv hl hx h hba hrow
 go_enter Tryz.func78, Tryz.ntmps78
 go_wp2_with fail
 generalize hA : w.heap.size = A at *
 have HAA := Lib.hid hA
 clear hA
 generalize (w.alloc (.cells (madeCells #[.int .i64 0] n) 2)) = w1 at *
 go_loopw [11] (fun i wr => ∃ j : Nat, j ≤ n ∧ i = .int .i64 (j : Int) ∧ RowUpTo wr A 2 n (fun j => cellD xs j) j ∧ Rd wr R v ((k + j : Nat) : Int) en ∧ WdAt wr v ws ∧ Tab wr ∧ w.grownBy wr (some R)) (fun i _ => n - (intOf i).toNat)
 case atStart => exact ⟨0, by omega, rfl, HR.out, H1.out, HV1.out, HT1.out, HG1.out⟩
 case round =>
  obtain ⟨j, hj, rfl, hrow, hrd, hv, ht, hg⟩ := hrel
  have HR := Lib.hid hrow
  have HRD := Lib.hid hrd
  have HV := Lib.hid hv
  have HT := Lib.hid ht
  have HG := Lib.hid hg
  clear hrow hrd hv ht hg HV1 HT1 HG1 H1
  by_cases hjn : j < n
  ·have j0 : (0 : Int) ≤ (j : Int) := by omega
   have j1 : (j : Int) < (n : Int) := by omega
   have hz : xs[j]? = some (cellD xs j) := by
    have : j < xs.length := by rw [HXL.out]; exact hjn
    simp [cellD, this]
   have PN := Lib.hid (rdnum wr R v ws (k + j) en (cellD xs j) HRD.out HV.out (HA.out j _ hz) HLW.out (H64.out _ (List.mem_of_getElem? hz)).1 (H64.out _ (List.mem_of_getElem? hz)).2 HT.out)
   have HE : Hid ((fun j => cellD xs j) j = cellD xs j) := rfl
   clear hz
   generalize cellD xs j = x at *
   go_wp2_with fail
   with_reducible refine PN.out.mono ?_
   rintro e w3 ⟨rfl, hrd, hg⟩
   have HRD3 := Lib.hid hrd
   have HR3 := Lib.hid (HR.out.gr hg (by omega))
   have HV3 := Lib.hid (HV.out.grown HRD.out (by decide) hg)
   have HT3 := Lib.hid (HT.out.grown HRD.out (by simp) hg)
   have HG3 := Lib.hid (gr_trans HG.out hg)
   obtain ⟨v0, hc⟩ := HR3.out.cell hjn
   have hf := HR3.out.frozen j
   clear hrd hg
   go_wp2_with fail
   go_roundw
   case rel =>
    have hrw : ∃ cur, Blk w3 A 2 cur ∧ cur.size = n := by
     obtain ⟨g, ⟨cur, h1, h2, -⟩, -⟩ := HR3.out
     exact ⟨cur, h1, h2⟩
    obtain ⟨cur, hbA, hcs⟩ := hrw
    have hgA : w3.grownBy (w3.setCell ⟨A, j, none⟩ (.int .i64 x)) (some A) := gr_setC (World.grownBy.refl _ _) j _
    have hk9 : k + (j + 1) = k + j + 1 := by omega
    refine ⟨j + 1, by omega, by go_num, HR3.out.put HE.out.symm, ?_, HV3.out.grown hbA (by decide) hgA, HT3.out.grown hbA (by omega) hgA, gr_setNew HG3.out (by have := HAA.out; simp; omega) _⟩
    rw [hk9]
    exact Blk.grown HRD3.out hgA (by simp; omega)
   case measure => simp [intOf]; omega
  ·obtain rfl : j = n := by omega
   go_wp2_with fail
   go_ret
   exact ⟨A, rfl, by first | exact Nat.le_refl _ | exact Nat.le_of_eq HAA.out, HR.out.full, HRD.out, HG.out⟩
end Go.Proofs.YtfeficdndjiijaaGreatDoor


namespace Go.Proofs.YtfeficdndjiijaaGreatDoor
open Go.RowKit
set_option linter.unusedVariables false
set_option linter.unusedSimpArgs false

def pCells (l : List (Nat × Nat)) : List Value := l.flatMap pc2
theorem pCells_append (a b : List (Nat × Nat)) : pCells (a ++ b) = pCells a ++ pCells b := by simp [pCells]
theorem pCells_len (l : List (Nat × Nat)) : (pCells l).length = l.length * 2 := by
  induction l with
  | nil => rfl
  | cons a r ih =>
    show (pc2 a ++ pCells r).length = _
    rw [List.length_append, ih]
    simp [pc2]
    omega
structure CvI (w0 wr : World) (O R : Nat) (vo vr : Value) (ol rl : List (Nat × Nat)) : Prop where
  bo : Blk wr O 256 #[vo]
  br : Blk wr R 256 #[vr]
  oo : wr.ownsRow w0.heap.size 155 2 vo ol.length (pCells ol)
  ro : wr.ownsRow w0.heap.size 155 2 vr rl.length (pCells rl)
  sep : ∀ k, vo.ownBlock = some k → vr.ownBlock ≠ some k
  bel : Below w0.heap.size w0 wr
  lo : w0.heap.size ≤ O ∧ w0.heap.size ≤ R ∧ O ≠ R
theorem ownBlk {w : World} {base n s : Nat} {t : TypeId} {v : Value} {xs : List Value} (h : w.ownsRow base t s v n xs) : ∀ k, v.ownBlock = some k → ∃ cs, Blk w k t cs := by
  intro k hk
  rcases h.2 with ⟨rfl, h0⟩ | ⟨g, cap, cur, rfl, hb, hg, -⟩
  · simp [Value.ownBlock] at hk
  · simp [Value.ownBlock] at hk
    subst hk
    exact ⟨cur, hg⟩
theorem ownKeep {w w' : World} {base : Nat} {e : TypeId} {size : Nat} {v : Value} {n : Nat} {xs : List Value} (h : w.ownsRow base e size v n xs) {row : Option Nat} (hg : w.grownBy w' row) (hne : ∀ k, v.ownBlock = some k → row ≠ some k) : w'.ownsRow base e size v n xs :=
  World.ownsRow.kept h hg (by
    cases hv : v.ownBlock with
    | none => exact .inl rfl
    | some k => exact .inr (fun e => hne k hv e.symm))
theorem CvI.midO {w0 wr w2 : World} {O R : Nat} {vo vr v' : Value} {ol rl : List (Nat × Nat)} (h : CvI w0 wr O R vo vr ol rl) (p : Nat × Nat) (hown : w2.ownsRow w0.heap.size 155 2 v' (ol.length + 1) (pCells ol ++ [.int .i64 (p.1 : Int), .int .u64 (p.2 : Int)])) (hg : (wr.alloc (.cells #[.int .i64 (p.1 : Int), .int .u64 (p.2 : Int)] 155)).grownBy w2 vo.ownBlock)
  (hl : v'.ownBlock = vo.ownBlock ∨ v'.ownBlock = some (wr.alloc (.cells #[.int .i64 (p.1 : Int), .int .u64 (p.2 : Int)] 155)).heap.size) : Blk w2 O 256 #[vo] ∧ CvI w0 (w2.setCell ⟨O, 0, none⟩ v') O R v' vr (ol ++ [p]) rl := by
 have hb1 : Below wr.heap.size wr (wr.alloc (.cells #[.int .i64 (p.1 : Int), .int .u64 (p.2 : Int)] 155)) := (Below.refl _ wr).alloc (Nat.le_refl _) _
 generalize (wr.alloc (.cells #[.int .i64 (p.1 : Int), .int .u64 (p.2 : Int)] 155)) = w1 at *
 have hP1 := h.bo.kept hb1
 have hQ1 := h.br.kept hb1
 have hM1 := ownKeep h.oo (below_gr (row := none) hb1) (fun k _ => by simp)
 have hT1 := ownKeep h.ro (below_gr (row := none) hb1) (fun k _ => by simp)
 have hneP : some O ≠ vo.ownBlock := fun e => by
  obtain ⟨cs, hc⟩ := ownBlk hM1 O e.symm
  exact absurd rfl (hP1.ne_ hc (by decide))
 have hneQ : some R ≠ vo.ownBlock := fun e => by
  obtain ⟨cs, hc⟩ := ownBlk hM1 R e.symm
  exact absurd rfl (hQ1.ne_ hc (by decide))
 have hP2 := hP1.grown hg hneP
 have hQ2 := hQ1.grown hg hneQ
 have hT2 := ownKeep hT1 hg (fun k hk e => h.sep k e hk)
 have hbel1 : Below w0.heap.size w0 w1 := h.bel.trans (hb1.mono h.bel.size)
 have hbel2 : Below w0.heap.size w0 w2 := hbel1.grown hg hbel1.size (fun k e => (hM1.lt k e).1)
 have hgs : w2.grownBy (w2.setCell ⟨O, 0, none⟩ v') (some O) := gr_setC (World.grownBy.refl _ _) 0 _
 refine ⟨hP2, { bo := by simpa using hP2.set_ 0 v', br := hQ2.grown hgs (by simpa using (Ne.symm h.lo.2.2)), oo := ?mine, ro := ?other, sep := ?sp, bel := hbel2.setCell h.lo.1 _, lo := h.lo }⟩
 case mine =>
  have e1 : pCells (ol ++ [p]) = pCells ol ++ [.int .i64 (p.1 : Int), .int .u64 (p.2 : Int)] := by rw [pCells_append]; rfl
  rw [e1, List.length_append]
  refine ownKeep hown hgs (fun k hk e => ?_)
  have e := Option.some.inj e
  obtain ⟨cs, hc⟩ := ownBlk hown k hk
  rw [← e] at hc
  exact absurd rfl (hP2.ne_ hc (by decide))
 case other =>
  refine ownKeep hT2 hgs (fun k hk e => ?_)
  have e := Option.some.inj e
  obtain ⟨cs, hc⟩ := ownBlk hT2 k hk
  rw [← e] at hc
  exact absurd rfl (hP2.ne_ hc (by decide))
 case sp =>
  intro k hk hk2
  have hlt := fun q hq => (hT1.lt q hq).2
  rcases hl with e | e
  ·rw [e] at hk; exact h.sep k hk hk2
  ·rw [e] at hk
   have := hlt k hk2
   have := Option.some.inj hk
   omega
theorem CvI.midR {w0 wr w2 : World} {O R : Nat} {vo vr v' : Value} {ol rl : List (Nat × Nat)} (h : CvI w0 wr O R vo vr ol rl) (p : Nat × Nat) (hown : w2.ownsRow w0.heap.size 155 2 v' (rl.length + 1) (pCells rl ++ [.int .i64 (p.1 : Int), .int .u64 (p.2 : Int)])) (hg : (wr.alloc (.cells #[.int .i64 (p.1 : Int), .int .u64 (p.2 : Int)] 155)).grownBy w2 vr.ownBlock)
  (hl : v'.ownBlock = vr.ownBlock ∨ v'.ownBlock = some (wr.alloc (.cells #[.int .i64 (p.1 : Int), .int .u64 (p.2 : Int)] 155)).heap.size) : Blk w2 R 256 #[vr] ∧ CvI w0 (w2.setCell ⟨R, 0, none⟩ v') O R vo v' ol (rl ++ [p]) := by
 have hb1 : Below wr.heap.size wr (wr.alloc (.cells #[.int .i64 (p.1 : Int), .int .u64 (p.2 : Int)] 155)) := (Below.refl _ wr).alloc (Nat.le_refl _) _
 generalize (wr.alloc (.cells #[.int .i64 (p.1 : Int), .int .u64 (p.2 : Int)] 155)) = w1 at *
 have hP1 := h.br.kept hb1
 have hQ1 := h.bo.kept hb1
 have hM1 := ownKeep h.ro (below_gr (row := none) hb1) (fun k _ => by simp)
 have hT1 := ownKeep h.oo (below_gr (row := none) hb1) (fun k _ => by simp)
 have hneP : some R ≠ vr.ownBlock := fun e => by
  obtain ⟨cs, hc⟩ := ownBlk hM1 R e.symm
  exact absurd rfl (hP1.ne_ hc (by decide))
 have hneQ : some O ≠ vr.ownBlock := fun e => by
  obtain ⟨cs, hc⟩ := ownBlk hM1 O e.symm
  exact absurd rfl (hQ1.ne_ hc (by decide))
 have hP2 := hP1.grown hg hneP
 have hQ2 := hQ1.grown hg hneQ
 have hT2 := ownKeep hT1 hg (fun k hk e => h.sep k hk e)
 have hbel1 : Below w0.heap.size w0 w1 := h.bel.trans (hb1.mono h.bel.size)
 have hbel2 : Below w0.heap.size w0 w2 := hbel1.grown hg hbel1.size (fun k e => (hM1.lt k e).1)
 have hgs : w2.grownBy (w2.setCell ⟨R, 0, none⟩ v') (some R) := gr_setC (World.grownBy.refl _ _) 0 _
 refine ⟨hP2, { br := by simpa using hP2.set_ 0 v', bo := hQ2.grown hgs (by simpa using h.lo.2.2), ro := ?mine, oo := ?other, sep := ?sp, bel := hbel2.setCell h.lo.2.1 _, lo := h.lo }⟩
 case mine =>
  have e1 : pCells (rl ++ [p]) = pCells rl ++ [.int .i64 (p.1 : Int), .int .u64 (p.2 : Int)] := by rw [pCells_append]; rfl
  rw [e1, List.length_append]
  refine ownKeep hown hgs (fun k hk e => ?_)
  have e := Option.some.inj e
  obtain ⟨cs, hc⟩ := ownBlk hown k hk
  rw [← e] at hc
  exact absurd rfl (hP2.ne_ hc (by decide))
 case other =>
  refine ownKeep hT2 hgs (fun k hk e => ?_)
  have e := Option.some.inj e
  obtain ⟨cs, hc⟩ := ownBlk hT2 k hk
  rw [← e] at hc
  exact absurd rfl (hP2.ne_ hc (by decide))
 case sp =>
  intro k hk hk2
  have hlt := fun q hq => (hT1.lt q hq).2
  rcases hl with e | e
  ·rw [e] at hk2; exact h.sep k hk hk2
  ·rw [e] at hk2
   have := hlt k hk
   have := Option.some.inj hk2
   omega
end Go.Proofs.YtfeficdndjiijaaGreatDoor

