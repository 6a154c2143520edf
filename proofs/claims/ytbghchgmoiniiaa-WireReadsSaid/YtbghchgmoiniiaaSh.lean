/-
  Plain, no program: the shape of an argument's type, and what a reading of it tells of its cells. Conditions: none beyond those stated at each theorem.
-/
import Derived.WalkKit
import Derived.ProofKit
import Derived.OpenShut
import Derived.ChangeOld
import Derived.Below
import Derived.Deep.Slices
namespace Go.Proofs.Ytbghchgmoiniiaa
open Go.RowKit
set_option linter.unusedVariables false

/-- the shape of a type: integers, bools, slices, and rows of these (structs and arrays) -/
inductive Sh where
  | int (k : IntKind)
  | bool
  | slice (e : Sh)
  | unit
  | cons (a b : Sh)
  | agg (s : Sh)

def Sh.size : Sh → Nat
  | .int _ => 1
  | .bool => 1
  | .slice _ => 1
  | .unit => 0
  | .cons a b => a.size + b.size
  | .agg s => s.size

/-- does the type have the shape (first part); do the fields, from an offset on (second part)? -/
def Sh.chk (P : Program) : Sh → (TypeId → Bool) × (List (Nat × TypeId) → Nat → Bool)
  | .int k => (fun t => match P.underlying t with | some (.int k') => decide (k' = k) | _ => false, fun _ _ => false)
  | .bool => (fun t => match P.underlying t with | some .bool => true | _ => false, fun _ _ => false)
  | .slice e => (fun t => match P.underlying t with | some (.slice te) => decide (P.cellsOf te = e.size) && (decide (0 < e.size) && (e.chk P).1 te) | _ => false, fun _ _ => false)
  | .unit => (fun _ => false, fun l _ => l.isEmpty)
  | .cons a b => (fun _ => false, fun l off => match l with | (o, t) :: l => decide (o = off) && decide (P.cellsOf t = a.size) && (a.chk P).1 t && (b.chk P).2 l (off + a.size) | [] => false)
  | .agg s => (fun t => decide (P.cellsOf t = s.size) && match P.underlying t with
      | some (.struct fs) => (s.chk P).2 (fs.toList.map fun f => (f.offset, f.type)) 0
      | some (.array n te) => (s.chk P).2 ((List.range n).map fun i => (i * P.cellsOf te, te)) 0
      | _ => false, fun _ _ => false)

/-- what the cells of a thing of the shape are -/
def Sh.reads (w : World) : Sh → List Value → Prop
  | .int k, cs => ∃ n, cs = [.int k n] ∧ (Lit.int k n).wf = true
  | .bool, cs => ∃ b, cs = [.bool b]
  | .slice e, cs => ∃ (ao : Option Addr) (len cap : Nat), cs = [.slice ao len cap] ∧ len ≤ cap ∧ cap ≤ maxLen ∧
      (0 < len → ∃ b off, ao = some ⟨b, off, none⟩ ∧ b < w.heap.size ∧
        ∀ i, i < len → ∃ cs', cs'.length = e.size ∧ (∀ j, j < e.size → w.cell? ⟨b, off + (i * e.size + j), none⟩ = cs'[j]?) ∧ e.reads w cs')
  | .unit, cs => cs = []
  | .cons a b, cs => ∃ c d, cs = c ++ d ∧ a.reads w c ∧ b.reads w d
  | .agg s, cs => s.reads w cs

/-- the value of an argument of the shape -/
def Sh.Val (w : World) (sh : Sh) (v : Value) : Prop :=
  match sh with
  | .agg s => ∃ cs : Array Value, v = .agg cs ∧ s.reads w cs.toList
  | sh => sh.reads w [v]

section
variable {H : Type} {enc : TypeId × Value → H} {P : Program} {w : World} {spare : Nat → Bool} {held : Bool}

theorem cell_block {w : World} {a : Addr} {v : Value} (h : w.cell? a = some v) : a.block < w.heap.size := by
  rcases Nat.lt_or_ge a.block w.heap.size with h' | h'
  · exact h'
  · unfold World.cell? at h
    rw [Array.getElem?_eq_none h'] at h
    cases h

theorem addr_add (b off n : Nat) : (Addr.mk b off none).add n = ⟨b, off + n, none⟩ := by
  unfold Addr.add
  split <;> simp_all

theorem reads_of_trod : ∀ (sh : Sh),
    (∀ (t : TypeId) (fuel : Nat) (cs : List Value) (x : DataW H × List MemPlace), (sh.chk P).1 t = true → DataW.trod enc P w 0 spare held fuel t cs = some x → sh.reads w cs) ∧
    (∀ (l : List (Nat × TypeId)) (off fuel : Nat) (cs : List Value), (sh.chk P).2 l off = true → off + sh.size ≤ cs.length →
      (∀ q, q ∈ l → ∃ x, DataW.trod enc P w 0 spare held fuel q.2 ((cs.drop q.1).take (P.cellsOf q.2)) = some x) → sh.reads w ((cs.drop off).take sh.size)) := by
  intro sh
  induction sh with
  | int k =>
    refine ⟨fun t fuel cs x hc h => ?_, fun l off fuel cs hc => by simp [Sh.chk] at hc⟩
    cases hu : P.underlying t with
    | none => simp [Sh.chk, hu] at hc
    | some u =>
      simp only [Sh.chk, hu] at hc
      cases u <;> simp at hc
      subst hc
      obtain ⟨n, h1, _, h3⟩ := DataW.trod_int hu h
      exact ⟨n, h1, h3⟩
  | bool =>
    refine ⟨fun t fuel cs x hc h => ?_, fun l off fuel cs hc => by simp [Sh.chk] at hc⟩
    cases hu : P.underlying t with
    | none => simp [Sh.chk, hu] at hc
    | some u =>
      simp only [Sh.chk, hu] at hc
      cases u <;> simp at hc
      cases fuel with
      | zero => simp [DataW.trod] at h
      | succ n =>
        unfold DataW.trod at h
        rw [hu] at h
        split at h <;> simp_all
        exact ⟨_, rfl⟩
  | slice e ih =>
    refine ⟨fun t fuel cs x hc h => ?_, fun l off fuel cs hc => by simp [Sh.chk] at hc⟩
    cases hu : P.underlying t with
    | none => simp [Sh.chk, hu] at hc
    | some u =>
      simp only [Sh.chk, hu] at hc
      cases u <;> simp at hc
      rename_i te
      obtain ⟨hsz, hpos, hce⟩ := hc
      rcases Go.Deep.open_slice hu h with ⟨h1, _⟩ | ⟨a, len, cap, m, n, D, Pl, h1, _, hl, hm, hmm, _, hx⟩
      · exact ⟨none, 0, 0, h1, by omega, by unfold maxLen; omega, fun h => by omega⟩
      · have hlm : len ≤ m := by rw [hmm]; split <;> omega
        refine ⟨some a, len, cap, h1, hl, hm, fun h0 => ?_⟩
        obtain ⟨b, off, s⟩ := a
        obtain ⟨c0, g1, _⟩ := hx 0 (by omega)
        obtain ⟨_, g2, g3⟩ := World.cells?_some g1
        have g4 := g3 0 (by omega)
        have g5 : c0[0]? = some c0[0] := List.getElem?_eq_getElem (by omega)
        rw [g5] at g4
        have hb : b < w.heap.size := by
          have := cell_block g4
          simpa [Addr.add] using this
        have hs : s = none := by
          have := World.cell?_spot g4
          simpa [Addr.add] using this
        subst hs
        refine ⟨b, off, rfl, hb, fun i hi => ?_⟩
        obtain ⟨ci, k1, k2⟩ := hx i (by omega)
        obtain ⟨_, k3, k4⟩ := World.cells?_some k1
        refine ⟨ci, by rw [k3, hsz], fun j hj => ?_, ih.1 te n ci _ hce k2⟩
        have := k4 j (by omega)
        rw [addr_add, addr_add, hsz] at this
        rw [← this]
        congr 2
        omega
  | unit =>
    refine ⟨fun t fuel cs x hc => by simp [Sh.chk] at hc, fun l off fuel cs hc hl h => ?_⟩
    simp [Sh.reads, Sh.size]
  | cons a b iha ihb =>
    refine ⟨fun t fuel cs x hc => by simp [Sh.chk] at hc, fun l off fuel cs hc hl h => ?_⟩
    match l with
    | [] => simp [Sh.chk] at hc
    | (o, t) :: l =>
      simp [Sh.chk] at hc
      obtain ⟨⟨⟨rfl, h2⟩, h3⟩, h4⟩ := hc
      simp only [Sh.size] at hl ⊢
      obtain ⟨x, hx⟩ := h (o, t) (by simp)
      have r1 := iha.1 t fuel _ x h3 hx
      have r2 := ihb.2 l (o + a.size) fuel cs h4 (by omega) (fun q hq => h q (by simp [hq]))
      rw [h2] at r1
      refine ⟨_, _, ?_, r1, r2⟩
      rw [List.take_add, List.drop_drop, Nat.add_comm]
  | agg s ih =>
    refine ⟨fun t fuel cs x hc h => ?_, fun l off fuel cs hc => by simp [Sh.chk] at hc⟩
    cases hu : P.underlying t with
    | none => simp [Sh.chk, hu] at hc
    | some u =>
      simp only [Sh.chk, hu] at hc
      cases u <;> simp at hc
      · rename_i n te
        obtain ⟨hsz, hce⟩ := hc
        obtain ⟨xs, m, _, _, hl, hxs, hf⟩ := DataW.trod_array hu h
        have := ih.2 _ 0 m cs hce (by omega) (by
          intro q hq
          simp at hq
          obtain ⟨i, hi, rfl⟩ := hq
          have := hf i hi
          refine ⟨xs[i], ?_⟩
          rw [this]
          simp [hxs, hi])
        simp [← hsz, ← hl] at this
        exact this
      · rename_i fs
        obtain ⟨hsz, hce⟩ := hc
        obtain ⟨xs, n, _, _, hl, hxs, hf⟩ := DataW.trod_struct hu h
        have := ih.2 _ 0 n cs hce (by omega) (by
          intro q hq
          simp at hq
          obtain ⟨f, hf1, rfl⟩ := hq
          obtain ⟨i, hi', rfl⟩ := Array.getElem_of_mem hf1
          have := hf i fs[i] (by simp [hi'])
          refine ⟨xs[i], ?_⟩
          simp at this ⊢
          rw [this]
          simp [hxs, hi'])
        simp [← hsz, ← hl] at this
        exact this

theorem arg_val {sh : Sh} {r : Reach} {base : Nat} {t : TypeId} {v : Value} {d : DataW H} {p : List MemPlace} (hc : (sh.chk P).1 t = true)
    (hv : Value.okWide P w r base t v) (h : DataW.Trod enc P w 0 spare held t v d p) : sh.Val w v := by
  obtain ⟨fuel, hf⟩ := h
  have hr := (reads_of_trod sh).1 t fuel _ _ hc hf
  cases sh with
  | int k =>
    obtain ⟨n, h1, h2⟩ := hr
    cases hu : P.underlying t with
    | none => simp [Sh.chk, hu] at hc
    | some u =>
      simp only [Sh.chk, hu] at hc
      cases u <;> simp at hc
      subst hc
      obtain ⟨m, rfl⟩ := WideShapes.okWide_int hu hv
      exact ⟨n, by simpa [Value.cells] using h1, h2⟩
  | bool =>
    obtain ⟨n, h1⟩ := hr
    cases hu : P.underlying t with
    | none => simp [Sh.chk, hu] at hc
    | some u =>
      simp only [Sh.chk, hu] at hc
      cases u <;> simp at hc
      obtain ⟨m, rfl⟩ := WideShapes.okWide_bool hu hv
      exact ⟨n, by simpa [Value.cells] using h1⟩
  | slice e =>
    cases hu : P.underlying t with
    | none => simp [Sh.chk, hu] at hc
    | some u =>
      simp only [Sh.chk, hu] at hc
      cases u <;> simp at hc
      obtain ⟨a, l, c, rfl⟩ := WideShapes.okWide_slice hu hv
      exact hr
  | unit => simp [Sh.chk] at hc
  | cons a b => simp [Sh.chk] at hc
  | agg s =>
    cases hu : P.underlying t with
    | none => simp [Sh.chk, hu] at hc
    | some u =>
      simp only [Sh.chk, hu] at hc
      cases u <;> simp at hc
      all_goals
        simp only [Value.okWide, hu] at hv
        obtain ⟨cs, rfl, _⟩ := hv
        exact ⟨cs, rfl, hr⟩
end

/-! ### Opening -/
theorem Sh.val_int {w : World} {k : IntKind} {v : Value} (h : (Sh.int k).Val w v) : ∃ n, v = .int k n ∧ (Lit.int k n).wf = true := by
  obtain ⟨n, h1, h2⟩ := h
  exact ⟨n, by simpa using h1, h2⟩
theorem Sh.val_bool {w : World} {v : Value} (h : Sh.bool.Val w v) : ∃ b, v = .bool b := by
  obtain ⟨n, h1⟩ := h
  exact ⟨n, by simpa using h1⟩
theorem Sh.reads_int {w : World} {k : IntKind} {s : Sh} {cs : List Value} (h : (Sh.cons (.int k) s).reads w cs) : ∃ n d, cs = .int k n :: d ∧ (Lit.int k n).wf = true ∧ s.reads w d := by
  obtain ⟨c, d, h1, ⟨n, h2, h3⟩, h4⟩ := h
  exact ⟨n, d, by rw [h1, h2]; rfl, h3, h4⟩
theorem Sh.reads_slice {w : World} {e s : Sh} {cs : List Value} (h : (Sh.cons (.slice e) s).reads w cs) : ∃ v d, cs = v :: d ∧ (Sh.slice e).Val w v ∧ s.reads w d := by
  obtain ⟨c, d, h1, h2, h4⟩ := h
  obtain ⟨ao, len, cap, h5, h6⟩ := h2
  exact ⟨_, d, by rw [h1, h5]; rfl, ⟨ao, len, cap, rfl, h6⟩, h4⟩
theorem Sh.reads_agg {w : World} {e s : Sh} {cs : List Value} (h : (Sh.cons (.agg e) s).reads w cs) : ∃ c d, cs = c ++ d ∧ e.reads w c ∧ s.reads w d := h
theorem Sh.reads_unit {w : World} {cs : List Value} (h : Sh.unit.reads w cs) : cs = [] := h
theorem agg_of_list {cs : Array Value} {l : List Value} (h : cs.toList = l) : cs = l.toArray := by rw [← h]
end Go.Proofs.Ytbghchgmoiniiaa
