import Derived.Test.YtfeficdndjiijaaGreatDoorQwe
import Derived.Deep.MidRow
import Derived.Test.YtfeficdndjiijaaGreatDoorQwf
import Derived.Lib.Builder
import Derived.Lib.AppendStr
import Derived.Lib.UnsafeStr
import Derived.Laws.Externs
import Derived.Test.YtfeficdndjiijaaGreatDoorQwg
import Derived.Test.YtfeficdndjiijaaGreatDoorQwh
import Derived.Test.YtfeficdndjiijaaGreatDoorQwm
import Derived.Test.YtfeficdndjiijaaGreatDoorQwi
import Derived.Test.YtfeficdndjiijaaGreatDoorQwn
import Derived.WalkMore
import Derived.Test.YtfeficdndjiijaaGreatDoorQwj
/-
  Contracts of the functions that TopWire reaches, and the plain laws that it leans on. Conditions: none beyond those stated at each theorem.
-/
namespace Go.Proofs.YtfeficdndjiijaaGreatDoor
open Go.RowKit
set_option linter.unusedVariables false
set_option linter.unusedSimpArgs false

def toldR (pt : Nat → Nat → Int) (least : Int) (n : Nat) (row : List Nat) : List Nat := row.filter fun i => decide (least ≤ pt n i)
def kids (l : List Nat) : List Nat := l.flatMap fun i => [2 * i, 2 * i + 1]
def rowAt (pt : Nat → Nat → Int) (least : Int) (b : Nat) : Nat → List Nat
  | 0 => [0]
  | j + 1 => kids (toldR pt least (b - j) (rowAt pt least b j))
def askedUp (pt : Nat → Nat → Int) (least : Int) (b : Nat) : Nat → Nat
  | 0 => 0
  | j + 1 => askedUp pt least b j + (rowAt pt least b j).length
def foundR (pt : Nat → Nat → Int) (least : Int) (n : Nat) (row : List Nat) : List (Nat × Nat) := (toldR pt least n row).map fun i => (n, i)
def hvOut (pt : Nat → Nat → Int) (least : Int) (b : Nat) : Nat → List (Nat × Nat)
  | 0 => []
  | j + 1 => hvOut pt least b j ++ foundR pt least (b - j) (rowAt pt least b j)
theorem kids_len (l : List Nat) : (kids l).length = 2 * l.length := by
  induction l with
  | nil => rfl
  | cons a l ih => simp [kids] at ih ⊢; omega
theorem toldR_le (pt : Nat → Nat → Int) (least : Int) (n : Nat) (row : List Nat) : (toldR pt least n row).length ≤ row.length := List.length_filter_le _ _
theorem mem_kids {l : List Nat} {i : Nat} : i ∈ kids l ↔ i / 2 ∈ l := by
  unfold kids
  rw [List.mem_flatMap]
  constructor
  · rintro ⟨a, ha, h⟩
    simp at h
    rcases h with rfl | rfl
    · rwa [show 2 * a / 2 = a by omega]
    · rwa [show (2 * a + 1) / 2 = a by omega]
  · intro h
    refine ⟨i / 2, h, ?_⟩
    simp
    omega
theorem rowAt_lt (pt : Nat → Nat → Int) (least : Int) (b : Nat) : ∀ (j i : Nat), i ∈ rowAt pt least b j → i < 2 ^ j
  | 0, i, h => by simp [rowAt] at h; subst h; decide
  | j + 1, i, h => by
    rw [rowAt, mem_kids] at h
    have h2 := rowAt_lt pt least b j (i / 2) (List.mem_filter.1 h).1
    rw [Nat.pow_succ]
    omega
theorem askedUp_mono (pt : Nat → Nat → Int) (least : Int) (b : Nat) {j k : Nat} (h : j ≤ k) : askedUp pt least b j ≤ askedUp pt least b k := by
  induction h with
  | refl => exact Nat.le_refl _
  | step _ ih => exact Nat.le_trans ih (by rw [askedUp]; omega)
theorem hvOut_len (pt : Nat → Nat → Int) (least : Int) (b : Nat) : ∀ j, (hvOut pt least b j).length ≤ askedUp pt least b j
  | 0 => Nat.le_refl _
  | j + 1 => by
    rw [hvOut, askedUp, List.length_append, foundR, List.length_map]
    have := hvOut_len pt least b j
    have := toldR_le pt least (b - j) (rowAt pt least b j)
    omega
end Go.Proofs.YtfeficdndjiijaaGreatDoor


namespace Go.Proofs.YtfeficdndjiijaaGreatDoor
open Go.RowKit
set_option linter.unusedVariables false
set_option linter.unusedSimpArgs false

def pcCells (n : Nat) (l : List Nat) : List Value := l.flatMap fun (i : Nat) => [.int .i64 (n : Int), .int .u64 (i : Int)]
def fdCells (pt : Nat → Nat → Int) (l : List (Nat × Nat)) : List Value := l.flatMap fun p => [.int .i64 (p.1 : Int), .int .u64 (p.2 : Int), .int .i64 (pt p.1 p.2)]
theorem pcCells_get {n : Nat} : ∀ {l : List Nat} {t i : Nat}, l[t]? = some i → (pcCells n l)[2 * t]? = some (.int .i64 (n : Int)) ∧ (pcCells n l)[2 * t + 1]? = some (.int .u64 (i : Int))
  | [], t, i, h => by simp at h
  | a :: l, 0, i, h => by simp at h; subst h; simp [pcCells]
  | a :: l, t + 1, i, h => by
    have := pcCells_get (n := n) (l := l) (t := t) (i := i) (by simpa using h)
    rw [show 2 * (t + 1) = 2 * t + 2 by omega, show 2 * t + 2 + 1 = 2 * t + 1 + 2 by omega]
    have e : pcCells n (a :: l) = [.int .i64 (n : Int), .int .u64 (a : Int)] ++ pcCells n l := by simp [pcCells]
    rw [e, List.getElem?_append_right (by simp), List.getElem?_append_right (by simp)]
    simpa using this
theorem fdCells_get {pt : Nat → Nat → Int} : ∀ {l : List (Nat × Nat)} {t : Nat} {p : Nat × Nat}, l[t]? = some p → (fdCells pt l)[3 * t]? = some (.int .i64 (p.1 : Int)) ∧ (fdCells pt l)[3 * t + 1]? = some (.int .u64 (p.2 : Int)) ∧ (fdCells pt l)[3 * t + 2]? = some (.int .i64 (pt p.1 p.2))
  | [], t, p, h => by simp at h
  | a :: l, 0, p, h => by simp at h; subst h; simp [fdCells]
  | a :: l, t + 1, p, h => by
    have := fdCells_get (pt := pt) (l := l) (t := t) (p := p) (by simpa using h)
    rw [show 3 * (t + 1) = 3 * t + 3 by omega, show 3 * t + 3 + 1 = 3 * t + 1 + 3 by omega, show 3 * t + 3 + 2 = 3 * t + 2 + 3 by omega]
    have e : fdCells pt (a :: l) = [.int .i64 (a.1 : Int), .int .u64 (a.2 : Int), .int .i64 (pt a.1 a.2)] ++ fdCells pt l := by simp [fdCells]
    rw [e, List.getElem?_append_right (by simp), List.getElem?_append_right (by simp), List.getElem?_append_right (by simp)]
    simpa using this
def PcOwn (w : World) (base : Nat) (v : Value) (n : Nat) (l : List Nat) : Prop := w.ownsRow base 155 2 v l.length (pcCells n l)
def FdOwn (w : World) (base : Nat) (v : Value) (pt : Nat → Nat → Int) (l : List (Nat × Nat)) : Prop := w.ownsRow base 157 3 v l.length (fdCells pt l)
theorem own_cells {w : World} {base : Nat} {e : TypeId} {size : Nat} {v : Value} {n : Nat} {xs : List Value} (h : w.ownsRow base e size v n xs) (h0 : 0 < n) : ∃ g cap, v = .slice (some ⟨g, 0, none⟩) n cap ∧ base ≤ g ∧ g < w.heap.size ∧ n ≤ cap ∧ cap ≤ maxLen ∧ ∀ (j : Nat) (u : Value), xs[j]? = some u → w.cell? ⟨g, j, none⟩ = some u := by
  have hlt := h.lt
  have hc := fun (g : Nat) hg => h.cells (g := g) hg
  rcases h.2 with ⟨-, h1⟩ | ⟨g, cap, cur, rfl, hb, hg, hn, hm, hs, ht⟩
  · omega
  · refine ⟨g, cap, rfl, hb, (hlt g rfl).2, hn, hm, fun j u hu => ?_⟩
    have := hc g rfl j u hu
    rwa [Addr.add_mid, Nat.zero_add] at this
theorem own_mono {w : World} {base base' : Nat} {e : TypeId} {size : Nat} {v : Value} {n : Nat} {xs : List Value} (h : w.ownsRow base e size v n xs) (hb : base' ≤ base) : w.ownsRow base' e size v n xs :=
  ⟨h.1, h.2.imp id fun ⟨g, cap, cur, h1, h2, h3⟩ => ⟨g, cap, cur, h1, Nat.le_trans hb h2, h3⟩⟩
theorem own_open {w : World} {base : Nat} {e : TypeId} {size : Nat} {v : Value} {n : Nat} {xs : List Value} (h : w.ownsRow base e size v n xs) : ∃ ao cap, v = .slice ao n cap ∧ n ≤ cap ∧ cap ≤ maxLen := by
  rcases h.2 with ⟨rfl, rfl⟩ | ⟨g, cap, cur, h1, h2, h3, h4, h5, -⟩
  · exact ⟨none, 0, rfl, Nat.le_refl _, by unfold maxLen; omega⟩
  · exact ⟨_, cap, h1, h4, h5⟩
theorem PcOwn.range {w : World} {base : Nat} {v : Value} {n : Nat} {l : List Nat} (h : PcOwn w base v n l) {t i : Nat} (ht : l[t]? = some i) : ∃ g cap, v = .slice (some ⟨g, 0, none⟩) l.length cap ∧ base ≤ g ∧ g < w.heap.size ∧ l.length ≤ cap ∧ cap ≤ maxLen ∧ w.rangeAt g (t * 2) [.int .i64 (n : Int), .int .u64 (i : Int)] := by
  have hl : t < l.length := (List.getElem?_eq_some_iff.1 ht).1
  obtain ⟨g, cap, h1, h2, h3, h4, h5, h6⟩ := own_cells h (by omega)
  obtain ⟨g0, g1⟩ := pcCells_get (n := n) ht
  rw [Nat.mul_comm 2 t] at g0 g1
  refine ⟨g, cap, h1, h2, h3, h4, h5, fun j u hu => ?_⟩
  match j, hu with
  | 0, hu => simp at hu; subst hu; simpa using h6 _ _ g0
  | 1, hu => simp at hu; subst hu; exact h6 _ _ g1
  | j + 2, hu => simp at hu
theorem FdOwn.range {w : World} {base : Nat} {v : Value} {pt : Nat → Nat → Int} {l : List (Nat × Nat)} (h : FdOwn w base v pt l) {t : Nat} {p : Nat × Nat} (ht : l[t]? = some p) : ∃ g cap, v = .slice (some ⟨g, 0, none⟩) l.length cap ∧ base ≤ g ∧ g < w.heap.size ∧ l.length ≤ cap ∧ cap ≤ maxLen ∧ w.rangeAt g (t * 3) [.int .i64 (p.1 : Int), .int .u64 (p.2 : Int), .int .i64 (pt p.1 p.2)] := by
  have hl : t < l.length := (List.getElem?_eq_some_iff.1 ht).1
  obtain ⟨g, cap, h1, h2, h3, h4, h5, h6⟩ := own_cells h (by omega)
  obtain ⟨g0, g1, g2⟩ := fdCells_get (pt := pt) ht
  rw [Nat.mul_comm 3 t] at g0 g1 g2
  refine ⟨g, cap, h1, h2, h3, h4, h5, fun j u hu => ?_⟩
  match j, hu with
  | 0, hu => simp at hu; subst hu; simpa using h6 _ _ g0
  | 1, hu => simp at hu; subst hu; exact h6 _ _ g1
  | 2, hu => simp at hu; subst hu; exact h6 _ _ g2
  | j + 3, hu => simp at hu
theorem own_kept {w w' : World} {base : Nat} {e : TypeId} {size : Nat} {v : Value} {n : Nat} {xs : List Value} (h : w.ownsRow base e size v n xs) (hb : Below w.heap.size w w') : w'.ownsRow base e size v n xs :=
  World.ownsRow.kept h (row := none) ⟨hb.os, hb.tape, hb.output, hb.size, fun k hk _ => hb.block k hk⟩ (by cases v.ownBlock <;> simp)
theorem PcOwn.kept {w w' : World} {base : Nat} {v : Value} {n : Nat} {l : List Nat} (h : PcOwn w base v n l) (hb : Below w.heap.size w w') : PcOwn w' base v n l := own_kept h hb
theorem FdOwn.kept {w w' : World} {base : Nat} {v : Value} {pt : Nat → Nat → Int} {l : List (Nat × Nat)} (h : FdOwn w base v pt l) (hb : Below w.heap.size w w') : FdOwn w' base v pt l := own_kept h hb
theorem own_gr {w w' : World} {base : Nat} {e : TypeId} {size : Nat} {v : Value} {n : Nat} {xs : List Value} (h : w.ownsRow base e size v n xs) {row : Option Nat} (hg : w.grownBy w' row) (hne : ∀ k, v.ownBlock = some k → row ≠ some k) : w'.ownsRow base e size v n xs :=
  World.ownsRow.kept h hg (by
    cases hv : v.ownBlock with
    | none => exact .inl rfl
    | some k => exact .inr (fun e => hne k hv e.symm))
theorem pcCells_append (n : Nat) (l m : List Nat) : pcCells n (l ++ m) = pcCells n l ++ pcCells n m := by simp [pcCells]
theorem fdCells_append (pt : Nat → Nat → Int) (l m : List (Nat × Nat)) : fdCells pt (l ++ m) = fdCells pt l ++ fdCells pt m := by simp [fdCells]
theorem toldR_snoc {pt : Nat → Nat → Int} {least : Int} {n : Nat} {l : List Nat} {t x : Nat} (h : l[t]? = some x) : toldR pt least n (l.take (t + 1)) = toldR pt least n (l.take t) ++ (if least ≤ pt n x then [x] else []) := by
  rw [List.take_add_one, h, toldR, List.filter_append]
  unfold toldR
  congr 1
  simp [List.filter]
  split <;> split <;> simp_all
theorem foundR_snoc {pt : Nat → Nat → Int} {least : Int} {n : Nat} {l : List Nat} {t x : Nat} (h : l[t]? = some x) : foundR pt least n (l.take (t + 1)) = foundR pt least n (l.take t) ++ (if least ≤ pt n x then [(n, x)] else []) := by
  unfold foundR
  rw [toldR_snoc h, List.map_append]
  congr 1
  split <;> rfl
theorem kids_snoc {pt : Nat → Nat → Int} {least : Int} {n : Nat} {l : List Nat} {t x : Nat} (h : l[t]? = some x) : kids (toldR pt least n (l.take (t + 1))) = kids (toldR pt least n (l.take t)) ++ (if least ≤ pt n x then [2 * x, 2 * x + 1] else []) := by
  rw [toldR_snoc h]
  unfold kids
  rw [List.flatMap_append]
  congr 1
  split <;> simp
theorem cells_new {w : World} {cs : Array Value} {t : TypeId} (vs : List Value) (hv : vs = cs.toList) : ∀ (j : Nat) (u : Value), vs[j]? = some u → (w.alloc (.cells cs t)).cell? ((⟨w.heap.size, 0, none⟩ : Addr).add j) = some u := fun j u hu => by
  subst hv
  rw [Addr.add_mid, Nat.zero_add, (Blk.new w t cs).cell j]
  simpa using hu
theorem cells_new' {w : World} {cs : Array Value} {t : TypeId} {b : Nat} (vs : List Value) (hv : vs = cs.toList) (hb : b = w.heap.size) : ∀ (j : Nat) (u : Value), vs[j]? = some u → (w.alloc (.cells cs t)).cell? ((⟨b, 0, none⟩ : Addr).add j) = some u := by
  subst hb
  exact cells_new vs hv
theorem own_far {w : World} {base : Nat} {e t : TypeId} {size : Nat} {v : Value} {n : Nat} {xs : List Value} {b : Nat} {cs : Array Value} (h : w.ownsRow base e size v n xs) (hb : Blk w b t cs) (hne : t ≠ e) : some b ≠ v.ownBlock := by
  intro e1
  rcases h.2 with ⟨rfl, _⟩ | ⟨g, cap, cur, rfl, _, hg, _⟩
  · simp [Value.ownBlock] at e1
  · simp only [Value.ownBlock] at e1
    have e2 : b = g := Option.some.inj e1
    subst e2
    have : Obj.cells cs t (0, 0) = Obj.cells cur e (0, 0) := Option.some.inj ((show w.heap[b]? = some (.cells cs t (0, 0)) from hb).symm.trans hg)
    injection this with h1 h2
    exact hne h2
theorem FdOwn.push {w : World} {base : Nat} {v : Value} {pt : Nat → Nat → Int} {l l' : List (Nat × Nat)} {n x N : Nat} (hl : l' = l ++ [(n, x)]) (hN : N = l.length) (h : w.ownsRow base 157 3 v (N + 1) (fdCells pt l ++ [.int .i64 (n : Int), .int .u64 (x : Int), .int .i64 (pt n x)])) : FdOwn w base v pt l' := by
  subst hl hN
  unfold FdOwn
  rw [fdCells_append, List.length_append]
  exact h
theorem PcOwn.push2 {w : World} {base : Nat} {v : Value} {n : Nat} {l l' : List Nat} {x y N : Nat} (hl : l' = l ++ [x, y]) (hN : N = l.length) (h : w.ownsRow base 155 2 v (N + 2) (pcCells n l ++ [.int .i64 (n : Int), .int .u64 (x : Int), .int .i64 (n : Int), .int .u64 (y : Int)])) : PcOwn w base v n l' := by
  subst hl hN
  unfold PcOwn
  rw [pcCells_append, List.length_append]
  exact h
theorem Tryz.infoFd : (Tryz.prog.info? 157).map (fun i => (i.zero, i.size, i.bytes)) = some (some (.agg #[.int .i64 0, .int .u64 0, .int .i64 0]), 3, 24) := by kernel_rfl
theorem Tryz.infoPc : (Tryz.prog.info? 155).map (fun i => (i.zero, i.size, i.bytes)) = some (some (.agg #[.int .i64 0, .int .u64 0]), 2, 16) := by kernel_rfl
end Go.Proofs.YtfeficdndjiijaaGreatDoor


namespace Go.Proofs.YtfeficdndjiijaaGreatDoor
open Go.RowKit
set_option linter.unusedVariables false
set_option linter.unusedSimpArgs false

theorem Tryz.bldSize : (Tryz.prog.info? 132).map (·.size) = some 2 := by kernel_rfl
theorem Tryz.bldLies : liesAt Tryz.prog Tryz.prog.depth 132 (2 / Tryz.prog.cellsOf 132) 0 132 1 = true := by kernel_rfl
theorem Tryz.byteInfo : (Tryz.prog.info? 5).map (fun i => (i.zero, i.size, i.bytes)) = some (some (.int .u8 0), 1, 1) := by kernel_rfl
set_option maxRecDepth 100000 in
set_option maxHeartbeats 4000000 in
theorem cc_used (b : Nat) (w : World) (h0 : w.cell? ⟨b, 0, none⟩ = some (.pointer (some ⟨b, 0, none⟩))) :
    Calls Tryz.prog 105 #[.pointer (some ⟨b, 0, none⟩)] w fun e w' => e = .returned (.tuple #[]) ∧ w' = w := by
  obtain ⟨j, hj, _⟩ := Option.map_eq_some_iff.1 Tryz.bldSize
  go_enter Tryz.func105, Tryz.ntmps105
  go_wp2
  rw [Lib.run_neq_ptr_same w _ Tryz.underlying130 hj]
  go_wp2
  go_end0
  exact ⟨rfl, rfl⟩
set_option maxRecDepth 100000 in
set_option maxHeartbeats 4000000 in
theorem cc_fresh (b : Nat) (w : World) (h0 : w.cell? ⟨b, 0, none⟩ = some (.pointer none)) (hsh : w.shape? b = some (132, 2)) (hfz : w.frozen? ⟨b, 0, none⟩ = false) :
    Calls Tryz.prog 105 #[.pointer (some ⟨b, 0, none⟩)] w fun e w' => e = .returned (.tuple #[]) ∧ w' = w.setCell ⟨b, 0, none⟩ (.pointer (some ⟨b, 0, none⟩)) := by
  obtain ⟨j, hj, hjs⟩ := Option.map_eq_some_iff.1 Tryz.bldSize
  go_enter Tryz.func105, Tryz.ntmps105
  go_wp2
  rw [Lib.run_to_unsafe w ⟨b, 0, none⟩ Tryz.underlying130 Tryz.underlying267 hj (by rw [hjs]; decide) hsh (Nat.zero_lt_succ 1)]
  simp only [Result.andThen]
  rw [Oper.upon_value]
  go_wp2
  rw [run_callFunc_extern Tryz.func147 (by kernel_rfl) (by kernel_rfl) (by kernel_rfl) (e := Extern.AbiNoEscape.same) (by kernel_rfl)]
  rw [Lib.run_noEscape]
  simp only [Result.andThen]
  rw [Oper.upon_value]
  go_wp2
  rw [Lib.run_from_unsafe w ⟨b, 0, none⟩ Tryz.underlying267 Tryz.underlying130 hj hsh Tryz.bldLies]
  simp only [Result.andThen]
  rw [Oper.upon_value]
  go_wp2
  go_end0
  exact ⟨rfl, rfl⟩
def OthB (b : Nat) (w w' : World) : Prop := ∀ (k : Nat) (t : TypeId) (cs : Array Value), Blk w k t cs → k ≠ b → t ≠ 5 → Blk w' k t cs
theorem OthB.trans {b : Nat} {w w1 w2 : World} (h : OthB b w w1) (k : OthB b w1 w2) : OthB b w w2 := fun x t cs hx h1 h2 => k x t cs (h x t cs hx h1 h2) h1 h2
theorem OthB.below {b : Nat} {w w' : World} (h : Below w.heap.size w w') : OthB b w w' := fun x t cs hx h1 h2 => hx.kept h
theorem OthB.setC (w : World) (b j : Nat) (u : Value) : OthB b w (w.setCell ⟨b, j, none⟩ u) := fun x t cs hx h1 h2 => (Below.heap_setCell _ _ _ _ (by intro e; exact h1 (by simpa using e))).trans hx
theorem OthB.own {b base n : Nat} {w w' : World} {v : Value} {xs : List Value} (ho : w.ownsRow base 5 1 v n xs) (hg : w.grownBy w' v.ownBlock) : OthB b w w' := fun x t cs hx h1 h2 => hx.grown hg (own_far ho hx h2)
abbrev IsBld (B b : Nat) (bs : List UInt8) (w : World) : Prop := Lib.IsBuilder 132 5 B b (Lib.byteCells bs) w
theorem cc_any (B b : Nat) (bs : List Value) (w : World) (h : Lib.IsBuilder 132 5 B b bs w) :
    Calls Tryz.prog 105 #[.pointer (some ⟨b, 0, none⟩)] w fun e w' => e = .returned (.tuple #[]) ∧ (Lib.BuilderAt 132 5 B b (.pointer (some ⟨b, 0, none⟩)) bs w' ∧ Below B w w' ∧ OthB b w w') := by
  rcases h with h | h
  · refine (cc_fresh b w h.cell0 h.shape h.frozen0).mono ?_
    rintro e w' ⟨rfl, rfl⟩
    exact ⟨rfl, h.used _, (Below.refl B w).setCell (p := ⟨b, 0, none⟩) h.1 _, OthB.setC _ _ _ _⟩
  · refine (cc_used b w h.cell0).mono ?_
    rintro e w' ⟨rfl, rfl⟩
    exact ⟨rfl, h, Below.refl B _, fun _ _ _ h _ _ => h⟩
set_option maxRecDepth 100000 in
set_option maxHeartbeats 4000000 in
theorem wstr_any (B b : Nat) (bs : List UInt8) (s : List UInt8) (w : World) (h : IsBld B b bs w) (hlen : bs.length + s.length ≤ 140737488355328) (hBw : B ≤ w.heap.size) :
  Calls Tryz.prog 56 #[.pointer (some ⟨b, 0, none⟩), .string (sB s)] w fun e w' => e = .returned (.tuple #[.int .i64 (s.length : Int), .nilIface]) ∧ IsBld B b (bs ++ s) w' ∧ Below B w w' ∧ OthB b w w' := by
 obtain ⟨i0, hi, hz0, hz1, hz2⟩ := info_parts Tryz.byteInfo
 have hsl : (sB s).size = s.length := sB_size s
 have hcs : Lib.strCells (sB s) = Lib.byteCells s := rfl
 obtain ⟨S, hS⟩ : ∃ S, S = sB s := ⟨_, rfl⟩
 rw [← hS] at hsl hcs ⊢
 have HSL := Lib.hid (And.intro hsl hcs)
 obtain ⟨bc, hbc⟩ : ∃ bc, bc = Lib.byteCells bs := ⟨_, rfl⟩
 have hbl : bc.length = bs.length := by rw [hbc, Lib.byteCells_length]
 have HBC := Lib.hid hbc
 unfold IsBld at h ⊢
 rw [← hbc] at h
 have PC := Lib.hid (cc_any B b bc w h)
 have hlen' : bc.length + S.size ≤ 140737488355328 := by omega
 clear hS hbc hsl hcs hbl hlen
 go_enter Tryz.func56, Tryz.ntmps56
 go_wp2_with fail
 with_reducible refine PC.out.mono ?_
 rintro e w1 ⟨rfl, h1, hb1, hob⟩
 have HOB := Lib.hid hob
 clear hob
 obtain ⟨hB, v, hbk, hown, hne⟩ := h1
 have c0 : w1.cell? ⟨b, 0, none⟩ = some (.pointer (some ⟨b, 0, none⟩)) := by rw [Lib.cell_of_heap hbk]; rfl
 have c1 : w1.cell? ⟨b, 1, none⟩ = some v := by rw [Lib.cell_of_heap hbk]; rfl
 clear h PC
 go_wp2_with (at_builtin; refine Lib.wpList_append_own_string _ rfl _ _ 41 9 rfl B 5 i0 Tryz.underlying41 Tryz.underlying9 hi hz0 hz1 hz2 _ _ _ rfl hown S rfl ?c3 ?c4 ?c5 ?_)
 case c3 => unfold maxLen; omega
 case c4 => omega
 case c5 => have := hb1.size; omega
 intro v' w2 hown' hgrow _
 have hlt : b < w1.heap.size := by
  rcases Nat.lt_or_ge b w1.heap.size with h' | h'
  ·exact h'
  ·simp [Array.getElem?_eq_none h'] at hbk
 have hb2 : w2.heap[b]? = some (.cells #[.pointer (some ⟨b, 0, none⟩), v] 132 (0, 0)) := by
  rw [hgrow.block b hlt (fun e => hne e.symm)]
  exact hbk
 have d0 : w2.cell? ⟨b, 0, none⟩ = some (.pointer (some ⟨b, 0, none⟩)) := by rw [Lib.cell_of_heap hb2]; rfl
 have d1 : w2.cell? ⟨b, 1, none⟩ = some v := by rw [Lib.cell_of_heap hb2]; rfl
 have f1 : w2.frozen? ⟨b, 1, none⟩ = false := Lib.frozen_of_heap hb2 1
 obtain ⟨ao, n', cap, rfl⟩ : ∃ ao n' cap, v' = .slice ao n' cap := by
  rcases hown'.2 with ⟨hv, _⟩ | ⟨g, cap, cur, hv, _⟩
  ·exact ⟨_, _, _, hv⟩
  ·exact ⟨_, _, _, hv⟩
 go_wp2
 go_ret2
 refine ⟨by rw [HSL.out.1]; rfl, .inr ?_, ?_, ?_⟩
 ·have hc : Lib.byteCells (bs ++ s) = bc ++ Lib.strCells S := by rw [HBC.out, HSL.out.2]; simp [Lib.byteCells]
  rw [hc]
  exact Lib.BuilderAt.put (T := 132) (e := 5) hB hb2 (bs' := bc ++ Lib.strCells S) (by simpa [Lib.strCells_length] using hown') (by decide)
 ·exact (hb1.grown hgrow (by have := hb1.size; omega) (fun k hk => (hown.lt k hk).1)).setCell (p := ⟨b, 1, none⟩) hB _
 ·exact (HOB.out.trans (OthB.own hown hgrow)).trans (OthB.setC _ _ _ _)
set_option maxRecDepth 100000 in
set_option maxHeartbeats 4000000 in
theorem wbyte_any (B b : Nat) (bs : List UInt8) (c : UInt8) (w : World) (h : IsBld B b bs w) (hlen : bs.length + 1 ≤ 140737488355328) (hBw : B ≤ w.heap.size) :
  Calls Tryz.prog 57 #[.pointer (some ⟨b, 0, none⟩), .int .u8 (c.toNat : Int)] w fun e w' => e = .returned .nilIface ∧ IsBld B b (bs ++ [c]) w' ∧ Below B w w' ∧ OthB b w w' := by
 obtain ⟨i0, hi, hz0, hz1, hz2⟩ := info_parts Tryz.byteInfo
 obtain ⟨q, hq⟩ : ∃ q : Int, q = (c.toNat : Int) := ⟨_, rfl⟩
 rw [← hq]
 have HQ := Lib.hid hq
 obtain ⟨bc, hbc⟩ : ∃ bc, bc = Lib.byteCells bs := ⟨_, rfl⟩
 have hbl : bc.length = bs.length := by rw [hbc, Lib.byteCells_length]
 have HBC := Lib.hid hbc
 unfold IsBld at h ⊢
 rw [← hbc] at h
 have PC := Lib.hid (cc_any B b bc w h)
 have hlen' : bc.length + 1 ≤ 140737488355328 := by omega
 clear hbc hbl hlen hq
 go_enter Tryz.func57, Tryz.ntmps57
 go_wp2_with fail
 with_reducible refine PC.out.mono ?_
 rintro e w1 ⟨rfl, h1, hb1, hob⟩
 have HOB := Lib.hid hob
 clear hob
 obtain ⟨hB, v, hbk, hown, hne⟩ := h1
 have c0 : w1.cell? ⟨b, 0, none⟩ = some (.pointer (some ⟨b, 0, none⟩)) := by rw [Lib.cell_of_heap hbk]; rfl
 have c1 : w1.cell? ⟨b, 1, none⟩ = some v := by rw [Lib.cell_of_heap hbk]; rfl
 clear h PC
 go_wp2_with (at_builtin; refine wpList_append_own _ rfl _ _ 41 rfl B 5 i0 (.int .u8 0) 1 1 Tryz.underlying41 hi hz0 hz1 hz2 rfl (by decide) _ _ _ rfl (hown.alloc _) ⟨w1.heap.size, 0, none⟩ 1 1 [.int .u8 q] rfl rfl ?c1 ?c2 ?c3 ?c4 ?c5 ?_)
 case c1 =>
  intro j u hj
  match j, hj with
  | 0, hj => simp at hj; subst hj; simp [Addr.add]
 case c2 => intro u hu; simp at hu; subst hu; rfl
 case c3 => unfold maxLen; omega
 case c4 => omega
 case c5 => have := hb1.size; simp; omega
 intro v' w2 hown' hgrow _
 have hlt : b < w1.heap.size := by
  rcases Nat.lt_or_ge b w1.heap.size with h' | h'
  ·exact h'
  ·simp [Array.getElem?_eq_none h'] at hbk
 have hb2 : w2.heap[b]? = some (.cells #[.pointer (some ⟨b, 0, none⟩), v] 132 (0, 0)) := by
  rw [hgrow.block b (by simp; omega) (fun e => hne e.symm), Lib.alloc_old w1 _ b hlt]
  exact hbk
 have d0 : w2.cell? ⟨b, 0, none⟩ = some (.pointer (some ⟨b, 0, none⟩)) := by rw [Lib.cell_of_heap hb2]; rfl
 have d1 : w2.cell? ⟨b, 1, none⟩ = some v := by rw [Lib.cell_of_heap hb2]; rfl
 have f1 : w2.frozen? ⟨b, 1, none⟩ = false := Lib.frozen_of_heap hb2 1
 obtain ⟨g, cap, rfl⟩ : ∃ g cap, v' = .slice (some ⟨g, 0, none⟩) (bc.length + 1) cap := by
  rcases hown'.2 with ⟨_, h0⟩ | ⟨g, cap, cur, hv, _⟩
  ·omega
  ·exact ⟨g, cap, hv⟩
 go_wp2
 go_ret
 refine ⟨rfl, .inr ?_, ?_, ?_⟩
 ·have hc : Lib.byteCells (bs ++ [c]) = bc ++ [.int .u8 q] := by rw [HBC.out, HQ.out]; simp [Lib.byteCells]
  rw [hc]
  exact Lib.BuilderAt.put (T := 132) (e := 5) hB hb2 (bs' := bc ++ [.int .u8 q]) (by simpa using hown') (by decide)
 ·exact ((hb1.alloc (by have := hb1.size; omega) _).grown hgrow (by have := hb1.size; simp; omega) (fun k hk => (hown.lt k hk).1)).setCell (p := ⟨b, 1, none⟩) hB _
 ·exact (HOB.out.trans ((OthB.below ((Below.refl _ w1).alloc (Nat.le_refl _) _)).trans (OthB.own (hown.alloc _) hgrow))).trans (OthB.setC _ _ _ _)
theorem bstring (B b : Nat) (bs : List UInt8) (w : World) (h : IsBld B b bs w) (hBw : B ≤ w.heap.size) :
    Calls Tryz.prog 58 #[.pointer (some ⟨b, 0, none⟩)] w fun e w' => e = .returned (.string (sB bs)) ∧ Below B w w' := Tryz.Builder_String_any B b bs w h hBw
end Go.Proofs.YtfeficdndjiijaaGreatDoor


namespace Go.Proofs.YtfeficdndjiijaaGreatDoor
open Go.RowKit
set_option linter.unusedVariables false
set_option linter.unusedSimpArgs false

theorem IsBld.kept {B b : Nat} {bs : List UInt8} {w w' : World} (h : IsBld B b bs w) (hb : Below w.heap.size w w') : IsBld B b bs w' := by
  have key : ∀ p, Lib.BuilderAt 132 5 B b p (Lib.byteCells bs) w → Lib.BuilderAt 132 5 B b p (Lib.byteCells bs) w' := fun p hp => by
    have hlt := hp.lt
    obtain ⟨hB, v, hk, ho, hn⟩ := hp
    exact ⟨hB, v, (hb.block b hlt).trans hk, own_kept ho hb, hn⟩
  rcases h with h | h
  · exact .inl (key _ h)
  · exact .inr (key _ h)
def foundT (pt : Nat → Nat → Int) (p : Nat × Nat) : List UInt8 := [32] ++ Lib.itoa (p.1 : Int) ++ [58] ++ Lib.decDigits p.2 ++ [58] ++ Lib.itoa (pt p.1 p.2)
def listT (pt : Nat → Nat → Int) (l : List (Nat × Nat)) : List UInt8 := [108, 105, 115, 116] ++ l.flatMap (foundT pt)
theorem foundT_len (pt : Nat → Nat → Int) (p : Nat × Nat) (h1 : p.1 < 100) (h2 : p.2 < 100) (h3 : In64 (pt p.1 p.2)) : (foundT pt p).length ≤ 100 := by
  have a1 := Lib.itoa_length_le (p.1 : Int) (by omega) (by omega)
  have a2 := dec_len p.2 (by omega)
  have a3 := Lib.itoa_length_le (pt p.1 p.2) h3.1 h3.2
  simp [foundT]
  omega
theorem listT_len (pt : Nat → Nat → Int) (l : List (Nat × Nat)) (h : ∀ p ∈ l, p.1 < 100 ∧ p.2 < 100 ∧ In64 (pt p.1 p.2)) : (listT pt l).length ≤ 4 + l.length * 100 := by
  induction l with
  | nil => simp [listT]
  | cons a r ih =>
    have h1 := ih (fun p hp => h p (by simp [hp]))
    have h2 := h a (by simp)
    have h3 := foundT_len pt a h2.1 h2.2.1 h2.2.2
    simp [listT] at h1 ⊢
    omega
theorem taListDone (ao : Option Addr) (k cp : Nat) (w : World) : (Instr.typeAssert (.iface 149 (.agg #[.slice ao k cp])) 68 133 true).run Tryz.prog w = .ok (.tuple #[.agg #[], .bool false]) w := by kernel_rfl
theorem taListHandle (ao : Option Addr) (k cp : Nat) (w : World) : (Instr.typeAssert (.iface 149 (.agg #[.slice ao k cp])) 68 135 true).run Tryz.prog w = .ok (.tuple #[.agg #[.int .i64 0], .bool false]) w := by kernel_rfl
theorem taListNumber (ao : Option Addr) (k cp : Nat) (w : World) : (Instr.typeAssert (.iface 149 (.agg #[.slice ao k cp])) 68 137 true).run Tryz.prog w = .ok (.tuple #[.agg #[.int .i64 0], .bool false]) w := by kernel_rfl
theorem taListKey (ao : Option Addr) (k cp : Nat) (w : World) : (Instr.typeAssert (.iface 149 (.agg #[.slice ao k cp])) 68 140 true).run Tryz.prog w = .ok (.tuple #[.agg #[.int .u64 0], .bool false]) w := by kernel_rfl
theorem taListWide (ao : Option Addr) (k cp : Nat) (w : World) : (Instr.typeAssert (.iface 149 (.agg #[.slice ao k cp])) 68 145 true).run Tryz.prog w = .ok (.tuple #[.agg #[.int .i64 0, .int .u64 0], .bool false]) w := by kernel_rfl
theorem taListList (ao : Option Addr) (k cp : Nat) (w : World) : (Instr.typeAssert (.iface 149 (.agg #[.slice ao k cp])) 68 149 true).run Tryz.prog w = .ok (.tuple #[.agg #[.slice ao k cp], .bool true]) w := by kernel_rfl
set_option maxRecDepth 100000 in
set_option maxHeartbeats 8000000 in
theorem text_list (w : World) (base : Nat) (pt : Nat → Nat → Int) (l : List (Nat × Nat)) (v : Value) (h : FdOwn w base v pt l) (hl : l.length ≤ 1000) (hk : ∀ p ∈ l, p.1 < 100 ∧ p.2 < 100 ∧ In64 (pt p.1 p.2)) (ht : Tab w) :
  Calls Tryz.prog 25 #[.iface 149 (.agg #[v])] w fun e w' => e = .returned (.string (sB (listT pt l))) ∧ Below w.heap.size w w' := by
 obtain ⟨ao, cap, hv, hcap, hcm⟩ := own_open h
 subst hv
 obtain ⟨n, hn⟩ : ∃ n, n = l.length := ⟨_, rfl⟩
 have HN := Lib.hid hn
 have HF := Lib.hid h
 have HK := Lib.hid hk
 have HT := Lib.hid ht
 rw [← hn] at hl ⊢
 have t0 := taListDone ao n cap
 have t1 := taListHandle ao n cap
 have t2 := taListNumber ao n cap
 have t3 := taListKey ao n cap
 have t4 := taListWide ao n cap
 have t5 := taListList ao n cap
 have hbl : IsBld w.heap.size w.heap.size [] ((w.alloc (.cells #[.pointer none, .slice none 0 0] 132)).alloc (.cells #[.slice ao n cap] 149)) := by
  exact IsBld.kept (w := w.alloc (.cells #[.pointer none, .slice none 0 0] 132)) (.inl (by exact ⟨Nat.le_refl _, .slice none 0 0, heap_alloc_new w _, World.ownsRow_nil _ _ _ _, by simp [Value.ownBlock]⟩)) ((Below.refl _ _).alloc (Nat.le_refl _) _)
 have PW := Lib.hid (wstr_any _ _ [] [108, 105, 115, 116] _ hbl (by simp) (by simp; omega))
 have HXB : Hid (Blk ((w.alloc (.cells #[.pointer none, .slice none 0 0] 132)).alloc (.cells #[.slice ao n cap] 149)) (w.heap.size + 1) 149 #[.slice ao n cap]) := Lib.hid (by have := Blk.new (w.alloc (.cells #[.pointer none, .slice none 0 0] 132)) 149 #[.slice ao n cap]; simpa using this)
 have HB1 : Hid (Below w.heap.size w ((w.alloc (.cells #[.pointer none, .slice none 0 0] 132)).alloc (.cells #[.slice ao n cap] 149))) := Lib.hid (((Below.refl _ w).alloc (Nat.le_refl _) _).alloc (by simp) _)
 have hlit : sB [108, 105, 115, 116] = ⟨#[108, 105, 115, 116]⟩ := rfl
 rw [hlit] at PW
 clear h hk ht hn hbl hlit
 go_enter Tryz.func25, Tryz.ntmps25
 go_wp2_with fail
 with_reducible refine PW.out.mono ?_
 rintro e w2 ⟨rfl, hbd, hb2, hot⟩
 have HBD := Lib.hid hbd
 have HB2 := Lib.hid (HB1.out.trans hb2)
 have hxb := hot _ _ _ HXB.out (by omega) (by decide)
 have c0 := hxb.cell 0
 simp at c0
 clear hbd hb2 hot PW hxb
 go_wp2_with fail
 go_loopw [54] (fun i wr => ∃ j : Nat, j ≤ n ∧ i = .int .i64 (j : Int) ∧ IsBld w.heap.size w.heap.size (listT pt (l.take j)) wr ∧ Below w.heap.size w wr) (fun i _ => n - (intOf i).toNat)
 case atStart => exact ⟨0, by omega, rfl, by simpa [listT] using HBD.out, HB2.out⟩
 case round =>
  obtain ⟨j, hj, rfl, hbd, hbel⟩ := hrel
  have HBD := Lib.hid hbd
  have HBL := Lib.hid hbel
  clear hbd hbel c0
  by_cases hlt : j < n
  ·obtain ⟨p, hp⟩ : ∃ p, l[j]? = some p := ⟨_, List.getElem?_eq_getElem (by rw [← HN.out]; exact hlt)⟩
   obtain ⟨g, cp, e, -, hg2, -, -, hrg⟩ := (HF.out.kept HBL.out).range hp
   simp only [Value.slice.injEq] at e
   obtain ⟨rfl, -, rfl⟩ := e
   have hkp := HK.out p (List.mem_of_getElem? hp)
   have HTK : Hid (listT pt (l.take (j + 1)) = listT pt (l.take j) ++ foundT pt p) := Lib.hid (by rw [List.take_add_one, hp]; simp [listT])
   have HLN : Hid ((listT pt (l.take j)).length ≤ 4 + 1000 * 100) := Lib.hid (by
    have h1 := listT_len pt (l.take j) (fun q hq => HK.out q (List.mem_of_mem_take hq))
    have h2 : (l.take j).length ≤ 1000 := by rw [List.length_take]; omega
    have := Nat.mul_le_mul_right 100 h2
    omega)
   have htL : (j : Int) < (n : Int) := by omega
   have ht0 : (0 : Int) ≤ (j : Int) := by omega
   have HRG := Lib.hid hrg
   clear hp
   obtain ⟨a, ha⟩ : ∃ a, a = p.1 := ⟨_, rfl⟩
   obtain ⟨b, hb⟩ : ∃ b, b = p.2 := ⟨_, rfl⟩
   obtain ⟨c, hc⟩ : ∃ c, c = pt p.1 p.2 := ⟨_, rfl⟩
   rw [← hc, ← ha, ← hb] at hrg hkp
   have HFT : Hid (foundT pt p = [32] ++ Lib.itoa (a : Int) ++ [58] ++ Lib.decDigits b ++ [58] ++ Lib.itoa c) := Lib.hid (by rw [ha, hb, hc]; rfl)
   clear ha hb hc
   have PA := Lib.hid (fun w ht => itoaAny (a : Int) (by omega) (by omega) w ht)
   have PB := Lib.hid (fun w => fmtUintSmall b hkp.2.1 w)
   have PC := Lib.hid (fun w ht => fmtInt c hkp.2.2.1 hkp.2.2.2 w ht)
   have za := itoa_len (a : Int) (by omega) (by omega)
   have zb : (sB (Lib.decDigits b)).size ≤ 20 := by rw [sB_size]; exact dec_len b (by omega)
   have zc := itoa_len c hkp.2.2.1 hkp.2.2.2
   have hT : sB [32] ++ sB (Lib.itoa (a : Int)) ++ sB [58] ++ sB (Lib.decDigits b) ++ sB [58] ++ sB (Lib.itoa c) = sB (foundT pt p) := by rw [HFT.out]; simp only [sB_append]
   have hfl : (foundT pt p).length ≤ 100 := by
    have := congrArg ByteArray.size hT
    rw [sB_size] at this
    simp [sB_size] at this za zb zc
    omega
   have PW := Lib.hid (fun w' h hB => wstr_any w.heap.size w.heap.size (listT pt (l.take j)) (foundT pt p) w' h (by have := HLN.out; omega) hB)
   rw [← hT, ← HTK.out] at PW
   clear hT hfl HFT
   generalize sB (Lib.itoa (a : Int)) = SA at *
   generalize sB (Lib.decDigits b) = SB at *
   generalize sB (Lib.itoa c) = SC at *
   have hs32 : sB [32] = ⟨#[32]⟩ := rfl
   have hs58 : sB [58] = ⟨#[58]⟩ := rfl
   rw [hs32, hs58] at PW
   have z1 : ¬ 9223372036854775807 < 1 + SA.size := by omega
   have z2 : ¬ 9223372036854775807 < 1 + SA.size + 1 := by omega
   have z3 : ¬ 9223372036854775807 < 1 + SA.size + 1 + SB.size := by omega
   have z4 : ¬ 9223372036854775807 < 1 + SA.size + 1 + SB.size + 1 := by omega
   have z5 : ¬ 9223372036854775807 < 1 + SA.size + 1 + SB.size + 1 + SC.size := by omega
   clear hs32 hs58 hkp za zb zc
   go_wp2_with (refine wpList_load_mid rfl 157 _ rfl g (j * 3) rfl [.int .i64 (a : Int), .int .u64 (b : Int), .int .i64 c] _ hrg Tryz.underlying157 rfl (by kernel_rfl) ?_)
   have hal : Below wr.heap.size wr (wr.alloc (.cells #[.int .i64 (a : Int), .int .u64 (b : Int), .int .i64 c] 157)) := (Below.refl _ _).alloc (Nat.le_refl _) _
   have HXF : Hid (Blk (wr.alloc (.cells #[.int .i64 (a : Int), .int .u64 (b : Int), .int .i64 c] 157)) wr.heap.size 157 #[.int .i64 (a : Int), .int .u64 (b : Int), .int .i64 c]) := Lib.hid (Blk.new wr _ _)
   have HBDX := Lib.hid ((HBD.out.kept hal).kept (below_drewN (Below.refl _ _) 1))
   have HBX := Lib.hid (btr HBL.out hal)
   have HWR : Hid (w.heap.size ≤ wr.heap.size ∧ w.heap.size < wr.heap.size) := Lib.hid ⟨HBL.out.size, by have h1 := HBD.out; rcases h1 with h | h <;> exact h.lt⟩
   clear hal hrg HBD HBL HRG
   generalize (wr.alloc (.cells #[.int .i64 (a : Int), .int .u64 (b : Int), .int .i64 c] 157)) = w3 at *
   refine wp_region_held_drew (S := fun w' => Blk w' wr.heap.size 157 #[.int .i64 (a : Int), .int .u64 (b : Int), .int .i64 c] ∧ Below w.heap.size w w') (by kernel_rfl) (by exact ⟨HXF.out.kept (below_drewN (Below.refl _ _) 1), below_drewN HBX.out 1⟩) (fun hHeld => ?_)
   refine tkH (i := 0) (v := ?_) rfl (by kernel_rfl) (fun _ _ _ h => h) (Or.inl ⟨by rfl, ?_⟩) (by assumption) ?_
   rotate_left
   ·intro w hSw
    try dsimp only at hSw
    go_simp
    try with_reducible rfl
   simp only [Act.put, z1, z2, z3, z4, z5, z6]
   refine tkH (i := 1) (v := ?_) rfl (by kernel_rfl) (fun _ _ _ h => h) (Or.inl ⟨by rfl, ?_⟩) (by assumption) ?_
   rotate_left
   ·intro w hSw
    try dsimp only at hSw
    go_simp
    try with_reducible rfl
   simp only [Act.put, z1, z2, z3, z4, z5, z6]
   refine tkH (i := 2) (v := ?_) rfl (by kernel_rfl) (fun _ _ _ h => h) (Or.inl ⟨by rfl, ?_⟩) (by assumption) ?_
   rotate_left
   ·intro w hSw
    have q0 := hSw.1.cell 0
    have q1 := hSw.1.cell 1
    have q2 := hSw.1.cell 2
    simp at q0 q1 q2
    go_simp
    try with_reducible rfl
   simp only [Act.put, z1, z2, z3, z4, z5, z6]
   refine tkH (i := 6) (v := ?_) rfl (by kernel_rfl) (fun _ _ _ h => h) (Or.inl ⟨by rfl, ?_⟩) (by assumption) ?_
   rotate_left
   ·intro w hSw
    try dsimp only at hSw
    go_simp
    try with_reducible rfl
   simp only [Act.put, z1, z2, z3, z4, z5, z6]
   refine tkH (i := 7) (v := ?_) rfl (by kernel_rfl) (fun _ _ _ h => h) (Or.inl ⟨by rfl, ?_⟩) (by assumption) ?_
   rotate_left
   ·intro w hSw
    try dsimp only at hSw
    go_simp
    try with_reducible rfl
   simp only [Act.put, z1, z2, z3, z4, z5, z6]
   refine tkH (i := 8) (v := ?_) rfl (by kernel_rfl) (fun _ _ _ h => h) (Or.inl ⟨by rfl, ?_⟩) (by assumption) ?_
   rotate_left
   ·intro w hSw
    have q0 := hSw.1.cell 0
    have q1 := hSw.1.cell 1
    have q2 := hSw.1.cell 2
    simp at q0 q1 q2
    go_simp
    try with_reducible rfl
   simp only [Act.put, z1, z2, z3, z4, z5, z6]
   refine tkH (i := 12) (v := ?_) rfl (by kernel_rfl) (fun _ _ _ h => h) (Or.inl ⟨by rfl, ?_⟩) (by assumption) ?_
   rotate_left
   ·intro w hSw
    try dsimp only at hSw
    go_simp
    try with_reducible rfl
   simp only [Act.put, z1, z2, z3, z4, z5, z6]
   refine tkH (i := 13) (v := ?_) rfl (by kernel_rfl) (fun _ _ _ h => h) (Or.inl ⟨by rfl, ?_⟩) (by assumption) ?_
   rotate_left
   ·intro w hSw
    have q0 := hSw.1.cell 0
    have q1 := hSw.1.cell 1
    have q2 := hSw.1.cell 2
    simp at q0 q1 q2
    go_simp
    try with_reducible rfl
   simp only [Act.put, z1, z2, z3, z4, z5, z6]
   refine wpAnyH_ready (rs := [3]) (by kernel_rfl) (by simp) ?_
   refine AllReadyH.cons rfl (fun Kc hKc => ?_) AllReadyH.nil
   go_simp
   go_wp2_with (first | ((with_reducible refine (PA.out _ (HT.out.kept hHeld.2)).mono ?_); rintro e wq ⟨rfl, hb'⟩; have HBDX := Lib.hid (HBDX.out.kept hb')) | ((with_reducible refine (PB.out _ ).mono ?_); rintro e wq ⟨rfl, hw'⟩; subst hw') | ((with_reducible refine (PC.out _ (HT.out.kept hHeld.2)).mono ?_); rintro e wq ⟨rfl, hb'⟩; have HBDX := Lib.hid (HBDX.out.kept hb')) | ((with_reducible refine (PW.out _ HBDX.out hHeld.2.size).mono ?_); rintro e wq ⟨rfl, hbd', hbb', hoo'⟩; have HBDY := Lib.hid hbd'; clear hbd'))
   refine hKc.out _ _ ?_ (fun hHeld => ?_)
   ·first | exact hHeld | exact ⟨hoo' _ _ _ hHeld.1 (by have := HWR.out.2; omega) (by decide), hHeld.2.trans hbb'⟩ | exact ⟨hHeld.1.kept hb', btr hHeld.2 hb'⟩
   clear hKc Kc
   refine tkH (i := 4) (v := ?_) rfl (by kernel_rfl) (fun _ _ _ h => h) (Or.inl ⟨by rfl, ?_⟩) (by assumption) ?_
   rotate_left
   ·intro w hSw
    try dsimp only at hSw
    go_simp
    try with_reducible rfl
   simp only [Act.put, z1, z2, z3, z4, z5, z6]
   refine tkH (i := 5) (v := ?_) rfl (by kernel_rfl) (fun _ _ _ h => h) (Or.inl ⟨by rfl, ?_⟩) (by assumption) ?_
   rotate_left
   ·intro w hSw
    try dsimp only at hSw
    go_simp
    try with_reducible rfl
   simp only [Act.put, z1, z2, z3, z4, z5, z6]
   refine wpAnyH_ready (rs := [9]) (by kernel_rfl) (by simp) ?_
   refine AllReadyH.cons rfl (fun Kc hKc => ?_) AllReadyH.nil
   go_simp
   go_wp2_with (first | ((with_reducible refine (PA.out _ (HT.out.kept hHeld.2)).mono ?_); rintro e wq ⟨rfl, hb'⟩; have HBDX := Lib.hid (HBDX.out.kept hb')) | ((with_reducible refine (PB.out _ ).mono ?_); rintro e wq ⟨rfl, hw'⟩; subst hw') | ((with_reducible refine (PC.out _ (HT.out.kept hHeld.2)).mono ?_); rintro e wq ⟨rfl, hb'⟩; have HBDX := Lib.hid (HBDX.out.kept hb')) | ((with_reducible refine (PW.out _ HBDX.out hHeld.2.size).mono ?_); rintro e wq ⟨rfl, hbd', hbb', hoo'⟩; have HBDY := Lib.hid hbd'; clear hbd'))
   refine hKc.out _ _ ?_ (fun hHeld => ?_)
   ·first | exact hHeld | exact ⟨hoo' _ _ _ hHeld.1 (by have := HWR.out.2; omega) (by decide), hHeld.2.trans hbb'⟩ | exact ⟨hHeld.1.kept hb', btr hHeld.2 hb'⟩
   clear hKc Kc
   refine tkH (i := 10) (v := ?_) rfl (by kernel_rfl) (fun _ _ _ h => h) (Or.inl ⟨by rfl, ?_⟩) (by assumption) ?_
   rotate_left
   ·intro w hSw
    try dsimp only at hSw
    go_simp
    try with_reducible rfl
   simp only [Act.put, z1, z2, z3, z4, z5, z6]
   refine tkH (i := 11) (v := ?_) rfl (by kernel_rfl) (fun _ _ _ h => h) (Or.inl ⟨by rfl, ?_⟩) (by assumption) ?_
   rotate_left
   ·intro w hSw
    try dsimp only at hSw
    go_simp
    try with_reducible rfl
   simp only [Act.put, z1, z2, z3, z4, z5, z6]
   refine wpAnyH_ready (rs := [14]) (by kernel_rfl) (by simp) ?_
   refine AllReadyH.cons rfl (fun Kc hKc => ?_) AllReadyH.nil
   go_simp
   go_wp2_with (first | ((with_reducible refine (PA.out _ (HT.out.kept hHeld.2)).mono ?_); rintro e wq ⟨rfl, hb'⟩; have HBDX := Lib.hid (HBDX.out.kept hb')) | ((with_reducible refine (PB.out _ ).mono ?_); rintro e wq ⟨rfl, hw'⟩; subst hw') | ((with_reducible refine (PC.out _ (HT.out.kept hHeld.2)).mono ?_); rintro e wq ⟨rfl, hb'⟩; have HBDX := Lib.hid (HBDX.out.kept hb')) | ((with_reducible refine (PW.out _ HBDX.out hHeld.2.size).mono ?_); rintro e wq ⟨rfl, hbd', hbb', hoo'⟩; have HBDY := Lib.hid hbd'; clear hbd'))
   refine hKc.out _ _ ?_ (fun hHeld => ?_)
   ·first | exact hHeld | exact ⟨hoo' _ _ _ hHeld.1 (by have := HWR.out.2; omega) (by decide), hHeld.2.trans hbb'⟩ | exact ⟨hHeld.1.kept hb', btr hHeld.2 hb'⟩
   clear hKc Kc
   refine tkH (i := 15) (v := ?_) rfl (by kernel_rfl) (fun _ _ _ h => h) (Or.inl ⟨by rfl, ?_⟩) (by assumption) ?_
   rotate_left
   ·intro w hSw
    try dsimp only at hSw
    go_simp
    try with_reducible rfl
   simp only [Act.put, z1, z2, z3, z4, z5, z6]
   refine wpAnyH_ready (rs := [16]) (by kernel_rfl) (by simp) ?_
   refine AllReadyH.cons rfl (fun Kc hKc => ?_) AllReadyH.nil
   go_simp
   go_wp2_with (first | ((with_reducible refine (PA.out _ (HT.out.kept hHeld.2)).mono ?_); rintro e wq ⟨rfl, hb'⟩; have HBDX := Lib.hid (HBDX.out.kept hb')) | ((with_reducible refine (PB.out _ ).mono ?_); rintro e wq ⟨rfl, hw'⟩; subst hw') | ((with_reducible refine (PC.out _ (HT.out.kept hHeld.2)).mono ?_); rintro e wq ⟨rfl, hb'⟩; have HBDX := Lib.hid (HBDX.out.kept hb')) | ((with_reducible refine (PW.out _ HBDX.out hHeld.2.size).mono ?_); rintro e wq ⟨rfl, hbd', hbb', hoo'⟩; have HBDY := Lib.hid hbd'; clear hbd'))
   refine hKc.out _ _ ?_ (fun hHeld => ?_)
   ·first | exact hHeld | exact ⟨hoo' _ _ _ hHeld.1 (by have := HWR.out.2; omega) (by decide), hHeld.2.trans hbb'⟩ | exact ⟨hHeld.1.kept hb', btr hHeld.2 hb'⟩
   clear hKc Kc
   refine wpAnyH_done (by kernel_rfl) ?_ _
   have HBZ := Lib.hid hHeld.2
   clear hHeld
   go_wp2_with fail
   go_roundw
   case rel => exact ⟨j + 1, by omega, by go_num, HBDY.out, HBZ.out⟩
   case measure => simp [intOf]; omega
  ·obtain rfl : j = n := by omega
   have PS := bstring w.heap.size w.heap.size _ wr HBD.out HBL.out.size
   have HE : l.take j = l := by rw [HN.out]; exact List.take_length
   rw [HE] at PS
   have PS := Lib.hid PS
   clear HE
   go_wp2_with fail
   with_reducible refine PS.out.mono ?_
   rintro e w9 ⟨rfl, hb9⟩
   have HB9 := Lib.hid (HBL.out.trans hb9)
   clear hb9
   go_wp2_with fail
   go_ret
   exact ⟨rfl, HB9.out⟩
def hexD (d : Nat) : UInt8 := if d < 10 then UInt8.ofNat (48 + d) else UInt8.ofNat (87 + d)
def hexT (bs : List Int) : List UInt8 := bs.flatMap fun x => [hexD (x.toNat / 16), hexD (x.toNat % 16)]
theorem hexT_len (bs : List Int) : (hexT bs).length = 2 * bs.length := by
  induction bs with
  | nil => rfl
  | cons a r ih => simp [hexT] at ih ⊢; omega
theorem hexAt (k : Nat) (h : k < 16) (h' : k < ({ data := #[48, 49, 50, 51, 52, 53, 54, 55, 56, 57, 97, 98, 99, 100, 101, 102] } : ByteArray).size) : ({ data := #[48, 49, 50, 51, 52, 53, 54, 55, 56, 57, 97, 98, 99, 100, 101, 102] } : ByteArray)[k]'h' = hexD k := by
  have H : ∀ k : Fin 16, (#[48, 49, 50, 51, 52, 53, 54, 55, 56, 57, 97, 98, 99, 100, 101, 102] : Array UInt8)[k.val] = hexD k.val := by decide
  exact H ⟨k, h⟩
theorem taBytesDone (ao : Option Addr) (k cp : Nat) (w : World) : (Instr.typeAssert (.iface 158 (.agg #[.slice ao k cp])) 68 133 true).run Tryz.prog w = .ok (.tuple #[.agg #[], .bool false]) w := by kernel_rfl
theorem taBytesHandle (ao : Option Addr) (k cp : Nat) (w : World) : (Instr.typeAssert (.iface 158 (.agg #[.slice ao k cp])) 68 135 true).run Tryz.prog w = .ok (.tuple #[.agg #[.int .i64 0], .bool false]) w := by kernel_rfl
theorem taBytesNumber (ao : Option Addr) (k cp : Nat) (w : World) : (Instr.typeAssert (.iface 158 (.agg #[.slice ao k cp])) 68 137 true).run Tryz.prog w = .ok (.tuple #[.agg #[.int .i64 0], .bool false]) w := by kernel_rfl
theorem taBytesKey (ao : Option Addr) (k cp : Nat) (w : World) : (Instr.typeAssert (.iface 158 (.agg #[.slice ao k cp])) 68 140 true).run Tryz.prog w = .ok (.tuple #[.agg #[.int .u64 0], .bool false]) w := by kernel_rfl
theorem taBytesWide (ao : Option Addr) (k cp : Nat) (w : World) : (Instr.typeAssert (.iface 158 (.agg #[.slice ao k cp])) 68 145 true).run Tryz.prog w = .ok (.tuple #[.agg #[.int .i64 0, .int .u64 0], .bool false]) w := by kernel_rfl
theorem taBytesList (ao : Option Addr) (k cp : Nat) (w : World) : (Instr.typeAssert (.iface 158 (.agg #[.slice ao k cp])) 68 149 true).run Tryz.prog w = .ok (.tuple #[.agg #[.slice none 0 0], .bool false]) w := by kernel_rfl
theorem taBytesBytes (ao : Option Addr) (k cp : Nat) (w : World) : (Instr.typeAssert (.iface 158 (.agg #[.slice ao k cp])) 68 158 true).run Tryz.prog w = .ok (.tuple #[.agg #[.slice ao k cp], .bool true]) w := by kernel_rfl
set_option maxRecDepth 100000 in
set_option maxHeartbeats 8000000 in
theorem text_bytes (w : World) (bs : List Int) (v : Value) (h : BytesAt w v bs) (hl : bs.length ≤ 1000000) (hby : Byts bs) :
  Calls Tryz.prog 25 #[.iface 158 (.agg #[v])] w fun e w' => e = .returned (.string (sB ([98, 121, 116, 101, 115, 32] ++ hexT bs))) ∧ Below w.heap.size w w' := by
 obtain ⟨ao, cap, hv, hcap, hcm, hcells⟩ := h
 subst hv
 obtain ⟨n, hn⟩ : ∃ n, n = bs.length := ⟨_, rfl⟩
 have HN := Lib.hid hn
 have HC := Lib.hid hcells
 have HY := Lib.hid hby
 rw [← hn] at hl hcap ⊢
 have t0 := taBytesDone ao n cap
 have t1 := taBytesHandle ao n cap
 have t2 := taBytesNumber ao n cap
 have t3 := taBytesKey ao n cap
 have t4 := taBytesWide ao n cap
 have t5 := taBytesList ao n cap
 have t6 := taBytesBytes ao n cap
 have hbl : IsBld w.heap.size w.heap.size [] ((w.alloc (.cells #[.pointer none, .slice none 0 0] 132)).alloc (.cells #[.slice ao n cap] 158)) := by
  exact IsBld.kept (w := w.alloc (.cells #[.pointer none, .slice none 0 0] 132)) (.inl (by exact ⟨Nat.le_refl _, .slice none 0 0, heap_alloc_new w _, World.ownsRow_nil _ _ _ _, by simp [Value.ownBlock]⟩)) ((Below.refl _ _).alloc (Nat.le_refl _) _)
 have PW := Lib.hid (wstr_any _ _ [] [98, 121, 116, 101, 115, 32] _ hbl (by simp) (by simp; omega))
 have HXB : Hid (Blk ((w.alloc (.cells #[.pointer none, .slice none 0 0] 132)).alloc (.cells #[.slice ao n cap] 158)) (w.heap.size + 1) 158 #[.slice ao n cap]) := Lib.hid (by have := Blk.new (w.alloc (.cells #[.pointer none, .slice none 0 0] 132)) 158 #[.slice ao n cap]; simpa using this)
 have HB1 : Hid (Below w.heap.size w ((w.alloc (.cells #[.pointer none, .slice none 0 0] 132)).alloc (.cells #[.slice ao n cap] 158))) := Lib.hid (((Below.refl _ w).alloc (Nat.le_refl _) _).alloc (by simp) _)
 have hlit : sB [98, 121, 116, 101, 115, 32] = ⟨#[98, 121, 116, 101, 115, 32]⟩ := rfl
 rw [hlit] at PW
 clear hcells hby hn hbl hlit
 go_enter Tryz.func25, Tryz.ntmps25
 go_wp2_with fail
 with_reducible refine PW.out.mono ?_
 rintro e w2 ⟨rfl, hbd, hb2, hot⟩
 have HBD := Lib.hid hbd
 have HB2 := Lib.hid (HB1.out.trans hb2)
 have hxb := hot _ _ _ HXB.out (by omega) (by decide)
 have c0 := hxb.cell 0
 simp at c0
 clear hbd hb2 hot PW hxb
 go_wp2_with fail
 go_loopw [83] (fun i wr => ∃ j : Nat, j ≤ n ∧ i = .int .i64 (j : Int) ∧ IsBld w.heap.size w.heap.size ([98, 121, 116, 101, 115, 32] ++ hexT (bs.take j)) wr ∧ Below w.heap.size w wr) (fun i _ => n - (intOf i).toNat)
 case atStart => exact ⟨0, by omega, rfl, by simpa [hexT] using HBD.out, HB2.out⟩
 case round =>
  obtain ⟨j, hj, rfl, hbd, hbel⟩ := hrel
  have HBD := Lib.hid hbd
  have HBL := Lib.hid hbel
  clear hbd hbel c0
  by_cases hlt : j < n
  ·obtain ⟨x, hx⟩ : ∃ x, bs[j]? = some x := ⟨_, List.getElem?_eq_getElem (by rw [← HN.out]; exact hlt)⟩
   have hxy := HY.out x (List.mem_of_getElem? hx)
   obtain ⟨g, off, rfl, hg, hcg⟩ : ∃ g off, ao = some ⟨g, off, none⟩ ∧ g < w.heap.size ∧ ∀ (i : Nat) (u : Int), bs[i]? = some u → w.cell? ⟨g, off + i, none⟩ = some (.int .u8 u) := by
    rcases HC.out with ⟨h1, -⟩ | h1
    ·rw [h1] at hx; simp at hx
    ·exact h1
   have cx : wr.cell? ⟨g, off + j, none⟩ = some (.int .u8 x) := by
    rw [World.cell?_of_block (HBL.out.block g hg)]
    exact hcg j x hx
   have HTK : Hid (hexT (bs.take (j + 1)) = hexT (bs.take j) ++ [hexD (x.toNat / 16)] ++ [hexD (x.toNat % 16)]) := Lib.hid (by rw [List.take_add_one, hx]; simp [hexT])
   have HLN : Hid ((hexT (bs.take j)).length ≤ 2000000) := Lib.hid (by rw [hexT_len, List.length_take]; omega)
   have htL : (j : Int) < (n : Int) := by omega
   have ht0 : (0 : Int) ≤ (j : Int) := by omega
   have hx0 := hxy.1
   have hx1 := hxy.2
   have e1 : x / 2 ^ 4 = x / 16 := rfl
   have k0 : 0 ≤ x / 16 := by omega
   have k1 : x / 16 < 16 := by omega
   clear hx hxy hg hcg
   go_wp2_with fail
   have HA := Lib.hid (hexAt (x / 16).toNat (by omega))
   refine (wbyte_any w.heap.size w.heap.size _ _ wr HBD.out (by have := HLN.out; simp at this ⊢; omega) HBL.out.size).mono ?_
   rintro e w3 ⟨rfl, hbd3, hb3, -⟩
   rw [HA.out] at hbd3
   have HBD3 := Lib.hid hbd3
   have HBL3 := Lib.hid (HBL.out.trans hb3)
   clear hbd3 hb3 HA HBD HBL
   go_wp2_with fail
   have HA := Lib.hid (hexAt (x % 16).toNat (by omega))
   refine (wbyte_any w.heap.size w.heap.size _ _ w3 HBD3.out (by have := HLN.out; simp at this ⊢; omega) HBL3.out.size).mono ?_
   rintro e w4 ⟨rfl, hbd4, hb4, -⟩
   rw [HA.out] at hbd4
   have HBD4 : Hid (IsBld w.heap.size w.heap.size ([98, 121, 116, 101, 115, 32] ++ hexT (bs.take (j + 1))) w4) := Lib.hid (by
    rw [HTK.out]
    have a1 : (x / 16).toNat = x.toNat / 16 := by omega
    have a2 : (x % 16).toNat = x.toNat % 16 := by omega
    rw [a1, a2] at hbd4
    simpa using hbd4)
   have HBL4 := Lib.hid (HBL3.out.trans hb4)
   clear hbd4 hb4 HA HBD3 HBL3
   go_wp2_with fail
   go_roundw
   case rel => exact ⟨j + 1, by omega, by go_num, HBD4.out, HBL4.out⟩
   case measure => simp [intOf]; omega
  ·obtain rfl : j = n := by omega
   have PS := bstring w.heap.size w.heap.size _ wr HBD.out HBL.out.size
   have HE : bs.take j = bs := by rw [HN.out]; exact List.take_length
   rw [HE] at PS
   have PS := Lib.hid PS
   clear HE
   go_wp2_with fail
   with_reducible refine PS.out.mono ?_
   rintro e w9 ⟨rfl, hb9⟩
   have HB9 := Lib.hid (HBL.out.trans hb9)
   clear hb9
   go_wp2_with fail
   go_ret
   exact ⟨rfl, HB9.out⟩
end Go.Proofs.YtfeficdndjiijaaGreatDoor


namespace Go.Proofs.YtfeficdndjiijaaGreatDoor
open Go.RowKit
set_option linter.unusedVariables false
set_option linter.unusedSimpArgs false

def hxI (d : Int) : Int := if d < 10 then 48 + d else 97 + d - 10
def dgs (x : Int) : List Int := [hxI (x / 16), hxI (x % 16)]
def hexI (bs : List Int) : List Int := bs.flatMap dgs
theorem hexI_take (bs : List Int) (j : Nat) (h : j < bs.length) : hexI (bs.take (j + 1)) = hexI (bs.take j) ++ dgs (cellD bs j) := by
  unfold hexI
  rw [List.take_succ_eq_append_getElem h, List.flatMap_append]
  simp [cellD, h]
theorem hexI_len (bs : List Int) : (hexI bs).length = 2 * bs.length := by
  induction bs with
  | nil => rfl
  | cons a r ih => simp [hexI, dgs] at ih ⊢; omega
theorem dgs_take0 (x : Int) : (dgs x).take 0 = [] := rfl
set_option maxRecDepth 100000 in
set_option maxHeartbeats 4000000 in
theorem digits25 (w : World) (v : Value) (bs : List Int) (hv : BytesAt w v bs) (hb : Byts bs) (hl : bs.length ≤ 100000) :
  Calls Tryz.prog 12 #[v] w fun e w' => e = .returned (.string (sB (u8s (hexI bs)))) ∧ Below w.heap.size w w' := by
 obtain ⟨i0', hi, hz0, hz1, hz2⟩ := info_parts Tryz.info8
 obtain ⟨ao, cap, hv', hcap, hcm, hcells⟩ := hv
 subst hv'
 obtain ⟨n, hn⟩ : ∃ n, n = bs.length := ⟨_, rfl⟩
 have HN := Lib.hid hn
 rw [← hn] at hcap hl ⊢
 have HBY := Lib.hid hb
 have HCE := Lib.hid hcells
 have hown0 := World.ownsRow_lit (base := w.heap.size) (e := 5) (size := 1) w #[] 0 (by exact Nat.le_refl _) (by unfold maxLen; omega) (by simp)
 have HO1 := Lib.hid hown0
 have HB1 : Hid (Below w.heap.size w (w.alloc (.cells #[] 5))) := Lib.hid ((Below.refl _ _).alloc (Nat.le_refl _) _)
 clear hown0 hn hb hcells
 go_enter Tryz.func12, Tryz.ntmps12
 go_wp2_with fail
 go_loopw [3, 4] (fun x i wr => ∃ j : Nat, j ≤ n ∧ i = .int .i64 (j : Int) ∧ OwnB wr w.heap.size x (hexI (bs.take j)) ∧ Below w.heap.size w wr) (fun _ i _ => n - (intOf i).toNat)
 case atStart => exact ⟨0, by omega, rfl, HO1.out, HB1.out⟩
 case round =>
  obtain ⟨j, hj, rfl, hown, hbel⟩ := hrel
  have HO := Lib.hid hown
  have HB := Lib.hid hbel
  clear hown hbel HO1 HB1
  by_cases hlt : j < n
  ·have i0 : (0 : Int) ≤ (j : Int) := by omega
   have i1 : (j : Int) < (n : Int) := by omega
   have hlj : bs[j]? = some (cellD bs j) := by
    have := HN.out
    unfold cellD
    rw [List.getElem?_eq_getElem (by omega)]
    rfl
   have hbj := HBY.out (cellD bs j) (List.mem_of_getElem? hlj)
   have hce0 : ∃ g off, ao = some ⟨g, off, none⟩ ∧ g < w.heap.size ∧ w.cell? ⟨g, off + j, none⟩ = some (.int .u8 (cellD bs j)) := by
    rcases HCE.out with ⟨h1, -⟩ | ⟨g, off, h1, h2, h3⟩
    ·subst h1; simp at hlj
    ·exact ⟨g, off, h1, h2, h3 j _ hlj⟩
   have hnx := hexI_take bs j (by have := HN.out; omega)
   have HNX := Lib.hid hnx
   clear hnx hlj
   obtain ⟨g, off, rfl, hg, hce⟩ := hce0
   have hpl : (hexI (bs.take j)).length ≤ 200000 := by rw [hexI_len, List.length_take]; omega
   have HPL := Lib.hid hpl
   clear hpl
   generalize cellD bs j = x at *
   generalize hexI (bs.take j) = P at *
   obtain ⟨P2, hP2⟩ : ∃ P2, P2 = hexI (bs.take (j + 1)) := ⟨_, rfl⟩
   rw [← hP2] at HNX
   have HP2 := Lib.hid hP2
   clear hP2
   have HCC := Lib.hid (And.intro hg hce)
   clear hg hce
   go_wp2_with fail
   go_loopw [3, 5] (fun y i wr => ∃ k : Nat, k ≤ 2 ∧ i = .int .i64 (k : Int) ∧ OwnB wr w.heap.size y (P ++ (dgs x).take k) ∧ Below w.heap.size w wr) (fun _ i _ => 2 - (intOf i).toNat)
   case atStart => exact ⟨0, by omega, rfl, by rw [dgs_take0, List.append_nil]; exact HO.out, HB.out⟩
   case round =>
    obtain ⟨k, hk, rfl, hown, hbel⟩ := hrel
    have HO5 := Lib.hid hown
    have HB5 := Lib.hid hbel
    clear hown hbel
    have cx := (HB5.out.cell (p := ⟨g, off + j, none⟩) HCC.out.1).trans HCC.out.2
    have e1 : x.tdiv 16 = x / 16 := Int.tdiv_eq_ediv_of_nonneg hbj.1
    have e2 : x.tmod 16 = x % 16 := Int.tmod_eq_emod_of_nonneg hbj.1
    have e3 : x / 16 % 256 = x / 16 := by omega
    have e4 : x % 16 % 256 = x % 16 := by omega
    have hsz := HB5.out.size
    by_cases hk0 : k = 0
    ·subst hk0
     by_cases hd10 : x / 16 < 10
     ·
      have hd : (x / 16 < 10) := hd10
      have HAP : Hid ((P ++ (dgs x).take 0).map (Value.int .u8) ++ [.int .u8 (48 + x / 16)] = (P ++ (dgs x).take 1).map (Value.int .u8)) := Lib.hid (by
       have e : (dgs x).take 1 = (dgs x).take 0 ++ [48 + x / 16] := by simp [dgs, hxI, hd]
       rw [e, ← List.append_assoc, List.map_append (l₂ := [_])]
       rfl)
      have HLN : Hid ((P ++ (dgs x).take 0).length + 1 = (P ++ (dgs x).take 1).length) := Lib.hid (by simp [dgs])
      have hc1 : (P ++ (dgs x).take 0).length + 1 ≤ maxLen := by have := HPL.out; rw [List.length_append]; simp [dgs, maxLen]; omega
      have hc4 : ((P ++ (dgs x).take 0).length + 1) * 1 ≤ 140737488355328 := by have := HPL.out; rw [List.length_append]; simp [dgs]; omega
      go_wp2_with (at_builtin; go_loud (refine wpList_append_own_at _ rfl _ _ 41 rfl w.heap.size 5 i0' (.int .u8 0) 1 1 Tryz.underlying41 hi hz0 hz1 hz2 rfl (by decide) _ (P ++ (dgs x).take 0).length _ rfl (World.ownsRow.alloc HO5.out _) ⟨wr.heap.size, 0, none⟩ 1 1 [.int .u8 (48 + x / 16)] rfl rfl (cell_one_new _ _ _) ?c2 hc1 hc4 ?c5 ?_))
      case c2 => simp [Value.oneCell']
      case c5 => (try simp); omega
      intro v8 w8 hown' hgrow hnil' hq9
      have HO8 : Hid (OwnB w8 w.heap.size v8 (P ++ (dgs x).take 1)) := Lib.hid (by unfold OwnB; rw [← HAP.out, ← HLN.out]; simpa using hown')
      have HB8 : Hid (Below w.heap.size w w8) := Lib.hid ((HB5.out.alloc HB5.out.size _).grown hgrow (by simp; omega) (fun k e => (HO5.out.lt k e).1))
      clear hown' hgrow hnil' hq9
      go_wp2
      go_roundw
      case rel => exact ⟨1, by omega, by go_num, HO8.out, HB8.out⟩
      case measure => decide
     ·
      have hd : ¬ (x / 16 < 10) := hd10
      have HAP : Hid ((P ++ (dgs x).take 0).map (Value.int .u8) ++ [.int .u8 (97 + x / 16 - 10)] = (P ++ (dgs x).take 1).map (Value.int .u8)) := Lib.hid (by
       have e : (dgs x).take 1 = (dgs x).take 0 ++ [97 + x / 16 - 10] := by simp [dgs, hxI, hd]
       rw [e, ← List.append_assoc, List.map_append (l₂ := [_])]
       rfl)
      have HLN : Hid ((P ++ (dgs x).take 0).length + 1 = (P ++ (dgs x).take 1).length) := Lib.hid (by simp [dgs])
      have hc1 : (P ++ (dgs x).take 0).length + 1 ≤ maxLen := by have := HPL.out; rw [List.length_append]; simp [dgs, maxLen]; omega
      have hc4 : ((P ++ (dgs x).take 0).length + 1) * 1 ≤ 140737488355328 := by have := HPL.out; rw [List.length_append]; simp [dgs]; omega
      go_wp2_with (at_builtin; go_loud (refine wpList_append_own_at _ rfl _ _ 41 rfl w.heap.size 5 i0' (.int .u8 0) 1 1 Tryz.underlying41 hi hz0 hz1 hz2 rfl (by decide) _ (P ++ (dgs x).take 0).length _ rfl (World.ownsRow.alloc HO5.out _) ⟨wr.heap.size, 0, none⟩ 1 1 [.int .u8 (97 + x / 16 - 10)] rfl rfl (cell_one_new _ _ _) ?c2 hc1 hc4 ?c5 ?_))
      case c2 => simp [Value.oneCell']
      case c5 => (try simp); omega
      intro v8 w8 hown' hgrow hnil' hq9
      have HO8 : Hid (OwnB w8 w.heap.size v8 (P ++ (dgs x).take 1)) := Lib.hid (by unfold OwnB; rw [← HAP.out, ← HLN.out]; simpa using hown')
      have HB8 : Hid (Below w.heap.size w w8) := Lib.hid ((HB5.out.alloc HB5.out.size _).grown hgrow (by simp; omega) (fun k e => (HO5.out.lt k e).1))
      clear hown' hgrow hnil' hq9
      go_wp2
      go_roundw
      case rel => exact ⟨1, by omega, by go_num, HO8.out, HB8.out⟩
      case measure => decide
    by_cases hk1 : k = 1
    ·subst hk1
     by_cases hd10 : x % 16 < 10
     ·
      have hd : (x % 16 < 10) := hd10
      have HAP : Hid ((P ++ (dgs x).take 1).map (Value.int .u8) ++ [.int .u8 (48 + x % 16)] = (P ++ (dgs x).take 2).map (Value.int .u8)) := Lib.hid (by
       have e : (dgs x).take 2 = (dgs x).take 1 ++ [48 + x % 16] := by simp [dgs, hxI, hd]
       rw [e, ← List.append_assoc, List.map_append (l₂ := [_])]
       rfl)
      have HLN : Hid ((P ++ (dgs x).take 1).length + 1 = (P ++ (dgs x).take 2).length) := Lib.hid (by simp [dgs])
      have hc1 : (P ++ (dgs x).take 1).length + 1 ≤ maxLen := by have := HPL.out; rw [List.length_append]; simp [dgs, maxLen]; omega
      have hc4 : ((P ++ (dgs x).take 1).length + 1) * 1 ≤ 140737488355328 := by have := HPL.out; rw [List.length_append]; simp [dgs]; omega
      go_wp2_with (at_builtin; go_loud (refine wpList_append_own_at _ rfl _ _ 41 rfl w.heap.size 5 i0' (.int .u8 0) 1 1 Tryz.underlying41 hi hz0 hz1 hz2 rfl (by decide) _ (P ++ (dgs x).take 1).length _ rfl (World.ownsRow.alloc HO5.out _) ⟨wr.heap.size, 0, none⟩ 1 1 [.int .u8 (48 + x % 16)] rfl rfl (cell_one_new _ _ _) ?c2 hc1 hc4 ?c5 ?_))
      case c2 => simp [Value.oneCell']
      case c5 => (try simp); omega
      intro v8 w8 hown' hgrow hnil' hq9
      have HO8 : Hid (OwnB w8 w.heap.size v8 (P ++ (dgs x).take 2)) := Lib.hid (by unfold OwnB; rw [← HAP.out, ← HLN.out]; simpa using hown')
      have HB8 : Hid (Below w.heap.size w w8) := Lib.hid ((HB5.out.alloc HB5.out.size _).grown hgrow (by simp; omega) (fun k e => (HO5.out.lt k e).1))
      clear hown' hgrow hnil' hq9
      go_wp2
      go_roundw
      case rel => exact ⟨2, by omega, by go_num, HO8.out, HB8.out⟩
      case measure => decide
     ·
      have hd : ¬ (x % 16 < 10) := hd10
      have HAP : Hid ((P ++ (dgs x).take 1).map (Value.int .u8) ++ [.int .u8 (97 + x % 16 - 10)] = (P ++ (dgs x).take 2).map (Value.int .u8)) := Lib.hid (by
       have e : (dgs x).take 2 = (dgs x).take 1 ++ [97 + x % 16 - 10] := by simp [dgs, hxI, hd]
       rw [e, ← List.append_assoc, List.map_append (l₂ := [_])]
       rfl)
      have HLN : Hid ((P ++ (dgs x).take 1).length + 1 = (P ++ (dgs x).take 2).length) := Lib.hid (by simp [dgs])
      have hc1 : (P ++ (dgs x).take 1).length + 1 ≤ maxLen := by have := HPL.out; rw [List.length_append]; simp [dgs, maxLen]; omega
      have hc4 : ((P ++ (dgs x).take 1).length + 1) * 1 ≤ 140737488355328 := by have := HPL.out; rw [List.length_append]; simp [dgs]; omega
      go_wp2_with (at_builtin; go_loud (refine wpList_append_own_at _ rfl _ _ 41 rfl w.heap.size 5 i0' (.int .u8 0) 1 1 Tryz.underlying41 hi hz0 hz1 hz2 rfl (by decide) _ (P ++ (dgs x).take 1).length _ rfl (World.ownsRow.alloc HO5.out _) ⟨wr.heap.size, 0, none⟩ 1 1 [.int .u8 (97 + x % 16 - 10)] rfl rfl (cell_one_new _ _ _) ?c2 hc1 hc4 ?c5 ?_))
      case c2 => simp [Value.oneCell']
      case c5 => (try simp); omega
      intro v8 w8 hown' hgrow hnil' hq9
      have HO8 : Hid (OwnB w8 w.heap.size v8 (P ++ (dgs x).take 2)) := Lib.hid (by unfold OwnB; rw [← HAP.out, ← HLN.out]; simpa using hown')
      have HB8 : Hid (Below w.heap.size w w8) := Lib.hid ((HB5.out.alloc HB5.out.size _).grown hgrow (by simp; omega) (fun k e => (HO5.out.lt k e).1))
      clear hown' hgrow hnil' hq9
      go_wp2
      go_roundw
      case rel => exact ⟨2, by omega, by go_num, HO8.out, HB8.out⟩
      case measure => decide
    ·obtain rfl : k = 2 := by omega
     have HO9 : Hid (OwnB wr w.heap.size u3 P2) := Lib.hid (by rw [HNX.out]; exact HO5.out)
     go_wp2_with fail
     go_roundw
     case rel => exact ⟨j + 1, by omega, by go_num, by rw [← HP2.out]; exact HO9.out, HB5.out⟩
     case measure => simp [intOf]; omega
  ·obtain rfl : j = n := by omega
   have hfull : bs.take j = bs := by rw [HN.out, List.take_length]
   rw [hfull] at HO
   have hcv := strB_conv (P := Tryz.prog) HO.out.at 41 5 9 Tryz.underlying41 Tryz.underlying5 Tryz.underlying9
   go_wp2_with fail
   go_ret
   exact ⟨by rw [strB_u8s]; rfl, HB.out⟩
theorem hxI_hexD (d : Nat) (h : d < 16) : UInt8.ofNat (hxI (d : Int)).toNat = hexD d := by
  have H : ∀ d : Fin 16, UInt8.ofNat (hxI (d.val : Int)).toNat = hexD d.val := by decide
  exact H ⟨d, h⟩
theorem u8s_hexI (bs : List Int) (hb : Byts bs) : u8s (hexI bs) = hexT bs := by
  induction bs with
  | nil => rfl
  | cons a r ih =>
    have ha := hb a (by simp)
    have ih' := ih (fun x hx => hb x (by simp [hx]))
    have e1 : a / 16 = ((a.toNat / 16 : Nat) : Int) := by omega
    have e2 : a % 16 = ((a.toNat % 16 : Nat) : Int) := by omega
    have k1 := hxI_hexD (a.toNat / 16) (by omega)
    have k2 := hxI_hexD (a.toNat % 16) (by omega)
    rw [← e1] at k1
    rw [← e2] at k2
    show u8s (dgs a ++ hexI r) = _
    simp only [u8s, dgs, List.map_append, List.map_cons, List.map_nil] at ih' ⊢
    rw [ih', k1, k2]
    rfl
theorem digits_any (w : World) (v : Value) (bs : List Int) (hv : BytesAt w v bs) (hb : Byts bs) (hl : bs.length ≤ 100000) :
    Calls Tryz.prog 12 #[v] w fun e w' => e = .returned (.string (sB (hexT bs))) ∧ Below w.heap.size w w' := by
  have := digits25 w v bs hv hb hl
  rwa [u8s_hexI bs hb] at this
end Go.Proofs.YtfeficdndjiijaaGreatDoor


namespace Go.Proofs.YtfeficdndjiijaaGreatDoor
open Go.RowKit
set_option linter.unusedVariables false
set_option linter.unusedSimpArgs false

def dig16 : List UInt8 := [48, 49, 50, 51, 52, 53, 54, 55, 56, 57, 97, 98, 99, 100, 101, 102]
theorem idx16 (d : Nat) (h : d < 16) : Lib.indexByte dig16 ((hexD d).toNat : Int).toNat.toUInt8 = (d : Int) := by
  have H : ∀ d : Fin 16, Lib.indexByte dig16 ((hexD d.val).toNat : Int).toNat.toUInt8 = (d.val : Int) := by decide
  exact H ⟨d, h⟩
theorem index16 (d : Nat) (h : d < 16) (w : World) : Calls Tryz.prog 76 #[.string ⟨#[48, 49, 50, 51, 52, 53, 54, 55, 56, 57, 97, 98, 99, 100, 101, 102]⟩, .int .u8 ((hexD d).toNat : Int)] w fun e w' => e = .returned (.int .i64 (d : Int)) ∧ w = w' := by
  refine (Tryz.strings_IndexByte ⟨#[48, 49, 50, 51, 52, 53, 54, 55, 56, 57, 97, 98, 99, 100, 101, 102]⟩ ((hexD d).toNat : Int) w).mono ?_
  rintro e w' ⟨rfl, rfl⟩
  refine ⟨?_, rfl⟩
  have := idx16 d h
  unfold dig16 at this
  rw [← this]
theorem hexT_get (bs : List Int) (j : Nat) (h : j < bs.length) : (hexT bs)[2 * j]? = some (hexD ((cellD bs j).toNat / 16)) ∧ (hexT bs)[2 * j + 1]? = some (hexD ((cellD bs j).toNat % 16)) := by
  induction bs generalizing j with
  | nil => simp at h
  | cons a r ih =>
    have e : hexT (a :: r) = hexD (a.toNat / 16) :: hexD (a.toNat % 16) :: hexT r := rfl
    rw [e]
    cases j with
    | zero => exact ⟨rfl, rfl⟩
    | succ j =>
      have := ih j (by simpa using h)
      rw [show 2 * (j + 1) = 2 * j + 1 + 1 by omega, show 2 * j + 1 + 1 + 1 = (2 * j + 1) + 1 + 1 by omega]
      simpa [cellD] using this
theorem or16 (x : Nat) (h : x < 256) : bits BinOp.or IntKind.i64 ((x : Int) / 16 * 16) ((x : Int) % 16) = (x : Int) := by
  have H : ∀ x : Fin 256, bits BinOp.or IntKind.i64 ((x.val : Int) / 16 * 16) ((x.val : Int) % 16) = (x.val : Int) := by decide +kernel
  exact H ⟨x, h⟩
set_option maxRecDepth 100000 in
set_option maxHeartbeats 4000000 in
theorem bytes_hex (w : World) (bs : List Int) (hb : Byts bs) (h1 : 1 ≤ bs.length) (hl : bs.length ≤ 100000) :
  Calls Tryz.prog 81 #[.string (sB (hexT bs))] w fun e w' => (∃ v, e = .returned (.tuple #[v, .bool true]) ∧ OwnB w' w.heap.size v bs) ∧ Below w.heap.size w w' := by
 obtain ⟨i0', hi, hz0, hz1, hz2⟩ := info_parts Tryz.info8
 obtain ⟨n, hn⟩ : ∃ n, n = bs.length := ⟨_, rfl⟩
 have hsz : (sB (hexT bs)).size = 2 * n := by rw [sB_size, hexT_len, hn]
 have HAT := Lib.hid (S_at (hexT bs))
 have HGET := Lib.hid (hexT_get bs)
 have HN := Lib.hid hn
 have HBY := Lib.hid hb
 have HO1 : Hid (OwnB w w.heap.size (.slice none 0 0) (bs.take 0)) := Lib.hid (World.ownsRow_nil w w.heap.size 5 1)
 rw [← hn] at h1 hl
 generalize sB (hexT bs) = S at *
 have z1 : (S.size : Int) = 2 * n := by omega
 clear hn hb
 go_enter Tryz.func81, Tryz.ntmps81
 go_wp2_with fail
 go_loopw [4, 5] (fun x i wr => ∃ j : Nat, j ≤ n ∧ i = .int .i64 (2 * (j : Int)) ∧ OwnB wr w.heap.size x (bs.take j) ∧ Below w.heap.size w wr) (fun _ i _ => 2 * n - (intOf i).toNat)
 case atStart => exact ⟨0, by omega, rfl, HO1.out, Below.refl _ _⟩
 case round =>
  obtain ⟨j, hj, rfl, hown, hbel⟩ := hrel
  have HO := Lib.hid hown
  have HB := Lib.hid hbel
  clear hown hbel HO1
  by_cases hlt : j < n
  ·have hbj := HBY.out (cellD bs j) (by
    have := HN.out
    exact List.mem_of_getElem? (i := j) (by unfold cellD; rw [List.getElem?_eq_getElem (by omega)]; rfl))
   have hg := HGET.out j (by have := HN.out; omega)
   obtain ⟨hi0, hs0⟩ := HAT.out (2 * j) _ hg.1
   obtain ⟨hi1, hs1⟩ := HAT.out (2 * j + 1) _ hg.2
   obtain ⟨x, hx⟩ : ∃ x, x = (cellD bs j).toNat := ⟨_, rfl⟩
   have hxc : cellD bs j = (x : Int) := by omega
   have hx255 : x ≤ 255 := by omega
   rw [← hx] at hs0 hs1
   have P1 := Lib.hid (index16 (x / 16) (by omega))
   have P2 := Lib.hid (index16 (x % 16) (by omega))
   have HXC := Lib.hid hxc
   have ij : (2 * (j : Int)).toNat = 2 * j := by omega
   have ij1 : (2 * (j : Int) + 1).toNat = 2 * j + 1 := by omega
   have i0 : (0 : Int) ≤ 2 * (j : Int) := by omega
   have i1 : 2 * (j : Int) + 1 < 2 * (n : Int) := by omega
   have hwr : IntKind.i64.wrap (2 * (j : Int) + 1) = 2 * (j : Int) + 1 := by
    simp only [IntKind.wrap, IntKind.bits, IntKind.signed]
    simp
    omega
   have i2 : (0 : Int) ≤ 2 * (j : Int) + 1 := by omega
   clear hg hx hxc hbj
   go_wp2_with fail
   refine wp_region_held_drew (S := fun w' => OwnB w' w.heap.size u4 (bs.take j) ∧ Below w.heap.size w w') (by kernel_rfl) (by exact ⟨HO.out.kept (below_drewN (Below.refl _ _) 1), below_drewN HB.out 1⟩) (fun hHeld => ?_)
   refine tkH (i := 0) (v := ?_) rfl (by kernel_rfl) (fun _ _ _ h => h) (Or.inl ⟨by rfl, ?_⟩) (by assumption) ?_
   rotate_left
   ·intro w hSw
    try dsimp only at hSw
    go_simp
    try with_reducible rfl
   simp only [Act.put, z1, z2, z3, z4, z5, z6]
   refine tkH (i := 1) (v := ?_) rfl (by kernel_rfl) (fun _ _ _ h => h) (Or.inl ⟨by rfl, ?_⟩) (by assumption) ?_
   rotate_left
   ·intro w hSw
    try dsimp only at hSw
    go_simp
    try with_reducible rfl
   simp only [Act.put, z1, z2, z3, z4, z5, z6]
   refine tkH (i := 2) (v := ?_) rfl (by kernel_rfl) (fun _ _ _ h => h) (Or.inl ⟨by rfl, ?_⟩) (by assumption) ?_
   rotate_left
   ·intro w hSw
    try dsimp only at hSw
    go_simp
    try with_reducible rfl
   simp only [Act.put, z1, z2, z3, z4, z5, z6]
   refine tkH (i := 4) (v := ?_) rfl (by kernel_rfl) (fun _ _ _ h => h) (Or.inl ⟨by rfl, ?_⟩) (by assumption) ?_
   rotate_left
   ·intro w hSw
    try dsimp only at hSw
    go_simp
    try with_reducible rfl
   simp only [Act.put, z1, z2, z3, z4, z5, z6]
   refine tkH (i := 5) (v := ?_) rfl (by kernel_rfl) (fun _ _ _ h => h) (Or.inl ⟨by rfl, ?_⟩) (by assumption) ?_
   rotate_left
   ·intro w hSw
    try dsimp only at hSw
    go_simp
    try with_reducible rfl
   simp only [Act.put, z1, z2, z3, z4, z5, z6]
   refine tkH (i := 6) (v := ?_) rfl (by kernel_rfl) (fun _ _ _ h => h) (Or.inl ⟨by rfl, ?_⟩) (by assumption) ?_
   rotate_left
   ·intro w hSw
    try dsimp only at hSw
    go_simp
    try with_reducible rfl
   simp only [Act.put, z1, z2, z3, z4, z5, z6]
   refine tkH (i := 7) (v := ?_) rfl (by kernel_rfl) (fun _ _ _ h => h) (Or.inl ⟨by rfl, ?_⟩) (by assumption) ?_
   rotate_left
   ·intro w hSw
    try dsimp only at hSw
    go_simp
    try with_reducible rfl
   simp only [Act.put, z1, z2, z3, z4, z5, z6]
   refine wpAnyH_ready (rs := [3]) (by kernel_rfl) (by simp) ?_
   refine AllReadyH.cons rfl (fun Kc hKc => ?_) AllReadyH.nil
   go_simp
   go_wp2_with (((try simp only [ij, ij1, hs0, hs1]); first | ((with_reducible refine (P1.out _).mono ?_); rintro e w9 ⟨rfl, rfl⟩) | ((with_reducible refine (P2.out _).mono ?_); rintro e w9 ⟨rfl, rfl⟩)))
   refine hKc.out _ _ ?_ (fun hHeld => ?_)
   ·exact hHeld
   clear hKc Kc
   refine wpAnyH_ready (rs := [8]) (by kernel_rfl) (by simp) ?_
   refine AllReadyH.cons rfl (fun Kc hKc => ?_) AllReadyH.nil
   go_simp
   go_wp2_with (((try simp only [ij, ij1, hs0, hs1]); first | ((with_reducible refine (P1.out _).mono ?_); rintro e w9 ⟨rfl, rfl⟩) | ((with_reducible refine (P2.out _).mono ?_); rintro e w9 ⟨rfl, rfl⟩)))
   refine hKc.out _ _ ?_ (fun hHeld => ?_)
   ·exact hHeld
   clear hKc Kc
   refine tkH (i := 9) (v := ?_) rfl (by kernel_rfl) (fun _ _ _ h => h) (Or.inl ⟨by rfl, ?_⟩) (by assumption) ?_
   rotate_left
   ·intro w hSw
    try dsimp only at hSw
    go_simp
    try with_reducible rfl
   simp only [Act.put, z1, z2, z3, z4, z5, z6]
   refine tkH (i := 10) (v := ?_) rfl (by kernel_rfl) (fun _ _ _ h => h) (Or.inl ⟨by rfl, ?_⟩) (by assumption) ?_
   rotate_left
   ·intro w hSw
    try dsimp only at hSw
    go_simp
    try with_reducible rfl
   simp only [Act.put, z1, z2, z3, z4, z5, z6]
   refine wpAnyH_done (by kernel_rfl) ?_ _
   have HHE := Lib.hid hHeld
   clear hHeld P1 P2 hs0 hs1
   have hor := or16 x (by omega)
   have hmx : (x : Int) % 256 = (x : Int) := by omega
   have x0 : ¬ ((x : Int) / 16 < 0) := by omega
   have x1 : ¬ ((x : Int) % 16 < 0) := by omega
   have HAP : Hid ((bs.take j).map (Value.int .u8) ++ [.int .u8 (x : Int)] = (bs.take (j + 1)).map (Value.int .u8)) := Lib.hid (by
    have hlb : j < bs.length := by have := HN.out; omega
    rw [List.take_succ_eq_append_getElem hlb, List.map_append]
    have := HXC.out
    simp [cellD, hlb] at this
    simp [this])
   have HLN : Hid ((bs.take j).length + 1 = (bs.take (j + 1)).length) := Lib.hid (by have := HN.out; simp; omega)
   have hlt' : (bs.take j).length ≤ 100000 := by simp; omega
   have hc1 : (bs.take j).length + 1 ≤ maxLen := by unfold maxLen; omega
   have hc4 : ((bs.take j).length + 1) * 1 ≤ 140737488355328 := by omega
   generalize wr.drew = wd at *
   have hsz2 := HHE.out.2.size
   go_wp2_with (at_builtin; go_loud (refine wpList_append_own_at _ rfl _ _ 41 rfl w.heap.size 5 i0' (.int .u8 0) 1 1 Tryz.underlying41 hi hz0 hz1 hz2 rfl (by decide) _ (bs.take j).length _ rfl (World.ownsRow.alloc HHE.out.1 _) ⟨wd.heap.size, 0, none⟩ 1 1 [.int .u8 (x : Int)] rfl rfl (cell_one_new _ _ _) ?c2 hc1 hc4 ?c5 ?_))
   case c2 => simp [Value.oneCell']
   case c5 => (try simp); omega
   intro v8 w8 hown' hgrow hnil' hq9
   have HO8 : Hid (OwnB w8 w.heap.size v8 (bs.take (j + 1))) := Lib.hid (by unfold OwnB; rw [← HAP.out, ← HLN.out]; simpa using hown')
   have HB8 : Hid (Below w.heap.size w w8) := Lib.hid ((HHE.out.2.alloc HHE.out.2.size _).grown hgrow (by simp; omega) (fun k e => (HHE.out.1.lt k e).1))
   clear hown' hgrow hnil' hq9
   go_wp2
   go_roundw
   case rel => exact ⟨j + 1, by omega, by go_num, HO8.out, HB8.out⟩
   case measure => simp [intOf]; omega
  ·obtain rfl : j = n := by omega
   have hfull : bs.take j = bs := by rw [HN.out, List.take_length]
   rw [hfull] at HO
   go_wp2_with fail
   go_ret2
   exact ⟨⟨_, rfl, HO.out⟩, HB.out⟩
end Go.Proofs.YtfeficdndjiijaaGreatDoor


namespace Go.Proofs.YtfeficdndjiijaaGreatDoor
open Go.RowKit
set_option linter.unusedVariables false
set_option linter.unusedSimpArgs false

set_option maxRecDepth 100000 in
set_option maxHeartbeats 4000000 in
theorem cmd_import (w : World) (R : Nat) (v : Value) (ws : List (List UInt8)) (en : Int) (bs : List Int) (hb : Byts bs) (hb1 : 1 ≤ bs.length) (hbl : bs.length ≤ 100000) (hr : Rd w R v 0 en) (hv : WdAt w v ws) (h0 : ws[0]? = some [105, 109, 112, 111, 114, 116]) (hl : ws.length ≤ 65536) (h1 : ws[1]? = some (hexT bs)) :
  Calls Tryz.prog 44 #[.pointer (some ⟨R, 0, none⟩)] w fun e w' => (∃ x, e = .returned (.iface 129 (.agg #[x])) ∧ BytesAt w' x bs) ∧ Rd w' R v 2 en ∧ w.grownBy w' (some R) := by
 have PX := Lib.hid (rdnext w R v ws 0 en _ hr hv h0 hl)
 have HR := Lib.hid hr
 have HV := Lib.hid hv
 have HL := Lib.hid hl
 have PA := Lib.hid (fun w hr hv => rdnext w R v ws 1 en _ hr hv h1 hl)
 have PB := Lib.hid (fun w => bytes_hex w bs hb hb1 hbl)
 clear hr hv h0 hl h1 hb hb1 hbl
 have hvl := sB_list [105, 109, 112, 111, 114, 116]
 obtain ⟨S, hS⟩ : ∃ S, S = sB [105, 109, 112, 111, 114, 116] := ⟨_, rfl⟩
 rw [← hS] at PX hvl
 clear hS
 generalize sB (hexT bs) = HX at *
 go_enter Tryz.func44, Tryz.ntmps44
 go_wp2_with fail
 with_reducible refine PX.out.mono ?_
 rintro e w2 ⟨rfl, hb⟩
 have hr2 := Blk.kept HR.out hb
 have c1 := hr2.cell 1
 have f1 := hr2.frozen 1
 simp at c1
 have hg1 : w2.grownBy (w2.setCell ⟨R, 1, none⟩ (.int .i64 1)) (some R) := gr_setC (World.grownBy.refl _ _) 1 _
 have HR3 : Hid (Rd (w2.setCell ⟨R, 1, none⟩ (.int .i64 1)) R v 1 en) := Lib.hid (by unfold Rd; simpa using Blk.set_ hr2 1 (.int .i64 1))
 have HV3 := Lib.hid ((HV.out.kept hb).grown hr2 (by decide) hg1)
 have HB3 := Lib.hid (gr_trans (below_gr (row := some R) hb) hg1)
 clear hb hr2 hg1 PX HR HV
 have PA3 := Lib.hid (PA.out _ HR3.out HV3.out)
 go_wp2_with fail
 generalize w2.setCell ⟨R, 1, none⟩ (.int .i64 1) = w3 at *
 with_reducible refine PA3.out.mono ?_
 rintro e w4 ⟨rfl, hb4⟩
 have HR4 := Lib.hid (Blk.kept HR3.out hb4)
 have HB4 := Lib.hid (gr_trans HB3.out (below_gr (row := some R) hb4))
 clear hb4 c1 f1
 go_wp2_with fail
 with_reducible refine (PB.out _).mono ?_
 rintro e w5 ⟨⟨x, rfl, hx⟩, hb5⟩
 obtain ⟨ao, cap, rfl, -, -⟩ := (show OwnB w5 w4.heap.size x bs from hx).open_
 have hr5 : Blk w5 R _ _ := Blk.kept HR4.out hb5
 have c1 := hr5.cell 1
 have f1 := hr5.frozen 1
 simp at c1
 have hg6 : w5.grownBy (w5.setCell ⟨R, 1, none⟩ (.int .i64 2)) (some R) := gr_setC (World.grownBy.refl _ _) 1 _
 have HR6 : Hid (Rd (w5.setCell ⟨R, 1, none⟩ (.int .i64 2)) R v 2 en) := Lib.hid (by unfold Rd; simpa using Blk.set_ hr5 1 (.int .i64 2))
 have HB6 := Lib.hid (gr_trans (gr_trans HB4.out (below_gr (row := some R) hb5)) hg6)
 have HX6 : Hid (BytesAt (w5.setCell ⟨R, 1, none⟩ (.int .i64 2)) (.slice ao bs.length cap) bs) := Lib.hid (by
  have ho : OwnB (w5.setCell ⟨R, 1, none⟩ (.int .i64 2)) w4.heap.size (.slice ao bs.length cap) bs := World.ownsRow.kept hx hg6 (.inr (fun e => OwnB.far (show OwnB w5 w4.heap.size _ bs from hx) hr5 (by decide) e.symm))
  exact ho.at)
 clear hb5 hr5 hg6 hx
 go_wp2_with fail
 go_ret
 exact ⟨⟨_, rfl, HX6.out⟩, HR6.out, HB6.out⟩
end Go.Proofs.YtfeficdndjiijaaGreatDoor


namespace Go.Proofs.YtfeficdndjiijaaGreatDoor
open Go.RowKit
set_option linter.unusedVariables false
set_option linter.unusedSimpArgs false

set_option maxRecDepth 100000 in
set_option maxHeartbeats 4000000 in
theorem do_import (w : World) (A : Nat) (ao : Option Addr) (k cp : Nat) (Q : Value → Int → World → Prop) (N : Option Addr → Int → World → Prop) (h1 : ∀ w1, Below w.heap.size w w1 → Calls Tryz.prog 16 #[.slice ao k cp] w1 fun e w' => ∃ p er, e = .returned (.tuple #[.pointer p, .int .i64 er]) ∧ N p er w')
  (h2 : ∀ p er w2, N p er w2 → Calls Tryz.prog 47 #[.pointer (some ⟨A, 0, none⟩), .agg #[.pointer p, .pointer none], .int .i64 er] w2 fun e w' => ∃ r er', e = .returned (.tuple #[r, .int .i64 er']) ∧ Q r er' w') :
  Calls Tryz.prog 24 #[.pointer (some ⟨A, 0, none⟩), .iface 129 (.agg #[.slice ao k cp])] w fun e w' => ∃ r er', e = .returned (.tuple #[r, .int .i64 er']) ∧ Q r er' w' := by
 have t0 := tcImportCreate ao k cp
 have t1 := tcImportOpen ao k cp
 have t2 := tcImportAdd ao k cp
 have t3 := tcImportTick ao k cp
 have t4 := tcImportQuery ao k cp
 have t5 := tcImportPair ao k cp
 have t6 := tcImportImport ao k cp
 have hb1 : Below w.heap.size w (w.alloc (.cells #[.slice ao k cp] 129)) := (Below.refl _ w).alloc (Nat.le_refl _) _
 have H1 := Lib.hid (h1 _ hb1)
 have H2 := Lib.hid h2
 clear h1 h2 hb1
 go_enter Tryz.func24, Tryz.ntmps24
 go_wp2_with fail
 with_reducible refine H1.out.mono ?_
 rintro e w2 ⟨p, er, rfl, hq⟩
 have H3 := Lib.hid (H2.out p er _ hq)
 clear hq H1 H2
 go_wp2_with fail
 with_reducible refine H3.out.mono ?_
 rintro e w3 ⟨r, er', rfl, hq⟩
 have HQ := Lib.hid hq
 clear hq H3
 go_wp2_with fail
 go_ret2
 exact ⟨r, er', rfl, HQ.out⟩
set_option maxRecDepth 100000 in
set_option maxHeartbeats 4000000 in
theorem made_err (w : World) (A : Nat) (p : Option Addr) (er : Int) (he : er ≠ 0) (q : Option Addr) :
    Calls Tryz.prog 47 #[.pointer (some ⟨A, 0, none⟩), .agg #[.pointer p, .pointer q], .int .i64 er] w fun e w' => e = .returned (.tuple #[.nilIface, .int .i64 er]) ∧ Below w.heap.size w w' := by
  have hb := below_alloc1 w (.cells #[.pointer p, .pointer q] 84)
  have HB := Lib.hid hb
  have e1 : (er == 0) = false := by simp [he]
  have e2 : (er != 0) = true := by simp [he]
  clear hb
  go_enter Tryz.func47, Tryz.ntmps47
  go_wp2_with fail
  go_ret2
  exact ⟨rfl, HB.out⟩
end Go.Proofs.YtfeficdndjiijaaGreatDoor


namespace Go.Proofs.YtfeficdndjiijaaGreatDoor
open Go.RowKit
set_option linter.unusedVariables false
set_option linter.unusedSimpArgs false

theorem errtext (n : Int) (h : In64 n) (w : World) (ht : Tab w) : Calls Tryz.prog 22 #[.int .i64 n] w fun e w' => e = .returned (.string (sB ([101, 114, 114, 111, 114, 32] ++ Lib.itoa n))) ∧ Below w.heap.size w w' := by
  have P := Lib.hid (fun w ht => itoaAny n h.1 h.2 w ht)
  have HT := Lib.hid ht
  have zn := itoa_len n h.1 h.2
  have hS := sB_append [101, 114, 114, 111, 114, 32] (Lib.itoa n)
  have l2 : sB [101, 114, 114, 111, 114, 32] = ⟨#[101, 114, 114, 111, 114, 32]⟩ := rfl
  rw [l2] at hS
  obtain ⟨RS, hRS⟩ : ∃ RS, RS = sB ([101, 114, 114, 111, 114, 32] ++ Lib.itoa n) := ⟨_, rfl⟩
  rw [← hRS] at hS ⊢
  clear hRS l2 ht h
  generalize sB (Lib.itoa n) = T at *
  have z1 : ¬ 9223372036854775807 < 6 + T.size := by omega
  have HS := Lib.hid hS
  clear hS
  go_enter Tryz.func22, Tryz.ntmps22
  go_wp2_with fail
  with_reducible refine (P.out _ HT.out).mono ?_
  rintro e w1 ⟨rfl, hb⟩
  have HB := Lib.hid hb
  clear hb
  go_wp2_with fail
  go_ret
  exact ⟨by rw [HS.out]; rfl, HB.out⟩
theorem line_two (A : Nat) (S : ByteArray) (w : World) (PC : Value → World → Prop) (R1 : Value → World → Prop) (R2 : Int → World → Prop) (Fin : ByteArray → World → Prop) (hif : ∀ c w, PC c w → ∃ t v, c = .iface t v)
  (hp : Calls Tryz.prog 21 #[.string S] w fun e w' => ∃ c, e = .returned (.tuple #[c, .int .i64 0, .int .i64 0]) ∧ PC c w' ∧ Below w.heap.size w w')
  (hd : ∀ c w1, Below w.heap.size w w1 → PC c w1 → Calls Tryz.prog 24 #[.pointer (some ⟨A, 0, none⟩), c] w1 fun e w' => ∃ r er, e = .returned (.tuple #[r, .int .i64 er]) ∧ ((er = 0 ∧ R1 r w') ∨ (er ≠ 0 ∧ R2 er w')))
  (ht : ∀ r w2, R1 r w2 → Calls Tryz.prog 25 #[r] w2 fun e w' => ∃ s, e = .returned (.string s) ∧ Fin s w')
  (he : ∀ er w2, R2 er w2 → Calls Tryz.prog 22 #[.int .i64 er] w2 fun e w' => ∃ s, e = .returned (.string s) ∧ Fin s w') :
  Calls Tryz.prog 8 #[.pointer (some ⟨A, 0, none⟩), .string S] w fun e w' => ∃ s, e = .returned (.tuple #[.string s, .bool true]) ∧ Fin s w' := by
 have HP := Lib.hid hp
 have HD := Lib.hid hd
 have HT := Lib.hid ht
 have HE := Lib.hid he
 have HIF := Lib.hid hif
 clear hp hd ht hif he
 go_enter Tryz.func8, Tryz.ntmps8
 go_wp2_with fail
 with_reducible refine HP.out.mono ?_
 rintro e w1 ⟨c, rfl, hc, hb⟩
 obtain ⟨t, v, rfl⟩ := HIF.out _ _ hc
 have HD1 := Lib.hid (HD.out _ _ hb hc)
 clear hb hc HD HIF HP
 go_wp2_with fail
 with_reducible refine HD1.out.mono ?_
 rintro e w2 ⟨r, er, rfl, hr⟩
 rcases hr with ⟨rfl, hr⟩ | ⟨hne, hr⟩
 ·have HT1 := Lib.hid (HT.out _ _ hr)
  clear hr HT HD1
  go_wp2_with fail
  with_reducible refine HT1.out.mono ?_
  rintro e w3 ⟨s, rfl, hf⟩
  have HF := Lib.hid hf
  clear hf HT1
  go_wp2_with fail
  go_ret2
  exact ⟨s, rfl, HF.out⟩
 ·have HE1 := Lib.hid (HE.out _ _ hr)
  have e1 : (er == 0) = false := by simp [hne]
  have e2 : (er != 0) = true := by simp [hne]
  clear hr HT HD1 HE
  go_wp2_with fail
  with_reducible refine HE1.out.mono ?_
  rintro e w3 ⟨s, rfl, hf⟩
  have HF := Lib.hid hf
  clear hf HE1
  go_wp2_with fail
  go_ret2
  exact ⟨s, rfl, HF.out⟩
end Go.Proofs.YtfeficdndjiijaaGreatDoor


namespace Go.Proofs.YtfeficdndjiijaaGreatDoor
open Go.RowKit
set_option linter.unusedVariables false
set_option linter.unusedSimpArgs false

theorem Tryz.slPc (w : World) (a : Option Addr) (n c : Nat) : Sem.run Tryz.prog (binOp .eql 256 (.slice a n c) (.slice none 0 0)) w = .ok (.bool a.isNone) w := Go.Lib.run_eql_slice_nil w 256 155 a n c 0 0 Tryz.underlying256
set_option maxRecDepth 100000 in
set_option maxHeartbeats 4000000 in
theorem pclone (w : World) (g n cap : Nat) (l : List (Nat × Nat)) (hl : l.length = n) (hn : n ≤ 1000) (hp : ∀ j u, (pCells l)[j]? = some u → w.cell? ⟨g, j, none⟩ = some u) (hg : g < w.heap.size) :
  Calls Tryz.prog 181 #[.slice (some ⟨g, 0, none⟩) n cap] w fun e w' => ∃ v, e = .returned v ∧ w'.ownsRow w.heap.size 155 2 v n (pCells l) ∧ Below w.heap.size w w' := by
 obtain ⟨iP, hP, hP0, hP1, hP2⟩ := info_parts (show (Tryz.prog.info? 155).map (fun i => (i.zero, i.size, i.bytes)) = some (some (.agg #[.int .i64 0, .int .u64 0]), 2, 16) by kernel_rfl)
 have hal : Below w.heap.size w (w.alloc (.cells #[] 155)) := (Below.refl _ _).alloc (Nat.le_refl _) _
 have HB := Lib.hid hal
 have HCE : Hid (∀ j u, (pCells l)[j]? = some u → World.cell? (w.alloc (.cells #[] 155)) ((Addr.mk g 0 none).add j) = some u) := Lib.hid (fun j u hu => by
  rw [Addr.add_mid, Nat.zero_add]
  exact (hal.cell (p := ⟨g, j, none⟩) hg).trans (hp j u hu))
 have HLB : Hid (World.ownsRow (w.alloc (.cells #[] 155)) w.heap.size 155 2 (.slice (some ⟨w.heap.size, 0, none⟩) 0 0) 0 []) := Lib.hid (World.ownsRow_lit (base := w.heap.size) (e := 155) (size := 2) _ #[] 0 (Nat.le_refl _) (by unfold maxLen; omega) (by simp))
 have hln : (pCells l).length = n * 2 := by rw [pCells_len, hl]
 have hone : ∀ u ∈ pCells l, u.oneCell' = true := by
  intro u hu
  simp only [pCells, List.mem_flatMap] at hu
  obtain ⟨p, -, hp⟩ := hu
  simp [pc2] at hp
  rcases hp with rfl | rfl <;> rfl
 have h63 : 0 + n ≤ maxLen := by unfold maxLen; omega
 have hby : (0 + n) * 16 ≤ 140737488355328 := by omega
 have HSI : Hid (w.heap.size ≤ (w.alloc (.cells #[] 155)).heap.size) := Lib.hid (by simp)
 have hsl := Tryz.slPc
 clear hp hal hg
 go_enter Tryz.func181, Tryz.ntmps181
 go_wp2_with (at_builtin; go_loud (refine wpList_append_own_at _ rfl _ _ 256 rfl w.heap.size 155 iP (.agg #[.int .i64 0, .int .u64 0]) 2 16 Tryz.underlying256 hP hP0 hP1 hP2 rfl (by decide) _ 0 _ rfl HLB.out ⟨g, 0, none⟩ n cap (pCells l) rfl hln HCE.out hone h63 hby HSI.out ?_))
 intro v' w2 hown hgrow hnil hloc
 have HO := Lib.hid hown
 have HB2 : Hid (Below w.heap.size w w2) := Lib.hid (HB.out.grown hgrow HSI.out (fun k e => (HLB.out.lt k e).1))
 obtain ⟨ao, cp, hv⟩ := own_form hown
 subst hv
 clear hown hgrow hnil hloc
 go_wp2
 go_ret
 exact ⟨_, rfl, HO.out, HB2.out⟩
end Go.Proofs.YtfeficdndjiijaaGreatDoor


namespace Go.Proofs.YtfeficdndjiijaaGreatDoor
open Go.RowKit
set_option linter.unusedVariables false
set_option linter.unusedSimpArgs false

def wayN (pt : Nat → Nat → Int) : Nat → Nat → Int → Nat
  | 0, i, _ => i
  | n + 1, i, k => if k ≤ pt n (2 * i) then wayN pt n (2 * i) k else wayN pt n (2 * i + 1) (k - pt n (2 * i))
theorem pCells_at (l : List (Nat × Nat)) : ∀ (t : Nat) (p : Nat × Nat), l[t]? = some p → ∀ j u, (pc2 p)[j]? = some u → (pCells l)[t * 2 + j]? = some u := by
  induction l with
  | nil => intro t p ht; simp at ht
  | cons a rest ih =>
    intro t p ht j u hu
    have hj : j < 2 := by have := (List.getElem?_eq_some_iff.1 hu).1; simpa [pc2] using this
    cases t with
    | zero =>
      simp at ht
      subst ht
      show (pc2 a ++ pCells rest)[0 * 2 + j]? = _
      rw [List.getElem?_append_left (by simp [pc2]; omega)]
      simpa using hu
    | succ t =>
      simp only [List.getElem?_cons_succ] at ht
      show (pc2 a ++ pCells rest)[(t + 1) * 2 + j]? = _
      rw [List.getElem?_append_right (by simp [pc2]; omega), show (t + 1) * 2 + j - (pc2 a).length = t * 2 + j by simp [pc2]; omega]
      exact ih t p ht j u hu
theorem pcAt_blk {w : World} {g : Nat} {t : TypeId} {l : List (Nat × Nat)} (h : Blk w g t (pCells l).toArray) : PcAt w g l := by
  refine ⟨h.lt, fun o => h.frozen o, fun i p hp => blkRange h _ _ (fun j u hu => ?_)⟩
  rw [List.getElem?_toArray]
  exact pCells_at l i p hp j u hu
theorem zero60 : Tryz.zeroCells316 = (pCells (List.replicate 60 (0, 0))).toArray := by kernel_rfl
set_option maxRecDepth 100000 in
set_option maxHeartbeats 16000000 in
theorem way_any (w : World) (base S L : Nat) (nb : Nat) (r d m s : Int) (X : Nat → Value) (A G C : Nat → Nat) (Z : Nat → List Int) (h : StIs w base S L (nb : Int) r d m s X A G C Z) (s0 : 0 ≤ s) (s1 : s ≤ 18446744073709551615) (hb1 : 1 ≤ nb) (hb : nb ≤ 59) (pt : Nat → Nat → Int) (hpt : ∀ n i, n ≤ nb → pt n i = lvPt (nb : Int) r d m s (n : Int) (Z n) i) (hpb : ∀ n i, 0 ≤ pt n i ∧ pt n i ≤ 9223372036854775807)
  (k : Int) (k0 : 1 ≤ k) (k1 : k ≤ pt nb 0) :
  Calls Tryz.prog 137 #[.pointer (some ⟨S, 0, none⟩), .int .i64 k] w fun e w' => ∃ v l, e = .returned (.tuple #[v, .int .i64 0]) ∧ w'.ownsRow w.heap.size 155 2 v (nb + 1) (pCells l) ∧ l.length = nb + 1 ∧ l[nb]? = some (0, wayN pt nb 0 k) ∧ Below w.heap.size w w' := by
 have PT := Lib.hid (sttotal w base S L nb r d m s X A G C Z h s0 s1)
 rw [← hpt nb 0 (Nat.le_refl _)] at PT
 have PF := Lib.hid (fun w base S L b r d m s X A G C Z h => stconfig w base S L b r d m s X A G C Z h)
 have HS := Lib.hid h
 have HPT := Lib.hid hpt
 have HPB := Lib.hid hpb
 have hk9 := (hpb nb 0).2
 have e1 : ¬ (k < 1) := by omega
 have e2 : ¬ (k > pt nb 0) := by omega
 have e2' : ¬ (pt nb 0 < k) := by omega
 have hfd : ∀ w : World, (Instr.field 24 (.agg #[.int .i64 (nb : Int), .int .i64 r, .int .i64 d, .int .i64 m, .int .u64 s]) 0).run Tryz.prog w = .ok (.int .i64 (nb : Int)) w := fun _ => by kernel_rfl
 clear h hpt hpb
 go_enter Tryz.func137, Tryz.ntmps137
 go_wp2_with fail
 apply wp_scope_straight
 go_wp2_with fail
 with_reducible refine PT.out.mono ?_
 rintro e w2 ⟨rfl, hb2⟩
 have HS2 := Lib.hid (HS.out.kept hb2)
 have HB2 := Lib.hid hb2
 clear hb2 HS PT
 go_wp2_with fail
 with_reducible refine (PF.out _ _ _ _ _ _ _ _ _ _ _ _ _ _ HS2.out).mono ?_
 rintro e w3 ⟨rfl, hb3⟩
 have HS3 := Lib.hid (HS2.out.kept hb3)
 have HB3 := Lib.hid (btr HB2.out hb3)
 clear hb3 HS2 HB2 PF
 go_upto_region 4 with fail
 go_upto_region 5 with fail
 have hpa : PcAt (w3.alloc (.cells Tryz.zeroCells316 316)) w3.heap.size (List.replicate 60 (0, 0)) := pcAt_blk (t := 316) (by rw [← zero60]; exact Blk.new w3 _ _)
 have HPA := Lib.hid hpa
 have HS4 := Lib.hid (HS3.out.kept (below_alloc1 w3 (.cells Tryz.zeroCells316 316)))
 have HB4 := Lib.hid (btr HB3.out (below_alloc1 w3 (.cells Tryz.zeroCells316 316)))
 have HWB : Hid (w.heap.size ≤ w3.heap.size) := Lib.hid HB3.out.size
 have c0 := hpa.rng 0 (0, 0) (by simp) 0 _ rfl
 have c1 := hpa.rng 0 (0, 0) (by simp) 1 _ rfl
 have f0 := hpa.nofr 0
 have f1 := hpa.nofr 1
 simp only [Nat.zero_mul, Nat.zero_add, Nat.add_zero] at c0 c1
 generalize (w3.alloc (.cells Tryz.zeroCells316 316)) = w4 at *
 have HU3 := Lib.hid HS3.out.under
 have HSC : Hid (∀ n, n < w3.heap.size → ((w4.setCell ⟨w3.heap.size, 0, none⟩ (.int .i64 (nb : Int))).setCell ⟨w3.heap.size, 1, none⟩ (.int .u64 0)).heap[n]? = w4.heap[n]?) := Lib.hid (fun n hn => (Below.heap_setCell _ _ _ _ (by intro e; simp at e; omega)).trans (Below.heap_setCell _ _ _ _ (by intro e; simp at e; omega)))
 clear hpa HS3 HB3
 go_upto_region 6 with fail
 have HP5 : Hid (PcAt ((w4.setCell ⟨w3.heap.size, 0, none⟩ (.int .i64 (nb : Int))).setCell ⟨w3.heap.size, 1, none⟩ (.int .u64 0)) w3.heap.size ((List.replicate 60 (0, 0)).set 0 (nb, 0))) := Lib.hid (HPA.out.set (i := 0) (by simp) (nb, 0))
 have HS5 : Hid (StIs ((w4.setCell ⟨w3.heap.size, 0, none⟩ (.int .i64 (nb : Int))).setCell ⟨w3.heap.size, 1, none⟩ (.int .u64 0)) base S L (nb : Int) r d m s X A G C Z) := Lib.hid (by
  have hu := HU3.out
  refine HS4.out.frame ?_ ?_ (fun n hn => ⟨?_, ?_, ?_⟩)
  ·exact (HSC.out _ (by omega))
  ·exact (HSC.out _ (by omega))
  ·exact (HSC.out _ (by have := hu.2.2 n hn; omega))
  ·exact (HSC.out _ (by have := hu.2.2 n hn; omega))
  ·exact (HSC.out _ (by have := hu.2.2 n hn; omega)))
 have HB5 : Hid (Below w.heap.size w ((w4.setCell ⟨w3.heap.size, 0, none⟩ (.int .i64 (nb : Int))).setCell ⟨w3.heap.size, 1, none⟩ (.int .u64 0))) := Lib.hid ((HB4.out.setCell (p := ⟨w3.heap.size, 0, none⟩) HWB.out _).setCell (p := ⟨w3.heap.size, 1, none⟩) HWB.out _)
 generalize ((w4.setCell ⟨w3.heap.size, 0, none⟩ (.int .i64 (nb : Int))).setCell ⟨w3.heap.size, 1, none⟩ (.int .u64 0)) = w5 at *
 clear c0 c1 f0 f1 HPA HS4 HB4 e2 e2' HSC
 go_wp2_with fail
 apply wp_label
 go_wp2_with fail
 go_loopw [1, 8] (fun a1 a8 wr => ∃ (j i : Nat) (q : Int) (ys : List (Nat × Nat)), a1 = .int .i64 q ∧ a8 = .int .i64 (j : Int) ∧ j ≤ nb ∧ ys.length = 60 ∧ ys[j]? = some (nb - j, i) ∧ i < 2 ^ j ∧ 1 ≤ q ∧ q ≤ 9223372036854775807 ∧ wayN pt nb 0 k = wayN pt (nb - j) i q ∧ PcAt wr w3.heap.size ys ∧ StIs wr base S L (nb : Int) r d m s X A G C Z ∧ Below w.heap.size w wr) (fun _ a8 _ => nb - (intOf a8).toNat)
 case atStart => exact ⟨0, 0, k, _, rfl, rfl, by omega, by simp, by simp, by simp, k0, by omega, rfl, HP5.out, HS5.out, HB5.out⟩
 case round =>
  obtain ⟨j, i, q, ys, rfl, rfl, hj, hyl, hyj, hi, hq0, hq1, hw, hpa, hst, hbel⟩ := hrel
  have cA := hpa.rng j (nb - j, i) hyj 0 _ rfl
  have cB := hpa.rng j (nb - j, i) hyj 1 _ rfl
  simp only [Nat.add_zero] at cA
  have i0 : (0 : Int) ≤ (j : Int) := by omega
  have i1 : (j : Int) < 60 := by omega
  have HPA1 := Lib.hid hpa
  have HST1 := Lib.hid hst
  have HBL1 := Lib.hid hbel
  have HYJ := Lib.hid hyj
  have HW1 := Lib.hid hw
  clear hpa hst hbel hyj hw
  by_cases hjn : j = nb
  ·subst hjn
   have hl0 : ((j - j : Nat) : Int) = 0 := by simp
   have hln : (ys.take (j + 1)).length = j + 1 := by rw [List.length_take]; omega
   have PCL := Lib.hid (pclone wr w3.heap.size (j + 1) 60 (ys.take (j + 1)) hln (by omega) (fun x u hu => by
    have h1 := pcAt_cells HPA1.out x u (by
     have e : pCells ys = pCells (ys.take (j + 1)) ++ pCells (ys.drop (j + 1)) := by rw [← pCells_append, List.take_append_drop]
     rw [e, List.getElem?_append_left (List.getElem?_eq_some_iff.1 hu).1]
     exact hu)
    rw [Addr.add_mid, Nat.zero_add] at h1
    exact h1) HPA1.out.lt)
   have hwj : IntKind.i64.wrap ((j : Int) + 1) = (j : Int) + 1 := wrapI_of _ (by omega) (by omega)
   rw [hl0] at cA
   have hsa : ∀ w : World, (Instr.sliceAt 316 (.pointer (some ⟨w3.heap.size, 0, none⟩)) none (some (.int .i64 ((j : Int) + 1))) none).run Tryz.prog w = .ok (.slice (some ⟨w3.heap.size, 0, none⟩) (j + 1) 60) w := fun w => by
    have ht : Tryz.prog.underlying 316 = some (.array (Tryz.prog.arrayLen 316) (Tryz.prog.elem 316)) := by kernel_rfl
    have hal : Tryz.prog.arrayLen 316 = 60 := by kernel_rfl
    have hsz : (sizeOf (Tryz.prog.elem 316)).run Tryz.prog w = .ok 2 w := by kernel_rfl
    rw [run_sliceAt_array_h w 316 _ ht _ _ (by omega) (by rw [hal]; omega), hal, hsz]
    have htn : ((j : Int) + 1).toNat = j + 1 := by omega
    simp [slicedAt, Result.andThen, htn]
    try exact Addr.add_mid _ _ _
    try rfl
   go_wp2_with fail
   with_reducible refine PCL.out.mono ?_
   rintro e wz ⟨v, rfl, hown, hbz⟩
   have HOZ := Lib.hid hown
   have HBZ := Lib.hid (btr HBL1.out hbz)
   obtain ⟨ao, cp, hv⟩ := own_form hown
   subst hv
   clear hown hbz
   go_wp2_with fail
   try rw [Exit.noGoto_ret]
   go_ret2
   refine ⟨_, ys.take (j + 1), rfl, ownBase HOZ.out HBL1.out.size, hln, ?_, HBZ.out⟩
   rw [List.getElem?_take, if_pos (by omega), HYJ.out, HW1.out]
   simp [wayN]
  ·obtain ⟨n, hn⟩ : ∃ n, nb - j = n + 1 := ⟨nb - j - 1, by omega⟩
   have hnj : n + 1 ≤ nb := by omega
   have hnb' : nb - (n + 1) = j := by omega
   rw [hn] at cA
   have PH := halves_yes nb n i hb1 hb hnj (by rw [hnb']; exact hi) wr
   have en : ((n + 1 : Nat) : Int) = (n : Int) + 1 := by omega
   rw [en] at PH cA
   have PH := Lib.hid PH
   have g0 : (0 : Int) < (n : Int) + 1 := by omega
   have HWN := HW1.out
   rw [hn] at HWN
   have HWN := Lib.hid HWN
   go_wp2_with fail
   with_reducible refine PH.out.mono ?_
   rintro e w6 ⟨rfl, hb6⟩
   have HPA6 := Lib.hid (HPA1.out.kept hb6)
   have HST6 := Lib.hid (HST1.out.kept hb6)
   have HBL6 := Lib.hid (btr HBL1.out hb6)
   clear hb6 PH cA cB HPA1 HST1 HBL1
   have hwj : IntKind.i64.wrap ((j : Int) + 1) = (j : Int) + 1 := wrapI_of _ (by omega) (by omega)
   go_wp2_with fail
   obtain ⟨ga, gb, gc, gd⟩ := news2 w6 (.cells #[.int .i64 (n : Int), .int .u64 (2 * (i : Int))] 155) (.cells #[.int .i64 (n : Int), .int .u64 (2 * (i : Int) + 1)] 155)
   have HGA : Hid (Blk _ w6.heap.size 155 #[.int .i64 (n : Int), .int .u64 (2 * (i : Int))]) := Lib.hid ga
   have HGB : Hid (Blk _ (w6.heap.size + 1) 155 #[.int .i64 (n : Int), .int .u64 (2 * (i : Int) + 1)]) := Lib.hid gb
   have HPA7 := Lib.hid (HPA6.out.kept gc)
   have HST7 := Lib.hid (HST6.out.kept gc)
   have HBL7 := Lib.hid (btr HBL6.out gc)
   clear ga gb gc gd HPA6 HST6 HBL6
   generalize ((w6.alloc (.cells #[.int .i64 (n : Int), .int .u64 (2 * (i : Int))] 155)).alloc (.cells #[.int .i64 (n : Int), .int .u64 (2 * (i : Int) + 1)] 155)) = w7 at *
   have hp60 : 2 ^ (j + 1) ≤ 2 ^ 59 := Nat.pow_le_pow_right (by decide) (by omega)
   have h59 : (2 : Nat) ^ 59 = 576460752303423488 := by decide
   have hi2 : 2 * i < 2 ^ (j + 1) := by rw [Nat.pow_succ]; omega
   have hky : ((2 * i : Nat) : Int) < keysI (nb : Int) r d m (n : Int) := by
    rw [keysI_yes HST7.out.right (by omega) (by omega), show ((nb : Int) - (n : Int)).toNat = j + 1 by omega]
    have e : ((2 ^ (j + 1) : Nat) : Int) = (2 : Int) ^ (j + 1) := by simp
    rw [← e]
    omega
   have PPT := stpoint w7 base S L (nb : Int) r d m s X A G C Z HST7.out s0 s1 n (by simp; omega) (2 * i) (by omega) hky
   rw [← HPT.out n (2 * i) (by omega), show ((2 * i : Nat) : Int) = 2 * (i : Int) by omega] at PPT
   have PPT := Lib.hid PPT
   clear hp60 h59 hi2 hky
   with_reducible refine PPT.out.mono ?_
   rintro e w8 ⟨rfl, hb8⟩
   have HPA8 := Lib.hid (HPA7.out.kept hb8)
   have HST8 := Lib.hid (HST7.out.kept hb8)
   have HBL8 := Lib.hid (btr HBL7.out hb8)
   have HGA8 := Lib.hid ((show Blk w7 w6.heap.size 155 #[.int .i64 (n : Int), .int .u64 (2 * (i : Int))] from HGA.out).kept hb8)
   have HGB8 := Lib.hid ((show Blk w7 (w6.heap.size + 1) 155 #[.int .i64 (n : Int), .int .u64 (2 * (i : Int) + 1)] from HGB.out).kept hb8)
   have hpn := HPB.out n (2 * i)
   clear hb8 PPT HPA7 HST7 HBL7 HGA HGB
   by_cases hqn : q ≤ pt n (2 * i)
   ·go_upto_region 12 with fail
    obtain ⟨pz, hpz⟩ : ∃ p, ys[j + 1]? = some p := ⟨_, List.getElem?_eq_getElem (by omega)⟩
    have cE := HPA8.out.rng (j + 1) pz hpz 0 _ rfl
    have cF := HPA8.out.rng (j + 1) pz hpz 1 _ rfl
    have fE := HPA8.out.nofr ((j + 1) * 2)
    have fF := HPA8.out.nofr ((j + 1) * 2 + 1)
    have gA := HGA8.out.cell 0
    have gB := HGA8.out.cell 1
    simp at gA gB
    simp only [Nat.add_zero] at cE
    have i2 : (0 : Int) ≤ (j : Int) + 1 := by omega
    have i3 : (j : Int) + 1 < 60 := by omega
    have i4 : ((j : Int) + 1).toNat = j + 1 := by omega
    go_wp2_with fail
    have hsc : ∀ (x y : Value) z, z < w3.heap.size → ((w8.setCell ⟨w3.heap.size, (j + 1) * 2, none⟩ x).setCell ⟨w3.heap.size, (j + 1) * 2 + 1, none⟩ y).heap[z]? = w8.heap[z]? := fun x y z hz => (Below.heap_setCell _ _ _ _ (by intro e; simp at e; omega)).trans (Below.heap_setCell _ _ _ _ (by intro e; simp at e; omega))
    have hu := HU3.out
    have hcast : ((2 * i : Nat) : Int) = 2 * (i : Int) := by omega
    go_roundw
    case rel =>
     refine ⟨j + 1, 2 * i, q, ys.set (j + 1) (n, 2 * i), rfl, by go_num, by omega, by simp [hyl], by rw [List.getElem?_set_self (by omega), show nb - (j + 1) = n by omega], by rw [Nat.pow_succ]; omega, hq0, hq1, ?_, ?_, ?_, (HBL8.out.setCell (p := ⟨w3.heap.size, (j + 1) * 2, none⟩) HWB.out _).setCell (p := ⟨w3.heap.size, (j + 1) * 2 + 1, none⟩) HWB.out _⟩
     ·rw [HWN.out, show nb - (j + 1) = n by omega, wayN, if_pos hqn]
     ·rw [← hcast]; exact HPA8.out.set (i := j + 1) (by omega) (n, 2 * i)
     ·exact HST8.out.frame (hsc _ _ _ (by omega)) (hsc _ _ _ (by omega)) (fun z hz => ⟨hsc _ _ _ (by have := hu.2.2 z hz; omega), hsc _ _ _ (by have := hu.2.2 z hz; omega), hsc _ _ _ (by have := hu.2.2 z hz; omega)⟩)
    case measure => simp [intOf]; omega
   ·have PM := Lib.hid (minus_yes q (pt n (2 * i)) (by omega) hq1 (by omega) hpn.2 (by omega) (by omega) w8)
    go_wp2_with fail
    with_reducible refine PM.out.mono ?_
    rintro e w9 ⟨rfl, hb9⟩
    have HPA9 := Lib.hid (HPA8.out.kept hb9)
    have HST9 := Lib.hid (HST8.out.kept hb9)
    have HBL9 := Lib.hid (btr HBL8.out hb9)
    have HGB9 := Lib.hid (HGB8.out.kept hb9)
    clear hb9 PM
    go_upto_region 16 with fail
    obtain ⟨pz, hpz⟩ : ∃ p, ys[j + 1]? = some p := ⟨_, List.getElem?_eq_getElem (by omega)⟩
    have cE := HPA9.out.rng (j + 1) pz hpz 0 _ rfl
    have cF := HPA9.out.rng (j + 1) pz hpz 1 _ rfl
    have fE := HPA9.out.nofr ((j + 1) * 2)
    have fF := HPA9.out.nofr ((j + 1) * 2 + 1)
    have gA := HGB9.out.cell 0
    have gB := HGB9.out.cell 1
    simp at gA gB
    simp only [Nat.add_zero] at cE
    have i2 : (0 : Int) ≤ (j : Int) + 1 := by omega
    have i3 : (j : Int) + 1 < 60 := by omega
    have i4 : ((j : Int) + 1).toNat = j + 1 := by omega
    go_wp2_with fail
    have hsc : ∀ (x y : Value) z, z < w3.heap.size → ((w9.setCell ⟨w3.heap.size, (j + 1) * 2, none⟩ x).setCell ⟨w3.heap.size, (j + 1) * 2 + 1, none⟩ y).heap[z]? = w9.heap[z]? := fun x y z hz => (Below.heap_setCell _ _ _ _ (by intro e; simp at e; omega)).trans (Below.heap_setCell _ _ _ _ (by intro e; simp at e; omega))
    have hu := HU3.out
    have hcast : ((2 * i + 1 : Nat) : Int) = 2 * (i : Int) + 1 := by omega
    go_roundw
    case rel =>
     refine ⟨j + 1, 2 * i + 1, q - pt n (2 * i), ys.set (j + 1) (n, 2 * i + 1), rfl, by go_num, by omega, by simp [hyl], by rw [List.getElem?_set_self (by omega), show nb - (j + 1) = n by omega], by rw [Nat.pow_succ]; omega, by omega, by omega, ?_, ?_, ?_, (HBL9.out.setCell (p := ⟨w3.heap.size, (j + 1) * 2, none⟩) HWB.out _).setCell (p := ⟨w3.heap.size, (j + 1) * 2 + 1, none⟩) HWB.out _⟩
     ·rw [HWN.out, show nb - (j + 1) = n by omega, wayN, if_neg (by omega)]
     ·rw [← hcast]; exact HPA9.out.set (i := j + 1) (by omega) (n, 2 * i + 1)
     ·exact HST9.out.frame (hsc _ _ _ (by omega)) (hsc _ _ _ (by omega)) (fun z hz => ⟨hsc _ _ _ (by have := hu.2.2 z hz; omega), hsc _ _ _ (by have := hu.2.2 z hz; omega), hsc _ _ _ (by have := hu.2.2 z hz; omega)⟩)
    case measure => simp [intOf]; omega
end Go.Proofs.YtfeficdndjiijaaGreatDoor

