import Derived.Test.YtfeficdndjiijaaGreatDoorQze
import Derived.Deep.MidRow
import Derived.Test.YtfeficdndjiijaaGreatDoorQzl
import Derived.Test.YtfeficdndjiijaaGreatDoorQzh
import Derived.Test.YtfeficdndjiijaaGreatDoorQzj
import Derived.WalkMore
import Derived.Test.YtfeficdndjiijaaGreatDoorQzi
import Derived.Test.YtfeficdndjiijaaGreatDoorQzf
import Derived.Lib.Builder
import Derived.Lib.AppendStr
import Derived.Lib.UnsafeStr
import Derived.Laws.Externs
import Derived.Test.YtfeficdndjiijaaGreatDoorQzk
/-
  Contracts of the functions that TopWindow reaches, and the plain laws that it leans on. Conditions: none beyond those stated at each theorem.
-/
namespace Go.Proofs.YtfeficdndjiijaaGreatDoor
open Go.RowKit
set_option linter.unusedVariables false
set_option linter.unusedSimpArgs false

def toldR (pt : Nat → Nat → Int) (least : Int) (n : Nat) (row : List Nat) : List Nat := row.filter fun i => decide (least ≤ pt n i)
def kids (l : List Nat) : List Nat := l.flatMap fun i => [2 * i, 2 * i + 1]
def rowAt (pt : Nat → Nat → Int) (least : Int) (b : Nat) : Nat → List Nat
  | 0 => [0]
  | j + 1 => kids (toldR pt least (b - j) (rowAt pt least b j))
def askedUp (pt : Nat → Nat → Int) (least : Int) (b : Nat) : Nat → Nat
  | 0 => 0
  | j + 1 => askedUp pt least b j + (rowAt pt least b j).length
def foundR (pt : Nat → Nat → Int) (least : Int) (n : Nat) (row : List Nat) : List (Nat × Nat) := (toldR pt least n row).map fun i => (n, i)
def hvOut (pt : Nat → Nat → Int) (least : Int) (b : Nat) : Nat → List (Nat × Nat)
  | 0 => []
  | j + 1 => hvOut pt least b j ++ foundR pt least (b - j) (rowAt pt least b j)
theorem kids_len (l : List Nat) : (kids l).length = 2 * l.length := by
  induction l with
  | nil => rfl
  | cons a l ih => simp [kids] at ih ⊢; omega
theorem toldR_le (pt : Nat → Nat → Int) (least : Int) (n : Nat) (row : List Nat) : (toldR pt least n row).length ≤ row.length := List.length_filter_le _ _
theorem mem_kids {l : List Nat} {i : Nat} : i ∈ kids l ↔ i / 2 ∈ l := by
  unfold kids
  rw [List.mem_flatMap]
  constructor
  · rintro ⟨a, ha, h⟩
    simp at h
    rcases h with rfl | rfl
    · rwa [show 2 * a / 2 = a by omega]
    · rwa [show (2 * a + 1) / 2 = a by omega]
  · intro h
    refine ⟨i / 2, h, ?_⟩
    simp
    omega
theorem rowAt_lt (pt : Nat → Nat → Int) (least : Int) (b : Nat) : ∀ (j i : Nat), i ∈ rowAt pt least b j → i < 2 ^ j
  | 0, i, h => by simp [rowAt] at h; subst h; decide
  | j + 1, i, h => by
    rw [rowAt, mem_kids] at h
    have h2 := rowAt_lt pt least b j (i / 2) (List.mem_filter.1 h).1
    rw [Nat.pow_succ]
    omega
theorem askedUp_mono (pt : Nat → Nat → Int) (least : Int) (b : Nat) {j k : Nat} (h : j ≤ k) : askedUp pt least b j ≤ askedUp pt least b k := by
  induction h with
  | refl => exact Nat.le_refl _
  | step _ ih => exact Nat.le_trans ih (by rw [askedUp]; omega)
theorem hvOut_len (pt : Nat → Nat → Int) (least : Int) (b : Nat) : ∀ j, (hvOut pt least b j).length ≤ askedUp pt least b j
  | 0 => Nat.le_refl _
  | j + 1 => by
    rw [hvOut, askedUp, List.length_append, foundR, List.length_map]
    have := hvOut_len pt least b j
    have := toldR_le pt least (b - j) (rowAt pt least b j)
    omega
end Go.Proofs.YtfeficdndjiijaaGreatDoor


namespace Go.Proofs.YtfeficdndjiijaaGreatDoor
open Go.RowKit
set_option linter.unusedVariables false
set_option linter.unusedSimpArgs false

def pcCells (n : Nat) (l : List Nat) : List Value := l.flatMap fun (i : Nat) => [.int .i64 (n : Int), .int .u64 (i : Int)]
def fdCells (pt : Nat → Nat → Int) (l : List (Nat × Nat)) : List Value := l.flatMap fun p => [.int .i64 (p.1 : Int), .int .u64 (p.2 : Int), .int .i64 (pt p.1 p.2)]
theorem pcCells_get {n : Nat} : ∀ {l : List Nat} {t i : Nat}, l[t]? = some i → (pcCells n l)[2 * t]? = some (.int .i64 (n : Int)) ∧ (pcCells n l)[2 * t + 1]? = some (.int .u64 (i : Int))
  | [], t, i, h => by simp at h
  | a :: l, 0, i, h => by simp at h; subst h; simp [pcCells]
  | a :: l, t + 1, i, h => by
    have := pcCells_get (n := n) (l := l) (t := t) (i := i) (by simpa using h)
    rw [show 2 * (t + 1) = 2 * t + 2 by omega, show 2 * t + 2 + 1 = 2 * t + 1 + 2 by omega]
    have e : pcCells n (a :: l) = [.int .i64 (n : Int), .int .u64 (a : Int)] ++ pcCells n l := by simp [pcCells]
    rw [e, List.getElem?_append_right (by simp), List.getElem?_append_right (by simp)]
    simpa using this
theorem fdCells_get {pt : Nat → Nat → Int} : ∀ {l : List (Nat × Nat)} {t : Nat} {p : Nat × Nat}, l[t]? = some p → (fdCells pt l)[3 * t]? = some (.int .i64 (p.1 : Int)) ∧ (fdCells pt l)[3 * t + 1]? = some (.int .u64 (p.2 : Int)) ∧ (fdCells pt l)[3 * t + 2]? = some (.int .i64 (pt p.1 p.2))
  | [], t, p, h => by simp at h
  | a :: l, 0, p, h => by simp at h; subst h; simp [fdCells]
  | a :: l, t + 1, p, h => by
    have := fdCells_get (pt := pt) (l := l) (t := t) (p := p) (by simpa using h)
    rw [show 3 * (t + 1) = 3 * t + 3 by omega, show 3 * t + 3 + 1 = 3 * t + 1 + 3 by omega, show 3 * t + 3 + 2 = 3 * t + 2 + 3 by omega]
    have e : fdCells pt (a :: l) = [.int .i64 (a.1 : Int), .int .u64 (a.2 : Int), .int .i64 (pt a.1 a.2)] ++ fdCells pt l := by simp [fdCells]
    rw [e, List.getElem?_append_right (by simp), List.getElem?_append_right (by simp), List.getElem?_append_right (by simp)]
    simpa using this
def PcOwn (w : World) (base : Nat) (v : Value) (n : Nat) (l : List Nat) : Prop := w.ownsRow base 155 2 v l.length (pcCells n l)
def FdOwn (w : World) (base : Nat) (v : Value) (pt : Nat → Nat → Int) (l : List (Nat × Nat)) : Prop := w.ownsRow base 157 3 v l.length (fdCells pt l)
theorem own_cells {w : World} {base : Nat} {e : TypeId} {size : Nat} {v : Value} {n : Nat} {xs : List Value} (h : w.ownsRow base e size v n xs) (h0 : 0 < n) : ∃ g cap, v = .slice (some ⟨g, 0, none⟩) n cap ∧ base ≤ g ∧ g < w.heap.size ∧ n ≤ cap ∧ cap ≤ maxLen ∧ ∀ (j : Nat) (u : Value), xs[j]? = some u → w.cell? ⟨g, j, none⟩ = some u := by
  have hlt := h.lt
  have hc := fun (g : Nat) hg => h.cells (g := g) hg
  rcases h.2 with ⟨-, h1⟩ | ⟨g, cap, cur, rfl, hb, hg, hn, hm, hs, ht⟩
  · omega
  · refine ⟨g, cap, rfl, hb, (hlt g rfl).2, hn, hm, fun j u hu => ?_⟩
    have := hc g rfl j u hu
    rwa [Addr.add_mid, Nat.zero_add] at this
theorem own_mono {w : World} {base base' : Nat} {e : TypeId} {size : Nat} {v : Value} {n : Nat} {xs : List Value} (h : w.ownsRow base e size v n xs) (hb : base' ≤ base) : w.ownsRow base' e size v n xs :=
  ⟨h.1, h.2.imp id fun ⟨g, cap, cur, h1, h2, h3⟩ => ⟨g, cap, cur, h1, Nat.le_trans hb h2, h3⟩⟩
theorem own_open {w : World} {base : Nat} {e : TypeId} {size : Nat} {v : Value} {n : Nat} {xs : List Value} (h : w.ownsRow base e size v n xs) : ∃ ao cap, v = .slice ao n cap ∧ n ≤ cap ∧ cap ≤ maxLen := by
  rcases h.2 with ⟨rfl, rfl⟩ | ⟨g, cap, cur, h1, h2, h3, h4, h5, -⟩
  · exact ⟨none, 0, rfl, Nat.le_refl _, by unfold maxLen; omega⟩
  · exact ⟨_, cap, h1, h4, h5⟩
theorem PcOwn.range {w : World} {base : Nat} {v : Value} {n : Nat} {l : List Nat} (h : PcOwn w base v n l) {t i : Nat} (ht : l[t]? = some i) : ∃ g cap, v = .slice (some ⟨g, 0, none⟩) l.length cap ∧ base ≤ g ∧ g < w.heap.size ∧ l.length ≤ cap ∧ cap ≤ maxLen ∧ w.rangeAt g (t * 2) [.int .i64 (n : Int), .int .u64 (i : Int)] := by
  have hl : t < l.length := (List.getElem?_eq_some_iff.1 ht).1
  obtain ⟨g, cap, h1, h2, h3, h4, h5, h6⟩ := own_cells h (by omega)
  obtain ⟨g0, g1⟩ := pcCells_get (n := n) ht
  rw [Nat.mul_comm 2 t] at g0 g1
  refine ⟨g, cap, h1, h2, h3, h4, h5, fun j u hu => ?_⟩
  match j, hu with
  | 0, hu => simp at hu; subst hu; simpa using h6 _ _ g0
  | 1, hu => simp at hu; subst hu; exact h6 _ _ g1
  | j + 2, hu => simp at hu
theorem FdOwn.range {w : World} {base : Nat} {v : Value} {pt : Nat → Nat → Int} {l : List (Nat × Nat)} (h : FdOwn w base v pt l) {t : Nat} {p : Nat × Nat} (ht : l[t]? = some p) : ∃ g cap, v = .slice (some ⟨g, 0, none⟩) l.length cap ∧ base ≤ g ∧ g < w.heap.size ∧ l.length ≤ cap ∧ cap ≤ maxLen ∧ w.rangeAt g (t * 3) [.int .i64 (p.1 : Int), .int .u64 (p.2 : Int), .int .i64 (pt p.1 p.2)] := by
  have hl : t < l.length := (List.getElem?_eq_some_iff.1 ht).1
  obtain ⟨g, cap, h1, h2, h3, h4, h5, h6⟩ := own_cells h (by omega)
  obtain ⟨g0, g1, g2⟩ := fdCells_get (pt := pt) ht
  rw [Nat.mul_comm 3 t] at g0 g1 g2
  refine ⟨g, cap, h1, h2, h3, h4, h5, fun j u hu => ?_⟩
  match j, hu with
  | 0, hu => simp at hu; subst hu; simpa using h6 _ _ g0
  | 1, hu => simp at hu; subst hu; exact h6 _ _ g1
  | 2, hu => simp at hu; subst hu; exact h6 _ _ g2
  | j + 3, hu => simp at hu
theorem own_kept {w w' : World} {base : Nat} {e : TypeId} {size : Nat} {v : Value} {n : Nat} {xs : List Value} (h : w.ownsRow base e size v n xs) (hb : Below w.heap.size w w') : w'.ownsRow base e size v n xs :=
  World.ownsRow.kept h (row := none) ⟨hb.os, hb.tape, hb.output, hb.size, fun k hk _ => hb.block k hk⟩ (by cases v.ownBlock <;> simp)
theorem PcOwn.kept {w w' : World} {base : Nat} {v : Value} {n : Nat} {l : List Nat} (h : PcOwn w base v n l) (hb : Below w.heap.size w w') : PcOwn w' base v n l := own_kept h hb
theorem FdOwn.kept {w w' : World} {base : Nat} {v : Value} {pt : Nat → Nat → Int} {l : List (Nat × Nat)} (h : FdOwn w base v pt l) (hb : Below w.heap.size w w') : FdOwn w' base v pt l := own_kept h hb
theorem own_gr {w w' : World} {base : Nat} {e : TypeId} {size : Nat} {v : Value} {n : Nat} {xs : List Value} (h : w.ownsRow base e size v n xs) {row : Option Nat} (hg : w.grownBy w' row) (hne : ∀ k, v.ownBlock = some k → row ≠ some k) : w'.ownsRow base e size v n xs :=
  World.ownsRow.kept h hg (by
    cases hv : v.ownBlock with
    | none => exact .inl rfl
    | some k => exact .inr (fun e => hne k hv e.symm))
theorem pcCells_append (n : Nat) (l m : List Nat) : pcCells n (l ++ m) = pcCells n l ++ pcCells n m := by simp [pcCells]
theorem fdCells_append (pt : Nat → Nat → Int) (l m : List (Nat × Nat)) : fdCells pt (l ++ m) = fdCells pt l ++ fdCells pt m := by simp [fdCells]
theorem toldR_snoc {pt : Nat → Nat → Int} {least : Int} {n : Nat} {l : List Nat} {t x : Nat} (h : l[t]? = some x) : toldR pt least n (l.take (t + 1)) = toldR pt least n (l.take t) ++ (if least ≤ pt n x then [x] else []) := by
  rw [List.take_add_one, h, toldR, List.filter_append]
  unfold toldR
  congr 1
  simp [List.filter]
  split <;> split <;> simp_all
theorem foundR_snoc {pt : Nat → Nat → Int} {least : Int} {n : Nat} {l : List Nat} {t x : Nat} (h : l[t]? = some x) : foundR pt least n (l.take (t + 1)) = foundR pt least n (l.take t) ++ (if least ≤ pt n x then [(n, x)] else []) := by
  unfold foundR
  rw [toldR_snoc h, List.map_append]
  congr 1
  split <;> rfl
theorem kids_snoc {pt : Nat → Nat → Int} {least : Int} {n : Nat} {l : List Nat} {t x : Nat} (h : l[t]? = some x) : kids (toldR pt least n (l.take (t + 1))) = kids (toldR pt least n (l.take t)) ++ (if least ≤ pt n x then [2 * x, 2 * x + 1] else []) := by
  rw [toldR_snoc h]
  unfold kids
  rw [List.flatMap_append]
  congr 1
  split <;> simp
theorem cells_new {w : World} {cs : Array Value} {t : TypeId} (vs : List Value) (hv : vs = cs.toList) : ∀ (j : Nat) (u : Value), vs[j]? = some u → (w.alloc (.cells cs t)).cell? ((⟨w.heap.size, 0, none⟩ : Addr).add j) = some u := fun j u hu => by
  subst hv
  rw [Addr.add_mid, Nat.zero_add, (Blk.new w t cs).cell j]
  simpa using hu
theorem cells_new' {w : World} {cs : Array Value} {t : TypeId} {b : Nat} (vs : List Value) (hv : vs = cs.toList) (hb : b = w.heap.size) : ∀ (j : Nat) (u : Value), vs[j]? = some u → (w.alloc (.cells cs t)).cell? ((⟨b, 0, none⟩ : Addr).add j) = some u := by
  subst hb
  exact cells_new vs hv
theorem own_far {w : World} {base : Nat} {e t : TypeId} {size : Nat} {v : Value} {n : Nat} {xs : List Value} {b : Nat} {cs : Array Value} (h : w.ownsRow base e size v n xs) (hb : Blk w b t cs) (hne : t ≠ e) : some b ≠ v.ownBlock := by
  intro e1
  rcases h.2 with ⟨rfl, _⟩ | ⟨g, cap, cur, rfl, _, hg, _⟩
  · simp [Value.ownBlock] at e1
  · simp only [Value.ownBlock] at e1
    have e2 : b = g := Option.some.inj e1
    subst e2
    have : Obj.cells cs t (0, 0) = Obj.cells cur e (0, 0) := Option.some.inj ((show w.heap[b]? = some (.cells cs t (0, 0)) from hb).symm.trans hg)
    injection this with h1 h2
    exact hne h2
theorem FdOwn.push {w : World} {base : Nat} {v : Value} {pt : Nat → Nat → Int} {l l' : List (Nat × Nat)} {n x N : Nat} (hl : l' = l ++ [(n, x)]) (hN : N = l.length) (h : w.ownsRow base 157 3 v (N + 1) (fdCells pt l ++ [.int .i64 (n : Int), .int .u64 (x : Int), .int .i64 (pt n x)])) : FdOwn w base v pt l' := by
  subst hl hN
  unfold FdOwn
  rw [fdCells_append, List.length_append]
  exact h
theorem PcOwn.push2 {w : World} {base : Nat} {v : Value} {n : Nat} {l l' : List Nat} {x y N : Nat} (hl : l' = l ++ [x, y]) (hN : N = l.length) (h : w.ownsRow base 155 2 v (N + 2) (pcCells n l ++ [.int .i64 (n : Int), .int .u64 (x : Int), .int .i64 (n : Int), .int .u64 (y : Int)])) : PcOwn w base v n l' := by
  subst hl hN
  unfold PcOwn
  rw [pcCells_append, List.length_append]
  exact h
theorem Tryz.infoFd : (Tryz.prog.info? 157).map (fun i => (i.zero, i.size, i.bytes)) = some (some (.agg #[.int .i64 0, .int .u64 0, .int .i64 0]), 3, 24) := by kernel_rfl
theorem Tryz.infoPc : (Tryz.prog.info? 155).map (fun i => (i.zero, i.size, i.bytes)) = some (some (.agg #[.int .i64 0, .int .u64 0]), 2, 16) := by kernel_rfl
end Go.Proofs.YtfeficdndjiijaaGreatDoor


namespace Go.Proofs.YtfeficdndjiijaaGreatDoor
open Go.RowKit
set_option linter.unusedVariables false
set_option linter.unusedSimpArgs false

theorem lvcellsM (w : World) (x : Value) (A G C : Nat) (b r d m s l : Int) (zs : List Int) (h : LevIs w x A G C b r d m s l zs) :
    ∃ f, HasM x A "Cells" f ∧ Calls Tryz.prog f #[.pointer (some ⟨A, 0, none⟩)] w (CellsPost w zs) := by
  rcases h with ⟨h1, h2, h3⟩ | ⟨h1, h2, h3⟩
  · exact ⟨_, ⟨_, h2, fun j W => Tryz.mExCells j _ W, enters_of Tryz.func189 (by kernel_rfl) rfl⟩, excells w A G C b r d m s l _ zs h3⟩
  · exact ⟨_, ⟨_, h2, fun j W => Tryz.mSkCells j _ W, enters_of Tryz.func220 (by kernel_rfl) rfl⟩, skcells w A G C b r d m s l zs h3⟩
def NumB (w : World) (g : Nat) (zs : List Int) : Prop := ∃ cur : Array Value, Blk w g 2 cur ∧ ∀ (i : Nat) (u : Int), zs[i]? = some u → cur[i]? = some (Value.int .i64 u)
theorem NumB.of_block {w w' : World} {g : Nat} {zs : List Int} (h : NumB w g zs) (e : w'.heap[g]? = w.heap[g]?) : NumB w' g zs := by
  obtain ⟨cur, h1, h2⟩ := h
  exact ⟨cur, e.trans h1, h2⟩
theorem NumB.lt {w : World} {g : Nat} {zs : List Int} (h : NumB w g zs) : g < w.heap.size := by
  obtain ⟨cur, h1, h2⟩ := h
  exact h1.lt
theorem NumB.ints {w : World} {g cap : Nat} {zs : List Int} (h : NumB w g zs) (hc : zs.length ≤ cap) : IntsAt w (.slice (some ⟨g, 0, none⟩) zs.length cap) zs := by
  obtain ⟨cur, h1, h2⟩ := h
  exact ⟨_, cap, rfl, hc, fun h0 => ⟨g, rfl, h1.lt, fun i u hu => (h1.cell i).trans (h2 i u hu)⟩⟩
def RowsI (T : Nat) (w : World) (Zs : Nat → List Int) (j : Nat) (vs : List Value) : Prop := vs.length = j ∧ ∀ i u, vs[i]? = some u → ∃ g cap, u = .slice (some ⟨g, 0, none⟩) (Zs i).length cap ∧ (Zs i).length ≤ cap ∧ T ≤ g ∧ NumB w g (Zs i)
theorem RowsI.kept {T : Nat} {w w' : World} {Zs : Nat → List Int} {j : Nat} {vs : List Value} (h : RowsI T w Zs j vs) (hb : Below w.heap.size w w') : RowsI T w' Zs j vs := ⟨h.1, fun i u hu => by
  obtain ⟨g, cap, e, h0, h1, h2⟩ := h.2 i u hu
  exact ⟨g, cap, e, h0, h1, h2.of_block (hb.block g h2.lt)⟩⟩
theorem RowsI.own {T base n : Nat} {w w' : World} {Zs : Nat → List Int} {j : Nat} {vs : List Value} {v : Value} {xs : List Value} (h : RowsI T w Zs j vs) (ho : w.ownsRow base 93 1 v n xs) (hg : w.grownBy w' v.ownBlock) : RowsI T w' Zs j vs := ⟨h.1, fun i u hu => by
  obtain ⟨g, cap, e, h0, h1, h2⟩ := h.2 i u hu
  have h3 := h2
  obtain ⟨cur, h4, -⟩ := h3
  exact ⟨g, cap, e, h0, h1, h2.of_block (hg.block g h2.lt (fun e => own_far ho h4 (by decide) e))⟩⟩
theorem RowsI.push {T : Nat} {w : World} {Zs : Nat → List Int} {j : Nat} {vs : List Value} (h : RowsI T w Zs j vs) {g cap : Nat} (hT : T ≤ g) (hc : (Zs j).length ≤ cap) (hi : NumB w g (Zs j)) : RowsI T w Zs (j + 1) (vs ++ [.slice (some ⟨g, 0, none⟩) (Zs j).length cap]) := by
  refine ⟨by simp [h.1], fun i u hu => ?_⟩
  by_cases e : i < j
  · rw [List.getElem?_append_left (by rw [h.1]; exact e)] at hu
    exact h.2 i u hu
  · have hl : i < (vs ++ [Value.slice (some ⟨g, 0, none⟩) (Zs j).length cap]).length := (List.getElem?_eq_some_iff.1 hu).1
    have : i = j := by simp [h.1] at hl; omega
    subst this
    rw [List.getElem?_append_right (by rw [h.1]; exact Nat.le_refl _)] at hu
    simp [h.1] at hu
    subst hu
    exact ⟨g, cap, rfl, hc, hT, hi⟩
set_option maxRecDepth 100000 in
set_option maxHeartbeats 16000000 in
theorem all_sub (w : World) (base1 S1 L1 base2 S2 L2 : Nat) (b r d m s : Int) (X1 X2 : Nat → Value) (A1 G1 C1 A2 G2 C2 : Nat → Nat) (Z1 Z2 : Nat → List Int) (hm : m ≠ 2) (h1 : StIs w base1 S1 L1 b r d m s X1 A1 G1 C1 Z1) (h2 : StIs w base2 S2 L2 b r d m s X2 A2 G2 C2 Z2) (hfit : ∀ n, n ≤ b.toNat → Fit (List.zipWith (fun a b => a - b) (Z1 n) (Z2 n))) :
  Calls Tryz.prog 143 #[.agg #[.func (.func 144) #[] #[]], .pointer (some ⟨S1, 0, none⟩), .pointer (some ⟨S2, 0, none⟩)] w fun e w' => e = .returned (.int .i64 0) ∧ StIs w' base1 S1 L1 b r d m s X1 A1 G1 C1 (fun n => List.zipWith (fun a b => a - b) (Z1 n) (Z2 n)) ∧ RGr w w' C1 (b.toNat + 1) := by
 obtain ⟨iS, hi, hz0, hz1, hz2⟩ := info_parts (show (Tryz.prog.info? 93).map (fun i => (i.zero, i.size, i.bytes)) = some (some (.slice none 0 0), 1, 24) by kernel_rfl)
 have hR := right_of h1.right
 obtain ⟨nb, hnb⟩ : ∃ nb : Nat, b = (nb : Int) := ⟨b.toNat, by omega⟩
 subst hnb
 have htn : ((nb : Int)).toNat = nb := Int.toNat_natCast nb
 rw [htn] at hfit ⊢
 have hnb59 : nb ≤ 59 := by omega
 have HC1 : Hid (∀ n, n ≤ nb → C1 n < w.heap.size) := Lib.hid (fun n hn => (h1.under.2.2 n (by rw [htn]; exact hn)).2.2)
 obtain ⟨Zs, hZs⟩ : ∃ Zs, Zs = fun n => List.zipWith (fun a b => a - b) (Z1 n) (Z2 n) := ⟨_, rfl⟩
 have HZS := Lib.hid hZs
 have HFIT : Hid (∀ n, n ≤ nb → Fit (Zs n)) := Lib.hid (fun n hn => by rw [hZs]; exact hfit n hn)
 have HLN : Hid (∀ n : Nat, n ≤ nb → (Zs n).length = cellsN (nb : Int) r d m (n : Int)) := Lib.hid (fun n hn => by
  have a1 := (h1.lev n (by rw [htn]; exact hn)).len
  have a2 := (h2.lev n (by rw [htn]; exact hn)).len
  rw [hZs]
  simp only [List.length_zipWith]
  omega)
 rw [← hZs]
 have hb0 : Below w.heap.size w (w.alloc (.cells #[.func (.func 144) #[] #[]] 265)) := (Below.refl _ _).alloc (Nat.le_refl _) _
 have H1 := Lib.hid (h1.kept hb0)
 have H2 := Lib.hid (h2.kept hb0)
 have HJ := Lib.hid (Blk.new w 265 #[.func (.func 144) #[] #[]])
 have HB0 := Lib.hid hb0
 clear h1 h2 hb0 hZs hfit hR
 have hfd : ∀ w : World, (Instr.field 24 (.agg #[.int .i64 (nb : Int), .int .i64 r, .int .i64 d, .int .i64 m, .int .u64 s]) 0).run Tryz.prog w = .ok (.int .i64 (nb : Int)) w := fun _ => by kernel_rfl
 go_enter Tryz.func143, Tryz.ntmps143
 go_wp2_with fail
 apply wp_scope_straight
 go_wp2_with fail
 generalize (w.alloc (.cells #[.func (.func 144) #[] #[]] 265)) = w0 at *
 refine (alike_yes w0 S1 S2 (nb : Int) r d m s (fun wq hq => stconfig wq base1 S1 L1 (nb : Int) r d m s X1 A1 G1 C1 Z1 (H1.out.kept hq)) (fun wq hq => stconfig wq base2 S2 L2 (nb : Int) r d m s X2 A2 G2 C2 Z2 (H2.out.kept hq))).mono ?_
 rintro e wa ⟨rfl, hba⟩
 have H1a := Lib.hid (H1.out.kept hba)
 have H2a := Lib.hid (H2.out.kept hba)
 have HJa := Lib.hid ((show Blk w0 w.heap.size 265 #[.func (.func 144) #[] #[]] from HJ.out).kept hba)
 have HBa := Lib.hid (btr HB0.out hba)
 clear hba H1 H2 HJ HB0
 go_wp2_with fail
 apply wp_label
 go_wp2_with fail
 have PF := Lib.hid (stconfig wa base1 S1 L1 (nb : Int) r d m s X1 A1 G1 C1 Z1 H1a.out)
 with_reducible refine PF.out.mono ?_
 rintro e wb ⟨rfl, hbb⟩
 have H1b := Lib.hid (H1a.out.kept hbb)
 have H2b := Lib.hid (H2a.out.kept hbb)
 have HJb := Lib.hid (HJa.out.kept hbb)
 have HBb := Lib.hid (btr HBa.out hbb)
 clear hbb H1a H2a HJa HBa PF
 go_wp2_with fail
 go_loopw [7, 8, 24] (fun o bad i wr => ∃ (j : Nat) (vs : List Value), j ≤ nb + 1 ∧ i = .int .i64 (j : Int) ∧ bad = .int .i64 0 ∧ wr.ownsRow wb.heap.size 93 1 o j vs ∧ RowsI w.heap.size wr Zs j vs ∧ Below wb.heap.size wb wr) (fun _ _ i _ => nb + 1 - (intOf i).toNat)
 case atStart => exact ⟨0, [], by omega, rfl, rfl, World.ownsRow_nil _ _ _ _, ⟨rfl, fun i u hu => by simp at hu⟩, Below.refl _ _⟩
 case round =>
  obtain ⟨j, vs, hj, rfl, rfl, hown, hrow, hbel⟩ := hrel
  obtain ⟨ao, cap, rfl⟩ := own_form hown
  have HO := Lib.hid hown
  have HRW := Lib.hid hrow
  have HBr := Lib.hid hbel
  have HWW : Hid (w.heap.size ≤ wr.heap.size) := Lib.hid (by have h1 := hbel.size; have h2 := HBb.out.size; omega)
  clear hown hrow hbel
  by_cases hlt : j ≤ nb
  ·have htj : (j : Int) < (nb : Int) + 1 := by omega
   have ht0 : (0 : Int) ≤ (j : Int) := by omega
   have PA1 := Lib.hid (stAt wr base1 S1 L1 (nb : Int) r d m s X1 A1 G1 C1 Z1 (H1b.out.kept HBr.out) j (by rw [htn]; exact hlt))
   go_wp2_with fail
   with_reducible refine PA1.out.mono ?_
   rintro e w3 ⟨x, Ax, Gx, Cx, rfl, -, -, hCx, hlx, hb3⟩
   obtain ⟨tx, hx⟩ := hlx.open_
   subst hx
   have HLX := Lib.hid hlx
   have HCX := Lib.hid hCx
   have HB3 := Lib.hid hb3
   clear hlx hCx hb3 PA1
   have PA2 := Lib.hid (stAt w3 base2 S2 L2 (nb : Int) r d m s X2 A2 G2 C2 Z2 (H2b.out.kept (btr HBr.out HB3.out)) j (by rw [htn]; exact hlt))
   go_wp2_with fail
   with_reducible refine PA2.out.mono ?_
   rintro e w4 ⟨y, Ay, Gy, Cy, rfl, -, -, -, hly, hb4⟩
   obtain ⟨ty, hy⟩ := hly.open_
   subst hy
   have HB4 := Lib.hid (btr HB3.out hb4)
   have PM := lvsub w4 _ _ Ax Gx Cx Ay Gy Cy (nb : Int) r d m s (j : Int) (Z1 j) (Z2 j) hm (HLX.out.kept hb4) hly (by have := HFIT.out j hlt; rw [HZS.out] at this; exact this)
   have hzj : List.zipWith (fun a b => a - b) (Z1 j) (Z2 j) = Zs j := by rw [HZS.out]
   rw [hzj] at PM
   have PM := Lib.hid PM
   have hj4 := HJb.out.kept (btr HBr.out HB4.out)
   have c0 := hj4.cell 0
   simp at c0
   clear hly hb4 HB3 PA2 hzj hj4
   go_wp2_with fail
   with_reducible refine PM.out.mono ?_
   rintro e w5 ⟨rfl, hl5, hg5⟩
   have HB5 : Hid (Below wr.heap.size wr w5) := Lib.hid (HB4.out.grown hg5 HB4.out.size (fun k e => by have e := Option.some.inj e; have := HCX.out; omega))
   obtain ⟨f, ⟨TX, hX, hm, hen⟩, PCl⟩ := lvcellsM w5 _ Ax Gx Cx (nb : Int) r d m s (j : Int) (Zs j) hl5
   simp only [Value.iface.injEq, and_true] at hX
   subst hX
   have PCl := Lib.hid PCl
   clear hl5 hg5 HLX HCX HB4 PM c0
   go_wp2_with fail
   with_reducible refine PCl.out.mono ?_
   rintro e w6 ⟨v, rfl, hov, hnv, hb6⟩
   obtain ⟨gv, cv, rfl, hgv, hcv, cur, hbc, hcc⟩ := own_row hov hnv
   have HB6 := Lib.hid (btr HB5.out hb6)
   have HIV : Hid (NumB w6 gv (Zs j)) := Lib.hid ⟨cur, hbc, hcc⟩
   have HCV := Lib.hid hcv
   have HGV : Hid (w.heap.size ≤ gv) := Lib.hid (by have h1 := HWW.out; have h2 := HB5.out.size; omega)
   clear hov hnv hgv hcv hbc hcc hb6 HB5 PCl hm hen
   obtain ⟨lz, hlz⟩ : ∃ lz, lz = (Zs j).length := ⟨_, rfl⟩
   have HLZ := Lib.hid hlz
   rw [← hlz]
   clear hlz
   have hal : Below w6.heap.size w6 (w6.alloc (.cells #[.slice (some ⟨gv, 0, none⟩) lz cv] 93)) := (Below.refl _ _).alloc (Nat.le_refl _) _
   have HO7 := Lib.hid (own_kept (own_kept HO.out HB6.out) hal)
   have HB7 := Lib.hid (btr HB6.out hal)
   have HIV7 := Lib.hid (HIV.out.of_block (hal.block gv HIV.out.lt))
   have HRW7 := Lib.hid ((HRW.out.kept HB6.out).kept hal)
   have hmx : j + 1 ≤ maxLen := by unfold maxLen; omega
   have hby : (j + 1) * 24 ≤ 140737488355328 := by omega
   clear HIV HB6 hal
   go_wp2_with (at_builtin; refine wpList_append_own _ rfl _ _ 329 rfl wb.heap.size 93 iS (.slice none 0 0) 1 24 Tryz.underlying329 hi hz0 hz1 hz2 rfl (by decide) _ _ _ rfl HO7.out ⟨w6.heap.size, 0, none⟩ 1 1 [.slice (some ⟨gv, 0, none⟩) lz cv] rfl rfl (cell_one_new _ _ _) (by simp [Value.oneCell']) hmx hby (by have h1 := HBr.out.size; have h2 := HB7.out.size; simp at h2 ⊢; omega) ?_)
   intro v' w8 hown' hgrow hnil
   have HO8 := Lib.hid hown'
   obtain ⟨ao', cap', rfl⟩ := own_form hown'
   have HB8 : Hid (Below wb.heap.size wb w8) := Lib.hid (((btr HBr.out HB7.out).grown hgrow (by have h1 := HBr.out.size; have h2 := HB7.out.size; omega) (fun k e => (HO7.out.lt k e).1)))
   have HNV : Hid (NumB (w6.alloc (.cells #[.slice (some ⟨gv, 0, none⟩) lz cv] 93)) gv (Zs j)) := HIV7
   have HRW8 : Hid (RowsI w.heap.size w8 Zs (j + 1) (vs ++ [.slice (some ⟨gv, 0, none⟩) lz cv])) := Lib.hid (by
    have hne := HNV.out
    obtain ⟨cu, q1, q2⟩ := hne
    have h3 : NumB w8 gv (Zs j) := HNV.out.of_block (hgrow.block gv HNV.out.lt (fun e => own_far HO7.out q1 (by decide) e))
    have h4 := (HRW7.out.own HO7.out hgrow).push HGV.out HCV.out h3
    rw [← HLZ.out] at h4
    exact h4)
   clear hown' hgrow hnil
   go_wp2_with fail
   go_roundw
   case rel => exact ⟨j + 1, _, by omega, by go_num, rfl, HO8.out, HRW8.out, HB8.out⟩
   case measure => simp [intOf]; omega
  ·obtain rfl : j = nb + 1 := by omega
   have hGO : ∃ go cur, ao = some ⟨go, 0, none⟩ ∧ Blk wr go 93 cur ∧ ∀ (i : Nat) (u : Value), vs[i]? = some u → cur[i]? = some u := by
    rcases HO.out.2 with ⟨e, h0⟩ | ⟨go, cap', cur, e, -, hg, -, -, -, htk⟩
    ·omega
    ·simp only [Value.slice.injEq] at e
     obtain ⟨rfl, -, -⟩ := e
     refine ⟨go, cur, rfl, hg, fun i u hu => ?_⟩
     have h1 : (cur.toList.take ((nb + 1) * 1))[i]? = some u := by rw [htk]; exact hu
     rw [List.getElem?_take] at h1
     split at h1
     ·simpa using h1
     ·cases h1
   obtain ⟨go, cur, rfl, hgo, hcu⟩ := hGO
   have HGO := Lib.hid (And.intro hgo hcu)
   have H1o := Lib.hid (H1b.out.kept HBr.out)
   have HBo : Hid (Below w.heap.size w wr) := Lib.hid (btr HBb.out HBr.out)
   have HNC : Hid (∀ n, n ≤ nb → go ≠ C1 n) := Lib.hid (fun n hn e => by
    obtain ⟨cs, hc⟩ := (H1o.out.lev n (by rw [htn]; exact hn)).cells
    rw [← e] at hc
    exact absurd (blk_one hgo hc) (by decide))
   have HGL : Hid (go < wr.heap.size) := Lib.hid hgo.lt
   clear hgo hcu HJb H2b HBr HBb H1b HO
   generalize wr = wo at *
   go_wp2_with fail
   go_loopw [57] (fun i ws => ∃ k : Nat, k ≤ nb + 1 ∧ i = .int .i64 (k : Int) ∧ StIs ws base1 S1 L1 (nb : Int) r d m s X1 A1 G1 C1 (fun n => if n < k then Zs n else Z1 n) ∧ RGr wo ws C1 (nb + 1)) (fun i _ => nb + 1 - (intOf i).toNat)
   case atStart => exact ⟨0, by omega, rfl, by simpa using H1o.out, RGr.of_below (Below.refl _ _)⟩
   case round =>
    obtain ⟨k, hk, rfl, hst, hrg⟩ := hrel
    have HST := Lib.hid hst
    have HRG := Lib.hid hrg
    clear hst hrg
    by_cases hkn : k ≤ nb
    ·have hkj : (k : Int) < (nb : Int) + 1 := by omega
     have hk0 : (0 : Int) ≤ (k : Int) := by omega
     obtain ⟨u, hu⟩ : ∃ u, vs[k]? = some u := ⟨_, List.getElem?_eq_getElem (by have := HRW.out.1; omega)⟩
     obtain ⟨g, cg, rfl, hcg, hTg, hnb⟩ := HRW.out.2 k u hu
     have hgC : ∀ n, n < nb + 1 → g ≠ C1 n := fun n hn e => by have := HC1.out n (by omega); omega
     have e1 : wr.heap[go]? = wo.heap[go]? := HRG.out.block go HGL.out (fun n hn => HNC.out n (by omega))
     have e2 : wr.heap[g]? = wo.heap[g]? := HRG.out.block g hnb.lt hgC
     have ck := ((show Blk wr go 93 cur from e1.trans HGO.out.1).cell k).trans (HGO.out.2 k _ hu)
     have PLd := stload wr base1 S1 L1 (nb : Int) r d m s X1 A1 G1 C1 _ HST.out k (by rw [htn]; exact hkn) _ (Zs k) ((hnb.of_block e2).ints hcg) (HLN.out k hkn) (HFIT.out k hkn) (by
      have := hgC k (by omega)
      simpa [Value.ownBlock] using this)
     have PLd := Lib.hid PLd
     clear hu hcg hTg hnb hgC e1 e2
     go_wp2_with fail
     with_reducible refine PLd.out.mono ?_
     rintro e w9 ⟨rfl, hst9, hg9⟩
     have HST9 := Lib.hid (hst9.setC (Z' := fun n => if n < k + 1 then Zs n else Z1 n) (fun n hn => by
      by_cases e : n = k
      ·subst e
       rw [upN_same, if_pos (by omega)]
      ·rw [upN_other _ _ e]
       by_cases h3 : n < k
       ·rw [if_pos h3, if_pos (by omega)]
       ·rw [if_neg h3, if_neg (by omega)]))
     have HRG9 := Lib.hid (HRG.out.grown hg9 (fun r' e => .inr ⟨k, by omega, (Option.some.inj e).symm⟩))
     clear hst9 hg9 PLd HST HRG ck
     go_wp2_with fail
     go_roundw
     case rel =>
      refine ⟨_, _, _, _, _, _, _, _, _, _, _, _, ⟨k + 1, by omega, ?_, HST9.out, HRG9.out⟩, rfl⟩
      go_num
     case measure => simp [intOf]; omega
    ·obtain rfl : k = nb + 1 := by omega
     have HFI := Lib.hid (HST.out.setC (Z' := Zs) (fun n hn => by rw [if_pos (by rw [htn] at hn; omega)]))
     have HFR := Lib.hid ((RGr.of_below (B := C1) (R := nb + 1) HBo.out).trans HRG.out)
     go_wp2_with fail
     try rw [Exit.noGoto_ret]
     go_ret
     exact ⟨rfl, HFI.out, HFR.out⟩
end Go.Proofs.YtfeficdndjiijaaGreatDoor


namespace Go.Proofs.YtfeficdndjiijaaGreatDoor
open Go.RowKit
set_option linter.unusedVariables false
set_option linter.unusedSimpArgs false

theorem Tryz.slPc (w : World) (a : Option Addr) (n c : Nat) : Sem.run Tryz.prog (binOp .eql 256 (.slice a n c) (.slice none 0 0)) w = .ok (.bool a.isNone) w := Go.Lib.run_eql_slice_nil w 256 155 a n c 0 0 Tryz.underlying256
set_option maxRecDepth 100000 in
set_option maxHeartbeats 4000000 in
theorem pclone (w : World) (g n cap : Nat) (l : List (Nat × Nat)) (hl : l.length = n) (hn : n ≤ 1000) (hp : ∀ j u, (pCells l)[j]? = some u → w.cell? ⟨g, j, none⟩ = some u) (hg : g < w.heap.size) :
  Calls Tryz.prog 181 #[.slice (some ⟨g, 0, none⟩) n cap] w fun e w' => ∃ v, e = .returned v ∧ w'.ownsRow w.heap.size 155 2 v n (pCells l) ∧ Below w.heap.size w w' := by
 obtain ⟨iP, hP, hP0, hP1, hP2⟩ := info_parts (show (Tryz.prog.info? 155).map (fun i => (i.zero, i.size, i.bytes)) = some (some (.agg #[.int .i64 0, .int .u64 0]), 2, 16) by kernel_rfl)
 have hal : Below w.heap.size w (w.alloc (.cells #[] 155)) := (Below.refl _ _).alloc (Nat.le_refl _) _
 have HB := Lib.hid hal
 have HCE : Hid (∀ j u, (pCells l)[j]? = some u → World.cell? (w.alloc (.cells #[] 155)) ((Addr.mk g 0 none).add j) = some u) := Lib.hid (fun j u hu => by
  rw [Addr.add_mid, Nat.zero_add]
  exact (hal.cell (p := ⟨g, j, none⟩) hg).trans (hp j u hu))
 have HLB : Hid (World.ownsRow (w.alloc (.cells #[] 155)) w.heap.size 155 2 (.slice (some ⟨w.heap.size, 0, none⟩) 0 0) 0 []) := Lib.hid (World.ownsRow_lit (base := w.heap.size) (e := 155) (size := 2) _ #[] 0 (Nat.le_refl _) (by unfold maxLen; omega) (by simp))
 have hln : (pCells l).length = n * 2 := by rw [pCells_len, hl]
 have hone : ∀ u ∈ pCells l, u.oneCell' = true := by
  intro u hu
  simp only [pCells, List.mem_flatMap] at hu
  obtain ⟨p, -, hp⟩ := hu
  simp [pc2] at hp
  rcases hp with rfl | rfl <;> rfl
 have h63 : 0 + n ≤ maxLen := by unfold maxLen; omega
 have hby : (0 + n) * 16 ≤ 140737488355328 := by omega
 have HSI : Hid (w.heap.size ≤ (w.alloc (.cells #[] 155)).heap.size) := Lib.hid (by simp)
 have hsl := Tryz.slPc
 clear hp hal hg
 go_enter Tryz.func181, Tryz.ntmps181
 go_wp2_with (at_builtin; go_loud (refine wpList_append_own_at _ rfl _ _ 256 rfl w.heap.size 155 iP (.agg #[.int .i64 0, .int .u64 0]) 2 16 Tryz.underlying256 hP hP0 hP1 hP2 rfl (by decide) _ 0 _ rfl HLB.out ⟨g, 0, none⟩ n cap (pCells l) rfl hln HCE.out hone h63 hby HSI.out ?_))
 intro v' w2 hown hgrow hnil hloc
 have HO := Lib.hid hown
 have HB2 : Hid (Below w.heap.size w w2) := Lib.hid (HB.out.grown hgrow HSI.out (fun k e => (HLB.out.lt k e).1))
 obtain ⟨ao, cp, hv⟩ := own_form hown
 subst hv
 clear hown hgrow hnil hloc
 go_wp2
 go_ret
 exact ⟨_, rfl, HO.out, HB2.out⟩
end Go.Proofs.YtfeficdndjiijaaGreatDoor


namespace Go.Proofs.YtfeficdndjiijaaGreatDoor
open Go.RowKit
set_option linter.unusedVariables false
set_option linter.unusedSimpArgs false

def wayN (pt : Nat → Nat → Int) : Nat → Nat → Int → Nat
  | 0, i, _ => i
  | n + 1, i, k => if k ≤ pt n (2 * i) then wayN pt n (2 * i) k else wayN pt n (2 * i + 1) (k - pt n (2 * i))
theorem pCells_at (l : List (Nat × Nat)) : ∀ (t : Nat) (p : Nat × Nat), l[t]? = some p → ∀ j u, (pc2 p)[j]? = some u → (pCells l)[t * 2 + j]? = some u := by
  induction l with
  | nil => intro t p ht; simp at ht
  | cons a rest ih =>
    intro t p ht j u hu
    have hj : j < 2 := by have := (List.getElem?_eq_some_iff.1 hu).1; simpa [pc2] using this
    cases t with
    | zero =>
      simp at ht
      subst ht
      show (pc2 a ++ pCells rest)[0 * 2 + j]? = _
      rw [List.getElem?_append_left (by simp [pc2]; omega)]
      simpa using hu
    | succ t =>
      simp only [List.getElem?_cons_succ] at ht
      show (pc2 a ++ pCells rest)[(t + 1) * 2 + j]? = _
      rw [List.getElem?_append_right (by simp [pc2]; omega), show (t + 1) * 2 + j - (pc2 a).length = t * 2 + j by simp [pc2]; omega]
      exact ih t p ht j u hu
theorem pcAt_blk {w : World} {g : Nat} {t : TypeId} {l : List (Nat × Nat)} (h : Blk w g t (pCells l).toArray) : PcAt w g l := by
  refine ⟨h.lt, fun o => h.frozen o, fun i p hp => blkRange h _ _ (fun j u hu => ?_)⟩
  rw [List.getElem?_toArray]
  exact pCells_at l i p hp j u hu
theorem zero60 : Tryz.zeroCells316 = (pCells (List.replicate 60 (0, 0))).toArray := by kernel_rfl
set_option maxRecDepth 100000 in
set_option maxHeartbeats 16000000 in
theorem way_any (w : World) (base S L : Nat) (nb : Nat) (r d m s : Int) (X : Nat → Value) (A G C : Nat → Nat) (Z : Nat → List Int) (h : StIs w base S L (nb : Int) r d m s X A G C Z) (s0 : 0 ≤ s) (s1 : s ≤ 18446744073709551615) (hb1 : 1 ≤ nb) (hb : nb ≤ 59) (pt : Nat → Nat → Int) (hpt : ∀ n i, n ≤ nb → pt n i = lvPt (nb : Int) r d m s (n : Int) (Z n) i) (hpb : ∀ n i, 0 ≤ pt n i ∧ pt n i ≤ 9223372036854775807)
  (k : Int) (k0 : 1 ≤ k) (k1 : k ≤ pt nb 0) :
  Calls Tryz.prog 137 #[.pointer (some ⟨S, 0, none⟩), .int .i64 k] w fun e w' => ∃ v l, e = .returned (.tuple #[v, .int .i64 0]) ∧ w'.ownsRow w.heap.size 155 2 v (nb + 1) (pCells l) ∧ l.length = nb + 1 ∧ l[nb]? = some (0, wayN pt nb 0 k) ∧ Below w.heap.size w w' := by
 have PT := Lib.hid (sttotal w base S L nb r d m s X A G C Z h s0 s1)
 rw [← hpt nb 0 (Nat.le_refl _)] at PT
 have PF := Lib.hid (fun w base S L b r d m s X A G C Z h => stconfig w base S L b r d m s X A G C Z h)
 have HS := Lib.hid h
 have HPT := Lib.hid hpt
 have HPB := Lib.hid hpb
 have hk9 := (hpb nb 0).2
 have e1 : ¬ (k < 1) := by omega
 have e2 : ¬ (k > pt nb 0) := by omega
 have e2' : ¬ (pt nb 0 < k) := by omega
 have hfd : ∀ w : World, (Instr.field 24 (.agg #[.int .i64 (nb : Int), .int .i64 r, .int .i64 d, .int .i64 m, .int .u64 s]) 0).run Tryz.prog w = .ok (.int .i64 (nb : Int)) w := fun _ => by kernel_rfl
 clear h hpt hpb
 go_enter Tryz.func137, Tryz.ntmps137
 go_wp2_with fail
 apply wp_scope_straight
 go_wp2_with fail
 with_reducible refine PT.out.mono ?_
 rintro e w2 ⟨rfl, hb2⟩
 have HS2 := Lib.hid (HS.out.kept hb2)
 have HB2 := Lib.hid hb2
 clear hb2 HS PT
 go_wp2_with fail
 with_reducible refine (PF.out _ _ _ _ _ _ _ _ _ _ _ _ _ _ HS2.out).mono ?_
 rintro e w3 ⟨rfl, hb3⟩
 have HS3 := Lib.hid (HS2.out.kept hb3)
 have HB3 := Lib.hid (btr HB2.out hb3)
 clear hb3 HS2 HB2 PF
 go_upto_region 4 with fail
 go_upto_region 5 with fail
 have hpa : PcAt (w3.alloc (.cells Tryz.zeroCells316 316)) w3.heap.size (List.replicate 60 (0, 0)) := pcAt_blk (t := 316) (by rw [← zero60]; exact Blk.new w3 _ _)
 have HPA := Lib.hid hpa
 have HS4 := Lib.hid (HS3.out.kept (below_alloc1 w3 (.cells Tryz.zeroCells316 316)))
 have HB4 := Lib.hid (btr HB3.out (below_alloc1 w3 (.cells Tryz.zeroCells316 316)))
 have HWB : Hid (w.heap.size ≤ w3.heap.size) := Lib.hid HB3.out.size
 have c0 := hpa.rng 0 (0, 0) (by simp) 0 _ rfl
 have c1 := hpa.rng 0 (0, 0) (by simp) 1 _ rfl
 have f0 := hpa.nofr 0
 have f1 := hpa.nofr 1
 simp only [Nat.zero_mul, Nat.zero_add, Nat.add_zero] at c0 c1
 generalize (w3.alloc (.cells Tryz.zeroCells316 316)) = w4 at *
 have HU3 := Lib.hid HS3.out.under
 have HSC : Hid (∀ n, n < w3.heap.size → ((w4.setCell ⟨w3.heap.size, 0, none⟩ (.int .i64 (nb : Int))).setCell ⟨w3.heap.size, 1, none⟩ (.int .u64 0)).heap[n]? = w4.heap[n]?) := Lib.hid (fun n hn => (Below.heap_setCell _ _ _ _ (by intro e; simp at e; omega)).trans (Below.heap_setCell _ _ _ _ (by intro e; simp at e; omega)))
 clear hpa HS3 HB3
 go_upto_region 6 with fail
 have HP5 : Hid (PcAt ((w4.setCell ⟨w3.heap.size, 0, none⟩ (.int .i64 (nb : Int))).setCell ⟨w3.heap.size, 1, none⟩ (.int .u64 0)) w3.heap.size ((List.replicate 60 (0, 0)).set 0 (nb, 0))) := Lib.hid (HPA.out.set (i := 0) (by simp) (nb, 0))
 have HS5 : Hid (StIs ((w4.setCell ⟨w3.heap.size, 0, none⟩ (.int .i64 (nb : Int))).setCell ⟨w3.heap.size, 1, none⟩ (.int .u64 0)) base S L (nb : Int) r d m s X A G C Z) := Lib.hid (by
  have hu := HU3.out
  refine HS4.out.frame ?_ ?_ (fun n hn => ⟨?_, ?_, ?_⟩)
  ·exact (HSC.out _ (by omega))
  ·exact (HSC.out _ (by omega))
  ·exact (HSC.out _ (by have := hu.2.2 n hn; omega))
  ·exact (HSC.out _ (by have := hu.2.2 n hn; omega))
  ·exact (HSC.out _ (by have := hu.2.2 n hn; omega)))
 have HB5 : Hid (Below w.heap.size w ((w4.setCell ⟨w3.heap.size, 0, none⟩ (.int .i64 (nb : Int))).setCell ⟨w3.heap.size, 1, none⟩ (.int .u64 0))) := Lib.hid ((HB4.out.setCell (p := ⟨w3.heap.size, 0, none⟩) HWB.out _).setCell (p := ⟨w3.heap.size, 1, none⟩) HWB.out _)
 generalize ((w4.setCell ⟨w3.heap.size, 0, none⟩ (.int .i64 (nb : Int))).setCell ⟨w3.heap.size, 1, none⟩ (.int .u64 0)) = w5 at *
 clear c0 c1 f0 f1 HPA HS4 HB4 e2 e2' HSC
 go_wp2_with fail
 apply wp_label
 go_wp2_with fail
 go_loopw [1, 8] (fun a1 a8 wr => ∃ (j i : Nat) (q : Int) (ys : List (Nat × Nat)), a1 = .int .i64 q ∧ a8 = .int .i64 (j : Int) ∧ j ≤ nb ∧ ys.length = 60 ∧ ys[j]? = some (nb - j, i) ∧ i < 2 ^ j ∧ 1 ≤ q ∧ q ≤ 9223372036854775807 ∧ wayN pt nb 0 k = wayN pt (nb - j) i q ∧ PcAt wr w3.heap.size ys ∧ StIs wr base S L (nb : Int) r d m s X A G C Z ∧ Below w.heap.size w wr) (fun _ a8 _ => nb - (intOf a8).toNat)
 case atStart => exact ⟨0, 0, k, _, rfl, rfl, by omega, by simp, by simp, by simp, k0, by omega, rfl, HP5.out, HS5.out, HB5.out⟩
 case round =>
  obtain ⟨j, i, q, ys, rfl, rfl, hj, hyl, hyj, hi, hq0, hq1, hw, hpa, hst, hbel⟩ := hrel
  have cA := hpa.rng j (nb - j, i) hyj 0 _ rfl
  have cB := hpa.rng j (nb - j, i) hyj 1 _ rfl
  simp only [Nat.add_zero] at cA
  have i0 : (0 : Int) ≤ (j : Int) := by omega
  have i1 : (j : Int) < 60 := by omega
  have HPA1 := Lib.hid hpa
  have HST1 := Lib.hid hst
  have HBL1 := Lib.hid hbel
  have HYJ := Lib.hid hyj
  have HW1 := Lib.hid hw
  clear hpa hst hbel hyj hw
  by_cases hjn : j = nb
  ·subst hjn
   have hl0 : ((j - j : Nat) : Int) = 0 := by simp
   have hln : (ys.take (j + 1)).length = j + 1 := by rw [List.length_take]; omega
   have PCL := Lib.hid (pclone wr w3.heap.size (j + 1) 60 (ys.take (j + 1)) hln (by omega) (fun x u hu => by
    have h1 := pcAt_cells HPA1.out x u (by
     have e : pCells ys = pCells (ys.take (j + 1)) ++ pCells (ys.drop (j + 1)) := by rw [← pCells_append, List.take_append_drop]
     rw [e, List.getElem?_append_left (List.getElem?_eq_some_iff.1 hu).1]
     exact hu)
    rw [Addr.add_mid, Nat.zero_add] at h1
    exact h1) HPA1.out.lt)
   have hwj : IntKind.i64.wrap ((j : Int) + 1) = (j : Int) + 1 := wrapI_of _ (by omega) (by omega)
   rw [hl0] at cA
   have hsa : ∀ w : World, (Instr.sliceAt 316 (.pointer (some ⟨w3.heap.size, 0, none⟩)) none (some (.int .i64 ((j : Int) + 1))) none).run Tryz.prog w = .ok (.slice (some ⟨w3.heap.size, 0, none⟩) (j + 1) 60) w := fun w => by
    have ht : Tryz.prog.underlying 316 = some (.array (Tryz.prog.arrayLen 316) (Tryz.prog.elem 316)) := by kernel_rfl
    have hal : Tryz.prog.arrayLen 316 = 60 := by kernel_rfl
    have hsz : (sizeOf (Tryz.prog.elem 316)).run Tryz.prog w = .ok 2 w := by kernel_rfl
    rw [run_sliceAt_array_h w 316 _ ht _ _ (by omega) (by rw [hal]; omega), hal, hsz]
    have htn : ((j : Int) + 1).toNat = j + 1 := by omega
    simp [slicedAt, Result.andThen, htn]
    try exact Addr.add_mid _ _ _
    try rfl
   go_wp2_with fail
   with_reducible refine PCL.out.mono ?_
   rintro e wz ⟨v, rfl, hown, hbz⟩
   have HOZ := Lib.hid hown
   have HBZ := Lib.hid (btr HBL1.out hbz)
   obtain ⟨ao, cp, hv⟩ := own_form hown
   subst hv
   clear hown hbz
   go_wp2_with fail
   try rw [Exit.noGoto_ret]
   go_ret2
   refine ⟨_, ys.take (j + 1), rfl, ownBase HOZ.out HBL1.out.size, hln, ?_, HBZ.out⟩
   rw [List.getElem?_take, if_pos (by omega), HYJ.out, HW1.out]
   simp [wayN]
  ·obtain ⟨n, hn⟩ : ∃ n, nb - j = n + 1 := ⟨nb - j - 1, by omega⟩
   have hnj : n + 1 ≤ nb := by omega
   have hnb' : nb - (n + 1) = j := by omega
   rw [hn] at cA
   have PH := halves_yes nb n i hb1 hb hnj (by rw [hnb']; exact hi) wr
   have en : ((n + 1 : Nat) : Int) = (n : Int) + 1 := by omega
   rw [en] at PH cA
   have PH := Lib.hid PH
   have g0 : (0 : Int) < (n : Int) + 1 := by omega
   have HWN := HW1.out
   rw [hn] at HWN
   have HWN := Lib.hid HWN
   go_wp2_with fail
   with_reducible refine PH.out.mono ?_
   rintro e w6 ⟨rfl, hb6⟩
   have HPA6 := Lib.hid (HPA1.out.kept hb6)
   have HST6 := Lib.hid (HST1.out.kept hb6)
   have HBL6 := Lib.hid (btr HBL1.out hb6)
   clear hb6 PH cA cB HPA1 HST1 HBL1
   have hwj : IntKind.i64.wrap ((j : Int) + 1) = (j : Int) + 1 := wrapI_of _ (by omega) (by omega)
   go_wp2_with fail
   obtain ⟨ga, gb, gc, gd⟩ := news2 w6 (.cells #[.int .i64 (n : Int), .int .u64 (2 * (i : Int))] 155) (.cells #[.int .i64 (n : Int), .int .u64 (2 * (i : Int) + 1)] 155)
   have HGA : Hid (Blk _ w6.heap.size 155 #[.int .i64 (n : Int), .int .u64 (2 * (i : Int))]) := Lib.hid ga
   have HGB : Hid (Blk _ (w6.heap.size + 1) 155 #[.int .i64 (n : Int), .int .u64 (2 * (i : Int) + 1)]) := Lib.hid gb
   have HPA7 := Lib.hid (HPA6.out.kept gc)
   have HST7 := Lib.hid (HST6.out.kept gc)
   have HBL7 := Lib.hid (btr HBL6.out gc)
   clear ga gb gc gd HPA6 HST6 HBL6
   generalize ((w6.alloc (.cells #[.int .i64 (n : Int), .int .u64 (2 * (i : Int))] 155)).alloc (.cells #[.int .i64 (n : Int), .int .u64 (2 * (i : Int) + 1)] 155)) = w7 at *
   have hp60 : 2 ^ (j + 1) ≤ 2 ^ 59 := Nat.pow_le_pow_right (by decide) (by omega)
   have h59 : (2 : Nat) ^ 59 = 576460752303423488 := by decide
   have hi2 : 2 * i < 2 ^ (j + 1) := by rw [Nat.pow_succ]; omega
   have hky : ((2 * i : Nat) : Int) < keysI (nb : Int) r d m (n : Int) := by
    rw [keysI_yes HST7.out.right (by omega) (by omega), show ((nb : Int) - (n : Int)).toNat = j + 1 by omega]
    have e : ((2 ^ (j + 1) : Nat) : Int) = (2 : Int) ^ (j + 1) := by simp
    rw [← e]
    omega
   have PPT := stpoint w7 base S L (nb : Int) r d m s X A G C Z HST7.out s0 s1 n (by simp; omega) (2 * i) (by omega) hky
   rw [← HPT.out n (2 * i) (by omega), show ((2 * i : Nat) : Int) = 2 * (i : Int) by omega] at PPT
   have PPT := Lib.hid PPT
   clear hp60 h59 hi2 hky
   with_reducible refine PPT.out.mono ?_
   rintro e w8 ⟨rfl, hb8⟩
   have HPA8 := Lib.hid (HPA7.out.kept hb8)
   have HST8 := Lib.hid (HST7.out.kept hb8)
   have HBL8 := Lib.hid (btr HBL7.out hb8)
   have HGA8 := Lib.hid ((show Blk w7 w6.heap.size 155 #[.int .i64 (n : Int), .int .u64 (2 * (i : Int))] from HGA.out).kept hb8)
   have HGB8 := Lib.hid ((show Blk w7 (w6.heap.size + 1) 155 #[.int .i64 (n : Int), .int .u64 (2 * (i : Int) + 1)] from HGB.out).kept hb8)
   have hpn := HPB.out n (2 * i)
   clear hb8 PPT HPA7 HST7 HBL7 HGA HGB
   by_cases hqn : q ≤ pt n (2 * i)
   ·go_upto_region 12 with fail
    obtain ⟨pz, hpz⟩ : ∃ p, ys[j + 1]? = some p := ⟨_, List.getElem?_eq_getElem (by omega)⟩
    have cE := HPA8.out.rng (j + 1) pz hpz 0 _ rfl
    have cF := HPA8.out.rng (j + 1) pz hpz 1 _ rfl
    have fE := HPA8.out.nofr ((j + 1) * 2)
    have fF := HPA8.out.nofr ((j + 1) * 2 + 1)
    have gA := HGA8.out.cell 0
    have gB := HGA8.out.cell 1
    simp at gA gB
    simp only [Nat.add_zero] at cE
    have i2 : (0 : Int) ≤ (j : Int) + 1 := by omega
    have i3 : (j : Int) + 1 < 60 := by omega
    have i4 : ((j : Int) + 1).toNat = j + 1 := by omega
    go_wp2_with fail
    have hsc : ∀ (x y : Value) z, z < w3.heap.size → ((w8.setCell ⟨w3.heap.size, (j + 1) * 2, none⟩ x).setCell ⟨w3.heap.size, (j + 1) * 2 + 1, none⟩ y).heap[z]? = w8.heap[z]? := fun x y z hz => (Below.heap_setCell _ _ _ _ (by intro e; simp at e; omega)).trans (Below.heap_setCell _ _ _ _ (by intro e; simp at e; omega))
    have hu := HU3.out
    have hcast : ((2 * i : Nat) : Int) = 2 * (i : Int) := by omega
    go_roundw
    case rel =>
     refine ⟨j + 1, 2 * i, q, ys.set (j + 1) (n, 2 * i), rfl, by go_num, by omega, by simp [hyl], by rw [List.getElem?_set_self (by omega), show nb - (j + 1) = n by omega], by rw [Nat.pow_succ]; omega, hq0, hq1, ?_, ?_, ?_, (HBL8.out.setCell (p := ⟨w3.heap.size, (j + 1) * 2, none⟩) HWB.out _).setCell (p := ⟨w3.heap.size, (j + 1) * 2 + 1, none⟩) HWB.out _⟩
     ·rw [HWN.out, show nb - (j + 1) = n by omega, wayN, if_pos hqn]
     ·rw [← hcast]; exact HPA8.out.set (i := j + 1) (by omega) (n, 2 * i)
     ·exact HST8.out.frame (hsc _ _ _ (by omega)) (hsc _ _ _ (by omega)) (fun z hz => ⟨hsc _ _ _ (by have := hu.2.2 z hz; omega), hsc _ _ _ (by have := hu.2.2 z hz; omega), hsc _ _ _ (by have := hu.2.2 z hz; omega)⟩)
    case measure => simp [intOf]; omega
   ·have PM := Lib.hid (minus_yes q (pt n (2 * i)) (by omega) hq1 (by omega) hpn.2 (by omega) (by omega) w8)
    go_wp2_with fail
    with_reducible refine PM.out.mono ?_
    rintro e w9 ⟨rfl, hb9⟩
    have HPA9 := Lib.hid (HPA8.out.kept hb9)
    have HST9 := Lib.hid (HST8.out.kept hb9)
    have HBL9 := Lib.hid (btr HBL8.out hb9)
    have HGB9 := Lib.hid (HGB8.out.kept hb9)
    clear hb9 PM
    go_upto_region 16 with fail
    obtain ⟨pz, hpz⟩ : ∃ p, ys[j + 1]? = some p := ⟨_, List.getElem?_eq_getElem (by omega)⟩
    have cE := HPA9.out.rng (j + 1) pz hpz 0 _ rfl
    have cF := HPA9.out.rng (j + 1) pz hpz 1 _ rfl
    have fE := HPA9.out.nofr ((j + 1) * 2)
    have fF := HPA9.out.nofr ((j + 1) * 2 + 1)
    have gA := HGB9.out.cell 0
    have gB := HGB9.out.cell 1
    simp at gA gB
    simp only [Nat.add_zero] at cE
    have i2 : (0 : Int) ≤ (j : Int) + 1 := by omega
    have i3 : (j : Int) + 1 < 60 := by omega
    have i4 : ((j : Int) + 1).toNat = j + 1 := by omega
    go_wp2_with fail
    have hsc : ∀ (x y : Value) z, z < w3.heap.size → ((w9.setCell ⟨w3.heap.size, (j + 1) * 2, none⟩ x).setCell ⟨w3.heap.size, (j + 1) * 2 + 1, none⟩ y).heap[z]? = w9.heap[z]? := fun x y z hz => (Below.heap_setCell _ _ _ _ (by intro e; simp at e; omega)).trans (Below.heap_setCell _ _ _ _ (by intro e; simp at e; omega))
    have hu := HU3.out
    have hcast : ((2 * i + 1 : Nat) : Int) = 2 * (i : Int) + 1 := by omega
    go_roundw
    case rel =>
     refine ⟨j + 1, 2 * i + 1, q - pt n (2 * i), ys.set (j + 1) (n, 2 * i + 1), rfl, by go_num, by omega, by simp [hyl], by rw [List.getElem?_set_self (by omega), show nb - (j + 1) = n by omega], by rw [Nat.pow_succ]; omega, by omega, by omega, ?_, ?_, ?_, (HBL9.out.setCell (p := ⟨w3.heap.size, (j + 1) * 2, none⟩) HWB.out _).setCell (p := ⟨w3.heap.size, (j + 1) * 2 + 1, none⟩) HWB.out _⟩
     ·rw [HWN.out, show nb - (j + 1) = n by omega, wayN, if_neg (by omega)]
     ·rw [← hcast]; exact HPA9.out.set (i := j + 1) (by omega) (n, 2 * i + 1)
     ·exact HST9.out.frame (hsc _ _ _ (by omega)) (hsc _ _ _ (by omega)) (fun z hz => ⟨hsc _ _ _ (by have := hu.2.2 z hz; omega), hsc _ _ _ (by have := hu.2.2 z hz; omega), hsc _ _ _ (by have := hu.2.2 z hz; omega)⟩)
    case measure => simp [intOf]; omega
end Go.Proofs.YtfeficdndjiijaaGreatDoor


namespace Go.Proofs.YtfeficdndjiijaaGreatDoor
open Go.RowKit
set_option linter.unusedVariables false
set_option linter.unusedSimpArgs false

theorem pc_own {w : World} {base n : Nat} {v : Value} {l : List (Nat × Nat)} (h : w.ownsRow base 155 2 v n (pCells l)) (hn : 0 < n) : ∃ g cap, v = .slice (some ⟨g, 0, none⟩) n cap ∧ ∀ t p, l[t]? = some p → w.cell? ⟨g, t * 2, none⟩ = some (.int .i64 (p.1 : Int)) ∧ w.cell? ⟨g, t * 2 + 1, none⟩ = some (.int .u64 (p.2 : Int)) := by
  obtain ⟨g, cap, hv, -, -, -, -, hc⟩ := own_cells h hn
  exact ⟨g, cap, hv, fun t p ht => ⟨hc _ _ (pCells_at l t p ht 0 _ rfl), hc _ _ (pCells_at l t p ht 1 _ rfl)⟩⟩
set_option maxRecDepth 100000 in
set_option maxHeartbeats 4000000 in
theorem quantile_any (w : World) (base S L : Nat) (nb : Nat) (r d m s : Int) (X : Nat → Value) (A G C : Nat → Nat) (Z : Nat → List Int) (h : StIs w base S L (nb : Int) r d m s X A G C Z) (s0 : 0 ≤ s) (s1 : s ≤ 18446744073709551615) (hb1 : 1 ≤ nb) (hb : nb ≤ 59) (pt : Nat → Nat → Int) (hpt : ∀ n i, n ≤ nb → pt n i = lvPt (nb : Int) r d m s (n : Int) (Z n) i) (hpb : ∀ n i, 0 ≤ pt n i ∧ pt n i ≤ 9223372036854775807)
  (k : Int) (k0 : 1 ≤ k) (k1 : k ≤ pt nb 0) :
  Calls Tryz.prog 96 #[.pointer (some ⟨S, 0, none⟩), .int .i64 k] w fun e w' => e = .returned (.tuple #[.int .u64 (wayN pt nb 0 k : Nat), .int .i64 0]) ∧ Below w.heap.size w w' := by
 have PW := Lib.hid (way_any w base S L nb r d m s X A G C Z h s0 s1 hb1 hb pt hpt hpb k k0 k1)
 clear h hpt hpb
 go_enter Tryz.func96, Tryz.ntmps96
 go_wp2_with fail
 with_reducible refine PW.out.mono ?_
 rintro e w2 ⟨v, l, rfl, hown, hlen, hlast, hb2⟩
 obtain ⟨g, cap, hv, hc⟩ := pc_own hown (by omega)
 subst hv
 have HB2 := Lib.hid hb2
 have c1 := (hc nb _ hlast).2
 clear hown hlen hlast hc PW hb2
 have i0 : (0 : Int) ≤ (nb : Int) := by omega
 have hw : IntKind.i64.wrap (((nb + 1 : Nat) : Int) - 1) = (nb : Int) := by rw [wrapI_of _ (by omega) (by omega)]; omega
 go_wp2_with fail
 go_ret2
 exact ⟨rfl, HB2.out⟩
end Go.Proofs.YtfeficdndjiijaaGreatDoor


namespace Go.Proofs.YtfeficdndjiijaaGreatDoor
open Go.RowKit
set_option linter.unusedVariables false
set_option linter.unusedSimpArgs false

theorem Tryz.bldSize : (Tryz.prog.info? 132).map (·.size) = some 2 := by kernel_rfl
theorem Tryz.bldLies : liesAt Tryz.prog Tryz.prog.depth 132 (2 / Tryz.prog.cellsOf 132) 0 132 1 = true := by kernel_rfl
theorem Tryz.byteInfo : (Tryz.prog.info? 5).map (fun i => (i.zero, i.size, i.bytes)) = some (some (.int .u8 0), 1, 1) := by kernel_rfl
set_option maxRecDepth 100000 in
set_option maxHeartbeats 4000000 in
theorem cc_used (b : Nat) (w : World) (h0 : w.cell? ⟨b, 0, none⟩ = some (.pointer (some ⟨b, 0, none⟩))) :
    Calls Tryz.prog 105 #[.pointer (some ⟨b, 0, none⟩)] w fun e w' => e = .returned (.tuple #[]) ∧ w' = w := by
  obtain ⟨j, hj, _⟩ := Option.map_eq_some_iff.1 Tryz.bldSize
  go_enter Tryz.func105, Tryz.ntmps105
  go_wp2
  rw [Lib.run_neq_ptr_same w _ Tryz.underlying130 hj]
  go_wp2
  go_end0
  exact ⟨rfl, rfl⟩
set_option maxRecDepth 100000 in
set_option maxHeartbeats 4000000 in
theorem cc_fresh (b : Nat) (w : World) (h0 : w.cell? ⟨b, 0, none⟩ = some (.pointer none)) (hsh : w.shape? b = some (132, 2)) (hfz : w.frozen? ⟨b, 0, none⟩ = false) :
    Calls Tryz.prog 105 #[.pointer (some ⟨b, 0, none⟩)] w fun e w' => e = .returned (.tuple #[]) ∧ w' = w.setCell ⟨b, 0, none⟩ (.pointer (some ⟨b, 0, none⟩)) := by
  obtain ⟨j, hj, hjs⟩ := Option.map_eq_some_iff.1 Tryz.bldSize
  go_enter Tryz.func105, Tryz.ntmps105
  go_wp2
  rw [Lib.run_to_unsafe w ⟨b, 0, none⟩ Tryz.underlying130 Tryz.underlying267 hj (by rw [hjs]; decide) hsh (Nat.zero_lt_succ 1)]
  simp only [Result.andThen]
  rw [Oper.upon_value]
  go_wp2
  rw [run_callFunc_extern Tryz.func147 (by kernel_rfl) (by kernel_rfl) (by kernel_rfl) (e := Extern.AbiNoEscape.same) (by kernel_rfl)]
  rw [Lib.run_noEscape]
  simp only [Result.andThen]
  rw [Oper.upon_value]
  go_wp2
  rw [Lib.run_from_unsafe w ⟨b, 0, none⟩ Tryz.underlying267 Tryz.underlying130 hj hsh Tryz.bldLies]
  simp only [Result.andThen]
  rw [Oper.upon_value]
  go_wp2
  go_end0
  exact ⟨rfl, rfl⟩
def OthB (b : Nat) (w w' : World) : Prop := ∀ (k : Nat) (t : TypeId) (cs : Array Value), Blk w k t cs → k ≠ b → t ≠ 5 → Blk w' k t cs
theorem OthB.trans {b : Nat} {w w1 w2 : World} (h : OthB b w w1) (k : OthB b w1 w2) : OthB b w w2 := fun x t cs hx h1 h2 => k x t cs (h x t cs hx h1 h2) h1 h2
theorem OthB.below {b : Nat} {w w' : World} (h : Below w.heap.size w w') : OthB b w w' := fun x t cs hx h1 h2 => hx.kept h
theorem OthB.setC (w : World) (b j : Nat) (u : Value) : OthB b w (w.setCell ⟨b, j, none⟩ u) := fun x t cs hx h1 h2 => (Below.heap_setCell _ _ _ _ (by intro e; exact h1 (by simpa using e))).trans hx
theorem OthB.own {b base n : Nat} {w w' : World} {v : Value} {xs : List Value} (ho : w.ownsRow base 5 1 v n xs) (hg : w.grownBy w' v.ownBlock) : OthB b w w' := fun x t cs hx h1 h2 => hx.grown hg (own_far ho hx h2)
abbrev IsBld (B b : Nat) (bs : List UInt8) (w : World) : Prop := Lib.IsBuilder 132 5 B b (Lib.byteCells bs) w
theorem cc_any (B b : Nat) (bs : List Value) (w : World) (h : Lib.IsBuilder 132 5 B b bs w) :
    Calls Tryz.prog 105 #[.pointer (some ⟨b, 0, none⟩)] w fun e w' => e = .returned (.tuple #[]) ∧ (Lib.BuilderAt 132 5 B b (.pointer (some ⟨b, 0, none⟩)) bs w' ∧ Below B w w' ∧ OthB b w w') := by
  rcases h with h | h
  · refine (cc_fresh b w h.cell0 h.shape h.frozen0).mono ?_
    rintro e w' ⟨rfl, rfl⟩
    exact ⟨rfl, h.used _, (Below.refl B w).setCell (p := ⟨b, 0, none⟩) h.1 _, OthB.setC _ _ _ _⟩
  · refine (cc_used b w h.cell0).mono ?_
    rintro e w' ⟨rfl, rfl⟩
    exact ⟨rfl, h, Below.refl B _, fun _ _ _ h _ _ => h⟩
set_option maxRecDepth 100000 in
set_option maxHeartbeats 4000000 in
theorem wstr_any (B b : Nat) (bs : List UInt8) (s : List UInt8) (w : World) (h : IsBld B b bs w) (hlen : bs.length + s.length ≤ 140737488355328) (hBw : B ≤ w.heap.size) :
  Calls Tryz.prog 56 #[.pointer (some ⟨b, 0, none⟩), .string (sB s)] w fun e w' => e = .returned (.tuple #[.int .i64 (s.length : Int), .nilIface]) ∧ IsBld B b (bs ++ s) w' ∧ Below B w w' ∧ OthB b w w' := by
 obtain ⟨i0, hi, hz0, hz1, hz2⟩ := info_parts Tryz.byteInfo
 have hsl : (sB s).size = s.length := sB_size s
 have hcs : Lib.strCells (sB s) = Lib.byteCells s := rfl
 obtain ⟨S, hS⟩ : ∃ S, S = sB s := ⟨_, rfl⟩
 rw [← hS] at hsl hcs ⊢
 have HSL := Lib.hid (And.intro hsl hcs)
 obtain ⟨bc, hbc⟩ : ∃ bc, bc = Lib.byteCells bs := ⟨_, rfl⟩
 have hbl : bc.length = bs.length := by rw [hbc, Lib.byteCells_length]
 have HBC := Lib.hid hbc
 unfold IsBld at h ⊢
 rw [← hbc] at h
 have PC := Lib.hid (cc_any B b bc w h)
 have hlen' : bc.length + S.size ≤ 140737488355328 := by omega
 clear hS hbc hsl hcs hbl hlen
 go_enter Tryz.func56, Tryz.ntmps56
 go_wp2_with fail
 with_reducible refine PC.out.mono ?_
 rintro e w1 ⟨rfl, h1, hb1, hob⟩
 have HOB := Lib.hid hob
 clear hob
 obtain ⟨hB, v, hbk, hown, hne⟩ := h1
 have c0 : w1.cell? ⟨b, 0, none⟩ = some (.pointer (some ⟨b, 0, none⟩)) := by rw [Lib.cell_of_heap hbk]; rfl
 have c1 : w1.cell? ⟨b, 1, none⟩ = some v := by rw [Lib.cell_of_heap hbk]; rfl
 clear h PC
 go_wp2_with (at_builtin; refine Lib.wpList_append_own_string _ rfl _ _ 41 9 rfl B 5 i0 Tryz.underlying41 Tryz.underlying9 hi hz0 hz1 hz2 _ _ _ rfl hown S rfl ?c3 ?c4 ?c5 ?_)
 case c3 => unfold maxLen; omega
 case c4 => omega
 case c5 => have := hb1.size; omega
 intro v' w2 hown' hgrow _
 have hlt : b < w1.heap.size := by
  rcases Nat.lt_or_ge b w1.heap.size with h' | h'
  ·exact h'
  ·simp [Array.getElem?_eq_none h'] at hbk
 have hb2 : w2.heap[b]? = some (.cells #[.pointer (some ⟨b, 0, none⟩), v] 132 (0, 0)) := by
  rw [hgrow.block b hlt (fun e => hne e.symm)]
  exact hbk
 have d0 : w2.cell? ⟨b, 0, none⟩ = some (.pointer (some ⟨b, 0, none⟩)) := by rw [Lib.cell_of_heap hb2]; rfl
 have d1 : w2.cell? ⟨b, 1, none⟩ = some v := by rw [Lib.cell_of_heap hb2]; rfl
 have f1 : w2.frozen? ⟨b, 1, none⟩ = false := Lib.frozen_of_heap hb2 1
 obtain ⟨ao, n', cap, rfl⟩ : ∃ ao n' cap, v' = .slice ao n' cap := by
  rcases hown'.2 with ⟨hv, _⟩ | ⟨g, cap, cur, hv, _⟩
  ·exact ⟨_, _, _, hv⟩
  ·exact ⟨_, _, _, hv⟩
 go_wp2
 go_ret2
 refine ⟨by rw [HSL.out.1]; rfl, .inr ?_, ?_, ?_⟩
 ·have hc : Lib.byteCells (bs ++ s) = bc ++ Lib.strCells S := by rw [HBC.out, HSL.out.2]; simp [Lib.byteCells]
  rw [hc]
  exact Lib.BuilderAt.put (T := 132) (e := 5) hB hb2 (bs' := bc ++ Lib.strCells S) (by simpa [Lib.strCells_length] using hown') (by decide)
 ·exact (hb1.grown hgrow (by have := hb1.size; omega) (fun k hk => (hown.lt k hk).1)).setCell (p := ⟨b, 1, none⟩) hB _
 ·exact (HOB.out.trans (OthB.own hown hgrow)).trans (OthB.setC _ _ _ _)
set_option maxRecDepth 100000 in
set_option maxHeartbeats 4000000 in
theorem wbyte_any (B b : Nat) (bs : List UInt8) (c : UInt8) (w : World) (h : IsBld B b bs w) (hlen : bs.length + 1 ≤ 140737488355328) (hBw : B ≤ w.heap.size) :
  Calls Tryz.prog 57 #[.pointer (some ⟨b, 0, none⟩), .int .u8 (c.toNat : Int)] w fun e w' => e = .returned .nilIface ∧ IsBld B b (bs ++ [c]) w' ∧ Below B w w' ∧ OthB b w w' := by
 obtain ⟨i0, hi, hz0, hz1, hz2⟩ := info_parts Tryz.byteInfo
 obtain ⟨q, hq⟩ : ∃ q : Int, q = (c.toNat : Int) := ⟨_, rfl⟩
 rw [← hq]
 have HQ := Lib.hid hq
 obtain ⟨bc, hbc⟩ : ∃ bc, bc = Lib.byteCells bs := ⟨_, rfl⟩
 have hbl : bc.length = bs.length := by rw [hbc, Lib.byteCells_length]
 have HBC := Lib.hid hbc
 unfold IsBld at h ⊢
 rw [← hbc] at h
 have PC := Lib.hid (cc_any B b bc w h)
 have hlen' : bc.length + 1 ≤ 140737488355328 := by omega
 clear hbc hbl hlen hq
 go_enter Tryz.func57, Tryz.ntmps57
 go_wp2_with fail
 with_reducible refine PC.out.mono ?_
 rintro e w1 ⟨rfl, h1, hb1, hob⟩
 have HOB := Lib.hid hob
 clear hob
 obtain ⟨hB, v, hbk, hown, hne⟩ := h1
 have c0 : w1.cell? ⟨b, 0, none⟩ = some (.pointer (some ⟨b, 0, none⟩)) := by rw [Lib.cell_of_heap hbk]; rfl
 have c1 : w1.cell? ⟨b, 1, none⟩ = some v := by rw [Lib.cell_of_heap hbk]; rfl
 clear h PC
 go_wp2_with (at_builtin; refine wpList_append_own _ rfl _ _ 41 rfl B 5 i0 (.int .u8 0) 1 1 Tryz.underlying41 hi hz0 hz1 hz2 rfl (by decide) _ _ _ rfl (hown.alloc _) ⟨w1.heap.size, 0, none⟩ 1 1 [.int .u8 q] rfl rfl ?c1 ?c2 ?c3 ?c4 ?c5 ?_)
 case c1 =>
  intro j u hj
  match j, hj with
  | 0, hj => simp at hj; subst hj; simp [Addr.add]
 case c2 => intro u hu; simp at hu; subst hu; rfl
 case c3 => unfold maxLen; omega
 case c4 => omega
 case c5 => have := hb1.size; simp; omega
 intro v' w2 hown' hgrow _
 have hlt : b < w1.heap.size := by
  rcases Nat.lt_or_ge b w1.heap.size with h' | h'
  ·exact h'
  ·simp [Array.getElem?_eq_none h'] at hbk
 have hb2 : w2.heap[b]? = some (.cells #[.pointer (some ⟨b, 0, none⟩), v] 132 (0, 0)) := by
  rw [hgrow.block b (by simp; omega) (fun e => hne e.symm), Lib.alloc_old w1 _ b hlt]
  exact hbk
 have d0 : w2.cell? ⟨b, 0, none⟩ = some (.pointer (some ⟨b, 0, none⟩)) := by rw [Lib.cell_of_heap hb2]; rfl
 have d1 : w2.cell? ⟨b, 1, none⟩ = some v := by rw [Lib.cell_of_heap hb2]; rfl
 have f1 : w2.frozen? ⟨b, 1, none⟩ = false := Lib.frozen_of_heap hb2 1
 obtain ⟨g, cap, rfl⟩ : ∃ g cap, v' = .slice (some ⟨g, 0, none⟩) (bc.length + 1) cap := by
  rcases hown'.2 with ⟨_, h0⟩ | ⟨g, cap, cur, hv, _⟩
  ·omega
  ·exact ⟨g, cap, hv⟩
 go_wp2
 go_ret
 refine ⟨rfl, .inr ?_, ?_, ?_⟩
 ·have hc : Lib.byteCells (bs ++ [c]) = bc ++ [.int .u8 q] := by rw [HBC.out, HQ.out]; simp [Lib.byteCells]
  rw [hc]
  exact Lib.BuilderAt.put (T := 132) (e := 5) hB hb2 (bs' := bc ++ [.int .u8 q]) (by simpa using hown') (by decide)
 ·exact ((hb1.alloc (by have := hb1.size; omega) _).grown hgrow (by have := hb1.size; simp; omega) (fun k hk => (hown.lt k hk).1)).setCell (p := ⟨b, 1, none⟩) hB _
 ·exact (HOB.out.trans ((OthB.below ((Below.refl _ w1).alloc (Nat.le_refl _) _)).trans (OthB.own (hown.alloc _) hgrow))).trans (OthB.setC _ _ _ _)
theorem bstring (B b : Nat) (bs : List UInt8) (w : World) (h : IsBld B b bs w) (hBw : B ≤ w.heap.size) :
    Calls Tryz.prog 58 #[.pointer (some ⟨b, 0, none⟩)] w fun e w' => e = .returned (.string (sB bs)) ∧ Below B w w' := Tryz.Builder_String_any B b bs w h hBw
end Go.Proofs.YtfeficdndjiijaaGreatDoor


namespace Go.Proofs.YtfeficdndjiijaaGreatDoor
open Go.RowKit
set_option linter.unusedVariables false
set_option linter.unusedSimpArgs false

theorem IsBld.kept {B b : Nat} {bs : List UInt8} {w w' : World} (h : IsBld B b bs w) (hb : Below w.heap.size w w') : IsBld B b bs w' := by
  have key : ∀ p, Lib.BuilderAt 132 5 B b p (Lib.byteCells bs) w → Lib.BuilderAt 132 5 B b p (Lib.byteCells bs) w' := fun p hp => by
    have hlt := hp.lt
    obtain ⟨hB, v, hk, ho, hn⟩ := hp
    exact ⟨hB, v, (hb.block b hlt).trans hk, own_kept ho hb, hn⟩
  rcases h with h | h
  · exact .inl (key _ h)
  · exact .inr (key _ h)
def foundT (pt : Nat → Nat → Int) (p : Nat × Nat) : List UInt8 := [32] ++ Lib.itoa (p.1 : Int) ++ [58] ++ Lib.decDigits p.2 ++ [58] ++ Lib.itoa (pt p.1 p.2)
def listT (pt : Nat → Nat → Int) (l : List (Nat × Nat)) : List UInt8 := [108, 105, 115, 116] ++ l.flatMap (foundT pt)
theorem foundT_len (pt : Nat → Nat → Int) (p : Nat × Nat) (h1 : p.1 < 100) (h2 : p.2 < 100) (h3 : In64 (pt p.1 p.2)) : (foundT pt p).length ≤ 100 := by
  have a1 := Lib.itoa_length_le (p.1 : Int) (by omega) (by omega)
  have a2 := dec_len p.2 (by omega)
  have a3 := Lib.itoa_length_le (pt p.1 p.2) h3.1 h3.2
  simp [foundT]
  omega
theorem listT_len (pt : Nat → Nat → Int) (l : List (Nat × Nat)) (h : ∀ p ∈ l, p.1 < 100 ∧ p.2 < 100 ∧ In64 (pt p.1 p.2)) : (listT pt l).length ≤ 4 + l.length * 100 := by
  induction l with
  | nil => simp [listT]
  | cons a r ih =>
    have h1 := ih (fun p hp => h p (by simp [hp]))
    have h2 := h a (by simp)
    have h3 := foundT_len pt a h2.1 h2.2.1 h2.2.2
    simp [listT] at h1 ⊢
    omega
theorem taListDone (ao : Option Addr) (k cp : Nat) (w : World) : (Instr.typeAssert (.iface 149 (.agg #[.slice ao k cp])) 68 133 true).run Tryz.prog w = .ok (.tuple #[.agg #[], .bool false]) w := by kernel_rfl
theorem taListHandle (ao : Option Addr) (k cp : Nat) (w : World) : (Instr.typeAssert (.iface 149 (.agg #[.slice ao k cp])) 68 135 true).run Tryz.prog w = .ok (.tuple #[.agg #[.int .i64 0], .bool false]) w := by kernel_rfl
theorem taListNumber (ao : Option Addr) (k cp : Nat) (w : World) : (Instr.typeAssert (.iface 149 (.agg #[.slice ao k cp])) 68 137 true).run Tryz.prog w = .ok (.tuple #[.agg #[.int .i64 0], .bool false]) w := by kernel_rfl
theorem taListKey (ao : Option Addr) (k cp : Nat) (w : World) : (Instr.typeAssert (.iface 149 (.agg #[.slice ao k cp])) 68 140 true).run Tryz.prog w = .ok (.tuple #[.agg #[.int .u64 0], .bool false]) w := by kernel_rfl
theorem taListWide (ao : Option Addr) (k cp : Nat) (w : World) : (Instr.typeAssert (.iface 149 (.agg #[.slice ao k cp])) 68 145 true).run Tryz.prog w = .ok (.tuple #[.agg #[.int .i64 0, .int .u64 0], .bool false]) w := by kernel_rfl
theorem taListList (ao : Option Addr) (k cp : Nat) (w : World) : (Instr.typeAssert (.iface 149 (.agg #[.slice ao k cp])) 68 149 true).run Tryz.prog w = .ok (.tuple #[.agg #[.slice ao k cp], .bool true]) w := by kernel_rfl
set_option maxRecDepth 100000 in
set_option maxHeartbeats 8000000 in
theorem text_list (w : World) (base : Nat) (pt : Nat → Nat → Int) (l : List (Nat × Nat)) (v : Value) (h : FdOwn w base v pt l) (hl : l.length ≤ 1000) (hk : ∀ p ∈ l, p.1 < 100 ∧ p.2 < 100 ∧ In64 (pt p.1 p.2)) (ht : Tab w) :
  Calls Tryz.prog 25 #[.iface 149 (.agg #[v])] w fun e w' => e = .returned (.string (sB (listT pt l))) ∧ Below w.heap.size w w' := by
 obtain ⟨ao, cap, hv, hcap, hcm⟩ := own_open h
 subst hv
 obtain ⟨n, hn⟩ : ∃ n, n = l.length := ⟨_, rfl⟩
 have HN := Lib.hid hn
 have HF := Lib.hid h
 have HK := Lib.hid hk
 have HT := Lib.hid ht
 rw [← hn] at hl ⊢
 have t0 := taListDone ao n cap
 have t1 := taListHandle ao n cap
 have t2 := taListNumber ao n cap
 have t3 := taListKey ao n cap
 have t4 := taListWide ao n cap
 have t5 := taListList ao n cap
 have hbl : IsBld w.heap.size w.heap.size [] ((w.alloc (.cells #[.pointer none, .slice none 0 0] 132)).alloc (.cells #[.slice ao n cap] 149)) := by
  exact IsBld.kept (w := w.alloc (.cells #[.pointer none, .slice none 0 0] 132)) (.inl (by exact ⟨Nat.le_refl _, .slice none 0 0, heap_alloc_new w _, World.ownsRow_nil _ _ _ _, by simp [Value.ownBlock]⟩)) ((Below.refl _ _).alloc (Nat.le_refl _) _)
 have PW := Lib.hid (wstr_any _ _ [] [108, 105, 115, 116] _ hbl (by simp) (by simp; omega))
 have HXB : Hid (Blk ((w.alloc (.cells #[.pointer none, .slice none 0 0] 132)).alloc (.cells #[.slice ao n cap] 149)) (w.heap.size + 1) 149 #[.slice ao n cap]) := Lib.hid (by have := Blk.new (w.alloc (.cells #[.pointer none, .slice none 0 0] 132)) 149 #[.slice ao n cap]; simpa using this)
 have HB1 : Hid (Below w.heap.size w ((w.alloc (.cells #[.pointer none, .slice none 0 0] 132)).alloc (.cells #[.slice ao n cap] 149))) := Lib.hid (((Below.refl _ w).alloc (Nat.le_refl _) _).alloc (by simp) _)
 have hlit : sB [108, 105, 115, 116] = ⟨#[108, 105, 115, 116]⟩ := rfl
 rw [hlit] at PW
 clear h hk ht hn hbl hlit
 go_enter Tryz.func25, Tryz.ntmps25
 go_wp2_with fail
 with_reducible refine PW.out.mono ?_
 rintro e w2 ⟨rfl, hbd, hb2, hot⟩
 have HBD := Lib.hid hbd
 have HB2 := Lib.hid (HB1.out.trans hb2)
 have hxb := hot _ _ _ HXB.out (by omega) (by decide)
 have c0 := hxb.cell 0
 simp at c0
 clear hbd hb2 hot PW hxb
 go_wp2_with fail
 go_loopw [54] (fun i wr => ∃ j : Nat, j ≤ n ∧ i = .int .i64 (j : Int) ∧ IsBld w.heap.size w.heap.size (listT pt (l.take j)) wr ∧ Below w.heap.size w wr) (fun i _ => n - (intOf i).toNat)
 case atStart => exact ⟨0, by omega, rfl, by simpa [listT] using HBD.out, HB2.out⟩
 case round =>
  obtain ⟨j, hj, rfl, hbd, hbel⟩ := hrel
  have HBD := Lib.hid hbd
  have HBL := Lib.hid hbel
  clear hbd hbel c0
  by_cases hlt : j < n
  ·obtain ⟨p, hp⟩ : ∃ p, l[j]? = some p := ⟨_, List.getElem?_eq_getElem (by rw [← HN.out]; exact hlt)⟩
   obtain ⟨g, cp, e, -, hg2, -, -, hrg⟩ := (HF.out.kept HBL.out).range hp
   simp only [Value.slice.injEq] at e
   obtain ⟨rfl, -, rfl⟩ := e
   have hkp := HK.out p (List.mem_of_getElem? hp)
   have HTK : Hid (listT pt (l.take (j + 1)) = listT pt (l.take j) ++ foundT pt p) := Lib.hid (by rw [List.take_add_one, hp]; simp [listT])
   have HLN : Hid ((listT pt (l.take j)).length ≤ 4 + 1000 * 100) := Lib.hid (by
    have h1 := listT_len pt (l.take j) (fun q hq => HK.out q (List.mem_of_mem_take hq))
    have h2 : (l.take j).length ≤ 1000 := by rw [List.length_take]; omega
    have := Nat.mul_le_mul_right 100 h2
    omega)
   have htL : (j : Int) < (n : Int) := by omega
   have ht0 : (0 : Int) ≤ (j : Int) := by omega
   have HRG := Lib.hid hrg
   clear hp
   obtain ⟨a, ha⟩ : ∃ a, a = p.1 := ⟨_, rfl⟩
   obtain ⟨b, hb⟩ : ∃ b, b = p.2 := ⟨_, rfl⟩
   obtain ⟨c, hc⟩ : ∃ c, c = pt p.1 p.2 := ⟨_, rfl⟩
   rw [← hc, ← ha, ← hb] at hrg hkp
   have HFT : Hid (foundT pt p = [32] ++ Lib.itoa (a : Int) ++ [58] ++ Lib.decDigits b ++ [58] ++ Lib.itoa c) := Lib.hid (by rw [ha, hb, hc]; rfl)
   clear ha hb hc
   have PA := Lib.hid (fun w ht => itoaAny (a : Int) (by omega) (by omega) w ht)
   have PB := Lib.hid (fun w => fmtUintSmall b hkp.2.1 w)
   have PC := Lib.hid (fun w ht => fmtInt c hkp.2.2.1 hkp.2.2.2 w ht)
   have za := itoa_len (a : Int) (by omega) (by omega)
   have zb : (sB (Lib.decDigits b)).size ≤ 20 := by rw [sB_size]; exact dec_len b (by omega)
   have zc := itoa_len c hkp.2.2.1 hkp.2.2.2
   have hT : sB [32] ++ sB (Lib.itoa (a : Int)) ++ sB [58] ++ sB (Lib.decDigits b) ++ sB [58] ++ sB (Lib.itoa c) = sB (foundT pt p) := by rw [HFT.out]; simp only [sB_append]
   have hfl : (foundT pt p).length ≤ 100 := by
    have := congrArg ByteArray.size hT
    rw [sB_size] at this
    simp [sB_size] at this za zb zc
    omega
   have PW := Lib.hid (fun w' h hB => wstr_any w.heap.size w.heap.size (listT pt (l.take j)) (foundT pt p) w' h (by have := HLN.out; omega) hB)
   rw [← hT, ← HTK.out] at PW
   clear hT hfl HFT
   generalize sB (Lib.itoa (a : Int)) = SA at *
   generalize sB (Lib.decDigits b) = SB at *
   generalize sB (Lib.itoa c) = SC at *
   have hs32 : sB [32] = ⟨#[32]⟩ := rfl
   have hs58 : sB [58] = ⟨#[58]⟩ := rfl
   rw [hs32, hs58] at PW
   have z1 : ¬ 9223372036854775807 < 1 + SA.size := by omega
   have z2 : ¬ 9223372036854775807 < 1 + SA.size + 1 := by omega
   have z3 : ¬ 9223372036854775807 < 1 + SA.size + 1 + SB.size := by omega
   have z4 : ¬ 9223372036854775807 < 1 + SA.size + 1 + SB.size + 1 := by omega
   have z5 : ¬ 9223372036854775807 < 1 + SA.size + 1 + SB.size + 1 + SC.size := by omega
   clear hs32 hs58 hkp za zb zc
   go_wp2_with (refine wpList_load_mid rfl 157 _ rfl g (j * 3) rfl [.int .i64 (a : Int), .int .u64 (b : Int), .int .i64 c] _ hrg Tryz.underlying157 rfl (by kernel_rfl) ?_)
   have hal : Below wr.heap.size wr (wr.alloc (.cells #[.int .i64 (a : Int), .int .u64 (b : Int), .int .i64 c] 157)) := (Below.refl _ _).alloc (Nat.le_refl _) _
   have HXF : Hid (Blk (wr.alloc (.cells #[.int .i64 (a : Int), .int .u64 (b : Int), .int .i64 c] 157)) wr.heap.size 157 #[.int .i64 (a : Int), .int .u64 (b : Int), .int .i64 c]) := Lib.hid (Blk.new wr _ _)
   have HBDX := Lib.hid ((HBD.out.kept hal).kept (below_drewN (Below.refl _ _) 1))
   have HBX := Lib.hid (btr HBL.out hal)
   have HWR : Hid (w.heap.size ≤ wr.heap.size ∧ w.heap.size < wr.heap.size) := Lib.hid ⟨HBL.out.size, by have h1 := HBD.out; rcases h1 with h | h <;> exact h.lt⟩
   clear hal hrg HBD HBL HRG
   generalize (wr.alloc (.cells #[.int .i64 (a : Int), .int .u64 (b : Int), .int .i64 c] 157)) = w3 at *
   refine wp_region_held_drew (S := fun w' => Blk w' wr.heap.size 157 #[.int .i64 (a : Int), .int .u64 (b : Int), .int .i64 c] ∧ Below w.heap.size w w') (by kernel_rfl) (by exact ⟨HXF.out.kept (below_drewN (Below.refl _ _) 1), below_drewN HBX.out 1⟩) (fun hHeld => ?_)
   refine tkH (i := 0) (v := ?_) rfl (by kernel_rfl) (fun _ _ _ h => h) (Or.inl ⟨by rfl, ?_⟩) (by assumption) ?_
   rotate_left
   ·intro w hSw
    try dsimp only at hSw
    go_simp
    try with_reducible rfl
   simp only [Act.put, z1, z2, z3, z4, z5, z6]
   refine tkH (i := 1) (v := ?_) rfl (by kernel_rfl) (fun _ _ _ h => h) (Or.inl ⟨by rfl, ?_⟩) (by assumption) ?_
   rotate_left
   ·intro w hSw
    try dsimp only at hSw
    go_simp
    try with_reducible rfl
   simp only [Act.put, z1, z2, z3, z4, z5, z6]
   refine tkH (i := 2) (v := ?_) rfl (by kernel_rfl) (fun _ _ _ h => h) (Or.inl ⟨by rfl, ?_⟩) (by assumption) ?_
   rotate_left
   ·intro w hSw
    have q0 := hSw.1.cell 0
    have q1 := hSw.1.cell 1
    have q2 := hSw.1.cell 2
    simp at q0 q1 q2
    go_simp
    try with_reducible rfl
   simp only [Act.put, z1, z2, z3, z4, z5, z6]
   refine tkH (i := 6) (v := ?_) rfl (by kernel_rfl) (fun _ _ _ h => h) (Or.inl ⟨by rfl, ?_⟩) (by assumption) ?_
   rotate_left
   ·intro w hSw
    try dsimp only at hSw
    go_simp
    try with_reducible rfl
   simp only [Act.put, z1, z2, z3, z4, z5, z6]
   refine tkH (i := 7) (v := ?_) rfl (by kernel_rfl) (fun _ _ _ h => h) (Or.inl ⟨by rfl, ?_⟩) (by assumption) ?_
   rotate_left
   ·intro w hSw
    try dsimp only at hSw
    go_simp
    try with_reducible rfl
   simp only [Act.put, z1, z2, z3, z4, z5, z6]
   refine tkH (i := 8) (v := ?_) rfl (by kernel_rfl) (fun _ _ _ h => h) (Or.inl ⟨by rfl, ?_⟩) (by assumption) ?_
   rotate_left
   ·intro w hSw
    have q0 := hSw.1.cell 0
    have q1 := hSw.1.cell 1
    have q2 := hSw.1.cell 2
    simp at q0 q1 q2
    go_simp
    try with_reducible rfl
   simp only [Act.put, z1, z2, z3, z4, z5, z6]
   refine tkH (i := 12) (v := ?_) rfl (by kernel_rfl) (fun _ _ _ h => h) (Or.inl ⟨by rfl, ?_⟩) (by assumption) ?_
   rotate_left
   ·intro w hSw
    try dsimp only at hSw
    go_simp
    try with_reducible rfl
   simp only [Act.put, z1, z2, z3, z4, z5, z6]
   refine tkH (i := 13) (v := ?_) rfl (by kernel_rfl) (fun _ _ _ h => h) (Or.inl ⟨by rfl, ?_⟩) (by assumption) ?_
   rotate_left
   ·intro w hSw
    have q0 := hSw.1.cell 0
    have q1 := hSw.1.cell 1
    have q2 := hSw.1.cell 2
    simp at q0 q1 q2
    go_simp
    try with_reducible rfl
   simp only [Act.put, z1, z2, z3, z4, z5, z6]
   refine wpAnyH_ready (rs := [3]) (by kernel_rfl) (by simp) ?_
   refine AllReadyH.cons rfl (fun Kc hKc => ?_) AllReadyH.nil
   go_simp
   go_wp2_with (first | ((with_reducible refine (PA.out _ (HT.out.kept hHeld.2)).mono ?_); rintro e wq ⟨rfl, hb'⟩; have HBDX := Lib.hid (HBDX.out.kept hb')) | ((with_reducible refine (PB.out _ ).mono ?_); rintro e wq ⟨rfl, hw'⟩; subst hw') | ((with_reducible refine (PC.out _ (HT.out.kept hHeld.2)).mono ?_); rintro e wq ⟨rfl, hb'⟩; have HBDX := Lib.hid (HBDX.out.kept hb')) | ((with_reducible refine (PW.out _ HBDX.out hHeld.2.size).mono ?_); rintro e wq ⟨rfl, hbd', hbb', hoo'⟩; have HBDY := Lib.hid hbd'; clear hbd'))
   refine hKc.out _ _ ?_ (fun hHeld => ?_)
   ·first | exact hHeld | exact ⟨hoo' _ _ _ hHeld.1 (by have := HWR.out.2; omega) (by decide), hHeld.2.trans hbb'⟩ | exact ⟨hHeld.1.kept hb', btr hHeld.2 hb'⟩
   clear hKc Kc
   refine tkH (i := 4) (v := ?_) rfl (by kernel_rfl) (fun _ _ _ h => h) (Or.inl ⟨by rfl, ?_⟩) (by assumption) ?_
   rotate_left
   ·intro w hSw
    try dsimp only at hSw
    go_simp
    try with_reducible rfl
   simp only [Act.put, z1, z2, z3, z4, z5, z6]
   refine tkH (i := 5) (v := ?_) rfl (by kernel_rfl) (fun _ _ _ h => h) (Or.inl ⟨by rfl, ?_⟩) (by assumption) ?_
   rotate_left
   ·intro w hSw
    try dsimp only at hSw
    go_simp
    try with_reducible rfl
   simp only [Act.put, z1, z2, z3, z4, z5, z6]
   refine wpAnyH_ready (rs := [9]) (by kernel_rfl) (by simp) ?_
   refine AllReadyH.cons rfl (fun Kc hKc => ?_) AllReadyH.nil
   go_simp
   go_wp2_with (first | ((with_reducible refine (PA.out _ (HT.out.kept hHeld.2)).mono ?_); rintro e wq ⟨rfl, hb'⟩; have HBDX := Lib.hid (HBDX.out.kept hb')) | ((with_reducible refine (PB.out _ ).mono ?_); rintro e wq ⟨rfl, hw'⟩; subst hw') | ((with_reducible refine (PC.out _ (HT.out.kept hHeld.2)).mono ?_); rintro e wq ⟨rfl, hb'⟩; have HBDX := Lib.hid (HBDX.out.kept hb')) | ((with_reducible refine (PW.out _ HBDX.out hHeld.2.size).mono ?_); rintro e wq ⟨rfl, hbd', hbb', hoo'⟩; have HBDY := Lib.hid hbd'; clear hbd'))
   refine hKc.out _ _ ?_ (fun hHeld => ?_)
   ·first | exact hHeld | exact ⟨hoo' _ _ _ hHeld.1 (by have := HWR.out.2; omega) (by decide), hHeld.2.trans hbb'⟩ | exact ⟨hHeld.1.kept hb', btr hHeld.2 hb'⟩
   clear hKc Kc
   refine tkH (i := 10) (v := ?_) rfl (by kernel_rfl) (fun _ _ _ h => h) (Or.inl ⟨by rfl, ?_⟩) (by assumption) ?_
   rotate_left
   ·intro w hSw
    try dsimp only at hSw
    go_simp
    try with_reducible rfl
   simp only [Act.put, z1, z2, z3, z4, z5, z6]
   refine tkH (i := 11) (v := ?_) rfl (by kernel_rfl) (fun _ _ _ h => h) (Or.inl ⟨by rfl, ?_⟩) (by assumption) ?_
   rotate_left
   ·intro w hSw
    try dsimp only at hSw
    go_simp
    try with_reducible rfl
   simp only [Act.put, z1, z2, z3, z4, z5, z6]
   refine wpAnyH_ready (rs := [14]) (by kernel_rfl) (by simp) ?_
   refine AllReadyH.cons rfl (fun Kc hKc => ?_) AllReadyH.nil
   go_simp
   go_wp2_with (first | ((with_reducible refine (PA.out _ (HT.out.kept hHeld.2)).mono ?_); rintro e wq ⟨rfl, hb'⟩; have HBDX := Lib.hid (HBDX.out.kept hb')) | ((with_reducible refine (PB.out _ ).mono ?_); rintro e wq ⟨rfl, hw'⟩; subst hw') | ((with_reducible refine (PC.out _ (HT.out.kept hHeld.2)).mono ?_); rintro e wq ⟨rfl, hb'⟩; have HBDX := Lib.hid (HBDX.out.kept hb')) | ((with_reducible refine (PW.out _ HBDX.out hHeld.2.size).mono ?_); rintro e wq ⟨rfl, hbd', hbb', hoo'⟩; have HBDY := Lib.hid hbd'; clear hbd'))
   refine hKc.out _ _ ?_ (fun hHeld => ?_)
   ·first | exact hHeld | exact ⟨hoo' _ _ _ hHeld.1 (by have := HWR.out.2; omega) (by decide), hHeld.2.trans hbb'⟩ | exact ⟨hHeld.1.kept hb', btr hHeld.2 hb'⟩
   clear hKc Kc
   refine tkH (i := 15) (v := ?_) rfl (by kernel_rfl) (fun _ _ _ h => h) (Or.inl ⟨by rfl, ?_⟩) (by assumption) ?_
   rotate_left
   ·intro w hSw
    try dsimp only at hSw
    go_simp
    try with_reducible rfl
   simp only [Act.put, z1, z2, z3, z4, z5, z6]
   refine wpAnyH_ready (rs := [16]) (by kernel_rfl) (by simp) ?_
   refine AllReadyH.cons rfl (fun Kc hKc => ?_) AllReadyH.nil
   go_simp
   go_wp2_with (first | ((with_reducible refine (PA.out _ (HT.out.kept hHeld.2)).mono ?_); rintro e wq ⟨rfl, hb'⟩; have HBDX := Lib.hid (HBDX.out.kept hb')) | ((with_reducible refine (PB.out _ ).mono ?_); rintro e wq ⟨rfl, hw'⟩; subst hw') | ((with_reducible refine (PC.out _ (HT.out.kept hHeld.2)).mono ?_); rintro e wq ⟨rfl, hb'⟩; have HBDX := Lib.hid (HBDX.out.kept hb')) | ((with_reducible refine (PW.out _ HBDX.out hHeld.2.size).mono ?_); rintro e wq ⟨rfl, hbd', hbb', hoo'⟩; have HBDY := Lib.hid hbd'; clear hbd'))
   refine hKc.out _ _ ?_ (fun hHeld => ?_)
   ·first | exact hHeld | exact ⟨hoo' _ _ _ hHeld.1 (by have := HWR.out.2; omega) (by decide), hHeld.2.trans hbb'⟩ | exact ⟨hHeld.1.kept hb', btr hHeld.2 hb'⟩
   clear hKc Kc
   refine wpAnyH_done (by kernel_rfl) ?_ _
   have HBZ := Lib.hid hHeld.2
   clear hHeld
   go_wp2_with fail
   go_roundw
   case rel => exact ⟨j + 1, by omega, by go_num, HBDY.out, HBZ.out⟩
   case measure => simp [intOf]; omega
  ·obtain rfl : j = n := by omega
   have PS := bstring w.heap.size w.heap.size _ wr HBD.out HBL.out.size
   have HE : l.take j = l := by rw [HN.out]; exact List.take_length
   rw [HE] at PS
   have PS := Lib.hid PS
   clear HE
   go_wp2_with fail
   with_reducible refine PS.out.mono ?_
   rintro e w9 ⟨rfl, hb9⟩
   have HB9 := Lib.hid (HBL.out.trans hb9)
   clear hb9
   go_wp2_with fail
   go_ret
   exact ⟨rfl, HB9.out⟩
def hexD (d : Nat) : UInt8 := if d < 10 then UInt8.ofNat (48 + d) else UInt8.ofNat (87 + d)
def hexT (bs : List Int) : List UInt8 := bs.flatMap fun x => [hexD (x.toNat / 16), hexD (x.toNat % 16)]
theorem hexT_len (bs : List Int) : (hexT bs).length = 2 * bs.length := by
  induction bs with
  | nil => rfl
  | cons a r ih => simp [hexT] at ih ⊢; omega
theorem hexAt (k : Nat) (h : k < 16) (h' : k < ({ data := #[48, 49, 50, 51, 52, 53, 54, 55, 56, 57, 97, 98, 99, 100, 101, 102] } : ByteArray).size) : ({ data := #[48, 49, 50, 51, 52, 53, 54, 55, 56, 57, 97, 98, 99, 100, 101, 102] } : ByteArray)[k]'h' = hexD k := by
  have H : ∀ k : Fin 16, (#[48, 49, 50, 51, 52, 53, 54, 55, 56, 57, 97, 98, 99, 100, 101, 102] : Array UInt8)[k.val] = hexD k.val := by decide
  exact H ⟨k, h⟩
theorem taBytesDone (ao : Option Addr) (k cp : Nat) (w : World) : (Instr.typeAssert (.iface 158 (.agg #[.slice ao k cp])) 68 133 true).run Tryz.prog w = .ok (.tuple #[.agg #[], .bool false]) w := by kernel_rfl
theorem taBytesHandle (ao : Option Addr) (k cp : Nat) (w : World) : (Instr.typeAssert (.iface 158 (.agg #[.slice ao k cp])) 68 135 true).run Tryz.prog w = .ok (.tuple #[.agg #[.int .i64 0], .bool false]) w := by kernel_rfl
theorem taBytesNumber (ao : Option Addr) (k cp : Nat) (w : World) : (Instr.typeAssert (.iface 158 (.agg #[.slice ao k cp])) 68 137 true).run Tryz.prog w = .ok (.tuple #[.agg #[.int .i64 0], .bool false]) w := by kernel_rfl
theorem taBytesKey (ao : Option Addr) (k cp : Nat) (w : World) : (Instr.typeAssert (.iface 158 (.agg #[.slice ao k cp])) 68 140 true).run Tryz.prog w = .ok (.tuple #[.agg #[.int .u64 0], .bool false]) w := by kernel_rfl
theorem taBytesWide (ao : Option Addr) (k cp : Nat) (w : World) : (Instr.typeAssert (.iface 158 (.agg #[.slice ao k cp])) 68 145 true).run Tryz.prog w = .ok (.tuple #[.agg #[.int .i64 0, .int .u64 0], .bool false]) w := by kernel_rfl
theorem taBytesList (ao : Option Addr) (k cp : Nat) (w : World) : (Instr.typeAssert (.iface 158 (.agg #[.slice ao k cp])) 68 149 true).run Tryz.prog w = .ok (.tuple #[.agg #[.slice none 0 0], .bool false]) w := by kernel_rfl
theorem taBytesBytes (ao : Option Addr) (k cp : Nat) (w : World) : (Instr.typeAssert (.iface 158 (.agg #[.slice ao k cp])) 68 158 true).run Tryz.prog w = .ok (.tuple #[.agg #[.slice ao k cp], .bool true]) w := by kernel_rfl
set_option maxRecDepth 100000 in
set_option maxHeartbeats 8000000 in
theorem text_bytes (w : World) (bs : List Int) (v : Value) (h : BytesAt w v bs) (hl : bs.length ≤ 1000000) (hby : Byts bs) :
  Calls Tryz.prog 25 #[.iface 158 (.agg #[v])] w fun e w' => e = .returned (.string (sB ([98, 121, 116, 101, 115, 32] ++ hexT bs))) ∧ Below w.heap.size w w' := by
 obtain ⟨ao, cap, hv, hcap, hcm, hcells⟩ := h
 subst hv
 obtain ⟨n, hn⟩ : ∃ n, n = bs.length := ⟨_, rfl⟩
 have HN := Lib.hid hn
 have HC := Lib.hid hcells
 have HY := Lib.hid hby
 rw [← hn] at hl hcap ⊢
 have t0 := taBytesDone ao n cap
 have t1 := taBytesHandle ao n cap
 have t2 := taBytesNumber ao n cap
 have t3 := taBytesKey ao n cap
 have t4 := taBytesWide ao n cap
 have t5 := taBytesList ao n cap
 have t6 := taBytesBytes ao n cap
 have hbl : IsBld w.heap.size w.heap.size [] ((w.alloc (.cells #[.pointer none, .slice none 0 0] 132)).alloc (.cells #[.slice ao n cap] 158)) := by
  exact IsBld.kept (w := w.alloc (.cells #[.pointer none, .slice none 0 0] 132)) (.inl (by exact ⟨Nat.le_refl _, .slice none 0 0, heap_alloc_new w _, World.ownsRow_nil _ _ _ _, by simp [Value.ownBlock]⟩)) ((Below.refl _ _).alloc (Nat.le_refl _) _)
 have PW := Lib.hid (wstr_any _ _ [] [98, 121, 116, 101, 115, 32] _ hbl (by simp) (by simp; omega))
 have HXB : Hid (Blk ((w.alloc (.cells #[.pointer none, .slice none 0 0] 132)).alloc (.cells #[.slice ao n cap] 158)) (w.heap.size + 1) 158 #[.slice ao n cap]) := Lib.hid (by have := Blk.new (w.alloc (.cells #[.pointer none, .slice none 0 0] 132)) 158 #[.slice ao n cap]; simpa using this)
 have HB1 : Hid (Below w.heap.size w ((w.alloc (.cells #[.pointer none, .slice none 0 0] 132)).alloc (.cells #[.slice ao n cap] 158))) := Lib.hid (((Below.refl _ w).alloc (Nat.le_refl _) _).alloc (by simp) _)
 have hlit : sB [98, 121, 116, 101, 115, 32] = ⟨#[98, 121, 116, 101, 115, 32]⟩ := rfl
 rw [hlit] at PW
 clear hcells hby hn hbl hlit
 go_enter Tryz.func25, Tryz.ntmps25
 go_wp2_with fail
 with_reducible refine PW.out.mono ?_
 rintro e w2 ⟨rfl, hbd, hb2, hot⟩
 have HBD := Lib.hid hbd
 have HB2 := Lib.hid (HB1.out.trans hb2)
 have hxb := hot _ _ _ HXB.out (by omega) (by decide)
 have c0 := hxb.cell 0
 simp at c0
 clear hbd hb2 hot PW hxb
 go_wp2_with fail
 go_loopw [83] (fun i wr => ∃ j : Nat, j ≤ n ∧ i = .int .i64 (j : Int) ∧ IsBld w.heap.size w.heap.size ([98, 121, 116, 101, 115, 32] ++ hexT (bs.take j)) wr ∧ Below w.heap.size w wr) (fun i _ => n - (intOf i).toNat)
 case atStart => exact ⟨0, by omega, rfl, by simpa [hexT] using HBD.out, HB2.out⟩
 case round =>
  obtain ⟨j, hj, rfl, hbd, hbel⟩ := hrel
  have HBD := Lib.hid hbd
  have HBL := Lib.hid hbel
  clear hbd hbel c0
  by_cases hlt : j < n
  ·obtain ⟨x, hx⟩ : ∃ x, bs[j]? = some x := ⟨_, List.getElem?_eq_getElem (by rw [← HN.out]; exact hlt)⟩
   have hxy := HY.out x (List.mem_of_getElem? hx)
   obtain ⟨g, off, rfl, hg, hcg⟩ : ∃ g off, ao = some ⟨g, off, none⟩ ∧ g < w.heap.size ∧ ∀ (i : Nat) (u : Int), bs[i]? = some u → w.cell? ⟨g, off + i, none⟩ = some (.int .u8 u) := by
    rcases HC.out with ⟨h1, -⟩ | h1
    ·rw [h1] at hx; simp at hx
    ·exact h1
   have cx : wr.cell? ⟨g, off + j, none⟩ = some (.int .u8 x) := by
    rw [World.cell?_of_block (HBL.out.block g hg)]
    exact hcg j x hx
   have HTK : Hid (hexT (bs.take (j + 1)) = hexT (bs.take j) ++ [hexD (x.toNat / 16)] ++ [hexD (x.toNat % 16)]) := Lib.hid (by rw [List.take_add_one, hx]; simp [hexT])
   have HLN : Hid ((hexT (bs.take j)).length ≤ 2000000) := Lib.hid (by rw [hexT_len, List.length_take]; omega)
   have htL : (j : Int) < (n : Int) := by omega
   have ht0 : (0 : Int) ≤ (j : Int) := by omega
   have hx0 := hxy.1
   have hx1 := hxy.2
   have e1 : x / 2 ^ 4 = x / 16 := rfl
   have k0 : 0 ≤ x / 16 := by omega
   have k1 : x / 16 < 16 := by omega
   clear hx hxy hg hcg
   go_wp2_with fail
   have HA := Lib.hid (hexAt (x / 16).toNat (by omega))
   refine (wbyte_any w.heap.size w.heap.size _ _ wr HBD.out (by have := HLN.out; simp at this ⊢; omega) HBL.out.size).mono ?_
   rintro e w3 ⟨rfl, hbd3, hb3, -⟩
   rw [HA.out] at hbd3
   have HBD3 := Lib.hid hbd3
   have HBL3 := Lib.hid (HBL.out.trans hb3)
   clear hbd3 hb3 HA HBD HBL
   go_wp2_with fail
   have HA := Lib.hid (hexAt (x % 16).toNat (by omega))
   refine (wbyte_any w.heap.size w.heap.size _ _ w3 HBD3.out (by have := HLN.out; simp at this ⊢; omega) HBL3.out.size).mono ?_
   rintro e w4 ⟨rfl, hbd4, hb4, -⟩
   rw [HA.out] at hbd4
   have HBD4 : Hid (IsBld w.heap.size w.heap.size ([98, 121, 116, 101, 115, 32] ++ hexT (bs.take (j + 1))) w4) := Lib.hid (by
    rw [HTK.out]
    have a1 : (x / 16).toNat = x.toNat / 16 := by omega
    have a2 : (x % 16).toNat = x.toNat % 16 := by omega
    rw [a1, a2] at hbd4
    simpa using hbd4)
   have HBL4 := Lib.hid (HBL3.out.trans hb4)
   clear hbd4 hb4 HA HBD3 HBL3
   go_wp2_with fail
   go_roundw
   case rel => exact ⟨j + 1, by omega, by go_num, HBD4.out, HBL4.out⟩
   case measure => simp [intOf]; omega
  ·obtain rfl : j = n := by omega
   have PS := bstring w.heap.size w.heap.size _ wr HBD.out HBL.out.size
   have HE : bs.take j = bs := by rw [HN.out]; exact List.take_length
   rw [HE] at PS
   have PS := Lib.hid PS
   clear HE
   go_wp2_with fail
   with_reducible refine PS.out.mono ?_
   rintro e w9 ⟨rfl, hb9⟩
   have HB9 := Lib.hid (HBL.out.trans hb9)
   clear hb9
   go_wp2_with fail
   go_ret
   exact ⟨rfl, HB9.out⟩
end Go.Proofs.YtfeficdndjiijaaGreatDoor

