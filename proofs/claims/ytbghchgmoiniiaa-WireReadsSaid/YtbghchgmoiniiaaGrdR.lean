/-
  The document's grid in memory and the walks of its cells. Conditions: none beyond those stated at each theorem.
-/
import Derived.Test.YtbghchgmoiniiaaGrd
namespace Go.Proofs.Ytbghchgmoiniiaa
open Go.RowKit
set_option linter.unusedVariables false
set_option linter.unusedSimpArgs false

/-- block G is the document's grid of R rows of W numbers: its rows' slices are v's, the numbers of row r lie in block B r (with room for K r); all of it lies from block N on -/
structure RefIs (w : World) (N G : Nat) (v : Value) (B K : Nat → Nat) (R W : Nat) (zs : List Int) : Prop where
  box : Blk w G 101 #[v]
  own : w.ownsRow N 51 1 v R ((List.range R).map fun r => Value.slice (some ⟨B r, 0, none⟩) W (K r))
  cap : ∀ r, r < R → W ≤ K r
  cells : ∀ r, r < R → ∃ cur : Array Value, Blk w (B r) 2 cur ∧ ∀ (c : Nat) (u : Int), c < W → zs[r * W + c]? = some u → cur[c]? = some (Value.int .i64 u)
  inj : ∀ r r', r < R → r' < R → B r = B r' → r = r'
  lo : N ≤ G ∧ ∀ r, r < R → N ≤ B r
  len : zs.length = R * W
  rows : R ≤ 8
  width : W ≤ 128

theorem RefIs.ltG {w : World} {N G : Nat} {v : Value} {B K : Nat → Nat} {R W : Nat} {zs : List Int} (h : RefIs w N G v B K R W zs) : G < w.heap.size := h.box.lt
theorem RefIs.openG {w : World} {N G : Nat} {v : Value} {B K : Nat → Nat} {R W : Nat} {zs : List Int} (h : RefIs w N G v B K R W zs) : ∃ (ao : Option Addr) (cap : Nat), v = .slice ao R cap ∧ R ≤ cap ∧
    (0 < R → ∃ L cur, ao = some ⟨L, 0, none⟩ ∧ N ≤ L ∧ Blk w L 51 cur ∧ ∀ r, r < R → cur[r]? = some (Value.slice (some ⟨B r, 0, none⟩) W (K r))) := by
  rcases h.own.2 with ⟨rfl, rfl⟩ | ⟨g, cap, cur, rfl, hb, hg, hnc, hcm, hsz, htake⟩
  · exact ⟨none, 0, rfl, Nat.le_refl _, fun h => by omega⟩
  · refine ⟨_, _, rfl, hnc, fun _ => ⟨g, cur, rfl, hb, hg, fun r hr => ?_⟩⟩
    have h2 : (cur.toList.take (R * 1))[r]? = ((List.range R).map fun r => Value.slice (some ⟨B r, 0, none⟩) W (K r))[r]? := by rw [htake]
    rw [List.getElem?_take, if_pos (by omega)] at h2
    simpa [hr] using h2
theorem RefIs.grown {w w' : World} {N G : Nat} {v : Value} {B K : Nat → Nat} {R W : Nat} {zs : List Int} {row : Option Nat} (h : RefIs w N G v B K R W zs) (hb : w.grownBy w' row) (hr : ∀ k, row = some k → k < N) : RefIs w' N G v B K R W zs := by
  have hne : ∀ g, N ≤ g → some g ≠ row := fun g hg e => by have := hr g e.symm; omega
  refine ⟨h.box.grown hb (hne _ h.lo.1), h.own.kept hb ?_, h.cap, fun r hr' => ?_, h.inj, h.lo, h.len, h.rows, h.width⟩
  · cases ho : v.ownBlock with
    | none => exact .inl rfl
    | some k => exact .inr (hne k (h.own.lt k ho).1)
  · obtain ⟨cur, hc, hcur⟩ := h.cells r hr'
    exact ⟨cur, hc.grown hb (hne _ (h.lo.2 r hr')), hcur⟩
theorem RefIs.kept {w w' : World} {N G : Nat} {v : Value} {B K : Nat → Nat} {R W : Nat} {zs : List Int} (h : RefIs w N G v B K R W zs) (hb : Below w.heap.size w w') : RefIs w' N G v B K R W zs :=
  h.grown (row := none) ⟨hb.os, hb.tape, hb.output, hb.size, fun k hk _ => hb.block k hk⟩ (fun k e => by cases e)
theorem RefIs.drewN {w : World} {N G : Nat} {v : Value} {B K : Nat → Nat} {R W : Nat} {zs : List Int} (h : RefIs w N G v B K R W zs) (n : Nat) : RefIs (w.drewN n) N G v B K R W zs := h.kept (below_drewN (Below.refl _ _) n)

theorem place_eq {W a c b d : Nat} (hc : c < W) (hd : d < W) (h : a * W + c = b * W + d) : a = b ∧ c = d := by
  have h1 : (a * W + c) / W = a := by rw [Nat.mul_comm, Nat.mul_add_div (by omega), Nat.div_eq_of_lt hc]; rfl
  have h2 : (b * W + d) / W = b := by rw [Nat.mul_comm, Nat.mul_add_div (by omega), Nat.div_eq_of_lt hd]; rfl
  have h3 : a = b := by rw [← h1, ← h2, h]
  subst h3
  exact ⟨rfl, by omega⟩
theorem RefIs.set {w : World} {N G : Nat} {v : Value} {B K : Nat → Nat} {R W : Nat} {zs : List Int} (h : RefIs w N G v B K R W zs) (r c : Nat) (u : Int) (hr : r < R) (hc : c < W) :
    RefIs (w.setCell ⟨B r, c, none⟩ (.int .i64 u)) N G v B K R W (zs.set (r * W + c) u) := by
  obtain ⟨cur0, hC0, hcur0⟩ := h.cells r hr
  have hgr := grown_set w (B r) c (.int .i64 u)
  refine ⟨h.box.far (h.box.ne_ hC0 (by decide)) _, h.own.kept hgr ?_, h.cap, fun r' hr' => ?_, h.inj, h.lo, by simp [h.len], h.rows, h.width⟩
  · rcases h.own.2 with ⟨rfl, rfl⟩ | ⟨g, cap, cur, rfl, hb, hg, _⟩
    · exact .inl rfl
    · right
      simp only [Value.ownBlock]
      intro e
      have e := Option.some.inj e
      have : g ≠ B r := Blk.ne_ (w := w) (g := g) (g' := B r) hg hC0 (by decide)
      exact this e
  · by_cases e : r' = r
    · subst e
      refine ⟨_, hC0.set_ c _, fun d v hd hv => ?_⟩
      have hlen : r' * W + d < zs.length := by
        have := (List.getElem?_eq_some_iff.1 hv).1
        simpa using this
      obtain ⟨z, hz⟩ : ∃ z, zs[r' * W + d]? = some z := ⟨_, List.getElem?_eq_getElem hlen⟩
      have hcd := hcur0 d z hd hz
      have hdc : d < cur0.size := (Array.getElem?_eq_some_iff.1 hcd).1
      rw [List.getElem?_set] at hv
      rw [Array.getElem?_setIfInBounds]
      by_cases e : c = d
      · subst e
        simp [hlen] at hv
        simp [hdc, hv]
      · have e2 : ¬ (r' * W + c = r' * W + d) := by omega
        simp [e, e2] at hv ⊢
        exact hcur0 d v hd hv
    · obtain ⟨cur, hC, hcur⟩ := h.cells r' hr'
      refine ⟨cur, hC.far (fun k => e (h.inj r' r hr' hr k)) _, fun d v hd hv => ?_⟩
      have e2 : ¬ (r * W + c = r' * W + d) := fun k => e (place_eq hc hd k).1.symm
      rw [List.getElem?_set, if_neg e2] at hv
      exact hcur d v hd hv
end Go.Proofs.Ytbghchgmoiniiaa
