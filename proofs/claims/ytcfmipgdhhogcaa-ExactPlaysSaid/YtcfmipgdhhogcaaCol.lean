/-
  A slice of integers as an argument, and what it is appended to. Conditions: none beyond those stated at each theorem.
-/
import Derived.Test.YtcfmipgdhhogcaaSh
import Derived.Test.YtcfmipgdhhogcaaRow
import Derived.Test.YtcfmipgdhhogcaaGrdC
import Derived.Maps.AppendAt
namespace Go.Proofs.Ytcfmipgdhhogcaa
open Go.RowKit
set_option linter.unusedVariables false
set_option linter.unusedSimpArgs false

/-- a slice of integers, anywhere in a block -/
def ColsAt (w : World) (v : Value) (cs : List Int) : Prop :=
  ∃ (ao : Option Addr) (cap : Nat), v = .slice ao cs.length cap ∧ cs.length ≤ cap ∧ cap ≤ maxLen ∧ (0 < cs.length → ∃ b off, ao = some ⟨b, off, none⟩ ∧ b < w.heap.size ∧ ∀ i u, cs[i]? = some u → w.cell? ⟨b, off + i, none⟩ = some (.int .i64 u))
theorem ColsAt.kept {w w' : World} {v : Value} {cs : List Int} (h : ColsAt w v cs) (hb : Below w.heap.size w w') : ColsAt w' v cs := by
  obtain ⟨ao, cap, e, hc, hm, h⟩ := h
  refine ⟨ao, cap, e, hc, hm, fun h0 => ?_⟩
  obtain ⟨b, off, e2, hg, hc⟩ := h h0
  exact ⟨b, off, e2, Nat.lt_of_lt_of_le hg hb.size, fun i u hu => (hb.cell (p := ⟨b, off + i, none⟩) hg).trans (hc i u hu)⟩
theorem ints_of_len {w : World} {b off len : Nat} (f : Nat → Int) (hc : ∀ i, i < len → w.cell? ⟨b, off + i, none⟩ = some (.int .i64 (f i))) : ∀ i u, ((List.range len).map f)[i]? = some u → w.cell? ⟨b, off + i, none⟩ = some (.int .i64 u) := by
  intro i u hu
  have hi : i < len := by
    have := (List.getElem?_eq_some_iff.1 hu).1
    simpa using this
  simp [hi] at hu
  rw [hc i hi, hu]
def shInts : Sh := .slice (.int .i64)
theorem cols_of_val {w : World} {v : Value} (h : (Sh.slice (.int .i64)).Val w v) : ∃ cs, ColsAt w v cs := by
  obtain ⟨ao, len, cap, h1, hl, hm, hx⟩ := h
  have h1 : v = .slice ao len cap := by simpa using h1
  subst h1
  by_cases h0 : 0 < len
  · obtain ⟨b, off, rfl, hb, hc⟩ := hx h0
    have key : ∀ i, i < len → ∃ x : Int, w.cell? ⟨b, off + i, none⟩ = some (.int .i64 x) := by
      intro i hi
      obtain ⟨cs', hcl, hcell, hr⟩ := hc i hi
      obtain ⟨n, rfl, _⟩ := hr
      have := hcell 0 (by decide)
      exact ⟨n, by simpa [Sh.size] using this⟩
    refine ⟨(List.range len).map fun i => if h : i < len then (key i h).choose else 0, some ⟨b, off, none⟩, cap, by simp, by simpa using hl, hm, fun _ => ⟨b, off, rfl, hb, ints_of_len _ fun i hi => ?_⟩⟩
    simp only [dif_pos hi]
    exact (key i hi).choose_spec
  · obtain rfl : len = 0 := by omega
    exact ⟨[], ao, cap, rfl, by simp, hm, fun h => by simp at h⟩


theorem ints_fit {w : World} {v : Value} {cs : List Int} (h : (Sh.slice (.int .i64)).Val w v) (hc : ColsAt w v cs) : ∀ u ∈ cs, -9223372036854775808 ≤ u ∧ u ≤ 9223372036854775807 := by
  obtain ⟨ao, len, cap, h1, hl, hm, hx⟩ := h
  obtain ⟨ao', cap', h1', -, -, hc⟩ := hc
  have h1 : v = .slice ao len cap := by simpa using h1
  rw [h1] at h1'
  simp only [Value.slice.injEq] at h1'
  obtain ⟨rfl, rfl, rfl⟩ := h1'
  intro u hu
  obtain ⟨i, hi⟩ := List.getElem?_of_mem hu
  have hlt : i < cs.length := (List.getElem?_eq_some_iff.1 hi).1
  obtain ⟨b, off, rfl, hb, hcell⟩ := hx (by omega)
  obtain ⟨b', off', e, hb', hcell'⟩ := hc (by omega)
  simp only [Option.some.injEq, Addr.mk.injEq] at e
  obtain ⟨rfl, rfl, -⟩ := e
  obtain ⟨cs', hcl, hce, n, rfl, hwf⟩ := hcell i hlt
  have h2 := hce 0 (by decide)
  have h3 := hcell' i u hi
  simp [Sh.size] at h2
  rw [h3] at h2
  simp only [Option.some.injEq, Value.int.injEq, true_and] at h2
  subst h2
  have hb := hwf
  simp [Lit.wf, IntKind.min, IntKind.max, IntKind.bits, IntKind.signed] at hb
  omega

/-- a block that holds n integers, whichever -/
def IntRow (w : World) (g : Nat) (t : TypeId) (n : Nat) : Prop := ∃ cur : Array Value, Blk w g t cur ∧ ∀ i, i < n → ∃ z : Int, cur[i]? = some (Value.int .i64 z)
theorem IntRow.set {w : World} {g : Nat} {t : TypeId} {n : Nat} (h : IntRow w g t n) (i : Nat) (z : Int) : IntRow (w.setCell ⟨g, i, none⟩ (.int .i64 z)) g t n := by
  obtain ⟨cur, hb, hc⟩ := h
  refine ⟨_, hb.set_ i _, fun j hj => ?_⟩
  obtain ⟨y, hy⟩ := hc j hj
  have hlt : j < cur.size := (Array.getElem?_eq_some_iff.1 hy).1
  rw [Array.getElem?_setIfInBounds]
  by_cases e : i = j
  · subst e
    exact ⟨z, by simp [hlt]⟩
  · exact ⟨y, by simp [e, hy]⟩
theorem IntRow.kept {w w' : World} {g : Nat} {t : TypeId} {n : Nat} (h : IntRow w g t n) (hb : Below w.heap.size w w') : IntRow w' g t n := by
  obtain ⟨cur, h1, h2⟩ := h
  exact ⟨cur, h1.kept hb, h2⟩
theorem IntRow.grown {w w' : World} {g : Nat} {t : TypeId} {n : Nat} {row : Option Nat} (h : IntRow w g t n) (hb : w.grownBy w' row) (h0 : some g ≠ row) : IntRow w' g t n := by
  obtain ⟨cur, h1, h2⟩ := h
  exact ⟨cur, h1.grown hb h0, h2⟩
theorem IntRow.cell {w : World} {g : Nat} {t : TypeId} {n : Nat} (h : IntRow w g t n) {i : Nat} (hi : i < n) : ∃ z : Int, w.cell? ⟨g, i, none⟩ = some (.int .i64 z) := by
  obtain ⟨cur, h1, h2⟩ := h
  obtain ⟨z, hz⟩ := h2 i hi
  exact ⟨z, (h1.cell i).trans hz⟩
theorem IntRow.frozen {w : World} {g : Nat} {t : TypeId} {n : Nat} (h : IntRow w g t n) (i : Nat) : w.frozen? ⟨g, i, none⟩ = false := by
  obtain ⟨cur, h1, h2⟩ := h
  exact h1.frozen i

section
variable {P : Program}
theorem run_append_none (w : World) (t ty e : TypeId) (i : TypeInfo) (ht : P.underlying t = some (.slice e)) (hi : P.info? e = some i) (g cap : Nat) (ao : Option Addr) (c : Nat) :
    (Builtin.append_ #[t, t] ty #[.slice (some ⟨g, 0, none⟩) 0 cap, .slice ao 0 c]).run P w = .ok (.slice (some ⟨g, 0, none⟩) 0 cap) w := by
  cases ao <;> simp [Builtin.append_, run_underlying ht, sizeOf, typeInfo, hi, Builtin.lenOf, Builtin.firstCells, loadCells, loadCellsFrom, storeCells]
/-- 'append([]T{}, s...)' -/
theorem wpList_append_lit {ops : Array Oper} {rest : List Oper} {o : Oper} {w : World} {a : Act} {Q : Exit → Act → World → Prop} (hgd : o.guard = none) (s x : Operand) (t : TypeId)
    (ho : o.op = .call { callee := .builtin .append, args := #[s, x], argTypes := #[t, t] })
    (base : Nat) (e : TypeId) (i : TypeInfo) (z : Value) (bytes : Nat) (ht : P.underlying t = some (.slice e)) (hi : P.info? e = some i) (hz : i.zero = some z)
    (hsize : i.size = 1) (hby : i.bytes = bytes) (hzs : z.cells.size = 1)
    (g cap : Nat) (hs : a.eval s = .slice (some ⟨g, 0, none⟩) 0 cap) (hown : w.ownsRow base e 1 (.slice (some ⟨g, 0, none⟩) 0 cap) 0 [])
    (ao : Option Addr) (m c : Nat) (news : List Value) (hx : a.eval x = .slice ao m c) (hl : news.length = m) (hnews : 0 < m → ∃ ad, ao = some ad ∧ ∀ j u, news[j]? = some u → w.cell? (ad.add j) = some u) (h1 : ∀ u ∈ news, u.oneCell' = true)
    (h63 : m ≤ maxLen) (hbytes : m * bytes ≤ 140737488355328) (hbase : base ≤ w.heap.size)
    (h : ∀ v' w', w'.ownsRow base e 1 v' m news → w.grownBy w' (some g) → v' ≠ .slice none 0 0 → (v'.ownBlock = some g ∨ v'.ownBlock = some w.heap.size) → wpList P ops Q rest (a.put o.dst v') w') :
    wpList P ops Q (o :: rest) a w := by
  by_cases h0 : 0 < m
  · obtain ⟨ad, rfl, hc⟩ := hnews h0
    refine wpList_append_own_at _ hgd s x t ho base e i z 1 bytes ht hi hz hsize hby hzs (by decide) _ 0 [] hs hown ad m c news hx (by omega) hc h1 (by omega) (by rw [Nat.zero_add]; exact hbytes) hbase ?_
    intro v' w' h2 h3 h4 h5
    refine h v' w' (by simpa using h2) h3 ?_ h5
    intro hv
    have := (h4.1 hv).1
    cases this
  · obtain rfl : m = 0 := by omega
    obtain rfl : news = [] := List.eq_nil_of_length_eq_zero hl
    refine wpList_plain hgd fun K hK => ?_
    unfold Oper.wp execOp
    simp only [ho, resolve, invoke, builtin, Sem.run_bind, Sem.run_pure, Result.andThen_ok, List.map_toArray, List.map_cons, List.map_nil, hs, hx, run_append_none w t o.type e i ht hi g cap ao c]
    exact hK _ _ (h _ w hown ⟨rfl, rfl, rfl, Nat.le_refl _, fun _ _ _ => rfl⟩ (by simp) (.inl rfl))
end
end Go.Proofs.Ytcfmipgdhhogcaa
