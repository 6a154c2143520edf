/-
  The walks of the document's array: New, Point, Copy, Update. Conditions: none beyond those stated at each theorem.
-/
import Derived.Test.YtcfmipgdhhogcaaExw
import Derived.StillTailTactics
namespace Go.Proofs.Ytcfmipgdhhogcaa
open Go.RowKit
set_option linter.unusedVariables false
set_option linter.unusedSimpArgs false

theorem ladd_yes (a b : Int) (ha : In64 a) (hb : In64 b) (h : In64 (a + b)) (w : World) : Calls Try.prog 42 #[.int .i64 a, .int .i64 b] w (TwoPost w (a + b) true) := by
  have P1 := Lib.hid (ofint_any a ha.1 ha.2)
  have P2 := Lib.hid (ofint_any b hb.1 hb.2)
  have P3 := Lib.hid (lplus_any a b)
  have P4 := Lib.hid (lint_yes (a + b) h.1 h.2)
  clear ha hb h
  unfold TwoPost
  generalize a + b = x at *
  go_enter Try.func42, Try.ntmps42
  go_wp2_with fail
  with_reducible refine (P1.out _).mono ?_
  rintro e w1 ⟨rfl, h1⟩
  have H1 := Lib.hid h1
  clear h1
  go_wp2_with fail
  with_reducible refine (P2.out _).mono ?_
  rintro e w2 ⟨rfl, h2⟩
  have H2 := Lib.hid (btr H1.out h2)
  clear h2
  go_wp2_with fail
  with_reducible refine (P3.out _).mono ?_
  rintro e w3 ⟨rfl, h3⟩
  have H3 := Lib.hid (btr H2.out h3)
  clear h3
  go_wp2_with fail
  with_reducible refine (P4.out _).mono ?_
  rintro e w4 ⟨rfl, h4⟩
  have H4 := Lib.hid (btr H3.out h4)
  clear h4
  go_wp2
  go_ret2
  exact ⟨rfl, H4.out⟩
theorem ladd_no (a b : Int) (ha : In64 a) (hb : In64 b) (h : ¬ In64 (a + b)) (w : World) : Calls Try.prog 42 #[.int .i64 a, .int .i64 b] w (TwoPost w 0 false) := by
  have P1 := Lib.hid (ofint_any a ha.1 ha.2)
  have P2 := Lib.hid (ofint_any b hb.1 hb.2)
  have P3 := Lib.hid (lplus_any a b)
  have P4 := Lib.hid (lint_no (a + b) (by have := ha.1; have := hb.1; omega) (by have := ha.2; have := hb.2; omega) h)
  clear ha hb h
  unfold TwoPost
  generalize a + b = x at *
  go_enter Try.func42, Try.ntmps42
  go_wp2_with fail
  with_reducible refine (P1.out _).mono ?_
  rintro e w1 ⟨rfl, h1⟩
  have H1 := Lib.hid h1
  clear h1
  go_wp2_with fail
  with_reducible refine (P2.out _).mono ?_
  rintro e w2 ⟨rfl, h2⟩
  have H2 := Lib.hid (btr H1.out h2)
  clear h2
  go_wp2_with fail
  with_reducible refine (P3.out _).mono ?_
  rintro e w3 ⟨rfl, h3⟩
  have H3 := Lib.hid (btr H2.out h3)
  clear h3
  go_wp2_with fail
  with_reducible refine (P4.out _).mono ?_
  rintro e w4 ⟨rfl, h4⟩
  have H4 := Lib.hid (btr H3.out h4)
  clear h4
  go_wp2
  go_ret2
  exact ⟨rfl, H4.out⟩

section
variable {P : Program}
theorem wp_append_own_at {o : Oper} {a : Act} {w : World} {K : Act → World → Prop} {Q : Exit → Act → World → Prop} (s x : Operand) (t : TypeId)
    (ho : o.op = .call { callee := .builtin .append, args := #[s, x], argTypes := #[t, t] })
    (base : Nat) (e : TypeId) (i : TypeInfo) (z : Value) (size bytes : Nat) (ht : P.underlying t = some (.slice e)) (hi : P.info? e = some i) (hz : i.zero = some z)
    (hsize : i.size = size) (hby : i.bytes = bytes) (hzs : z.cells.size = size) (hsz : 0 < size)
    (v : Value) (n : Nat) (xs : List Value) (hs : a.eval s = v) (hown : w.ownsRow base e size v n xs)
    (ad : Addr) (m c : Nat) (news : List Value) (hx : a.eval x = .slice (some ad) m c) (hl : news.length = m * size) (hnews : ∀ j u, news[j]? = some u → w.cell? (ad.add j) = some u) (h1 : ∀ u ∈ news, u.oneCell' = true)
    (h63 : n + m ≤ maxLen) (hbytes : (n + m) * bytes ≤ 140737488355328) (hbase : base ≤ w.heap.size)
    (h : ∀ v' w', w'.ownsRow base e size v' (n + m) (xs ++ news) → w.grownBy w' v.ownBlock → (v' = .slice none 0 0 ↔ v = .slice none 0 0 ∧ m = 0) → (v'.ownBlock = v.ownBlock ∨ v'.ownBlock = some w.heap.size) → K (a.put o.dst v') w') :
    o.wp P a w K Q := by
  obtain ⟨v', w', hr, h2, h3, h4, h5⟩ := run_append_own_at (P := P) w base t o.type e i z size bytes ht hi hz hsize hby hzs hsz v n xs hown ad m c news hl hnews h1 h63 hbytes hbase
  unfold Oper.wp execOp
  simp only [ho, resolve, invoke, builtin, Sem.run_bind, Sem.run_pure, Result.andThen_ok, List.map_toArray, List.map_cons, List.map_nil, hs, hx, hr]
  exact h v' w' h2 h3 h4 h5
/-- 'append([]T{}, s...)' in a region that draws its order -/
theorem wp_append_lit {o : Oper} {w : World} {a : Act} {K : Act → World → Prop} {Q : Exit → Act → World → Prop} (s x : Operand) (t : TypeId)
    (ho : o.op = .call { callee := .builtin .append, args := #[s, x], argTypes := #[t, t] })
    (base : Nat) (e : TypeId) (i : TypeInfo) (z : Value) (bytes : Nat) (ht : P.underlying t = some (.slice e)) (hi : P.info? e = some i) (hz : i.zero = some z)
    (hsize : i.size = 1) (hby : i.bytes = bytes) (hzs : z.cells.size = 1)
    (g cap : Nat) (hs : a.eval s = .slice (some ⟨g, 0, none⟩) 0 cap) (hown : w.ownsRow base e 1 (.slice (some ⟨g, 0, none⟩) 0 cap) 0 [])
    (ao : Option Addr) (m c : Nat) (news : List Value) (hx : a.eval x = .slice ao m c) (hl : news.length = m) (hnews : 0 < m → ∃ ad, ao = some ad ∧ ∀ j u, news[j]? = some u → w.cell? (ad.add j) = some u) (h1 : ∀ u ∈ news, u.oneCell' = true)
    (h63 : m ≤ maxLen) (hbytes : m * bytes ≤ 140737488355328) (hbase : base ≤ w.heap.size)
    (h : ∀ v' w', w'.ownsRow base e 1 v' m news → w.grownBy w' (some g) → v' ≠ .slice none 0 0 → (v'.ownBlock = some g ∨ v'.ownBlock = some w.heap.size) → K (a.put o.dst v') w') :
    o.wp P a w K Q := by
  by_cases h0 : 0 < m
  · obtain ⟨ad, rfl, hc⟩ := hnews h0
    refine wp_append_own_at s x t ho base e i z 1 bytes ht hi hz hsize hby hzs (by decide) _ 0 [] hs hown ad m c news hx (by omega) hc h1 (by omega) (by rw [Nat.zero_add]; exact hbytes) hbase ?_
    intro v' w' h2 h3 h4 h5
    refine h v' w' (by simpa using h2) h3 ?_ h5
    intro hv
    have := (h4.1 hv).1
    cases this
  · obtain rfl : m = 0 := by omega
    obtain rfl : news = [] := List.eq_nil_of_length_eq_zero hl
    unfold Oper.wp execOp
    simp only [ho, resolve, invoke, builtin, Sem.run_bind, Sem.run_pure, Result.andThen_ok, List.map_toArray, List.map_cons, List.map_nil, hs, hx, run_append_none w t o.type e i ht hi g cap ao c]
    exact h _ w hown ⟨rfl, rfl, rfl, Nat.le_refl _, fun _ _ _ => rfl⟩ (by simp) (.inl rfl)
end

theorem below_grown {w w' : World} {row : Option Nat} (h : Below w.heap.size w w') : w.grownBy w' row := ⟨h.os, h.tape, h.output, h.size, fun k hk _ => h.block k hk⟩
theorem grown_tr {w w1 w2 : World} {row : Option Nat} (h : w.grownBy w1 row) (k : w1.grownBy w2 row) : w.grownBy w2 row :=
  ⟨k.os.trans h.os, k.tape.trans h.tape, k.output.trans h.output, Nat.le_trans h.size k.size, fun j hj hne => (k.block j (Nat.lt_of_lt_of_le hj h.size) hne).trans (h.block j hj hne)⟩
/-- block R is the document's array, its numbers lie in block L -/
def RArr (w : World) (R L : Nat) (b r d m s l : Int) (zs : List Int) : Prop :=
  ∃ (cap : Nat) (cur : Array Value), zs.length ≤ cap ∧ Blk w R 62 #[.int .i64 b, .int .i64 r, .int .i64 d, .int .i64 m, .int .u64 s, .int .i64 l, .slice (some ⟨L, 0, none⟩) zs.length cap] ∧ Blk w L 2 cur ∧ ∀ (i : Nat) (u : Int), zs[i]? = some u → cur[i]? = some (Value.int .i64 u)
theorem RArr.grown {w w' : World} {R L : Nat} {b r d m s l : Int} {zs : List Int} {row : Option Nat} (h : RArr w R L b r d m s l zs) (hb : w.grownBy w' row) (h1 : some R ≠ row) (h2 : some L ≠ row) : RArr w' R L b r d m s l zs := by
  obtain ⟨cap, cur, h3, h4, h5, h6⟩ := h
  exact ⟨cap, cur, h3, h4.grown hb h1, h5.grown hb h2, h6⟩
theorem RArr.kept {w w' : World} {R L : Nat} {b r d m s l : Int} {zs : List Int} (h : RArr w R L b r d m s l zs) (hb : Below w.heap.size w w') : RArr w' R L b r d m s l zs := by
  obtain ⟨cap, cur, h3, h4, h5, h6⟩ := h
  exact ⟨cap, cur, h3, h4.kept hb, h5.kept hb, h6⟩
theorem RArr.ltR {w : World} {R L : Nat} {b r d m s l : Int} {zs : List Int} (h : RArr w R L b r d m s l zs) : R < w.heap.size := by
  obtain ⟨cap, cur, h3, h4, h5, h6⟩ := h
  exact h4.lt
theorem RArr.ltL {w : World} {R L : Nat} {b r d m s l : Int} {zs : List Int} (h : RArr w R L b r d m s l zs) : L < w.heap.size := by
  obtain ⟨cap, cur, h3, h4, h5, h6⟩ := h
  exact h5.lt
theorem RArr.ne {w : World} {R L : Nat} {b r d m s l : Int} {zs : List Int} (h : RArr w R L b r d m s l zs) : R ≠ L := by
  obtain ⟨cap, cur, h3, h4, h5, h6⟩ := h
  exact h4.ne_ h5 (by decide)
/-- of what was there, at most one block has changed -/
def RxPost (w : World) (b r d m s l : Int) (zs : List Int) (e : Ending) (w' : World) : Prop :=
  ∃ R L, e = .returned (.pointer (some ⟨R, 0, none⟩)) ∧ w.heap.size ≤ R ∧ w.heap.size ≤ L ∧ RArr w' R L b r d m s l zs ∧ Below w.heap.size w w'

set_option maxRecDepth 100000 in
set_option maxHeartbeats 4000000 in
theorem rxnew (b r d m s l : Int) (K : Nat) (hK : K ≤ 128) (w : World) :
    Calls Try.prog 23 #[.agg #[.int .i64 b, .int .i64 r, .int .i64 d, .int .i64 m, .int .u64 s], .int .i64 l, .int .u64 (K : Int)] w (RxPost w b r d m s l (List.replicate K 0)) := by
  obtain ⟨g1, hb1, hsz1⟩ := news1 w (.cells #[.int .i64 b, .int .i64 r, .int .i64 d, .int .i64 m, .int .u64 s] 24)
  have hx1 : Blk _ w.heap.size 24 #[.int .i64 b, .int .i64 r, .int .i64 d, .int .i64 m, .int .u64 s] := g1
  have HB1 := Lib.hid hb1
  have HX1 := Lib.hid hx1
  have HZ1 : Hid (w.heap.size ≤ (w.alloc (.cells #[.int .i64 b, .int .i64 r, .int .i64 d, .int .i64 m, .int .u64 s] 24)).heap.size) := Lib.hid (by simp)
  clear g1 hb1 hsz1 hx1
  have emk : (if (128 : Int) < (K : Int) then (128 : Int) else (K : Int)) = (K : Int) := by split <;> omega
  have hmk := fun W => run_make_row' (P := Try.prog) 31 2 (.int .i64 0) 8 Try.underlying31 Try.info64 rfl .u64 .u64 K (by omega) (by omega) W
  go_enter Try.func23, Try.ntmps23
  go_wp2_with fail
  refine wp_region_held_drew (S := fun w' => Blk w' w.heap.size 24 #[.int .i64 b, .int .i64 r, .int .i64 d, .int .i64 m, .int .u64 s] ∧ Below w.heap.size w w') (by kernel_rfl) (by exact ⟨HX1.out.drewN 1, below_drewN HB1.out 1⟩) (fun hHeld => ?_)
  refine wpAnyH_take (i := 0) (v := ?_) rfl (by kernel_rfl) (by kernel_rfl) (by kernel_rfl) (fun _ _ _ h => h) (Or.inl ⟨by rfl, ?_⟩) (by assumption) ?_
  rotate_left
  · intro w hSw
    refine (exec_load_row 24 _ rfl _ rfl 24 _ (0, 0) _ hSw.1 Try.underlying24 rfl (by kernel_rfl)).trans ?_
    go_simp
    try with_reducible rfl
  simp only [Act.put, List.setIfInBounds_toArray, List.set_cons_zero, List.set_cons_succ, List.getElem_toArray, List.getElem_cons_zero, List.getElem_cons_succ]
  refine wpAnyH_take (i := 1) (v := ?_) rfl (by kernel_rfl) (by kernel_rfl) (by kernel_rfl) (fun _ _ _ h => h) (Or.inl ⟨by rfl, ?_⟩) (by assumption) ?_
  rotate_left
  · intro w hSw
    try dsimp only at hSw
    go_simp
    try with_reducible rfl
  simp only [Act.put, List.setIfInBounds_toArray, List.set_cons_zero, List.set_cons_succ, List.getElem_toArray, List.getElem_cons_zero, List.getElem_cons_succ]
  refine wpAnyH_take (i := 2) (v := ?_) rfl (by kernel_rfl) (by kernel_rfl) (by kernel_rfl) (fun _ _ _ h => h) (Or.inl ⟨by rfl, ?_⟩) (by assumption) ?_
  rotate_left
  · intro w hSw
    try dsimp only at hSw
    go_simp
    try with_reducible rfl
  simp only [Act.put, List.setIfInBounds_toArray, List.set_cons_zero, List.set_cons_succ, List.getElem_toArray, List.getElem_cons_zero, List.getElem_cons_succ]
  refine wpAnyH_take (i := 3) (v := ?_) rfl (by kernel_rfl) (by kernel_rfl) (by kernel_rfl) (fun _ _ _ h => h) (Or.inl ⟨by rfl, ?_⟩) (by assumption) ?_
  rotate_left
  · intro w hSw
    try dsimp only at hSw
    go_simp
    try with_reducible rfl
  simp only [Act.put, List.setIfInBounds_toArray, List.set_cons_zero, List.set_cons_succ, List.getElem_toArray, List.getElem_cons_zero, List.getElem_cons_succ]
  refine wpAnyH_ready (rs := [4]) (by kernel_rfl) (by simp) ?_
  refine AllReadyH.cons rfl (fun Kc hKc => ?_) AllReadyH.nil
  go_simp
  refine hKc.out _ _ ?_ (fun hHeld => ?_)
  · first | exact hHeld | exact ⟨hHeld.1.alloc _, hHeld.2.alloc hHeld.2.size _⟩
  clear hKc Kc
  refine wpAnyH_take (i := 5) (v := ?_) rfl (by kernel_rfl) (by kernel_rfl) (by kernel_rfl) (fun _ _ _ h => h) (Or.inl ⟨by rfl, ?_⟩) (by assumption) ?_
  rotate_left
  · intro w hSw
    try dsimp only at hSw
    go_simp
    try with_reducible rfl
  simp only [Act.put, List.setIfInBounds_toArray, List.set_cons_zero, List.set_cons_succ, List.getElem_toArray, List.getElem_cons_zero, List.getElem_cons_succ]
  refine wpAnyH_ready (rs := [6]) (by kernel_rfl) (by simp) ?_
  refine AllReadyH.cons rfl (fun Kc hKc => ?_) AllReadyH.nil
  go_simp
  refine hKc.out _ _ ?_ (fun hHeld => ?_)
  · first | exact hHeld | exact ⟨hHeld.1.alloc _, hHeld.2.alloc hHeld.2.size _⟩
  clear hKc Kc
  refine wpAnyH_take (i := 7) (v := ?_) rfl (by kernel_rfl) (by kernel_rfl) (by kernel_rfl) (fun _ _ _ h => h) (Or.inl ⟨by rfl, ?_⟩) (by assumption) ?_
  rotate_left
  · intro w hSw
    try dsimp only at hSw
    go_simp
    try with_reducible rfl
  simp only [Act.put, List.setIfInBounds_toArray, List.set_cons_zero, List.set_cons_succ, List.getElem_toArray, List.getElem_cons_zero, List.getElem_cons_succ]
  refine wpAnyH_done (by kernel_rfl) ?_ _
  have HBL : Hid (Blk (((w.alloc (.cells #[.int .i64 b, .int .i64 r, .int .i64 d, .int .i64 m, .int .u64 s] 24)).alloc (.cells (madeCells #[.int .i64 0] K) 2)).alloc (.cells #[.int .i64 b, .int .i64 r, .int .i64 d, .int .i64 m, .int .u64 s, .int .i64 l, .slice (some ⟨w.heap.size + 1, 0, none⟩) K K] 62)).drew (w.heap.size + 1) 2 (madeCells #[.int .i64 0] K)) := Lib.hid (by
    have h1 := (Blk.new (w.alloc (.cells #[.int .i64 b, .int .i64 r, .int .i64 d, .int .i64 m, .int .u64 s] 24)) 2 (madeCells #[.int .i64 0] K)).alloc (.cells #[.int .i64 b, .int .i64 r, .int .i64 d, .int .i64 m, .int .u64 s, .int .i64 l, .slice (some ⟨w.heap.size + 1, 0, none⟩) K K] 62)
    rw [show (w.alloc (.cells #[.int .i64 b, .int .i64 r, .int .i64 d, .int .i64 m, .int .u64 s] 24)).heap.size = w.heap.size + 1 by simp] at h1
    exact h1.drew)
  have HBR : Hid (Blk (((w.alloc (.cells #[.int .i64 b, .int .i64 r, .int .i64 d, .int .i64 m, .int .u64 s] 24)).alloc (.cells (madeCells #[.int .i64 0] K) 2)).alloc (.cells #[.int .i64 b, .int .i64 r, .int .i64 d, .int .i64 m, .int .u64 s, .int .i64 l, .slice (some ⟨w.heap.size + 1, 0, none⟩) K K] 62)).drew (w.heap.size + 1 + 1) 62 #[.int .i64 b, .int .i64 r, .int .i64 d, .int .i64 m, .int .u64 s, .int .i64 l, .slice (some ⟨w.heap.size + 1, 0, none⟩) K K]) := Lib.hid (by
    have h1 := (Blk.new ((w.alloc (.cells #[.int .i64 b, .int .i64 r, .int .i64 d, .int .i64 m, .int .u64 s] 24)).alloc (.cells (madeCells #[.int .i64 0] K) 2)) 62 #[.int .i64 b, .int .i64 r, .int .i64 d, .int .i64 m, .int .u64 s, .int .i64 l, .slice (some ⟨w.heap.size + 1, 0, none⟩) K K])
    rw [show ((w.alloc (.cells #[.int .i64 b, .int .i64 r, .int .i64 d, .int .i64 m, .int .u64 s] 24)).alloc (.cells (madeCells #[.int .i64 0] K) 2)).heap.size = w.heap.size + 1 + 1 by simp] at h1
    exact h1.drew)
  have HMC : Hid (∀ (i : Nat) (u : Int), (List.replicate K (0 : Int))[i]? = some u → (madeCells #[.int .i64 0] K)[i]? = some (Value.int .i64 u)) := Lib.hid (fun i u hi => by
    have hin : i < K := by
      have := (List.getElem?_eq_some_iff.1 hi).1
      simp at this
      omega
    have hu : u = 0 := by
      have := List.mem_of_getElem? hi
      simp at this
      exact this.2
    subst hu
    have h1 := (World.rowIs_made w (.int .i64 0) K 2).cell hin
    rw [(Blk.new w 2 (madeCells #[.int .i64 0] K)).cell i] at h1
    exact h1)
  have HBB := Lib.hid hHeld.2
  clear hHeld
  go_wp2
  go_ret
  exact ⟨w.heap.size + 1 + 1, w.heap.size + 1, rfl, by omega, by omega, ⟨K, _, by simp, by rw [List.length_replicate]; exact HBR.out, HBL.out, HMC.out⟩, HBB.out⟩
theorem rxpoint_no (w : World) (R L : Nat) (b r d m s l : Int) (zs : List Int) (k : Int) (h : RArr w R L b r d m s l zs) (hl : zs.length ≤ 128) (hk : (zs.length : Int) ≤ k) :
    Calls Try.prog 24 #[.pointer (some ⟨R, 0, none⟩), .int .u64 k] w fun e w' => e = .returned (.tuple #[.int .i64 0, .int .i64 2]) ∧ w = w' := by
  obtain ⟨cap, cur, hcap, hR, hL, hcur⟩ := h
  have c6 := hR.cell 6
  simp at c6
  generalize zs.length = n at *
  have e1 : decide ((n : Int) ≤ k) = true := decide_eq_true hk
  have e2 : IntKind.u64.wrap (n : Int) = (n : Int) := by rw [wrapU_mod]; omega
  clear hR hL hcur
  go_enter Try.func24, Try.ntmps24
  go_wp2
  go_ret2
  exact ⟨rfl, rfl⟩
theorem rxpoint_yes (w : World) (R L : Nat) (b r d m s l : Int) (zs : List Int) (k : Nat) (h : RArr w R L b r d m s l zs) (hl : zs.length ≤ 128) (hk : k < zs.length) :
    Calls Try.prog 24 #[.pointer (some ⟨R, 0, none⟩), .int .u64 (k : Int)] w fun e w' => e = .returned (.tuple #[.int .i64 (cellD zs k), .int .i64 0]) ∧ w = w' := by
  obtain ⟨cap, cur, hcap, hR, hL, hcur⟩ := h
  have c6 := hR.cell 6
  simp at c6
  have ck := (hL.cell k).trans (hcur k (cellD zs k) (by simp [cellD, hk]))
  generalize cellD zs k = z at *
  generalize zs.length = n at *
  have e1 : decide ((n : Int) ≤ (k : Int)) = false := decide_eq_false (by omega)
  have e1' : decide (n ≤ k) = false := decide_eq_false (by omega)
  have e2 : IntKind.u64.wrap (n : Int) = (n : Int) := by rw [wrapU_mod]; omega
  have e3 : (0 : Int) ≤ (k : Int) := by omega
  have e4 : (k : Int) < (n : Int) := by omega
  clear hR hL hcur
  go_enter Try.func24, Try.ntmps24
  go_wp2
  go_ret2
  exact ⟨rfl, rfl⟩

set_option maxRecDepth 100000 in
set_option maxHeartbeats 8000000 in
theorem rxcopy (w : World) (R L : Nat) (b r d m s l : Int) (zs : List Int) (h : RArr w R L b r d m s l zs) (hl : zs.length ≤ 128) :
    Calls Try.prog 26 #[.pointer (some ⟨R, 0, none⟩)] w (RxPost w b r d m s l zs) := by
  obtain ⟨cap, cur, hcap, hR, hL, hcur⟩ := h
  have HRL := Lib.hid hR.lt
  have HLL := Lib.hid hL.lt
  have c0 := hR.cell 0
  have c1 := hR.cell 1
  have c2 := hR.cell 2
  have c3 := hR.cell 3
  have c4 := hR.cell 4
  have c5 := hR.cell 5
  have c6 := hR.cell 6
  simp at c0 c1 c2 c3 c4 c5 c6
  have HC : Hid (∀ i u, zs[i]? = some u → w.cell? ⟨L, i, none⟩ = some (.int .i64 u)) := Lib.hid (fun i u hu => (hL.cell i).trans (hcur i u hu))
  obtain ⟨i0, hi, hz0, hz1, hz2⟩ := info_parts Try.info64
  obtain ⟨n, hn⟩ : ∃ n, n = zs.length := ⟨_, rfl⟩
  have HN := Lib.hid hn
  rw [← hn] at hl hcap c6
  have HCAP := Lib.hid hcap
  have hown0 := World.ownsRow_lit (base := w.heap.size) (e := 2) (size := 1) (w.drewN 1) #[] 0 (by exact Nat.le_refl _) (by unfold maxLen; omega) (by simp)
  have HO := Lib.hid hown0
  have HNEWS : Hid (∀ w', Below w.heap.size w w' → (0 < n → ∃ ad, (some ⟨L, 0, none⟩ : Option Addr) = some ad ∧ ∀ j u, (zs.map (Value.int .i64))[j]? = some u → w'.cell? (ad.add j) = some u)) := Lib.hid (fun w' hb _ => ⟨_, rfl, fun j u hu => by
    rw [addr_add, Nat.zero_add]
    rw [List.getElem?_map] at hu
    cases hz : zs[j]? with
    | none => rw [hz] at hu; simp at hu
    | some z =>
      rw [hz] at hu
      simp at hu
      subst hu
      exact (hb.cell (p := ⟨L, j, none⟩) HLL.out).trans (HC.out j z hz)⟩)
  clear hR hL hcur hn hown0 hcap
  go_enter Try.func26, Try.ntmps26
  go_wp2_with fail
  refine wp_region_held_drew (S := fun w' => Below w.heap.size w w') (by kernel_rfl) (by exact below_drewN (Below.refl _ _) 1) (fun hHeld => ?_)
  refine wpAnyH_take (i := 0) (v := ?_) rfl (by kernel_rfl) (by kernel_rfl) (by kernel_rfl) (fun _ _ _ h => h) (Or.inl ⟨by rfl, ?_⟩) (by assumption) ?_
  rotate_left
  · intro w hSw
    try dsimp only at hSw
    go_simp
    try with_reducible rfl
  simp only [Act.put, List.setIfInBounds_toArray, List.set_cons_zero, List.set_cons_succ, List.getElem_toArray, List.getElem_cons_zero, List.getElem_cons_succ]
  refine wpAnyH_take (i := 1) (v := ?_) rfl (by kernel_rfl) (by kernel_rfl) (by kernel_rfl) (fun _ _ _ h => h) (Or.inl ⟨by rfl, ?_⟩) (by assumption) ?_
  rotate_left
  · intro w hSw
    try dsimp only at hSw
    go_simp
    try with_reducible rfl
  simp only [Act.put, List.setIfInBounds_toArray, List.set_cons_zero, List.set_cons_succ, List.getElem_toArray, List.getElem_cons_zero, List.getElem_cons_succ]
  refine wpAnyH_take (i := 2) (v := ?_) rfl (by kernel_rfl) (by kernel_rfl) (by kernel_rfl) (fun _ _ _ h => h) (Or.inl ⟨by rfl, ?_⟩) (by assumption) ?_
  rotate_left
  · intro w hSw
    try dsimp only at hSw
    go_simp
    try with_reducible rfl
  simp only [Act.put, List.setIfInBounds_toArray, List.set_cons_zero, List.set_cons_succ, List.getElem_toArray, List.getElem_cons_zero, List.getElem_cons_succ]
  refine wpAnyH_take (i := 3) (v := ?_) rfl (by kernel_rfl) (by kernel_rfl) (by kernel_rfl) (fun _ _ _ h => h) (Or.inl ⟨by rfl, ?_⟩) (by assumption) ?_
  rotate_left
  · intro w hSw
    have q0 := (hSw.cell (p := ⟨R, 0, none⟩) HRL.out).trans c0
    have q1 := (hSw.cell (p := ⟨R, 1, none⟩) HRL.out).trans c1
    have q2 := (hSw.cell (p := ⟨R, 2, none⟩) HRL.out).trans c2
    have q3 := (hSw.cell (p := ⟨R, 3, none⟩) HRL.out).trans c3
    have q4 := (hSw.cell (p := ⟨R, 4, none⟩) HRL.out).trans c4
    have q5 := (hSw.cell (p := ⟨R, 5, none⟩) HRL.out).trans c5
    have q6 := (hSw.cell (p := ⟨R, 6, none⟩) HRL.out).trans c6
    go_simp
    try with_reducible rfl
  simp only [Act.put, List.setIfInBounds_toArray, List.set_cons_zero, List.set_cons_succ, List.getElem_toArray, List.getElem_cons_zero, List.getElem_cons_succ]
  refine wpAnyH_take (i := 4) (v := ?_) rfl (by kernel_rfl) (by kernel_rfl) (by kernel_rfl) (fun _ _ _ h => h) (Or.inl ⟨by rfl, ?_⟩) (by assumption) ?_
  rotate_left
  · intro w hSw
    try dsimp only at hSw
    go_simp
    try with_reducible rfl
  simp only [Act.put, List.setIfInBounds_toArray, List.set_cons_zero, List.set_cons_succ, List.getElem_toArray, List.getElem_cons_zero, List.getElem_cons_succ]
  refine wpAnyH_take (i := 5) (v := ?_) rfl (by kernel_rfl) (by kernel_rfl) (by kernel_rfl) (fun _ _ _ h => h) (Or.inl ⟨by rfl, ?_⟩) (by assumption) ?_
  rotate_left
  · intro w hSw
    try dsimp only at hSw
    go_simp
    try with_reducible rfl
  simp only [Act.put, List.setIfInBounds_toArray, List.set_cons_zero, List.set_cons_succ, List.getElem_toArray, List.getElem_cons_zero, List.getElem_cons_succ]
  refine wpAnyH_take (i := 6) (v := ?_) rfl (by kernel_rfl) (by kernel_rfl) (by kernel_rfl) (fun _ _ _ h => h) (Or.inl ⟨by rfl, ?_⟩) (by assumption) ?_
  rotate_left
  · intro w hSw
    try dsimp only at hSw
    go_simp
    try with_reducible rfl
  simp only [Act.put, List.setIfInBounds_toArray, List.set_cons_zero, List.set_cons_succ, List.getElem_toArray, List.getElem_cons_zero, List.getElem_cons_succ]
  refine wpAnyH_take (i := 7) (v := ?_) rfl (by kernel_rfl) (by kernel_rfl) (by kernel_rfl) (fun _ _ _ h => h) (Or.inl ⟨by rfl, ?_⟩) (by assumption) ?_
  rotate_left
  · intro w hSw
    have q0 := (hSw.cell (p := ⟨R, 0, none⟩) HRL.out).trans c0
    have q1 := (hSw.cell (p := ⟨R, 1, none⟩) HRL.out).trans c1
    have q2 := (hSw.cell (p := ⟨R, 2, none⟩) HRL.out).trans c2
    have q3 := (hSw.cell (p := ⟨R, 3, none⟩) HRL.out).trans c3
    have q4 := (hSw.cell (p := ⟨R, 4, none⟩) HRL.out).trans c4
    have q5 := (hSw.cell (p := ⟨R, 5, none⟩) HRL.out).trans c5
    have q6 := (hSw.cell (p := ⟨R, 6, none⟩) HRL.out).trans c6
    go_simp
    try with_reducible rfl
  simp only [Act.put, List.setIfInBounds_toArray, List.set_cons_zero, List.set_cons_succ, List.getElem_toArray, List.getElem_cons_zero, List.getElem_cons_succ]
  refine wpAnyH_take (i := 9) (v := ?_) rfl (by kernel_rfl) (by kernel_rfl) (by kernel_rfl) (fun _ _ _ h => h) (Or.inl ⟨by rfl, ?_⟩) (by assumption) ?_
  rotate_left
  · intro w hSw
    try dsimp only at hSw
    go_simp
    try with_reducible rfl
  simp only [Act.put, List.setIfInBounds_toArray, List.set_cons_zero, List.set_cons_succ, List.getElem_toArray, List.getElem_cons_zero, List.getElem_cons_succ]
  refine wpAnyH_take (i := 10) (v := ?_) rfl (by kernel_rfl) (by kernel_rfl) (by kernel_rfl) (fun _ _ _ h => h) (Or.inl ⟨by rfl, ?_⟩) (by assumption) ?_
  rotate_left
  · intro w hSw
    try dsimp only at hSw
    go_simp
    try with_reducible rfl
  simp only [Act.put, List.setIfInBounds_toArray, List.set_cons_zero, List.set_cons_succ, List.getElem_toArray, List.getElem_cons_zero, List.getElem_cons_succ]
  refine wpAnyH_take (i := 11) (v := ?_) rfl (by kernel_rfl) (by kernel_rfl) (by kernel_rfl) (fun _ _ _ h => h) (Or.inl ⟨by rfl, ?_⟩) (by assumption) ?_
  rotate_left
  · intro w hSw
    try dsimp only at hSw
    go_simp
    try with_reducible rfl
  simp only [Act.put, List.setIfInBounds_toArray, List.set_cons_zero, List.set_cons_succ, List.getElem_toArray, List.getElem_cons_zero, List.getElem_cons_succ]
  refine wpAnyH_take (i := 12) (v := ?_) rfl (by kernel_rfl) (by kernel_rfl) (by kernel_rfl) (fun _ _ _ h => h) (Or.inl ⟨by rfl, ?_⟩) (by assumption) ?_
  rotate_left
  · intro w hSw
    have q0 := (hSw.cell (p := ⟨R, 0, none⟩) HRL.out).trans c0
    have q1 := (hSw.cell (p := ⟨R, 1, none⟩) HRL.out).trans c1
    have q2 := (hSw.cell (p := ⟨R, 2, none⟩) HRL.out).trans c2
    have q3 := (hSw.cell (p := ⟨R, 3, none⟩) HRL.out).trans c3
    have q4 := (hSw.cell (p := ⟨R, 4, none⟩) HRL.out).trans c4
    have q5 := (hSw.cell (p := ⟨R, 5, none⟩) HRL.out).trans c5
    have q6 := (hSw.cell (p := ⟨R, 6, none⟩) HRL.out).trans c6
    go_simp
    try with_reducible rfl
  simp only [Act.put, List.setIfInBounds_toArray, List.set_cons_zero, List.set_cons_succ, List.getElem_toArray, List.getElem_cons_zero, List.getElem_cons_succ]
  refine wpAnyH_ready (rs := [8]) (by kernel_rfl) (by simp) ?_
  refine AllReadyH.cons rfl (fun Kc hKc => ?_) AllReadyH.nil
  go_simp
  refine hKc.out _ _ ?_ (fun hHeld => ?_)
  · first | exact hHeld.alloc hHeld.size _ | exact hHeld.grown hgrow hHeld.size (fun k e => by have := Option.some.inj e; omega)
  clear hKc Kc
  refine wpAnyH_ready (rs := [13]) (by kernel_rfl) (by simp) ?_
  refine AllReadyH.cons rfl (fun Kc hKc => ?_) AllReadyH.nil
  refine wp_append_lit _ _ 31 rfl w.heap.size 2 i0 (.int .i64 0) 8 Try.underlying31 hi hz0 hz1 hz2 rfl w.heap.size 0 rfl HO.out (some ⟨L, 0, none⟩) n cap (zs.map (Value.int .i64)) rfl (by rw [List.length_map]; exact HN.out.symm) (HNEWS.out _ hHeld) (fun u hu => by obtain ⟨z, -, rfl⟩ := List.mem_map.1 hu; rfl) (by unfold maxLen; omega) (by omega) (by simp) ?_; intro v' w5 hown' hgrow hnil' hq9; have HLO : Hid (w5.ownsRow w.heap.size 2 1 v' zs.length (zs.map (Value.int .i64))) := Lib.hid (by rw [← HN.out]; exact hown'); obtain ⟨L', cp', rfl, hL', hcp', curL, hcL, hcLz⟩ := own_row HLO.out hnil'; have HCL := Lib.hid hcL; have HCLZ := Lib.hid hcLz; rw [← HN.out] at hcp' ⊢
  refine hKc.out _ _ ?_ (fun hHeld => ?_)
  · first | exact hHeld.alloc hHeld.size _ | exact hHeld.grown hgrow hHeld.size (fun k e => by have := Option.some.inj e; omega)
  clear hKc Kc
  refine wpAnyH_take (i := 14) (v := ?_) rfl (by kernel_rfl) (by kernel_rfl) (by kernel_rfl) (fun _ _ _ h => h) (Or.inl ⟨by rfl, ?_⟩) (by assumption) ?_
  rotate_left
  · intro w hSw
    try dsimp only at hSw
    go_simp
    try with_reducible rfl
  simp only [Act.put, List.setIfInBounds_toArray, List.set_cons_zero, List.set_cons_succ, List.getElem_toArray, List.getElem_cons_zero, List.getElem_cons_succ]
  refine wpAnyH_ready (rs := [15]) (by kernel_rfl) (by simp) ?_
  refine AllReadyH.cons rfl (fun Kc hKc => ?_) AllReadyH.nil
  go_simp
  refine hKc.out _ _ ?_ (fun hHeld => ?_)
  · first | exact hHeld.alloc hHeld.size _ | exact hHeld.grown hgrow hHeld.size (fun k e => by have := Option.some.inj e; omega)
  clear hKc Kc
  refine wpAnyH_take (i := 16) (v := ?_) rfl (by kernel_rfl) (by kernel_rfl) (by kernel_rfl) (fun _ _ _ h => h) (Or.inl ⟨by rfl, ?_⟩) (by assumption) ?_
  rotate_left
  · intro w hSw
    try dsimp only at hSw
    go_simp
    try with_reducible rfl
  simp only [Act.put, List.setIfInBounds_toArray, List.set_cons_zero, List.set_cons_succ, List.getElem_toArray, List.getElem_cons_zero, List.getElem_cons_succ]
  refine wpAnyH_done (by kernel_rfl) ?_ _
  have HBR := Lib.hid (Blk.new w5 62 #[.int .i64 b, .int .i64 r, .int .i64 d, .int .i64 m, .int .u64 s, .int .i64 l, .slice (some ⟨L', 0, none⟩) n cp'])
  have HBL := Lib.hid (HCL.out.alloc (.cells #[.int .i64 b, .int .i64 r, .int .i64 d, .int .i64 m, .int .u64 s, .int .i64 l, .slice (some ⟨L', 0, none⟩) n cp'] 62))
  have HBB := Lib.hid hHeld
  have HSZ : Hid (w.heap.size ≤ w5.heap.size) := Lib.hid (by have := hgrow.size; simp at this; omega)
  clear hHeld hown' hgrow hq9 hcL hcLz
  go_wp2
  go_ret
  exact ⟨w5.heap.size, L', rfl, HSZ.out, hL', ⟨cp', curL, by rw [← HN.out]; exact hcp', by rw [← HN.out]; exact HBR.out, HBL.out, HCLZ.out⟩, HBB.out⟩

theorem RArr.set {w : World} {R L : Nat} {b r d m s l : Int} {zs : List Int} (h : RArr w R L b r d m s l zs) (i : Nat) (u : Int) : RArr (w.setCell ⟨L, i, none⟩ (.int .i64 u)) R L b r d m s l (zs.set i u) := by
  have hne := h.ne
  obtain ⟨cap, cur, hcap, hR, hL, hcur⟩ := h
  refine ⟨cap, _, by rw [List.length_set]; exact hcap, by rw [List.length_set]; exact hR.far (by simpa using hne) _, hL.set_ i _, fun j v hv => ?_⟩
  rw [List.getElem?_set] at hv
  rw [Array.getElem?_setIfInBounds]
  split at hv
  · rename_i e
    subst e
    split at hv
    · rename_i hlt
      have := (Array.getElem?_eq_some_iff.1 (hcur i _ (List.getElem?_eq_getElem hlt))).1
      rw [if_pos rfl, if_pos this]
      simp at hv
      rw [hv]
    · cases hv
  · rename_i e
    rw [if_neg e]
    exact hcur j v hv
def RUpPost (w : World) (R L : Nat) (b r d m s l : Int) (zs : List Int) (k : Nat) (x : Int) (e : Ending) (w' : World) : Prop :=
  e = .returned (.int .i64 (chkI zs.length m zs k x)) ∧ RArr w' R L b r d m s l (updZ zs.length m zs k x) ∧ w.grownBy w' (some L)
set_option maxRecDepth 100000 in
set_option maxHeartbeats 4000000 in
theorem rxupdate (w : World) (R L : Nat) (b r d m s l : Int) (k : Nat) (zs : List Int) (x : Int) (h : RArr w R L b r d m s l zs) (hlen : zs.length ≤ 128) (hfit : Fit zs) (hx : In64 x) (hk64 : k < 18446744073709551616) :
    Calls Try.prog 27 #[.pointer (some ⟨R, 0, none⟩), .int .u64 (k : Int), .int .i64 x] w (RUpPost w R L b r d m s l zs k x) := by
  have HA := Lib.hid h
  obtain ⟨cap, cur, hcap, hR, hL, hcur⟩ := h
  have c3 := hR.cell 3
  have c6 := hR.cell 6
  simp at c3 c6
  have HRL := Lib.hid hR.lt
  have HLL := Lib.hid hL.lt
  obtain ⟨K, hK⟩ : ∃ K, K = zs.length := ⟨_, rfl⟩
  have HK := Lib.hid hK
  rw [← hK] at c6 hcap hlen
  have e2 : IntKind.u64.wrap (K : Int) = (K : Int) := by rw [wrapU_mod]; omega
  obtain ⟨q, hq⟩ : ∃ q, q = chkI zs.length m zs k x := ⟨_, rfl⟩
  have HQ0 := Lib.hid hq
  have HSAME : Hid (q ≠ 0 → ∀ w', Below w.heap.size w w' → RUpPost w R L b r d m s l zs k x (.returned (.int .i64 q)) w') := Lib.hid (fun hq0 w' hb => by
    refine ⟨by rw [HQ0.out], ?_, below_grown hb⟩
    unfold updZ
    rw [if_neg (by rw [← HQ0.out]; exact hq0)]
    exact HA.out.kept hb)
  rw [← hK] at hq
  clear hK
  by_cases hlt : k < K
  · have hkz : k < zs.length := by have := HK.out; omega
    have ck := (hL.cell k).trans (hcur k (cellD zs k) (by simp [cellD, hkz]))
    clear hkz
    have cf := hL.frozen k
    have hz := fitC hfit k
    have e1 : decide ((K : Int) ≤ (k : Int)) = false := decide_eq_false (by omega)
    have e1' : decide (K ≤ k) = false := decide_eq_false (by omega)
    have e3 : (0 : Int) ≤ (k : Int) := by omega
    have e4 : (k : Int) < (K : Int) := by omega
    unfold chkI at hq
    rw [if_neg (by omega)] at hq
    clear hR hL hcur hfit hlt hk64
    by_cases hm : m = 2 ∧ x < 0
    · obtain ⟨rfl, hx0⟩ := hm
      have e5 : decide (x < 0) = true := decide_eq_true hx0
      have HQ : Hid (q = 3) := by show _ = _; rw [hq, if_pos ⟨rfl, hx0⟩]
      clear hq hx0
      have HP := Lib.hid (HSAME.out (by rw [HQ.out]; decide) w (Below.refl _ _))
      rw [HQ.out] at HP
      go_enter Try.func27, Try.ntmps27
      go_wp2
      go_ret
      exact HP.out
    · rw [if_neg hm] at hq
      have hdec : (m ≠ 2 ∧ (m == 2) = false ∧ decide (m = 2) = false) ∨ ((m == 2) = true ∧ decide (m = 2) = true ∧ m = 2 ∧ decide (x < 0) = false) := by
        by_cases h2 : m = 2
        · right; exact ⟨by simp [h2], by simp [h2], h2, decide_eq_false (fun hh => hm ⟨h2, hh⟩)⟩
        · left; exact ⟨h2, by simp [h2], by simp [h2]⟩
      clear hm
      by_cases h64 : In64 (cellD zs k + x)
      · have P3 := Lib.hid (fun w => ladd_yes (cellD zs k) x hz hx h64 w)
        have HQ : Hid (q = 0) := by show _ = _; rw [hq, if_pos h64]
        have HDONE : Hid (∀ w', Below w.heap.size w w' → RUpPost w R L b r d m s l zs k x (.returned (.int .i64 0)) (w'.setCell ⟨L, k, none⟩ (.int .i64 (cellD zs k + x)))) := Lib.hid (fun w' hb => by
          refine ⟨by rw [← HQ.out, HQ0.out], ?_, ?_⟩
          · unfold updZ
            rw [if_pos (by rw [← HQ0.out]; exact HQ.out)]
            exact (HA.out.kept hb).set k _
          · exact grown_tr (below_grown (row := some L) hb) (grown_set w' L k _))
        clear hq h64 hz
        unfold TwoPost at P3
        generalize cellD zs k + x = y at *
        generalize cellD zs k = z at *
        rcases hdec with ⟨hm2, d1, d2⟩ | ⟨d1, d2, hm2, d3⟩
        all_goals
          first | subst hm2 | skip
          go_enter Try.func27, Try.ntmps27
          go_wp2_with fail
          with_reducible refine (P3.out _).mono ?_
          rintro e w3 ⟨rfl, hb⟩
          have HP := Lib.hid (HDONE.out _ hb)
          have q6 := (hb.cell (p := ⟨R, 6, none⟩) HRL.out).trans c6
          have qk := (hb.cell (p := ⟨L, k, none⟩) HLL.out).trans ck
          have qf : w3.frozen? ⟨L, k, none⟩ = false := by rw [← cf]; exact hb.frozen (p := ⟨L, k, none⟩) HLL.out
          clear hb
          go_wp2
          go_ret
          exact HP.out
      · have P3 := Lib.hid (fun w => ladd_no (cellD zs k) x hz hx h64 w)
        have HQ : Hid (q = 4) := by show _ = _; rw [hq, if_neg h64]
        clear hq h64 hz
        unfold TwoPost at P3
        generalize cellD zs k = z at *
        rcases hdec with ⟨hm2, d1, d2⟩ | ⟨d1, d2, hm2, d3⟩
        all_goals
          first | subst hm2 | skip
          go_enter Try.func27, Try.ntmps27
          go_wp2_with fail
          with_reducible refine (P3.out _).mono ?_
          rintro e w3 ⟨rfl, hb⟩
          have HP := Lib.hid (HSAME.out (by rw [HQ.out]; decide) w3 hb)
          rw [HQ.out] at HP
          clear hb
          go_wp2
          go_ret
          exact HP.out
  · have HQ : Hid (q = 2) := by show _ = _; rw [hq]; unfold chkI; rw [if_pos (by omega)]
    have e1 : decide ((K : Int) ≤ (k : Int)) = true := decide_eq_true (by omega)
    have e1' : decide (K ≤ k) = true := decide_eq_true (by omega)
    have HP := Lib.hid (HSAME.out (by rw [HQ.out]; decide) w (Below.refl _ _))
    rw [HQ.out] at HP
    clear hlt hR hL hcur hq
    go_enter Try.func27, Try.ntmps27
    go_wp2
    go_ret
    exact HP.out
end Go.Proofs.Ytcfmipgdhhogcaa
