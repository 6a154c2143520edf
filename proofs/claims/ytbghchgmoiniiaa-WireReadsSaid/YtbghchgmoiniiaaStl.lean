/-
  The walks of a stack's methods: Config, level, Cells, Load. Conditions: none beyond those stated at each theorem.
-/
import Derived.Test.YtbghchgmoiniiaaStk
namespace Go.Proofs.Ytbghchgmoiniiaa
open Go.RowKit
set_option linter.unusedVariables false
set_option linter.unusedSimpArgs false

theorem Try.mExCells (k : Nat) (a : Addr) (w : World) : (method (k + 1) 109 (.pointer (some a)) "Cells").run Try.prog w = .ok (90, .pointer (some a)) w := by kernel_rfl
theorem Try.mSkCells (k : Nat) (a : Addr) (w : World) : (method (k + 1) 112 (.pointer (some a)) "Cells").run Try.prog w = .ok (102, .pointer (some a)) w := by kernel_rfl
theorem Try.mExLoad (k : Nat) (a : Addr) (w : World) : (method (k + 1) 109 (.pointer (some a)) "Load").run Try.prog w = .ok (94, .pointer (some a)) w := by kernel_rfl
theorem Try.mSkLoad (k : Nat) (a : Addr) (w : World) : (method (k + 1) 112 (.pointer (some a)) "Load").run Try.prog w = .ok (106, .pointer (some a)) w := by kernel_rfl
theorem stlevel (w : World) (base S L : Nat) (b r d m s : Int) (X : Nat → Value) (A G C : Nat → Nat) (Z : Nat → List Int) (h : StIs w base S L b r d m s X A G C Z) (n : Nat) (hn : n ≤ b.toNat) :
    Calls Try.prog 46 #[.pointer (some ⟨S, 0, none⟩), .int .i64 (n : Int)] w fun e w' => e = .returned (.tuple #[X n, .bool true]) ∧ w = w' := by
  obtain ⟨cap, h1, h2⟩ := h.box
  obtain ⟨cur, h3, h4⟩ := h.row
  have hR := right_of h.right
  have c5 := h1.cell 5
  have cn := (h3.cell n).trans (h4 n hn)
  simp at c5
  obtain ⟨q, hq⟩ : ∃ q : Nat, b.toNat = q := ⟨_, rfl⟩
  rw [hq] at c5 hn h2
  have d1 : decide ((n : Int) < 0) = false := decide_eq_false (by omega)
  have d2 : decide ((q : Int) + 1 ≤ (n : Int)) = false := decide_eq_false (by omega)
  have d3 : decide (q + 1 ≤ n) = false := decide_eq_false (by omega)
  have i0 : (0 : Int) ≤ (n : Int) := by omega
  have i1 : (n : Int) < (q : Int) + 1 := by omega
  have i2 : n < q + 1 := by omega
  obtain ⟨t, hx⟩ := (h.lev n (by omega)).open_
  rw [hx] at cn ⊢
  clear h h1 h3 h4 hR hq hx
  go_enter Try.func46, Try.ntmps46
  go_wp2
  go_ret2
  exact ⟨rfl, rfl⟩
set_option maxRecDepth 100000 in
set_option maxHeartbeats 4000000 in
theorem stcells (w : World) (base S L : Nat) (b r d m s : Int) (X : Nat → Value) (A G C : Nat → Nat) (Z : Nat → List Int) (h : StIs w base S L b r d m s X A G C Z) (n : Nat) (hn : n ≤ b.toNat) :
    Calls Try.prog 32 #[.pointer (some ⟨S, 0, none⟩), .int .i64 (n : Int)] w (CellsPost w (Z n)) := by
  have PL := Lib.hid (stlevel w base S L b r d m s X A G C Z h n hn)
  have hl := h.lev n hn
  rcases hl with ⟨h1, h2, h3⟩ | ⟨h1, h2, h3⟩
  · rw [h2] at PL
    have PC := Lib.hid (excells w _ _ _ _ _ _ _ _ _ _ _ h3)
    clear h h1 h2 h3
    have hm := Try.mExCells
    go_enter Try.func32, Try.ntmps32
    go_wp2_with fail
    with_reducible refine PL.out.mono ?_
    rintro e w2 ⟨rfl, hw2⟩
    subst hw2
    go_wp2_with fail
    with_reducible refine PC.out.mono ?_
    rintro e w2 ⟨v, rfl, hrest⟩
    have HR := Lib.hid hrest
    clear hrest
    go_wp2
    go_ret
    exact ⟨v, rfl, HR.out⟩
  · rw [h2] at PL
    have PC := Lib.hid (skcells w _ _ _ _ _ _ _ _ _ _ h3)
    clear h h1 h2 h3
    have hm := Try.mSkCells
    go_enter Try.func32, Try.ntmps32
    go_wp2_with fail
    with_reducible refine PL.out.mono ?_
    rintro e w2 ⟨rfl, hw2⟩
    subst hw2
    go_wp2_with fail
    with_reducible refine PC.out.mono ?_
    rintro e w2 ⟨v, rfl, hrest⟩
    have HR := Lib.hid hrest
    clear hrest
    go_wp2
    go_ret
    exact ⟨v, rfl, HR.out⟩
theorem natR {w : World} {base S L : Nat} {b r d m s : Int} {X : Nat → Value} {A G C : Nat → Nat} {Z : Nat → List Int} (h : StIs w base S L b r d m s X A G C Z) : ∃ R W : Nat, r = (R : Int) ∧ d = (W : Int) ∧ 0 < W := by
  have := right_of h.right
  exact ⟨r.toNat, d.toNat, by omega, by omega, by omega⟩
set_option maxRecDepth 100000 in
set_option maxHeartbeats 4000000 in
theorem stload (w : World) (base S L : Nat) (b r d m s : Int) (X : Nat → Value) (A G C : Nat → Nat) (Z : Nat → List Int) (h : StIs w base S L b r d m s X A G C Z) (n : Nat) (hn : n ≤ b.toNat)
    (v : Value) (cs : List Int) (hv : IntsAt w v cs) (hl : cs.length = cellsN b r d m (n : Int)) (hfit : Fit cs) (hvc : v.ownBlock ≠ some (C n)) :
    Calls Try.prog 25 #[.pointer (some ⟨S, 0, none⟩), .int .i64 (n : Int), v] w fun e w' => e = .returned (.bool true) ∧ StIs w' base S L b r d m s X A G C (upN Z n cs) ∧ w.grownBy w' (some (C n)) := by
  have PL := Lib.hid (stlevel w base S L b r d m s X A G C Z h n hn)
  have HS := Lib.hid h
  have HN := Lib.hid hn
  have hlv := h.lev n hn
  rcases hlv with ⟨h1, h2, h3⟩ | ⟨h1, h2, h3⟩
  · rw [h2] at PL
    have PC := Lib.hid (exload_yes w _ _ _ _ _ _ _ _ _ _ _ cs v h3 hv (by rw [hl]; unfold cellsN; rw [if_pos h1]) hfit hvc)
    have H1 := Lib.hid h1
    have H2 := Lib.hid h2
    obtain ⟨vo, vc, rfl, -⟩ := hv
    clear h h1 h2 h3 hl hfit hvc hn
    have hm := Try.mExLoad
    go_enter Try.func25, Try.ntmps25
    go_wp2_with fail
    with_reducible refine PL.out.mono ?_
    rintro e w2 ⟨rfl, hw2⟩
    subst hw2
    go_wp2_with fail
    with_reducible refine PC.out.mono ?_
    rintro e w2 ⟨rfl, ha, hg⟩
    have HA := Lib.hid (HS.out.put HN.out hg (.inl ⟨H1.out, H2.out, ha⟩))
    have HG := Lib.hid hg
    clear ha hg
    go_wp2
    go_ret
    exact ⟨rfl, HA.out, HG.out⟩
  · rw [h2] at PL
    obtain ⟨R, W, rfl, rfl, hW⟩ := natR h
    have PC := Lib.hid (skload_yes w _ _ _ _ R W _ _ _ _ cs v h3 hW hv (by rw [hl]; unfold cellsN; rw [h1]; simp) hfit hvc)
    have H1 := Lib.hid h1
    have H2 := Lib.hid h2
    obtain ⟨vo, vc, rfl, -⟩ := hv
    clear h h1 h2 h3 hl hfit hvc hn
    have hm := Try.mSkLoad
    go_enter Try.func25, Try.ntmps25
    go_wp2_with fail
    with_reducible refine PL.out.mono ?_
    rintro e w2 ⟨rfl, hw2⟩
    subst hw2
    go_wp2_with fail
    with_reducible refine PC.out.mono ?_
    rintro e w2 ⟨rfl, ha, hg⟩
    have HA := Lib.hid (HS.out.put HN.out hg (.inr ⟨H1.out, H2.out, ha⟩))
    have HG := Lib.hid hg
    clear ha hg
    go_wp2
    go_ret
    exact ⟨rfl, HA.out, HG.out⟩
theorem stconfig (w : World) (base S L : Nat) (b r d m s : Int) (X : Nat → Value) (A G C : Nat → Nat) (Z : Nat → List Int) (h : StIs w base S L b r d m s X A G C Z) :
    Calls Try.prog 15 #[.pointer (some ⟨S, 0, none⟩)] w fun e w' => e = .returned (.agg #[.int .i64 b, .int .i64 r, .int .i64 d, .int .i64 m, .int .u64 s]) ∧ Below w.heap.size w w' := by
  obtain ⟨g1, hb1, hsz1⟩ := news1 w (.cells #[.int .i64 0, .int .i64 0, .int .i64 0, .int .i64 0, .int .u64 0] 36)
  have hx1 : Blk _ w.heap.size 36 #[.int .i64 0, .int .i64 0, .int .i64 0, .int .i64 0, .int .u64 0] := g1
  obtain ⟨cap, hbx, -⟩ := h.box
  have hA := hbx.kept hb1
  have c0 := hA.cell 0
  have c1 := hA.cell 1
  have c2 := hA.cell 2
  have c3 := hA.cell 3
  have c4 := hA.cell 4
  simp at c0 c1 c2 c3 c4
  have HX1 := Lib.hid hx1
  have HB1 := Lib.hid hb1
  have n0 := hx1.cell 0
  have n1 := hx1.cell 1
  have n2 := hx1.cell 2
  have n3 := hx1.cell 3
  have n4 := hx1.cell 4
  simp at n0 n1 n2 n3 n4
  have f0 := hx1.frozen 0
  have f1 := hx1.frozen 1
  have f2 := hx1.frozen 2
  have f3 := hx1.frozen 3
  have f4 := hx1.frozen 4
  clear hA hx1 hb1 g1 hsz1 h hbx
  go_enter Try.func15, Try.ntmps15
  go_wp2_with fail
  refine bodyPost_ret (v := .agg #[.int .i64 b, .int .i64 r, .int .i64 d, .int .i64 m, .int .u64 s]) (results_cell_row rfl _ _ w.heap.size 36 _ (0, 0) _ rfl (heap_alloc_new w _) Try.underlying36 rfl (by kernel_rfl)) rfl ⟨rfl, ?_⟩
  exact (Below.refl _ _).alloc (Nat.le_refl _) _
end Go.Proofs.Ytbghchgmoiniiaa
