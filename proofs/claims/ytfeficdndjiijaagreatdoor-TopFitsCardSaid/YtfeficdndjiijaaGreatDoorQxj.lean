import Derived.Test.YtfeficdndjiijaaGreatDoorQxi
import Derived.Test.YtfeficdndjiijaaGreatDoorQxh
import Derived.Test.YtfeficdndjiijaaGreatDoorQxa
import Derived.Deep.MidRow
import Derived.Lib.LazyBuf
import Derived.Test.YtfeficdndjiijaaGreatDoorQxg
import Derived.Defers
import Derived.Recover
import Derived.Maps.AppendAt
import Derived.Test.YtfeficdndjiijaaGreatDoorQxe
/-
  Contracts of the functions that TopFits reaches, and the plain laws that it leans on. Conditions: none beyond those stated at each theorem.
-/
namespace Go.Proofs.YtfeficdndjiijaaGreatDoor
open Go.RowKit Go.Shelf
set_option linter.unusedVariables false
set_option linter.unusedSimpArgs false
attribute [local go_sem] Oper.semAt_some

structure RGr (w w' : World) (B : Nat → Nat) (R : Nat) : Prop where
  os : w'.os = w.os
  tape : w'.tape = w.tape
  output : w'.output = w.output
  size : w.heap.size ≤ w'.heap.size
  block : ∀ k, k < w.heap.size → (∀ r, r < R → k ≠ B r) → w'.heap[k]? = w.heap[k]?
theorem RGr.of_below {w w' : World} {B : Nat → Nat} {R : Nat} (h : Below w.heap.size w w') : RGr w w' B R := ⟨h.os, h.tape, h.output, h.size, fun k hk _ => h.block k hk⟩
theorem RGr.trans {w w1 w2 : World} {B : Nat → Nat} {R : Nat} (h : RGr w w1 B R) (k : RGr w1 w2 B R) : RGr w w2 B R :=
  ⟨k.os.trans h.os, k.tape.trans h.tape, k.output.trans h.output, Nat.le_trans h.size k.size, fun j hj hne => (k.block j (Nat.lt_of_lt_of_le hj h.size) hne).trans (h.block j hj hne)⟩
theorem RGr.set {w : World} {B : Nat → Nat} {R r c : Nat} (hr : r < R) (u : Value) : RGr w (w.setCell ⟨B r, c, none⟩ u) B R :=
  ⟨rfl, rfl, rfl, by simp [World.setCell], fun k hk hne => Below.heap_setCell _ _ _ _ (by simpa using hne r hr)⟩

def StUpPost (w : World) (base S L : Nat) (b r d m s : Int) (X : Nat → Value) (A G C : Nat → Nat) (Z : Nat → List Int) (k : Nat) (x : Int) (e : Ending) (w' : World) : Prop :=
  e = .returned (.int .i64 (stErr b r d m s Z k x)) ∧ StIs w' base S L b r d m s X A G C (stUpd b r d m s Z k x) ∧ RGr w w' C (b.toNat + 1)
theorem stupdate_key (w : World) (base S L : Nat) (b r d m s : Int) (X : Nat → Value) (A G C : Nat → Nat) (Z : Nat → List Int) (h : StIs w base S L b r d m s X A G C Z) (k : Nat) (x : Int) (hk : keysI b r d m 0 ≤ (k : Int)) :
  Calls Tryz.prog 87 #[.pointer (some ⟨S, 0, none⟩), .int .u64 (k : Int), .int .i64 x] w (StUpPost w base S L b r d m s X A G C Z k x) := by
 have HE : Hid (stErr b r d m s Z k x = 2) := Lib.hid (by unfold stErr; rw [if_pos hk])
 have HU : Hid (∀ n, stUpd b r d m s Z k x n = Z n) := Lib.hid (fun n => by unfold stUpd; rw [HE.out, if_neg (by decide)])
 unfold StUpPost
 rw [HE.out]
 have PK := Lib.hid (fun w => keys_any b r d m s 0 w)
 have e1 : decide (keysI b r d m 0 ≤ (k : Int)) = true := decide_eq_true hk
 have hal : Below w.heap.size w (w.alloc (.cells #[.int .i64 x] 2)) := (Below.refl _ _).alloc (Nat.le_refl _) _
 obtain ⟨cap, hbx, -⟩ := h.box
 have hA := hbx.kept hal
 have c0 := hA.cell 0
 have c1 := hA.cell 1
 have c2 := hA.cell 2
 have c3 := hA.cell 3
 have c4 := hA.cell 4
 simp at c0 c1 c2 c3 c4
 have HS := Lib.hid (h.kept hal)
 have HB := Lib.hid hal
 clear h hk hbx hal hA
 go_enter Tryz.func87, Tryz.ntmps87
 go_wp2_with fail
 generalize (w.alloc (.cells #[.int .i64 x] 2)) = w1 at *
 with_reducible refine (PK.out _).mono ?_
 rintro e w2 ⟨rfl, hb⟩
 have HS2 := Lib.hid (HS.out.kept hb)
 have HB2 := Lib.hid (btr HB.out hb)
 clear hb c0 c1 c2 c3 c4
 go_wp2
 go_ret
 exact ⟨rfl, HS2.out.setC (fun n _ => (HU.out n).symm), RGr.of_below HB2.out⟩
def vals {q : Nat} (l : List (LvN q)) : List Nat := l.map (·.1)
theorem vals_snoc {q : Nat} (l : List (LvN q)) (y : LvN q) : vals (l ++ [y]) = vals l ++ [y.1] := by simp [vals]
theorem vals_all (q : Nat) : vals (uptoN q (q + 1)) = List.range (q + 1) := uptoN_map q (q + 1) (Nat.le_refl _)
structure ChkI (W0 W : World) (base S L : Nat) (b r d m s : Int) (X : Nat → Value) (A G C : Nat → Nat) (Z : Nat → List Int) (BD BB T : Nat) (x v : Int) : Prop where
  top : T ≤ W.heap.size
  st : StIs W base S L b r d m s X A G C Z
  num : Blk W BD 2 #[.int .i64 x]
  bad : Blk W BB 50 #[.int .i64 v]
  bel : Below W0.heap.size W0 W
theorem ChkI.kept {W0 W W' : World} {base S L : Nat} {b r d m s : Int} {X : Nat → Value} {A G C : Nat → Nat} {Z : Nat → List Int} {BD BB T : Nat} {x v : Int} (h : ChkI W0 W base S L b r d m s X A G C Z BD BB T x v) (hb : Below W.heap.size W W') : ChkI W0 W' base S L b r d m s X A G C Z BD BB T x v :=
  ⟨Nat.le_trans h.top hb.size, h.st.kept hb, h.num.kept hb, h.bad.kept hb, btr h.bel hb⟩
theorem ChkI.walked {W0 W W' : World} {base S L : Nat} {b r d m s : Int} {X : Nat → Value} {A G C : Nat → Nat} {Z : Nat → List Int} {BD BB T : Nat} {x v : Int} {row : Option Nat} (h : ChkI W0 W base S L b r d m s X A G C Z BD BB T x v) (hg : W.grownBy W' row) (hr : ∀ r, row = some r → W0.heap.size ≤ r ∧ ∃ o : Obj, W.heap[r]? = some o ∧ o.isCells = false) : ChkI W0 W' base S L b r d m s X A G C Z BD BB T x v :=
  ⟨Nat.le_trans h.top hg.size, h.st.walked hg (fun r e => (hr r e).2), h.num.walked hg (fun r e => (hr r e).2), h.bad.walked hg (fun r e => (hr r e).2), h.bel.grown hg h.bel.size (fun k e => (hr k e).1)⟩
theorem ChkI.put {W0 W : World} {base S L : Nat} {b r d m s : Int} {X : Nat → Value} {A G C : Nat → Nat} {Z : Nat → List Int} {BD BB T : Nat} {x v : Int} (h : ChkI W0 W base S L b r d m s X A G C Z BD BB T x v) (hB : W0.heap.size ≤ BB) (u : Int) : ChkI W0 (W.setCell ⟨BB, 0, none⟩ (.int .i64 u)) base S L b r d m s X A G C Z BD BB T x u :=
  ⟨by simpa using h.top, h.st.far h.bad (by decide) (by decide) (grown_set W BB 0 _), h.num.far (by simpa using h.num.ne_ h.bad (by decide)) _, by simpa using h.bad.set_ 0 (.int .i64 u), h.bel.setCell (p := ⟨BB, 0, none⟩) hB _⟩
theorem ChkI.round {W0 W w5 : World} {base S L : Nat} {b r d m s : Int} {X : Nat → Value} {A G C : Nat → Nat} {Z : Nat → List Int} {BD BB T : Nat} {x v : Int} (h : ChkI W0 W base S L b r d m s X A G C Z BD BB T x v) (hb : Below W.heap.size W w5) (o : Obj) (hB : W0.heap.size ≤ BB) (u : Int) (l : List Nat) (hl : ∀ i ∈ l, i < W.heap.size ∧ i ≠ BB) :
    KeepsOthers W ((w5.alloc o).setCell ⟨BB, 0, none⟩ (.int .i64 u)) ∧ KpB l W ((w5.alloc o).setCell ⟨BB, 0, none⟩ (.int .i64 u)) ∧ ChkI W0 ((w5.alloc o).setCell ⟨BB, 0, none⟩ (.int .i64 u)) base S L b r d m s X A G C Z BD BB T x u := by
  have h2 : Below W.heap.size W (w5.alloc o) := btr hb (below_alloc1 w5 o)
  have h3 : W.grownBy ((w5.alloc o).setCell ⟨BB, 0, none⟩ (.int .i64 u)) (some BB) := gr_trans (below_gr h2) (grown_set _ BB 0 _)
  exact ⟨kept_others h3 (fun g e => ⟨_, _, by cases e; exact h.bad⟩), KpB.of_grown h3 (fun i hi => ⟨(hl i hi).1, by simpa using (hl i hi).2⟩), (h.kept h2).put hB u⟩
noncomputable def foldE (b r d m s : Int) (Z : Nat → List Int) (k : Nat) (x : Int) (l : List Nat) : Int := l.foldl (fun a (n : Nat) => firstI a (lvErr b r d m s (n : Int) (Z n) (k / 2 ^ n) x)) 0
theorem foldE_snoc (b r d m s : Int) (Z : Nat → List Int) (k : Nat) (x : Int) (l : List Nat) (n : Nat) : foldE b r d m s Z k x (l ++ [n]) = firstI (foldE b r d m s Z k x l) (lvErr b r d m s (n : Int) (Z n) (k / 2 ^ n) x) := by
  unfold foldE
  rw [List.foldl_append]
  rfl
noncomputable def timesU (b r d m s : Int) (k : Nat) (x : Int) (n : Nat) (zs : List Int) : Nat → List Int
  | 0 => zs
  | j + 1 => lvUpd b r d m s (n : Int) (timesU b r d m s k x n zs j) (k / 2 ^ n) x
structure UpdI (W0 W : World) (base S L : Nat) (b r d m s : Int) (X : Nat → Value) (A G C : Nat → Nat) (Z : Nat → List Int) (BD T D1 : Nat) (x : Int) (k : Nat) (l : List Nat) : Prop where
  top : T ≤ W.heap.size
  st : StIs W base S L b r d m s X A G C (fun n => timesU b r d m s k x n (Z n) (l.count n))
  num : Blk W BD 2 #[.int .i64 x]
  gr : RGr W0 W C (b.toNat + 1)
  mark : W.heap[D1]? = some (.deferred (some []))
theorem RGr.grown {W0 W W' : World} {C : Nat → Nat} {q : Nat} {row : Option Nat} (h : RGr W0 W C q) (hg : W.grownBy W' row) (hr : ∀ r, row = some r → W0.heap.size ≤ r ∨ ∃ n, n < q ∧ r = C n) : RGr W0 W' C q :=
  ⟨hg.os.trans h.os, hg.tape.trans h.tape, hg.output.trans h.output, Nat.le_trans h.size hg.size, fun k hk hne => (hg.block k (Nat.lt_of_lt_of_le hk h.size) (fun e => by
    rcases hr k e.symm with h1 | ⟨n, hn, e2⟩
    · omega
    · exact hne n hn e2)).trans (h.block k hk hne)⟩
theorem UpdI.walked {W0 W W' : World} {base S L : Nat} {b r d m s : Int} {X : Nat → Value} {A G C : Nat → Nat} {Z : Nat → List Int} {BD T D1 : Nat} {x : Int} {k : Nat} {l : List Nat} {row : Option Nat} {B : Nat} (h : UpdI W0 W base S L b r d m s X A G C Z BD T D1 x k l) (h0 : W0.heap.size ≤ B) (h1 : D1 < B) (hg : W.grownBy W' row) (hr : ∀ r, row = some r → B ≤ r ∧ ∃ o : Obj, W.heap[r]? = some o ∧ o.isCells = false) : UpdI W0 W' base S L b r d m s X A G C Z BD T D1 x k l :=
  ⟨Nat.le_trans h.top hg.size, h.st.walked hg (fun r e => (hr r e).2), h.num.walked hg (fun r e => (hr r e).2), h.gr.grown hg (fun r e => .inl (by have := (hr r e).1; omega)),
    (hg.block D1 (Array.getElem?_eq_some_iff.1 h.mark).1 (fun e => by have := (hr D1 e.symm).1; omega)).trans h.mark⟩
theorem UpdI.next {W0 W W' : World} {base S L : Nat} {b r d m s : Int} {X : Nat → Value} {A G C : Nat → Nat} {Z : Nat → List Int} {BD T D1 : Nat} {x : Int} {k : Nat} {l : List Nat} (h : UpdI W0 W base S L b r d m s X A G C Z BD T D1 x k l) (hT : BD < T) {n : Nat} (hn : n ≤ b.toNat) (hBD : BD ≠ C n) {e : Ending}
  (hp : LvUpPost W (X n) (A n) (G n) (C n) b r d m s n (timesU b r d m s k x n (Z n) (l.count n)) (k / 2 ^ n) x e W') : UpdI W0 W' base S L b r d m s X A G C Z BD T D1 x k (l ++ [n]) := by
 obtain ⟨-, hl, hg⟩ := hp
 obtain ⟨cur, hC⟩ := (h.st.lev n hn).cells
 refine ⟨Nat.le_trans h.top hg.size, (h.st.put hn hg hl).setC (fun j hj => ?_), h.num.grown hg (by simpa using hBD), h.gr.grown hg (fun r e => .inr ⟨n, by omega, by have := Option.some.inj e; omega⟩), ?_⟩
 ·by_cases e : j = n
  ·subst e
   rw [upN_same, List.count_append, List.count_singleton_self]
   rfl
  ·rw [upN_other _ _ e, List.count_append, List.count_singleton, if_neg (by simpa using fun e2 => e e2.symm), Nat.add_zero]
 ·refine (hg.block D1 (Array.getElem?_eq_some_iff.1 h.mark).1 (fun e => ?_)).trans h.mark
  have e := Option.some.inj e
  have h1 := h.mark
  unfold Blk at hC
  rw [e, hC] at h1
  cases h1
theorem count_upto (q n : Nat) : (List.range q).count n = if n < q then 1 else 0 := by
  induction q with
  | zero => simp
  | succ q ih =>
    rw [List.range_succ, List.count_append, ih, List.count_singleton]
    by_cases h1 : n < q
    · rw [if_pos h1, if_neg (by simp; omega), if_pos (by omega)]
    · by_cases h2 : n = q
      · subst h2; simp
      · rw [if_neg h1, if_neg (by simp; omega), if_neg (by omega)]
theorem shr_small {k : Nat} (hk : k < 18446744073709551616) (n : Nat) : k / 2 ^ n < 18446744073709551616 := Nat.lt_of_le_of_lt (Nat.div_le_self _ _) hk
set_option maxRecDepth 100000 in
set_option maxHeartbeats 8000000 in
theorem stupdate_in (w : World) (base S L : Nat) (b r d m s : Int) (X : Nat → Value) (A G C : Nat → Nat) (Z : Nat → List Int) (h : StIs w base S L b r d m s X A G C Z) (s0 : 0 ≤ s) (s1 : s ≤ 18446744073709551615) (k : Nat) (hk64 : k < 18446744073709551616) (x : Int) (hx : In64 x) (hk : (k : Int) < keysI b r d m 0) :
  Calls Tryz.prog 87 #[.pointer (some ⟨S, 0, none⟩), .int .u64 (k : Int), .int .i64 x] w (StUpPost w base S L b r d m s X A G C Z k x) := by
 obtain ⟨q, hq⟩ : ∃ q : Nat, b.toNat = q := ⟨_, rfl⟩
 have hR := right_of h.right
 have hq59 : q ≤ 59 := by omega
 have PK := Lib.hid (fun w => keys_any b r d m s 0 w)
 have e1 : decide (keysI b r d m 0 ≤ (k : Int)) = false := decide_eq_false (by omega)
 have hal : Below w.heap.size w (w.alloc (.cells #[.int .i64 x] 2)) := (Below.refl _ _).alloc (Nat.le_refl _) _
 have HNUM := Lib.hid (Blk.new w 2 #[.int .i64 x])
 obtain ⟨cap, hbx, hcap⟩ := h.box
 rw [hq] at hbx hcap
 have hA := hbx.kept hal
 have c0 := hA.cell 0
 have c1 := hA.cell 1
 have c2 := hA.cell 2
 have c3 := hA.cell 3
 have c4 := hA.cell 4
 simp at c0 c1 c2 c3 c4
 have HCL : Hid (∀ n, n ≤ b.toNat → C n < w.heap.size) := Lib.hid (fun n hn => (h.lev n hn).ltC)
 have HS := Lib.hid (h.kept hal)
 have HB := Lib.hid hal
 have HRT := Lib.hid h.right
 have HKK := Lib.hid hk
 have HQ := Lib.hid hq
 have PI := Lib.hid hbx
 clear h hbx hal hA hR hk hcap hq
 refine (callsIn_wide (n := 6)).1 ?_
 refine callsIn_of_wp_marks Tryz.func87 rfl trivial ?_ rfl
 simp only [Tryz.ntmps87, List.size_toArray, List.length_cons, List.length_nil, Nat.reduceAdd, Nat.reduceSub, Array.replicate_succ, Array.replicate_zero, List.push_toArray, List.append_toArray, List.nil_append, List.cons_append]
 gi_wp2_with fail
 generalize hw1 : (w.alloc (.cells #[.int .i64 x] 2)) = w1 at *
 have HW1 := Lib.hid hw1
 clear hw1
 refine ⟨trivial, ?_⟩
 with_reducible refine (callsIn_wide.2 (PK.out _)).mono ?_
 rintro e w2 ⟨rfl, hb⟩
 have HS2 := Lib.hid (HS.out.kept hb)
 have HB2 := Lib.hid (btr HB.out hb)
 have HN2 := Lib.hid (HNUM.out.kept hb)
 clear hb c0 c1 c2 c3 c4
 gi_wp2_with fail
 have HS3 := Lib.hid (HS2.out.kept (below_alloc1 w2 (.cells #[.int .i64 0] 50)))
 have HB3 := Lib.hid (btr HB2.out (below_alloc1 w2 (.cells #[.int .i64 0] 50)))
 have HN3 := Lib.hid (HN2.out.kept (below_alloc1 w2 (.cells #[.int .i64 0] 50)))
 have HE3 := Lib.hid (Blk.new w2 50 #[.int .i64 0])
 have HSZ : Hid (w.heap.size ≤ w2.heap.size) := Lib.hid HB2.out.size
 generalize (w2.alloc (.cells #[.int .i64 0] 50)) = w3 at *
 refine ⟨trivial, ?_⟩
 with_reducible refine (callsIn_wide.2 (stat S (k : Int) w3)).mono ?_
 rintro e w4 ⟨rfl, hw4⟩
 obtain ⟨ga, gb, gc, gd⟩ := news2 w3 (.cells #[.pointer (some ⟨S, 0, none⟩)] 49) (.cells #[.int .u64 (k : Int)] 22)
 rw [← hw4] at ga gb gc gd
 have HGA : Hid (Blk w4 w3.heap.size 49 #[.pointer (some ⟨S, 0, none⟩)]) := Lib.hid ga
 have HGB : Hid (Blk w4 (w3.heap.size + 1) 22 #[.int .u64 (k : Int)]) := Lib.hid gb
 have HI0 : Hid (ChkI w w4 base S L b r d m s X A G C Z w.heap.size w2.heap.size w4.heap.size x (foldE b r d m s Z k x [])) := Lib.hid ⟨Nat.le_refl _, HS3.out.kept gc, HN3.out.kept gc, HE3.out.kept gc, btr HB3.out gc⟩
 have HTOP : Hid (w3.heap.size + 2 = w4.heap.size ∧ w2.heap.size < w3.heap.size) := Lib.hid ⟨gd.symm, HE3.out.lt⟩
 clear hw4 ga gb gc gd
 gi_wp2_with fail
 obtain ⟨capS, hbx, -⟩ := HI0.out.st.box
 obtain ⟨cur, hrow, hcur⟩ := HI0.out.st.row
 rw [HQ.out] at hbx hcur
 have HXO : Hid (∀ n, n ≤ q → ∃ t a, X n = .iface t (.pointer (some ⟨a, 0, none⟩))) := Lib.hid (fun n hn => by
  obtain ⟨t, ht⟩ := (HI0.out.st.lev n (by rw [HQ.out]; exact hn)).open_
  exact ⟨t, _, ht⟩)
 have HNE : Hid (S < w4.heap.size ∧ L < w4.heap.size ∧ S ≠ w2.heap.size ∧ L ≠ w2.heap.size) := Lib.hid ⟨hbx.lt, hrow.lt, hbx.ne_ HI0.out.bad (by decide), hrow.ne_ HI0.out.bad (by decide)⟩
 refine wpIn_rangeFunc_ownF rfl (by omega) (gf := 170) (lb := #[.pointer (some ⟨w3.heap.size, 0, none⟩), .pointer (some ⟨w3.heap.size + 1, 0, none⟩)]) rfl trivial (enters_of Tryz.func170 (by kernel_rfl) rfl)
  (st_stops (6 - 1) (by omega) w3.heap.size (w3.heap.size + 1) S L q capS k cur X hq59 w4 HXO.out HGA.out HGB.out ⟨_, _, _, _, _, hbx⟩ hrow hcur) KpB.trans (KpB.put (by
   have h1 := HTOP.out; have h2 := HNE.out
   intro i hi
   simp at hi
   omega)) (Below.refl _ _) (fun _ => rfl)
  (fun (pre : List (LvN q)) W => ChkI w W base S L b r d m s X A G C Z w.heap.size w2.heap.size w4.heap.size x (foldE b r d m s Z k x (vals pre)))
  (fun _ _ _ => False)
  (fun pre W W' row hs hg hr => hs.walked hg (fun r e => ⟨by have h1 := (hr r e).1; have h2 := HI0.out.bel.size; omega, (hr r e).2⟩))
  (fun _ _ _ _ _ hs _ _ => hs)
  HI0.out
  (fun (y : LvN q) => { tmps := #[.pointer (some ⟨S, 0, none⟩), .int .u64 (k : Int), .int .i64 x, undef, undef, .pointer (some ⟨w.heap.size, 0, none⟩), .int .i64 0, .pointer (some ⟨w2.heap.size, 0, none⟩), X y.1, .int .u64 ((k / 2 ^ y.1 : Nat) : Int), undef, undef,
   .int .u64 (k : Int), .pointer (some ⟨S, 0, none⟩), .pointer (some ⟨S, 0, none⟩), .pointer (some ⟨S, 0, none⟩), .agg #[.int .i64 b, .int .i64 r, .int .i64 d, .int .i64 m, .int .u64 s], .int .u64 (keysI b r d m 0), .bool false, .pointer (some ⟨S, 0, none⟩), .int .u64 (k : Int),
   .func (.func 170) #[] #[.pointer (some ⟨w3.heap.size, 0, none⟩), .pointer (some ⟨w3.heap.size + 1, 0, none⟩)], X y.1, .int .u64 ((k / 2 ^ y.1 : Nat) : Int), undef, undef, undef, undef, undef, undef, undef, undef, undef, undef, undef, undef, undef, undef, undef, undef, undef, undef, undef], defers := [] }) ?assign ?body ?done ?stop
 case assign =>
  intro l y W K hK
  obtain ⟨t, a, hx⟩ := HXO.out y.1 y.2
  simp only [hx] at hK ⊢
  gi_wp2
  exact hK
 case body =>
  intro l pre y W hI _
  have HI := Lib.hid hI
  have hyb : y.1 ≤ b.toNat := by have := HQ.out; have := y.2; omega
  obtain ⟨f, ⟨TX, hX, hm, hen⟩, PCk⟩ := lvcheck W.drew (X y.1) _ _ _ b r d m s (y.1 : Int) (Z y.1) ((hI.st.lev y.1 hyb).kept (below_drewN (Below.refl _ _) 1)) HRT.out s0 s1 (k / 2 ^ y.1) (shr_small hk64 _) x hx
  rw [show ((k / 2 ^ y.1 : Nat) : Int) = (k : Int) / 2 ^ y.1 by rw [Int.natCast_ediv, Int.natCast_pow]; rfl] at PCk
  have PCk := Lib.hid PCk
  have HI1 : Hid (ChkI w W.drew base S L b r d m s X A G C Z w.heap.size w2.heap.size w4.heap.size x (foldE b r d m s Z k x (vals pre))) := Lib.hid (hI.kept (below_drewN (Below.refl _ _) 1))
  have HF := Lib.hid (foldE_snoc b r d m s Z k x (vals pre) y.1)
  have HEND : Hid (∀ w5 o, Below W.drew.heap.size W.drew w5 → ∀ u, u = foldE b r d m s Z k x (vals (pre ++ [y])) → KeepsOthers W ((w5.alloc o).setCell ⟨w2.heap.size, 0, none⟩ (.int .i64 u)) ∧ KpB [w3.heap.size, w3.heap.size + 1, S, L] W ((w5.alloc o).setCell ⟨w2.heap.size, 0, none⟩ (.int .i64 u)) ∧ ChkI w ((w5.alloc o).setCell ⟨w2.heap.size, 0, none⟩ (.int .i64 u)) base S L b r d m s X A G C Z w.heap.size w2.heap.size w4.heap.size x (foldE b r d m s Z k x (vals (pre ++ [y])))) := Lib.hid (fun w5 o hb u hu => by
   rw [← hu]
   refine hI.round (btr (below_drewN (Below.refl _ _) 1) hb) o HSZ.out u _ (fun i hi => ?_)
   have h1 := HTOP.out; have h2 := HNE.out; have h3 := hI.top
   simp at hi
   omega)
  have HUE : Hid (firstI (foldE b r d m s Z k x (vals pre)) (lvErr b r d m s (y.1 : Int) (Z y.1) (k / 2 ^ y.1) x) = foldE b r d m s Z k x (vals (pre ++ [y]))) := Lib.hid (by rw [vals_snoc, HF.out])
  simp only [hX]
  clear hI hX
  gi_wp2_with fail
  refine wpIn_round_any (by kernel_rfl) (by kernel_rfl) (by rintro ⟨_, _, h⟩; exact h) ?_; generalize W.drew = Wd at *; have q0 := HI1.out.bad.cell 0; have q1 := HI1.out.num.cell 0; simp at q0 q1
  refine tkA (i := 1) (v := ?_) rfl (by kernel_rfl) (fun _ _ _ h => h) (Or.inl ⟨by rfl, ?_⟩) ?_
  rotate_left
  ·intro w
   go_simp
   try with_reducible rfl
  simp only [Act.put, z1, z2, z3, z4, z5, z6]
  refine tkA (i := 2) (v := ?_) rfl (by kernel_rfl) (fun _ _ _ h => h) (Or.inl ⟨by rfl, ?_⟩) ?_
  rotate_left
  ·intro w
   go_simp
   try with_reducible rfl
  simp only [Act.put, z1, z2, z3, z4, z5, z6]
  refine wpAny_ready (rs := [0, 3]) (by kernel_rfl) (by simp) ?_
  refine AllReady.cons rfl (fun Kc hKc => ?_) (AllReady.cons rfl (fun Kc hKc => ?_) AllReady.nil)
  ·have HKc := Lib.hid hKc
   clear hKc
   go_simp
   refine HKc.out _ _ ?_
   clear HKc Kc
   refine wpAny_ready (rs := [3]) (by kernel_rfl) (by simp) ?_
   refine AllReady.cons rfl (fun Kc hKc => ?_) AllReady.nil
   have HKc := Lib.hid hKc
   clear hKc
   go_simp
   refine HKc.out _ _ ?_
   clear HKc Kc
   refine wpAny_ready (rs := [4]) (by kernel_rfl) (by simp) ?_
   refine AllReady.cons rfl (fun Kc hKc => ?_) AllReady.nil
   have HKc := Lib.hid hKc
   clear hKc
   go_simp
   go_wp2_with (first | (with_reducible refine PCk.out.mono ?_; rintro e w5 ⟨rfl, hb⟩; have HI5 := Lib.hid (HI1.out.kept hb); have HP := Lib.hid (HEND.out w5 (.cells #[.int .i64 (foldE b r d m s Z k x (vals pre)), .int .i64 (lvErr b r d m s (y.1 : Int) (Z y.1) (k / 2 ^ y.1) x)] 50) hb _ HUE.out); have q0 := HI5.out.bad.cell 0; simp at q0; clear hb) | (go_at_call 130; refine (first_any w5.heap.size _ _ _ (Blk.new w5 _ _)).mono ?_; rintro e w6 ⟨rfl, hw6⟩; subst hw6; have HI6 := Lib.hid (HI5.out.kept (below_alloc1 w5 (.cells #[.int .i64 (foldE b r d m s Z k x (vals pre)), .int .i64 (lvErr b r d m s (y.1 : Int) (Z y.1) (k / 2 ^ y.1) x)] 50))); have f0 := HI6.out.bad.frozen 0; have q0 := HI6.out.bad.cell 0; simp at q0 f0))
   refine HKc.out _ _ ?_
   clear HKc Kc
   refine wpAny_ready (rs := [5]) (by kernel_rfl) (by simp) ?_
   refine AllReady.cons rfl (fun Kc hKc => ?_) AllReady.nil
   have HKc := Lib.hid hKc
   clear hKc
   go_simp
   refine HKc.out _ _ ?_
   clear HKc Kc
   refine wpAny_ready (rs := [6]) (by kernel_rfl) (by simp) ?_
   refine AllReady.cons rfl (fun Kc hKc => ?_) AllReady.nil
   have HKc := Lib.hid hKc
   clear hKc
   go_simp
   go_wp2_with (first | (with_reducible refine PCk.out.mono ?_; rintro e w5 ⟨rfl, hb⟩; have HI5 := Lib.hid (HI1.out.kept hb); have HP := Lib.hid (HEND.out w5 (.cells #[.int .i64 (foldE b r d m s Z k x (vals pre)), .int .i64 (lvErr b r d m s (y.1 : Int) (Z y.1) (k / 2 ^ y.1) x)] 50) hb _ HUE.out); have q0 := HI5.out.bad.cell 0; simp at q0; clear hb) | (go_at_call 130; refine (first_any w5.heap.size _ _ _ (Blk.new w5 _ _)).mono ?_; rintro e w6 ⟨rfl, hw6⟩; subst hw6; have HI6 := Lib.hid (HI5.out.kept (below_alloc1 w5 (.cells #[.int .i64 (foldE b r d m s Z k x (vals pre)), .int .i64 (lvErr b r d m s (y.1 : Int) (Z y.1) (k / 2 ^ y.1) x)] 50))); have f0 := HI6.out.bad.frozen 0; have q0 := HI6.out.bad.cell 0; simp at q0 f0))
   refine HKc.out _ _ ?_
   clear HKc Kc
   refine wpAny_ready (rs := [7]) (by kernel_rfl) (by simp) ?_
   refine AllReady.cons rfl (fun Kc hKc => ?_) AllReady.nil
   have HKc := Lib.hid hKc
   clear hKc
   go_simp
   refine HKc.out _ _ ?_
   clear HKc Kc
   refine wpAny_done (by kernel_rfl) ?_ _
   gi_wp2
   exact HP.out
  ·have HKc := Lib.hid hKc
   clear hKc
   go_simp
   refine HKc.out _ _ ?_
   clear HKc Kc
   refine wpAny_ready (rs := [0, 4]) (by kernel_rfl) (by simp) ?_
   refine AllReady.cons rfl (fun Kc hKc => ?_) (AllReady.cons rfl (fun Kc hKc => ?_) AllReady.nil)
   ·have HKc := Lib.hid hKc
    clear hKc
    go_simp
    refine HKc.out _ _ ?_
    clear HKc Kc
    refine wpAny_ready (rs := [4]) (by kernel_rfl) (by simp) ?_
    refine AllReady.cons rfl (fun Kc hKc => ?_) AllReady.nil
    have HKc := Lib.hid hKc
    clear hKc
    go_simp
    go_wp2_with (first | (with_reducible refine PCk.out.mono ?_; rintro e w5 ⟨rfl, hb⟩; have HI5 := Lib.hid (HI1.out.kept hb); have HP := Lib.hid (HEND.out w5 (.cells #[.int .i64 (foldE b r d m s Z k x (vals pre)), .int .i64 (lvErr b r d m s (y.1 : Int) (Z y.1) (k / 2 ^ y.1) x)] 50) hb _ HUE.out); have q0 := HI5.out.bad.cell 0; simp at q0; clear hb) | (go_at_call 130; refine (first_any w5.heap.size _ _ _ (Blk.new w5 _ _)).mono ?_; rintro e w6 ⟨rfl, hw6⟩; subst hw6; have HI6 := Lib.hid (HI5.out.kept (below_alloc1 w5 (.cells #[.int .i64 (foldE b r d m s Z k x (vals pre)), .int .i64 (lvErr b r d m s (y.1 : Int) (Z y.1) (k / 2 ^ y.1) x)] 50))); have f0 := HI6.out.bad.frozen 0; have q0 := HI6.out.bad.cell 0; simp at q0 f0))
    refine HKc.out _ _ ?_
    clear HKc Kc
    refine wpAny_ready (rs := [5]) (by kernel_rfl) (by simp) ?_
    refine AllReady.cons rfl (fun Kc hKc => ?_) AllReady.nil
    have HKc := Lib.hid hKc
    clear hKc
    go_simp
    refine HKc.out _ _ ?_
    clear HKc Kc
    refine wpAny_ready (rs := [6]) (by kernel_rfl) (by simp) ?_
    refine AllReady.cons rfl (fun Kc hKc => ?_) AllReady.nil
    have HKc := Lib.hid hKc
    clear hKc
    go_simp
    go_wp2_with (first | (with_reducible refine PCk.out.mono ?_; rintro e w5 ⟨rfl, hb⟩; have HI5 := Lib.hid (HI1.out.kept hb); have HP := Lib.hid (HEND.out w5 (.cells #[.int .i64 (foldE b r d m s Z k x (vals pre)), .int .i64 (lvErr b r d m s (y.1 : Int) (Z y.1) (k / 2 ^ y.1) x)] 50) hb _ HUE.out); have q0 := HI5.out.bad.cell 0; simp at q0; clear hb) | (go_at_call 130; refine (first_any w5.heap.size _ _ _ (Blk.new w5 _ _)).mono ?_; rintro e w6 ⟨rfl, hw6⟩; subst hw6; have HI6 := Lib.hid (HI5.out.kept (below_alloc1 w5 (.cells #[.int .i64 (foldE b r d m s Z k x (vals pre)), .int .i64 (lvErr b r d m s (y.1 : Int) (Z y.1) (k / 2 ^ y.1) x)] 50))); have f0 := HI6.out.bad.frozen 0; have q0 := HI6.out.bad.cell 0; simp at q0 f0))
    refine HKc.out _ _ ?_
    clear HKc Kc
    refine wpAny_ready (rs := [7]) (by kernel_rfl) (by simp) ?_
    refine AllReady.cons rfl (fun Kc hKc => ?_) AllReady.nil
    have HKc := Lib.hid hKc
    clear hKc
    go_simp
    refine HKc.out _ _ ?_
    clear HKc Kc
    refine wpAny_done (by kernel_rfl) ?_ _
    gi_wp2
    exact HP.out
   ·have HKc := Lib.hid hKc
    clear hKc
    go_simp
    go_wp2_with (first | (with_reducible refine PCk.out.mono ?_; rintro e w5 ⟨rfl, hb⟩; have HI5 := Lib.hid (HI1.out.kept hb); have HP := Lib.hid (HEND.out w5 (.cells #[.int .i64 (foldE b r d m s Z k x (vals pre)), .int .i64 (lvErr b r d m s (y.1 : Int) (Z y.1) (k / 2 ^ y.1) x)] 50) hb _ HUE.out); have q0 := HI5.out.bad.cell 0; simp at q0; clear hb) | (go_at_call 130; refine (first_any w5.heap.size _ _ _ (Blk.new w5 _ _)).mono ?_; rintro e w6 ⟨rfl, hw6⟩; subst hw6; have HI6 := Lib.hid (HI5.out.kept (below_alloc1 w5 (.cells #[.int .i64 (foldE b r d m s Z k x (vals pre)), .int .i64 (lvErr b r d m s (y.1 : Int) (Z y.1) (k / 2 ^ y.1) x)] 50))); have f0 := HI6.out.bad.frozen 0; have q0 := HI6.out.bad.cell 0; simp at q0 f0))
    refine HKc.out _ _ ?_
    clear HKc Kc
    refine wpAny_ready (rs := [0]) (by kernel_rfl) (by simp) ?_
    refine AllReady.cons rfl (fun Kc hKc => ?_) AllReady.nil
    have HKc := Lib.hid hKc
    clear hKc
    go_simp
    refine HKc.out _ _ ?_
    clear HKc Kc
    refine wpAny_ready (rs := [5]) (by kernel_rfl) (by simp) ?_
    refine AllReady.cons rfl (fun Kc hKc => ?_) AllReady.nil
    have HKc := Lib.hid hKc
    clear hKc
    go_simp
    refine HKc.out _ _ ?_
    clear HKc Kc
    refine wpAny_ready (rs := [6]) (by kernel_rfl) (by simp) ?_
    refine AllReady.cons rfl (fun Kc hKc => ?_) AllReady.nil
    have HKc := Lib.hid hKc
    clear hKc
    go_simp
    go_wp2_with (first | (with_reducible refine PCk.out.mono ?_; rintro e w5 ⟨rfl, hb⟩; have HI5 := Lib.hid (HI1.out.kept hb); have HP := Lib.hid (HEND.out w5 (.cells #[.int .i64 (foldE b r d m s Z k x (vals pre)), .int .i64 (lvErr b r d m s (y.1 : Int) (Z y.1) (k / 2 ^ y.1) x)] 50) hb _ HUE.out); have q0 := HI5.out.bad.cell 0; simp at q0; clear hb) | (go_at_call 130; refine (first_any w5.heap.size _ _ _ (Blk.new w5 _ _)).mono ?_; rintro e w6 ⟨rfl, hw6⟩; subst hw6; have HI6 := Lib.hid (HI5.out.kept (below_alloc1 w5 (.cells #[.int .i64 (foldE b r d m s Z k x (vals pre)), .int .i64 (lvErr b r d m s (y.1 : Int) (Z y.1) (k / 2 ^ y.1) x)] 50))); have f0 := HI6.out.bad.frozen 0; have q0 := HI6.out.bad.cell 0; simp at q0 f0))
    refine HKc.out _ _ ?_
    clear HKc Kc
    refine wpAny_ready (rs := [7]) (by kernel_rfl) (by simp) ?_
    refine AllReady.cons rfl (fun Kc hKc => ?_) AllReady.nil
    have HKc := Lib.hid hKc
    clear hKc
    go_simp
    refine HKc.out _ _ ?_
    clear HKc Kc
    refine wpAny_done (by kernel_rfl) ?_ _
    gi_wp2
    exact HP.out
 case done =>
  intro D xs W hD hxs hI hK
  subst hxs
  rw [vals_all] at hI
  have hfe : foldE b r d m s Z k x (List.range (q + 1)) = stErr b r d m s Z k x := by
   have h1 := stErr_firsts (s := s) (Z := Z) (x := x) HRT.out HKK.out
   rw [HQ.out] at h1
   exact h1
  rw [hfe] at hI
  have HI := Lib.hid hI
  have HK := Lib.hid hK
  have hDs : w.heap.size ≤ D := by have := HI0.out.bel.size; omega
  have HDS := Lib.hid hDs
  have q0 := hI.bad.cell 0
  simp at q0
  clear hI hfe hK hDs
  by_cases h0 : stErr b r d m s Z k x = 0
  ·have H0 := Lib.hid h0
   rw [h0] at q0
   clear h0
   gi_wp2_with fail
   refine ⟨trivial, ?_⟩
   with_reducible refine (callsIn_wide.2 (stat S (k : Int) W)).mono ?_
   rintro e w5 ⟨rfl, hw5⟩
   obtain ⟨ga, gb, gc, gd⟩ := news2 W (.cells #[.pointer (some ⟨S, 0, none⟩)] 49) (.cells #[.int .u64 (k : Int)] 22)
   rw [← hw5] at ga gb gc gd
   have HGA5 : Hid (Blk w5 W.heap.size 49 #[.pointer (some ⟨S, 0, none⟩)]) := Lib.hid ga
   have HGB5 : Hid (Blk w5 (W.heap.size + 1) 22 #[.int .u64 (k : Int)]) := Lib.hid gb
   have HT5 : Hid (W.heap.size + 2 = w5.heap.size ∧ w4.heap.size ≤ W.heap.size ∧ D < W.heap.size ∧ w.heap.size ≤ W.heap.size) := Lib.hid ⟨gd.symm, HI.out.top, (Array.getElem?_eq_some_iff.1 HK.out).1, HI.out.bel.size⟩
   have HJ0 : Hid (UpdI w w5 base S L b r d m s X A G C Z w.heap.size w5.heap.size D x k []) := Lib.hid ⟨Nat.le_refl _, (HI.out.st.kept gc).setC (fun n _ => rfl), HI.out.num.kept gc, RGr.of_below (btr HI.out.bel gc), (gc.block D HT5.out.2.2.1).trans HK.out⟩
   clear hw5 ga gb gc gd q0
   gi_wp2_with fail
   obtain ⟨capS2, hbx2, -⟩ := HJ0.out.st.box
   obtain ⟨cur2, hrow2, hcur2⟩ := HJ0.out.st.row
   rw [HQ.out] at hbx2 hcur2
   have HLT5 : Hid (S < w5.heap.size ∧ L < w5.heap.size ∧ w.heap.size < w5.heap.size) := Lib.hid ⟨hbx2.lt, hrow2.lt, HJ0.out.num.lt⟩
   refine wpIn_rangeFunc_ownF rfl (by omega) (gf := 170) (lb := #[.pointer (some ⟨W.heap.size, 0, none⟩), .pointer (some ⟨W.heap.size + 1, 0, none⟩)]) rfl trivial (enters_of Tryz.func170 (by kernel_rfl) rfl)
    (st_stops (6 - 1) (by omega) W.heap.size (W.heap.size + 1) S L q capS2 k cur2 X hq59 w5 HXO.out HGA5.out HGB5.out ⟨_, _, _, _, _, hbx2⟩ hrow2 hcur2) KpB.trans (KpB.put (by
     have h1 := HT5.out; have h2 := HLT5.out
     intro i hi
     simp at hi
     omega)) (Below.refl _ _) (fun _ => rfl)
    (fun (pre : List (LvN q)) W' => UpdI w W' base S L b r d m s X A G C Z w.heap.size w5.heap.size D x k (vals pre))
    (fun _ _ _ => False)
    (fun pre W1 W2 row hs hg hr => hs.walked (B := w5.heap.size) (by have := HT5.out; omega) (by have := HT5.out; omega) hg hr)
    (fun _ _ _ _ _ hs _ _ => hs)
    HJ0.out
    (fun (y : LvN q) => { tmps := #[.pointer (some ⟨S, 0, none⟩), .int .u64 (k : Int), .int .i64 x, undef, undef, .pointer (some ⟨w.heap.size, 0, none⟩), .int .i64 0, .pointer (some ⟨w2.heap.size, 0, none⟩), undef, undef, X y.1, .int .u64 ((k / 2 ^ y.1 : Nat) : Int),
     .int .u64 (k : Int), .pointer (some ⟨S, 0, none⟩), .pointer (some ⟨S, 0, none⟩), .pointer (some ⟨S, 0, none⟩), .agg #[.int .i64 b, .int .i64 r, .int .i64 d, .int .i64 m, .int .u64 s], .int .u64 (keysI b r d m 0), .bool false, .pointer (some ⟨S, 0, none⟩), .int .u64 (k : Int),
     .func (.func 170) #[] #[.pointer (some ⟨w3.heap.size, 0, none⟩), .pointer (some ⟨w3.heap.size + 1, 0, none⟩)], undef, undef, undef, undef, undef, undef, undef, undef, undef, .int .i64 0, .bool false, undef, .pointer (some ⟨S, 0, none⟩), .int .u64 (k : Int),
     .func (.func 170) #[] #[.pointer (some ⟨W.heap.size, 0, none⟩), .pointer (some ⟨W.heap.size + 1, 0, none⟩)], X y.1, .int .u64 ((k / 2 ^ y.1 : Nat) : Int), undef, undef, undef, undef], defers := [] }) ?assign2 ?body2 ?done2 ?stop2
   case assign2 =>
    intro l y W K hK
    obtain ⟨t, a, hx⟩ := HXO.out y.1 y.2
    simp only [hx] at hK ⊢
    gi_wp2
    exact hK
   case body2 =>
    intro l pre y W1 hI1 _
    have hyb : y.1 ≤ b.toNat := by have := HQ.out; have := y.2; omega
    have HI1 := Lib.hid hI1
    obtain ⟨f, ⟨TX, hX, hm, hen⟩, PUp⟩ := lvupdate W1 (X y.1) _ _ _ b r d m s (y.1 : Int) _ (hI1.st.lev y.1 hyb) HRT.out s0 s1 (k / 2 ^ y.1) (shr_small hk64 _) x hx
    obtain ⟨curC, hC⟩ := (hI1.st.lev y.1 hyb).cells
    obtain ⟨capS3, hb3, -⟩ := hI1.st.box
    obtain ⟨cur3, hr3, -⟩ := hI1.st.row
    have HNE3 : Hid (∀ i ∈ [W.heap.size, W.heap.size + 1, S, L], i < W1.heap.size ∧ i ≠ C y.1) := Lib.hid (by
     have h1 := HT5.out; have h2 := HLT5.out; have h3 := hI1.top
     have n1 := hb3.ne_ hC (by decide)
     have n2 := hr3.ne_ hC (by decide)
     have n3 : C y.1 < W.heap.size := by
      obtain ⟨c2, h5⟩ := (HI.out.st.lev y.1 hyb).cells
      exact h5.lt
     intro i hi
     simp at hi
     omega)
    have HBN : Hid (w.heap.size ≠ C y.1) := Lib.hid (by have := HCL.out y.1 hyb; omega)
    have PUp2 : Calls Tryz.prog f #[.pointer (some ⟨A y.1, 0, none⟩), .int .u64 ((k : Int) / 2 ^ y.1), .int .i64 x] W1 fun e W2 => (∃ v, e = .returned v) ∧ KeepsOthers W1 W2 ∧ KpB [W.heap.size, W.heap.size + 1, S, L] W1 W2 ∧ UpdI w W2 base S L b r d m s X A G C Z w.heap.size w5.heap.size D x k (vals (pre ++ [y])) := by
     rw [show ((k / 2 ^ y.1 : Nat) : Int) = (k : Int) / 2 ^ y.1 by rw [Int.natCast_ediv, Int.natCast_pow]; rfl] at PUp
     refine PUp.mono (fun e W2 hp => ?_)
     have hp2 := hp
     obtain ⟨he, -, hg⟩ := hp2
     refine ⟨⟨_, he⟩, kept_others hg (fun g e => ⟨_, _, by cases e; exact hC⟩), KpB.of_grown hg (fun i hi => ⟨(HNE3.out i hi).1, by simpa using (HNE3.out i hi).2⟩), ?_⟩
     rw [vals_snoc]
     exact HI1.out.next (by have := HLT5.out; omega) hyb HBN.out hp
    have PUp2 := Lib.hid PUp2
    have q1 := hI1.num.cell 0
    simp at q1
    simp only [hX]
    clear hI1 hX PUp hC hb3 hr3
    gi_wp2_with fail
    refine ⟨trivial, ?_⟩
    with_reducible refine (CallsIn.inRound l (callsIn_wide.2 PUp2.out)).mono ?_
    rintro e W2 ⟨⟨v, rfl⟩, hp⟩
    have HP := Lib.hid hp
    clear hp q1
    gi_wp2
    exact HP.out
   case done2 =>
    intro D2 xs W2 hD2 hxs hI2 hK2
    subst hxs
    rw [vals_all] at hI2
    have hne : D ≠ D2 := by have := HT5.out; omega
    have g1 := grownBy_putObj' W2 D2 (.deferred none)
    have hK1 : (W2.putObj D2 (.deferred none)).heap[D]? = some (.deferred (some [])) := (World.putObj_heap_other hne).trans hI2.mark
    have g2 := grownBy_putObj' (W2.putObj D2 (.deferred none)) D (.deferred none)
    have HP : Hid (StUpPost w base S L b r d m s X A G C Z k x (.returned (.int .i64 0)) ((W2.putObj D2 (.deferred none)).putObj D (.deferred none))) := Lib.hid (by
     refine ⟨by rw [H0.out], ?_, ?_⟩
     ·refine ((hI2.st.walked g1 (fun r e => by cases e; exact ⟨_, hK2, rfl⟩)).walked g2 (fun r e => by cases e; exact ⟨_, hK1, rfl⟩)).setC (fun n hn => ?_)
      have hc : (List.range (q + 1)).count n = 1 := by
       rw [HQ.out] at hn
       rw [count_upto, if_pos (by omega)]
      unfold stUpd
      rw [if_pos H0.out, hc]
      rfl
     ·exact (hI2.gr.grown g1 (fun r e => .inl (by cases e; have := HT5.out; omega))).grown g2 (fun r e => .inl (by cases e; exact HDS.out)))
    have HK1 := Lib.hid hK1
    have HK2 := Lib.hid hK2
    clear hI2 g1 g2 hK1 hK2
    gi_wp2
    refine ⟨by simp, .inl ⟨_, _, rfl, run_takeDeferred HK2.out, by simp, .inl ⟨_, _, rfl, run_takeDeferred HK1.out, ?_⟩⟩⟩
    refine ⟨.int .i64 0, ?_, HP.out⟩
    simp [results, Tryz.results87, go_sem]
   case stop2 =>
    intro D c pre W _ _ h _
    exact h.elim
  ·have n1 : (stErr b r d m s Z k x != 0) = true := by simp [h0]
   have HU : Hid (∀ n, stUpd b r d m s Z k x n = Z n) := Lib.hid (fun n => by unfold stUpd; rw [if_neg h0])
   have HP : Hid (StUpPost w base S L b r d m s X A G C Z k x (.returned (.int .i64 (stErr b r d m s Z k x))) (W.putObj D (.deferred none))) := Lib.hid
    ⟨rfl, (HI.out.st.walked (grownBy_putObj' W D _) (fun r e => by cases e; exact ⟨_, HK.out, rfl⟩)).setC (fun n _ => (HU.out n).symm), (RGr.of_below HI.out.bel).grown (grownBy_putObj' W D _) (fun r e => .inl (by cases e; exact HDS.out))⟩
   generalize stErr b r d m s Z k x = e0 at *
   clear h0
   gi_wp2
   refine ⟨by simp, .inl ⟨_, _, rfl, run_takeDeferred HK.out, ?_⟩⟩
   refine ⟨.int .i64 e0, ?_, HP.out⟩
   simp [results, Tryz.results87, go_sem]
 case stop =>
  intro D c pre W _ _ h _
  exact h.elim
theorem stupdate (w : World) (base S L : Nat) (b r d m s : Int) (X : Nat → Value) (A G C : Nat → Nat) (Z : Nat → List Int) (h : StIs w base S L b r d m s X A G C Z) (s0 : 0 ≤ s) (s1 : s ≤ 18446744073709551615) (k : Nat) (hk64 : k < 18446744073709551616) (x : Int) (hx : In64 x) :
    Calls Tryz.prog 87 #[.pointer (some ⟨S, 0, none⟩), .int .u64 (k : Int), .int .i64 x] w (StUpPost w base S L b r d m s X A G C Z k x) := by
  by_cases hk : keysI b r d m 0 ≤ (k : Int)
  · exact stupdate_key w base S L b r d m s X A G C Z h k x hk
  · exact stupdate_in w base S L b r d m s X A G C Z h s0 s1 k hk64 x hx (by omega)
end Go.Proofs.YtfeficdndjiijaaGreatDoor


namespace Go.Proofs.YtfeficdndjiijaaGreatDoor
open Go.RowKit
set_option linter.unusedVariables false
set_option linter.unusedSimpArgs false

def pc2 (p : Nat × Nat) : List Value := [.int .i64 (p.1 : Int), .int .u64 (p.2 : Int)]
structure PcAt (w : World) (g : Nat) (l : List (Nat × Nat)) : Prop where
  lt : g < w.heap.size
  nofr : ∀ o, w.frozen? ⟨g, o, none⟩ = false
  rng : ∀ t p, l[t]? = some p → w.rangeAt g (t * 2) (pc2 p)
theorem rangeBlock {w w' : World} {g o : Nat} {cs : List Value} (h : w.rangeAt g o cs) (e : w'.heap[g]? = w.heap[g]?) : w'.rangeAt g o cs := fun j v hv => by
  rw [World.cell?_of_block (by exact e)]
  exact h j v hv
theorem PcAt.of_block {w w' : World} {g : Nat} {l : List (Nat × Nat)} (h : PcAt w g l) (e : w'.heap[g]? = w.heap[g]?) : PcAt w' g l := by
  refine ⟨?_, fun o => ?_, fun t p hp => rangeBlock (h.rng t p hp) e⟩
  · have h1 := h.lt
    rcases Nat.lt_or_ge g w'.heap.size with h2 | h2
    · exact h2
    · rw [Array.getElem?_eq_none h2, Array.getElem?_eq_getElem h1] at e
      cases e
  · rw [World.frozen?_of_block (by exact e)]
    exact h.nofr o
theorem PcAt.kept {w w' : World} {g : Nat} {l : List (Nat × Nat)} (h : PcAt w g l) (hb : Below w.heap.size w w') : PcAt w' g l := h.of_block (hb.block g h.lt)
theorem PcAt.there {w : World} {g : Nat} {l : List (Nat × Nat)} (h : PcAt w g l) {t : Nat} (ht : t < l.length) : w.there g (t * 2) 2 := fun j hj =>
  ⟨(h.rng t _ (List.getElem?_eq_getElem ht)).isSome j (by simpa [pc2] using hj), h.nofr _⟩
theorem sizeSetC (g : Nat) : ∀ (vs : List Value) (o : Nat) (w : World), (w.setCells g o vs).heap.size = w.heap.size
  | [], _, _ => rfl
  | v :: vs, o, w => by
    show ((w.setCell ⟨g, o, none⟩ v).setCells g (o + 1) vs).heap.size = _
    rw [sizeSetC g vs]
    simp [World.setCell]
theorem PcAt.set {w : World} {g : Nat} {l : List (Nat × Nat)} (h : PcAt w g l) {i : Nat} (hi : i < l.length) (p : Nat × Nat) : PcAt (w.setCells g (i * 2) (pc2 p)) g (l.set i p) := by
  refine ⟨by rw [sizeSetC]; exact h.lt, fun o => by rw [World.frozen?_setCells]; exact h.nofr o, fun t q hq => ?_⟩
  rw [List.getElem?_set] at hq
  by_cases e : i = t
  · subst e
    rw [if_pos rfl, if_pos hi] at hq
    cases hq
    exact World.rangeAt_setCells_same _ _ _ _ (h.there hi)
  · rw [if_neg e] at hq
    exact World.rangeAt_setCells_apart (h.rng t q hq) _ _ _ (.inr (by simp [pc2]; omega))
theorem grownSetCells (w : World) (g : Nat) : ∀ (vs : List Value) (o : Nat) (w1 : World), w.grownBy w1 (some g) → w.grownBy (w1.setCells g o vs) (some g)
  | [], _, _, h => h
  | v :: vs, o, w1, h => grownSetCells w g vs (o + 1) _ ⟨h.os, h.tape, h.output, by have := h.size; simpa [World.setCell] using this, fun k hk hne => by
    rw [show (w1.setCell ⟨g, o, none⟩ v).heap[k]? = w1.heap[k]? from Below.heap_setCell _ _ _ _ (by intro e; exact hne (by rw [e]))]
    exact h.block k hk hne⟩
theorem grRefl (w : World) (r : Option Nat) : w.grownBy w r := ⟨rfl, rfl, rfl, Nat.le_refl _, fun _ _ _ => rfl⟩
theorem grDrew {w w1 : World} {r : Option Nat} (h : w.grownBy w1 r) : w.grownBy { heap := w1.heap, tape := w1.tape, drawn := w1.drawn + 1, os := w1.os, output := w1.output } r := ⟨h.os, h.tape, h.output, h.size, h.block⟩
theorem PcAt.drew {w1 : World} {g : Nat} {l : List (Nat × Nat)} (h : PcAt w1 g l) : PcAt { heap := w1.heap, tape := w1.tape, drawn := w1.drawn + 1, os := w1.os, output := w1.output } g l := h.of_block rfl
theorem pc2_info (p : Nat × Nat) : (Tryz.prog.info? 155).map (·.size) = some (pc2 p).toArray.size := by
  show _ = some 2
  kernel_rfl
theorem pc2_one (p : Nat × Nat) : (pc2 p).toArray.all (·.oneCell') = true := by simp [pc2, Value.oneCell']
def IsRv {α : Type} (l y : List α) (k : Nat) : Prop := y.length = l.length ∧ ∀ t, t < l.length → y[t]? = if t < k ∨ l.length ≤ t + k then l[l.length - 1 - t]? else l[t]?
theorem IsRv.zero {α : Type} (l : List α) : IsRv l l 0 := ⟨rfl, fun t ht => by rw [if_neg (by omega)]⟩
theorem IsRv.next {α : Type} {l y : List α} {k q : Nat} (h : IsRv l y k) (hq : q = l.length - 1 - k) (hk : k < q) {u v : α} (hu : y[k]? = some u) (hv : y[q]? = some v) : IsRv l ((y.set k v).set q u) (k + 1) := by
  refine ⟨by simp [h.1], fun t ht => ?_⟩
  have h1 := h.2 k (by omega)
  have h2 := h.2 q (by omega)
  rw [if_neg (by omega), hu] at h1
  rw [if_neg (by omega), hv] at h2
  rw [List.getElem?_set, List.getElem?_set]
  simp only [List.length_set, h.1]
  by_cases e : q = t
  · subst e
    rw [if_pos rfl, if_pos ht, if_pos (by omega), h1]
    congr 1
    omega
  · rw [if_neg e]
    by_cases e2 : k = t
    · subst e2
      rw [if_pos rfl, if_pos (by omega), if_pos (by omega), h2, hq]
    · rw [if_neg e2, h.2 t ht]
      have : (t < k ∨ l.length ≤ t + k) ↔ (t < k + 1 ∨ l.length ≤ t + (k + 1)) := by omega
      simp only [this]
theorem IsRv.done {α : Type} {l y : List α} {k : Nat} (h : IsRv l y k) (hk : l.length ≤ 2 * k + 1) : y = l.reverse := by
  apply List.ext_getElem?
  intro t
  by_cases ht : t < l.length
  · rw [h.2 t ht, List.getElem?_reverse ht]
    split
    · rfl
    · congr 1; omega
  · rw [List.getElem?_eq_none (by rw [h.1]; omega), List.getElem?_eq_none (by simp; omega)]
set_option maxRecDepth 100000 in
set_option maxHeartbeats 8000000 in
theorem pcrev (g cap : Nat) (l : List (Nat × Nat)) (hlen : l.length ≤ 100000) (w : World) (h : PcAt w g l) :
  Calls Tryz.prog 212 #[.slice (some ⟨g, 0, none⟩) l.length cap] w fun e w' => e = .returned (.tuple #[]) ∧ PcAt w' g l.reverse ∧ w.grownBy w' (some g) := by
 obtain ⟨L, hL⟩ : ∃ L, L = l.length := ⟨_, rfl⟩
 have HL := Lib.hid hL
 rw [← hL] at hlen ⊢
 have HF := Lib.hid h
 clear h hL
 have hL1 : IntKind.i64.wrap ((L : Int) - 1) = (L : Int) - 1 := wrapI_of _ (by omega) (by omega)
 go_enter Tryz.func212, Tryz.ntmps212
 go_wp2_with fail
 go_loopw [2, 3] (fun i j wr => ∃ (k : Nat) (jv : Int) (y : List (Nat × Nat)), i = .int .i64 (k : Int) ∧ j = .int .i64 jv ∧ jv = (L : Int) - 1 - (k : Int) ∧ 2 * k ≤ L + 1 ∧ PcAt wr g y ∧ w.grownBy wr (some g) ∧ IsRv l y k) (fun i _ _ => L + 1 - (intOf i).toNat)
 case atStart => exact ⟨0, (L : Int) - 1, l, rfl, rfl, by omega, by omega, HF.out, grRefl _ _, IsRv.zero _⟩
 case round =>
  obtain ⟨k, jv, y, rfl, rfl, hjv, hk, hf, hg, hs⟩ := hrel
  have HFY := Lib.hid hf
  have HG := Lib.hid hg
  have HS := Lib.hid hs
  clear hf hg hs
  by_cases hkn : (k : Int) < jv
  ·obtain ⟨q, hq⟩ : ∃ q : Nat, jv = (q : Int) := ⟨jv.toNat, by omega⟩
   subst hq
   have hkL : (k : Int) < (L : Int) := by omega
   have hqL : (q : Int) < (L : Int) := by omega
   have hk0 : (0 : Int) ≤ (k : Int) := by omega
   have hq0 : (0 : Int) ≤ (q : Int) := by omega
   have hyl : y.length = L := by rw [HS.out.1, HL.out]
   obtain ⟨u, hu⟩ : ∃ u, y[k]? = some u := ⟨_, List.getElem?_eq_getElem (by omega)⟩
   obtain ⟨v, hv⟩ : ∃ v, y[q]? = some v := ⟨_, List.getElem?_eq_getElem (by omega)⟩
   have HPQ : Hid (q = L - 1 - k ∧ k < q ∧ y.length = L ∧ y[k]? = some u ∧ y[q]? = some v) := Lib.hid ⟨by omega, by omega, hyl, hu, hv⟩
   have HJ := Lib.hid hjv
   clear hyl hu hv hjv
   go_wp2_with fail
   have HFD := Lib.hid HFY.out.drew
   have HGD := Lib.hid (grDrew HG.out)
   refine wp_region_any (by kernel_rfl) ?_
   generalize ({ heap := wr.heap, tape := wr.tape, drawn := wr.drawn + 1, os := wr.os, output := wr.output } : World) = wd at *
   have hlp := HFD.out.rng k u HPQ.out.2.2.2.1
   have hlq := HFD.out.rng q v HPQ.out.2.2.2.2
   refine tkA (i := 2) (v := ?_) rfl (by kernel_rfl) (fun _ _ _ h => h) (Or.inl ⟨by rfl, ?_⟩) ?_
   rotate_left
   ·intro w
    go_simp
    try with_reducible rfl
   simp only [Act.put, z1, z2, z3, z4, z5, z6]
   refine tkA (i := 3) (v := ?_) rfl (by kernel_rfl) (fun _ _ _ h => h) (Or.inl ⟨by rfl, ?_⟩) ?_
   rotate_left
   ·intro w
    go_simp
    try with_reducible rfl
   simp only [Act.put, z1, z2, z3, z4, z5, z6]
   refine wpAny_still_tail [true, true, false, false, true, true, true, true, true, true, true, true, true] [2, 3] _ (by kernel_rfl) (by kernel_rfl) ?_
   simp only [dropAt, List.length_cons, List.length_nil, List.drop_succ_cons, List.drop_zero]
   repeat (first | refine wpStill_load_mid (by rfl) 155 _ rfl g (k * 2) rfl (pc2 u) _ hlp Tryz.underlying155 rfl (by kernel_rfl) ?_ | refine wpStill_load_mid (by rfl) 155 _ rfl g (q * 2) rfl (pc2 v) _ hlq Tryz.underlying155 rfl (by kernel_rfl) ?_ | still_step)
   refine wpStill_nil ?_
   try simp only [Act.put, z1, z2, z3, z4, z5, z6]
   have ht1 := HFD.out.there (t := k) (by have := HPQ.out.2.2.1; omega)
   have hf2 := HFD.out.set (i := k) (by have := HPQ.out.2.2.1; omega) v
   have ht2 := hf2.there (t := q) (by have := HPQ.out.2.2.1; simp; omega)
   have HF3 : Hid (PcAt ((wd.setCells g (k * 2) (pc2 v).toArray.toList).setCells g (q * 2) (pc2 u).toArray.toList) g ((y.set k v).set q u)) := Lib.hid (hf2.set (i := q) (by have := HPQ.out.2.2.1; simp; omega) u)
   have HG3 : Hid (w.grownBy ((wd.setCells g (k * 2) (pc2 v).toArray.toList).setCells g (q * 2) (pc2 u).toArray.toList) (some g)) := Lib.hid (grownSetCells w g (pc2 u) (q * 2) _ (grownSetCells w g (pc2 v) (k * 2) _ HGD.out))
   have HS3 : Hid (IsRv l ((y.set k v).set q u) (k + 1)) := Lib.hid (HS.out.next (by rw [← HL.out]; exact HPQ.out.1) HPQ.out.2.1 HPQ.out.2.2.2.1 HPQ.out.2.2.2.2)
   have HT1 := Lib.hid ht1
   have HT2 := Lib.hid ht2
   clear hf2 hlp hlq ht1 ht2
   refine wpList_store_mid rfl 155 _ _ rfl g (k * 2) (pc2 v).toArray rfl (by rfl) HT1.out (pc2_info v) (pc2_one v) ?_
   iterate 3 go_step
   refine wpList_store_mid rfl 155 _ _ rfl g (q * 2) (pc2 u).toArray rfl (by rfl) HT2.out (pc2_info u) (pc2_one u) ?_
   generalize ((wd.setCells g (k * 2) (pc2 v).toArray.toList).setCells g (q * 2) (pc2 u).toArray.toList) = w3 at *
   go_wp2_with fail
   go_roundw
   case rel => exact ⟨k + 1, (q : Int) - 1, _, by go_num, by go_num, by have := HJ.out; omega, by have := HJ.out; have := HPQ.out.2.1; omega, HF3.out, HG3.out, HS3.out⟩
   case measure => simp [intOf]; omega
  ·have HR : Hid (PcAt wr g l.reverse) := Lib.hid (by rw [← HS.out.done (by rw [← HL.out]; omega)]; exact HFY.out)
   go_wp2_with fail
   go_end0
   exact ⟨rfl, HR.out, HG.out⟩
end Go.Proofs.YtfeficdndjiijaaGreatDoor


namespace Go.Proofs.YtfeficdndjiijaaGreatDoor
open Go.RowKit
set_option linter.unusedVariables false
set_option linter.unusedSimpArgs false

def pCells (l : List (Nat × Nat)) : List Value := l.flatMap pc2
theorem pCells_append (a b : List (Nat × Nat)) : pCells (a ++ b) = pCells a ++ pCells b := by simp [pCells]
theorem pCells_len (l : List (Nat × Nat)) : (pCells l).length = l.length * 2 := by
  induction l with
  | nil => rfl
  | cons a r ih =>
    show (pc2 a ++ pCells r).length = _
    rw [List.length_append, ih]
    simp [pc2]
    omega
structure CvI (w0 wr : World) (O R : Nat) (vo vr : Value) (ol rl : List (Nat × Nat)) : Prop where
  bo : Blk wr O 256 #[vo]
  br : Blk wr R 256 #[vr]
  oo : wr.ownsRow w0.heap.size 155 2 vo ol.length (pCells ol)
  ro : wr.ownsRow w0.heap.size 155 2 vr rl.length (pCells rl)
  sep : ∀ k, vo.ownBlock = some k → vr.ownBlock ≠ some k
  bel : Below w0.heap.size w0 wr
  lo : w0.heap.size ≤ O ∧ w0.heap.size ≤ R ∧ O ≠ R
theorem ownBlk {w : World} {base n s : Nat} {t : TypeId} {v : Value} {xs : List Value} (h : w.ownsRow base t s v n xs) : ∀ k, v.ownBlock = some k → ∃ cs, Blk w k t cs := by
  intro k hk
  rcases h.2 with ⟨rfl, h0⟩ | ⟨g, cap, cur, rfl, hb, hg, -⟩
  · simp [Value.ownBlock] at hk
  · simp [Value.ownBlock] at hk
    subst hk
    exact ⟨cur, hg⟩
theorem ownKeep {w w' : World} {base : Nat} {e : TypeId} {size : Nat} {v : Value} {n : Nat} {xs : List Value} (h : w.ownsRow base e size v n xs) {row : Option Nat} (hg : w.grownBy w' row) (hne : ∀ k, v.ownBlock = some k → row ≠ some k) : w'.ownsRow base e size v n xs :=
  World.ownsRow.kept h hg (by
    cases hv : v.ownBlock with
    | none => exact .inl rfl
    | some k => exact .inr (fun e => hne k hv e.symm))
theorem CvI.midO {w0 wr w2 : World} {O R : Nat} {vo vr v' : Value} {ol rl : List (Nat × Nat)} (h : CvI w0 wr O R vo vr ol rl) (p : Nat × Nat) (hown : w2.ownsRow w0.heap.size 155 2 v' (ol.length + 1) (pCells ol ++ [.int .i64 (p.1 : Int), .int .u64 (p.2 : Int)])) (hg : (wr.alloc (.cells #[.int .i64 (p.1 : Int), .int .u64 (p.2 : Int)] 155)).grownBy w2 vo.ownBlock)
  (hl : v'.ownBlock = vo.ownBlock ∨ v'.ownBlock = some (wr.alloc (.cells #[.int .i64 (p.1 : Int), .int .u64 (p.2 : Int)] 155)).heap.size) : Blk w2 O 256 #[vo] ∧ CvI w0 (w2.setCell ⟨O, 0, none⟩ v') O R v' vr (ol ++ [p]) rl := by
 have hb1 : Below wr.heap.size wr (wr.alloc (.cells #[.int .i64 (p.1 : Int), .int .u64 (p.2 : Int)] 155)) := (Below.refl _ wr).alloc (Nat.le_refl _) _
 generalize (wr.alloc (.cells #[.int .i64 (p.1 : Int), .int .u64 (p.2 : Int)] 155)) = w1 at *
 have hP1 := h.bo.kept hb1
 have hQ1 := h.br.kept hb1
 have hM1 := ownKeep h.oo (below_gr (row := none) hb1) (fun k _ => by simp)
 have hT1 := ownKeep h.ro (below_gr (row := none) hb1) (fun k _ => by simp)
 have hneP : some O ≠ vo.ownBlock := fun e => by
  obtain ⟨cs, hc⟩ := ownBlk hM1 O e.symm
  exact absurd rfl (hP1.ne_ hc (by decide))
 have hneQ : some R ≠ vo.ownBlock := fun e => by
  obtain ⟨cs, hc⟩ := ownBlk hM1 R e.symm
  exact absurd rfl (hQ1.ne_ hc (by decide))
 have hP2 := hP1.grown hg hneP
 have hQ2 := hQ1.grown hg hneQ
 have hT2 := ownKeep hT1 hg (fun k hk e => h.sep k e hk)
 have hbel1 : Below w0.heap.size w0 w1 := h.bel.trans (hb1.mono h.bel.size)
 have hbel2 : Below w0.heap.size w0 w2 := hbel1.grown hg hbel1.size (fun k e => (hM1.lt k e).1)
 have hgs : w2.grownBy (w2.setCell ⟨O, 0, none⟩ v') (some O) := gr_setC (World.grownBy.refl _ _) 0 _
 refine ⟨hP2, { bo := by simpa using hP2.set_ 0 v', br := hQ2.grown hgs (by simpa using (Ne.symm h.lo.2.2)), oo := ?mine, ro := ?other, sep := ?sp, bel := hbel2.setCell h.lo.1 _, lo := h.lo }⟩
 case mine =>
  have e1 : pCells (ol ++ [p]) = pCells ol ++ [.int .i64 (p.1 : Int), .int .u64 (p.2 : Int)] := by rw [pCells_append]; rfl
  rw [e1, List.length_append]
  refine ownKeep hown hgs (fun k hk e => ?_)
  have e := Option.some.inj e
  obtain ⟨cs, hc⟩ := ownBlk hown k hk
  rw [← e] at hc
  exact absurd rfl (hP2.ne_ hc (by decide))
 case other =>
  refine ownKeep hT2 hgs (fun k hk e => ?_)
  have e := Option.some.inj e
  obtain ⟨cs, hc⟩ := ownBlk hT2 k hk
  rw [← e] at hc
  exact absurd rfl (hP2.ne_ hc (by decide))
 case sp =>
  intro k hk hk2
  have hlt := fun q hq => (hT1.lt q hq).2
  rcases hl with e | e
  ·rw [e] at hk; exact h.sep k hk hk2
  ·rw [e] at hk
   have := hlt k hk2
   have := Option.some.inj hk
   omega
theorem CvI.midR {w0 wr w2 : World} {O R : Nat} {vo vr v' : Value} {ol rl : List (Nat × Nat)} (h : CvI w0 wr O R vo vr ol rl) (p : Nat × Nat) (hown : w2.ownsRow w0.heap.size 155 2 v' (rl.length + 1) (pCells rl ++ [.int .i64 (p.1 : Int), .int .u64 (p.2 : Int)])) (hg : (wr.alloc (.cells #[.int .i64 (p.1 : Int), .int .u64 (p.2 : Int)] 155)).grownBy w2 vr.ownBlock)
  (hl : v'.ownBlock = vr.ownBlock ∨ v'.ownBlock = some (wr.alloc (.cells #[.int .i64 (p.1 : Int), .int .u64 (p.2 : Int)] 155)).heap.size) : Blk w2 R 256 #[vr] ∧ CvI w0 (w2.setCell ⟨R, 0, none⟩ v') O R vo v' ol (rl ++ [p]) := by
 have hb1 : Below wr.heap.size wr (wr.alloc (.cells #[.int .i64 (p.1 : Int), .int .u64 (p.2 : Int)] 155)) := (Below.refl _ wr).alloc (Nat.le_refl _) _
 generalize (wr.alloc (.cells #[.int .i64 (p.1 : Int), .int .u64 (p.2 : Int)] 155)) = w1 at *
 have hP1 := h.br.kept hb1
 have hQ1 := h.bo.kept hb1
 have hM1 := ownKeep h.ro (below_gr (row := none) hb1) (fun k _ => by simp)
 have hT1 := ownKeep h.oo (below_gr (row := none) hb1) (fun k _ => by simp)
 have hneP : some R ≠ vr.ownBlock := fun e => by
  obtain ⟨cs, hc⟩ := ownBlk hM1 R e.symm
  exact absurd rfl (hP1.ne_ hc (by decide))
 have hneQ : some O ≠ vr.ownBlock := fun e => by
  obtain ⟨cs, hc⟩ := ownBlk hM1 O e.symm
  exact absurd rfl (hQ1.ne_ hc (by decide))
 have hP2 := hP1.grown hg hneP
 have hQ2 := hQ1.grown hg hneQ
 have hT2 := ownKeep hT1 hg (fun k hk e => h.sep k hk e)
 have hbel1 : Below w0.heap.size w0 w1 := h.bel.trans (hb1.mono h.bel.size)
 have hbel2 : Below w0.heap.size w0 w2 := hbel1.grown hg hbel1.size (fun k e => (hM1.lt k e).1)
 have hgs : w2.grownBy (w2.setCell ⟨R, 0, none⟩ v') (some R) := gr_setC (World.grownBy.refl _ _) 0 _
 refine ⟨hP2, { br := by simpa using hP2.set_ 0 v', bo := hQ2.grown hgs (by simpa using h.lo.2.2), ro := ?mine, oo := ?other, sep := ?sp, bel := hbel2.setCell h.lo.2.1 _, lo := h.lo }⟩
 case mine =>
  have e1 : pCells (rl ++ [p]) = pCells rl ++ [.int .i64 (p.1 : Int), .int .u64 (p.2 : Int)] := by rw [pCells_append]; rfl
  rw [e1, List.length_append]
  refine ownKeep hown hgs (fun k hk e => ?_)
  have e := Option.some.inj e
  obtain ⟨cs, hc⟩ := ownBlk hown k hk
  rw [← e] at hc
  exact absurd rfl (hP2.ne_ hc (by decide))
 case other =>
  refine ownKeep hT2 hgs (fun k hk e => ?_)
  have e := Option.some.inj e
  obtain ⟨cs, hc⟩ := ownBlk hT2 k hk
  rw [← e] at hc
  exact absurd rfl (hP2.ne_ hc (by decide))
 case sp =>
  intro k hk hk2
  have hlt := fun q hq => (hT1.lt q hq).2
  rcases hl with e | e
  ·rw [e] at hk2; exact h.sep k hk hk2
  ·rw [e] at hk2
   have := hlt k hk
   have := Option.some.inj hk2
   omega
end Go.Proofs.YtfeficdndjiijaaGreatDoor


namespace Go.Proofs.YtfeficdndjiijaaGreatDoor
open Go.RowKit
set_option linter.unusedVariables false
set_option linter.unusedSimpArgs false

theorem pcAt_of_own {w : World} {base g cap : Nat} {l : List (Nat × Nat)} (h : w.ownsRow base 155 2 (.slice (some ⟨g, 0, none⟩) l.length cap) l.length (pCells l)) : PcAt w g l := by
 rcases h.2 with ⟨e, h0⟩ | ⟨g', cap', cur, e, hb, hg, hnc, hcm, hsz, htake⟩
 ·cases e
 ·simp only [Value.slice.injEq, Option.some.injEq, Addr.mk.injEq] at e
  obtain ⟨⟨rfl, -⟩, -, rfl⟩ := e
  refine ⟨(show Blk w g 155 cur from hg).lt, fun o => (show Blk w g 155 cur from hg).frozen o, fun t p hp => ?_⟩
  refine blkRange (show Blk w g 155 cur from hg) _ _ (fun j u hu => ?_)
  have hj : j < 2 := by have := (List.getElem?_eq_some_iff.1 hu).1; simpa [pc2] using this
  have key : ∀ (l : List (Nat × Nat)) (t : Nat), l[t]? = some p → (pCells l)[t * 2 + j]? = some u := by
   intro l
   induction l with
   | nil => intro t ht; simp at ht
   | cons a r ih =>
    intro t ht
    cases t with
    | zero =>
     simp at ht
     subst ht
     show (pc2 a ++ pCells r)[0 * 2 + j]? = _
     rw [List.getElem?_append_left (by simp [pc2]; omega)]
     simpa using hu
    | succ t =>
     simp only [List.getElem?_cons_succ] at ht
     show (pc2 a ++ pCells r)[(t + 1) * 2 + j]? = _
     rw [List.getElem?_append_right (by simp [pc2]; omega), show (t + 1) * 2 + j - (pc2 a).length = t * 2 + j by simp [pc2]; omega]
     exact ih t ht
  have h1 := key l t hp
  have hlt : t * 2 + j < l.length * 2 := by
   have := (List.getElem?_eq_some_iff.1 hp).1
   omega
  rw [← htake, List.getElem?_take, if_pos hlt] at h1
  simpa using h1
theorem pcAt_cells {w : World} {g : Nat} {l : List (Nat × Nat)} (h : PcAt w g l) : ∀ j u, (pCells l)[j]? = some u → w.cell? ((Addr.mk g 0 none).add j) = some u := by
  have key : ∀ (l' : List (Nat × Nat)) (o : Nat), (∀ t p, l'[t]? = some p → w.rangeAt g ((o + t) * 2) (pc2 p)) → ∀ j u, (pCells l')[j]? = some u → w.cell? ⟨g, o * 2 + j, none⟩ = some u := by
    intro l'
    induction l' with
    | nil => intro o _ j u hu; simp [pCells] at hu
    | cons a r ih =>
      intro o ha j u hu
      rw [show pCells (a :: r) = pc2 a ++ pCells r from rfl] at hu
      by_cases hj : j < 2
      · rw [List.getElem?_append_left (by simpa [pc2] using hj)] at hu
        exact ha 0 a rfl j u hu
      · rw [List.getElem?_append_right (by simp [pc2]; omega)] at hu
        have := ih (o + 1) (fun t p ht => by have := ha (t + 1) p (by simpa using ht); rwa [show o + (t + 1) = o + 1 + t by omega] at this) _ u hu
        rw [show o * 2 + j = (o + 1) * 2 + (j - (pc2 a).length) by simp [pc2]; omega]
        exact this
  intro j u hu
  have := key l 0 (fun t p ht => by rw [Nat.zero_add]; exact h.rng t p ht) j u hu
  rw [Addr.add_mid]
  simpa using this
set_option maxRecDepth 100000 in
set_option maxHeartbeats 4000000 in
theorem covdoor (w0 w : World) (O R : Nat) (vo vr : Value) (ol rl : List (Nat × Nat)) (h : CvI w0 w O R vo vr ol rl) (hr : rl ≠ []) (hlen : ol.length + rl.length ≤ 1000) :
  CallsD Tryz.prog 211 #[.pointer (some ⟨R, 0, none⟩), .pointer (some ⟨O, 0, none⟩)] .returning w fun e u' w' => u' = .returning ∧ (e = .returned (.tuple #[]) ∧ ∃ v', Blk w' O 256 #[v'] ∧ w'.ownsRow w0.heap.size 155 2 v' (ol.length + rl.length) (pCells (ol ++ rl.reverse)) ∧ Below w0.heap.size w0 w') := by
 obtain ⟨iP, hP, hP0, hP1, hP2⟩ := info_parts (show (Tryz.prog.info? 155).map (fun i => (i.zero, i.size, i.bytes)) = some (some (.agg #[.int .i64 0, .int .u64 0]), 2, 16) by kernel_rfl)
 obtain ⟨ro, rn, rcap, rfl⟩ : ∃ ro rn rcap, vr = .slice ro rn rcap := by
  obtain ⟨ao, cap, e⟩ := own_form h.ro
  exact ⟨_, _, _, e⟩
 have hor := h.ro
 rcases hor.2 with ⟨e, h0⟩ | ⟨g, cap, cur, e, hb, hgb, hnc, hcm, hsz, htake⟩
 ·exact absurd (List.eq_nil_of_length_eq_zero h0) hr
 simp only [Value.slice.injEq] at e
 obtain ⟨rfl, rfl, rfl⟩ := e
 have hat := pcAt_of_own hor
 have PR := Lib.hid (pcrev g rcap rl (by omega) w hat)
 have H := Lib.hid h
 have c0 := h.br.cell 0
 have c1 := h.bo.cell 0
 simp at c0 c1
 clear hor hb hgb hnc hcm hsz htake hat h
 go_enter_d Tryz.func211, Tryz.ntmps211
 go_wp2_with fail
 with_reducible refine PR.out.mono ?_
 rintro e w2 ⟨rfl, hat2, hg2⟩
 obtain ⟨cur0, hcur0⟩ := ownBlk H.out.ro g rfl
 have ho2 := H.out.bo.grown hg2 (fun e => by
  have e := Option.some.inj e
  have := H.out.bo
  rw [e] at this
  exact absurd rfl (this.ne_ hcur0 (by decide)))
 have hr2 := H.out.br.grown hg2 (fun e => by
  have e := Option.some.inj e
  have := H.out.br
  rw [e] at this
  exact absurd rfl (this.ne_ hcur0 (by decide)))
 have hoo2 := ownKeep H.out.oo hg2 (fun k hk e => by
  have e := Option.some.inj e
  subst e
  exact H.out.sep _ hk rfl)
 have HOO := Lib.hid hoo2
 have HO2 := Lib.hid ho2
 have HCE := Lib.hid (pcAt_cells hat2)
 have HB2 : Hid (Below w0.heap.size w0 w2) := Lib.hid (H.out.bel.grown hg2 H.out.bel.size (fun k e => by
  have e := Option.some.inj e
  subst e
  exact (H.out.ro.lt _ rfl).1))
 have c0 := hr2.cell 0
 have c1 := ho2.cell 0
 have f1 := ho2.frozen 0
 simp at c0 c1
 obtain ⟨oo, ocap, hvo⟩ := own_form H.out.oo
 have hln : (pCells rl.reverse).length = rl.length * 2 := by rw [pCells_len]; simp
 have hone : ∀ u ∈ pCells rl.reverse, u.oneCell' = true := by
  intro u hu
  simp only [pCells, List.mem_flatMap] at hu
  obtain ⟨p, -, hp⟩ := hu
  simp [pc2] at hp
  rcases hp with rfl | rfl <;> rfl
 have h63 : ol.length + rl.length ≤ maxLen := by unfold maxLen; omega
 have hby : (ol.length + rl.length) * 16 ≤ 140737488355328 := by omega
 have HLO := Lib.hid H.out.lo.1
 subst hvo
 clear hat2 hg2 ho2 hr2 hoo2 hcur0 PR
 go_wp2_with (at_builtin; go_loud (refine wpList_append_own_at _ rfl _ _ 256 rfl w0.heap.size 155 iP (.agg #[.int .i64 0, .int .u64 0]) 2 16 Tryz.underlying256 hP hP0 hP1 hP2 rfl (by decide) _ ol.length _ rfl HOO.out ⟨g, 0, none⟩ rl.length rcap (pCells rl.reverse) rfl hln HCE.out hone h63 hby HB2.out.size ?_))
 intro v' w3 hown hgrow hnil hloc
 have ho3 := HO2.out.grown hgrow (fun e => by
  obtain ⟨cs, hc⟩ := ownBlk HOO.out O e.symm
  exact absurd rfl (HO2.out.ne_ hc (by decide)))
 have c3 := ho3.cell 0
 have f3 := ho3.frozen 0
 simp at c3
 have HO3 := Lib.hid ho3
 have HW3 := Lib.hid hown
 have HB3 : Hid (Below w0.heap.size w0 w3) := Lib.hid (HB2.out.grown hgrow HB2.out.size (fun k e => (HOO.out.lt k e).1))
 have hg3 : w3.grownBy (w3.setCell ⟨O, 0, none⟩ v') (some O) := gr_setC (World.grownBy.refl _ _) 0 _
 have HW4 := Lib.hid (ownKeep hown hg3 (fun k hk e => by
  have e := Option.some.inj e
  obtain ⟨cs, hc⟩ := ownBlk hown k hk
  rw [← e] at hc
  exact absurd rfl (ho3.ne_ hc (by decide))))
 have HO4 : Hid (Blk (w3.setCell ⟨O, 0, none⟩ v') O 256 #[v']) := Lib.hid (by simpa using ho3.set_ 0 v')
 have HB4 : Hid (Below w0.heap.size w0 (w3.setCell ⟨O, 0, none⟩ v')) := Lib.hid (HB3.out.setCell HLO.out _)
 have HPA := Lib.hid (pCells_append ol rl.reverse)
 obtain ⟨vo3, vc3, hv3⟩ := own_form hown
 clear hown hgrow hnil hloc ho3 hg3 c0 c1 f1
 subst hv3
 go_wp2_with fail
 go_end0
 refine ⟨rfl, _, HO4.out, ?_, HB4.out⟩
 rw [HPA.out]
 exact HW4.out
end Go.Proofs.YtfeficdndjiijaaGreatDoor


namespace Go.Proofs.YtfeficdndjiijaaGreatDoor
open Go.RowKit
set_option linter.unusedVariables false
set_option linter.unusedSimpArgs false

def lo1 (lo : Nat) : Nat := lo + lo % 2
def hi1 (hi : Nat) : Nat := hi - (1 - hi % 2)
def covO : Nat → Nat → Nat → Nat → List (Nat × Nat)
  | 0, _, _, _ => []
  | f + 1, k, lo, hi => if lo = hi then [(k, lo)] else (if lo % 2 = 1 then [(k, lo)] else []) ++ (if hi1 hi < lo1 lo then [] else covO f (k + 1) (lo1 lo / 2) (hi1 hi / 2))
def covR : Nat → Nat → Nat → Nat → List (Nat × Nat)
  | 0, _, _, _ => []
  | f + 1, k, lo, hi => if lo = hi then [] else (if hi % 2 = 0 then [(k, hi)] else []) ++ (if hi1 hi < lo1 lo then [] else covR f (k + 1) (lo1 lo / 2) (hi1 hi / 2))
theorem and1 (a : Nat) (h : a < 18446744073709551616) : bits BinOp.and IntKind.u64 (a : Int) 1 = ((a % 2 : Nat) : Int) := by
  have h2 := u64_and (a : Int) 1 (by omega) (by omega) (by omega) (by omega)
  rw [h2]
  simp
theorem cover_results (tmps : Array Value) (w : World) (O : Nat) (v : Value) (h6 : tmps[6]?.getD undef = .pointer (some ⟨O, 0, none⟩)) (h7 : tmps[7]?.getD undef = .bool true) (ho : w.cell? ⟨O, 0, none⟩ = some v) (hv : ∃ a n c, v = .slice a n c) :
    (results Tryz.f174 tmps).run Tryz.prog w = .ok (.tuple #[v, .bool true]) w := by
  obtain ⟨a, n, c, rfl⟩ := hv
  simp [results, Tryz.results174, go_sem, h6, h7, ho]
theorem cov_len (f k lo hi : Nat) : (covO f k lo hi).length ≤ 2 * f ∧ (covR f k lo hi).length ≤ f := by
  induction f generalizing k lo hi with
  | zero => simp [covO, covR]
  | succ f ih =>
    have h := ih (k + 1) (lo1 lo / 2) (hi1 hi / 2)
    simp only [covO, covR]
    by_cases e : lo = hi
    · rw [if_pos e, if_pos e]; simp; omega
    · rw [if_neg e, if_neg e]
      simp only [List.length_append]
      constructor
      · split <;> split <;> simp <;> omega
      · split <;> split <;> simp <;> omega
def CovRes (w : World) (OL RL : List (Nat × Nat)) (e : Ending) (w' : World) : Prop :=
  ∃ v, e = .returned (.tuple #[v, .bool true]) ∧ w'.ownsRow w.heap.size 155 2 v (OL ++ RL.reverse).length (pCells (OL ++ RL.reverse)) ∧ Below w.heap.size w w'
theorem CvI.same {w0 wr : World} {O R : Nat} {vo vr : Value} {ol rl : List (Nat × Nat)} (h : CvI w0 wr O R vo vr ol rl) : CvI w0 (wr.setCell ⟨O, 0, none⟩ vo) O R vo vr ol rl := by
  have hgs : wr.grownBy (wr.setCell ⟨O, 0, none⟩ vo) (some O) := gr_setC (World.grownBy.refl _ _) 0 _
  exact { bo := by simpa using h.bo.set_ 0 vo, br := h.br.grown hgs (by simpa using Ne.symm h.lo.2.2), oo := ownKeep h.oo hgs (fun k hk e => by
            have e := Option.some.inj e
            obtain ⟨cs, hc⟩ := ownBlk h.oo k hk
            rw [← e] at hc
            exact absurd rfl (h.bo.ne_ hc (by decide))), ro := ownKeep h.ro hgs (fun k hk e => by
            have e := Option.some.inj e
            obtain ⟨cs, hc⟩ := ownBlk h.ro k hk
            rw [← e] at hc
            exact absurd rfl (h.bo.ne_ hc (by decide))), sep := h.sep, bel := h.bel.setCell h.lo.1 _, lo := h.lo }
theorem cov_ret {w wz : World} {t : Array Value} {O R : Nat} {vo vr : Value} {ol rl : List (Nat × Nat)} (h : CvI w wz O R vo vr ol rl) (hr : rl ≠ []) (hlen : ol.length + rl.length ≤ 1000) (h6 : t[6]?.getD undef = .pointer (some ⟨O, 0, none⟩)) (h7 : t[7]?.getD undef = .bool true) :
    bodyPostD Tryz.prog Tryz.f174 (CovRes w ol rl) Exit.ret { tmps := t, defers := [{ target := .fn (.func 211) #[.pointer (some ⟨R, 0, none⟩), .pointer (some ⟨O, 0, none⟩)], args := #[] }] } wz := by
  refine leaves_cons (f := 211) (args := #[.pointer (some ⟨R, 0, none⟩), .pointer (some ⟨O, 0, none⟩)]) (by simp) (by simp [go_sem]) ?_
  refine (covdoor w wz O R vo vr ol rl h hr hlen).mono ?_
  rintro e u' w'' ⟨rfl, rfl, v', hb, ho, hB⟩
  obtain ⟨ao, cap, hv⟩ := own_form ho
  refine ⟨_, cover_results t _ _ v' h6 h7 (by simpa using hb.cell 0) ⟨_, _, _, hv⟩, v', rfl, ?_, hB⟩
  rw [List.length_append, List.length_reverse]
  exact ho
theorem covO_s {b k lo hi : Nat} (hk : k ≤ b) : covO (b + 1 - k) k lo hi = if lo = hi then [(k, lo)] else (if lo % 2 = 1 then [(k, lo)] else []) ++ (if hi1 hi < lo1 lo then [] else covO (b + 1 - (k + 1)) (k + 1) (lo1 lo / 2) (hi1 hi / 2)) := by
  rw [show b + 1 - k = (b - k) + 1 by omega, covO, show b + 1 - (k + 1) = b - k by omega]
theorem covR_s {b k lo hi : Nat} (hk : k ≤ b) : covR (b + 1 - k) k lo hi = if lo = hi then [] else (if hi % 2 = 0 then [(k, hi)] else []) ++ (if hi1 hi < lo1 lo then [] else covR (b + 1 - (k + 1)) (k + 1) (lo1 lo / 2) (hi1 hi / 2)) := by
  rw [show b + 1 - k = (b - k) + 1 by omega, covR, show b + 1 - (k + 1) = b - k by omega]
set_option maxRecDepth 100000 in
set_option maxHeartbeats 16000000 in
theorem cover_any (b l0 h0 : Nat) (hb1 : 1 ≤ b) (hb : b ≤ 59) (hlh : l0 ≤ h0) (hhi : h0 < 2 ^ b) (hne : covR (b + 1) 0 l0 h0 ≠ []) (w : World) :
  Calls Tryz.prog 174 #[.int .i64 (b : Int), .int .u64 (l0 : Int), .int .u64 (h0 : Int)] w (CovRes w (covO (b + 1) 0 l0 h0) (covR (b + 1) 0 l0 h0)) := by
 obtain ⟨iP, hP, hP0, hP1, hP2⟩ := info_parts (show (Tryz.prog.info? 155).map (fun i => (i.zero, i.size, i.bytes)) = some (some (.agg #[.int .i64 0, .int .u64 0]), 2, 16) by kernel_rfl)
 have HNE := Lib.hid hne
 obtain ⟨OL, hOL⟩ : ∃ OL, OL = covO (b + 1) 0 l0 h0 := ⟨_, rfl⟩
 obtain ⟨RL, hRL⟩ : ∃ RL, RL = covR (b + 1) 0 l0 h0 := ⟨_, rfl⟩
 rw [← hRL] at HNE
 rw [← hOL, ← hRL]
 have HL := Lib.hid (And.intro hOL hRL)
 have HLN : Hid (OL.length ≤ 2 * (b + 1) ∧ RL.length ≤ b + 1) := Lib.hid (by rw [hOL, hRL]; exact cov_len _ _ _ _)
 have h60 : 2 ^ b ≤ 2 ^ 59 := Nat.pow_le_pow_right (by decide) hb
 have h59 : (2 : Nat) ^ 59 = 576460752303423488 := by decide
 have hsh : wrap64 ((2 : Int) ^ b) = (2 : Int) ^ b ∨ True := .inr trivial
 have HHI := Lib.hid hhi
 have h2b : ((2 ^ b : Nat) : Int) = (2 : Int) ^ b := by simp
 have e1 : ¬ ((b : Int) < 1) := by omega
 have e2 : ¬ ((b : Int) > 59) := by omega
 have e2' : ¬ ((59 : Int) < (b : Int)) := by omega
 have e3 : ¬ ((l0 : Int) > (h0 : Int)) := by omega
 have e3' : ¬ ((h0 : Int) < (l0 : Int)) := by omega
 have e4 : ¬ ((h0 : Int) ≥ (2 : Int) ^ b) := by rw [← h2b]; omega
 have e4' : ¬ ((2 : Int) ^ b ≤ (h0 : Int)) := by rw [← h2b]; omega
 have e4'' : ¬ (2 ^ b ≤ h0) := by omega
 have hsw : IntKind.u64.wrap ((2 : Int) ^ b) = (2 : Int) ^ b := by rw [← h2b]; simp [IntKind.wrap, IntKind.bits, IntKind.signed]; omega
 have hmf : ∀ (fn : Fn) (first cap : Array Value) (w : World), (Instr.makeFunc fn first cap).run Tryz.prog w = .ok (.func fn first cap) w := fun _ _ _ _ => rfl
 have HI0 : Hid (CvI w ((w.alloc (.cells #[.slice none 0 0] 256)).alloc (.cells #[.slice none 0 0] 256)) w.heap.size (w.heap.size + 1) (.slice none 0 0) (.slice none 0 0) [] []) := Lib.hid {
  bo := (Blk.new w _ _).alloc _
  br := by simpa using Blk.new (w.alloc (.cells #[.slice none 0 0] 256)) 256 #[.slice none 0 0]
  oo := World.ownsRow_nil _ _ _ _
  ro := World.ownsRow_nil _ _ _ _
  sep := fun k hk => by simp [Value.ownBlock] at hk
  bel := ((Below.refl _ w).alloc (Nat.le_refl _) _).alloc (by simp) _
  lo := ⟨Nat.le_refl _, by omega, by omega⟩ }
 clear hne hOL hRL hsh
 go_enter_defers Tryz.func174, Tryz.ntmps174
 go_wp2_with fail
 have HSZ : Hid (w.heap.size + 1 ≠ w.heap.size) := Lib.hid (by omega)
 generalize ((w.alloc (.cells #[.slice none 0 0] 256)).alloc (.cells #[.slice none 0 0] 256)) = wA at *
 generalize w.heap.size + 1 = R at *
 clear e1 e2 e2' e3 e3' e4 e4' e4'' h59
 go_loopw [1, 2, 9] (fun a1 a2 a9 wr => ∃ (k lo hi : Nat) (vo vr : Value) (ol rl : List (Nat × Nat)), a1 = .int .u64 (lo : Int) ∧ a2 = .int .u64 (hi : Int) ∧ a9 = .int .i64 (k : Int) ∧ CvI w wr w.heap.size R vo vr ol rl ∧ OL = ol ++ covO (b + 1 - k) k lo hi ∧ RL = rl ++ covR (b + 1 - k) k lo hi ∧ lo ≤ hi ∧ hi < 2 ^ (b - k) ∧ k ≤ b) (fun _ _ a9 _ => b + 1 - (intOf a9).toNat)
 case atStart => exact ⟨0, l0, h0, _, _, [], [], rfl, rfl, rfl, HI0.out, by simpa using HL.out.1, by simpa using HL.out.2, hlh, by simpa using HHI.out, by omega⟩
 case round =>
  obtain ⟨k, lo, hi, vo, vr, ol, rl, rfl, rfl, rfl, hI, hO, hR, hlh1, hhi1, hk⟩ := hrel
  obtain ⟨ao, ac, hav⟩ := own_form hI.oo
  obtain ⟨ro, rc, hrv⟩ := own_form hI.ro
  subst hav
  subst hrv
  have HI := Lib.hid hI
  rw [covO_s hk] at hO
  rw [covR_s hk] at hR
  have hpw : 2 ^ (b - k) ≤ 2 ^ b := Nat.pow_le_pow_right (by decide) (by omega)
  have hhs : hi < 576460752303423488 := by rw [← show (2 : Nat) ^ 59 = 576460752303423488 by decide]; omega
  have HHK : Hid (hi < 2 ^ (b - k)) := Lib.hid hhi1
  have HLEN : Hid (OL.length ≤ 120 ∧ RL.length ≤ 60) := Lib.hid (by have := HLN.out; omega)
  clear hI hhi1 hpw HI0 HL HLN h60 h2b hsw
  by_cases heq : lo = hi
  ·subst heq
   rw [if_pos rfl] at hO hR
   rw [List.append_nil] at hR
   subst hR
   have HO := Lib.hid hO
   clear hO
   have hlO : ol.length ≤ 120 := by have := HLEN.out; rw [HO.out, List.length_append] at this; omega
   have hlR : RL.length ≤ 60 := HLEN.out.2
   have c1 := HI.out.bo.cell 0
   simp at c1
   have HAL1 := Lib.hid (Blk.new wr 155 #[.int .i64 (k : Int), .int .u64 (lo : Int)])
   have HOO1 : Hid (World.ownsRow (wr.alloc (.cells #[.int .i64 (k : Int), .int .u64 (lo : Int)] 155)) w.heap.size 155 2 (.slice ao (ol).length ac) (ol).length (pCells (ol))) := Lib.hid (ownKeep HI.out.oo (below_gr (row := none) ((Below.refl _ wr).alloc (Nat.le_refl _) _)) (fun k _ => by simp))
   have HCE1 : Hid (∀ j u, ([.int .i64 (k : Int), .int .u64 (lo : Int)] : List Value)[j]? = some u → World.cell? (wr.alloc (.cells #[.int .i64 (k : Int), .int .u64 (lo : Int)] 155)) ((Addr.mk wr.heap.size 0 none).add j) = some u) := Lib.hid (fun j u hu => by
    rw [Addr.add_mid, Nat.zero_add]
    exact (HAL1.out.cell j).trans (by simpa using hu))
   have hone1 : ∀ u ∈ ([.int .i64 (k : Int), .int .u64 (lo : Int)] : List Value), u.oneCell' = true := by
    intro u hu
    simp at hu
    rcases hu with rfl | rfl <;> rfl
   have HLA1 : Hid ((ol).length ≤ 122) := Lib.hid (by first | omega | (simp only [List.length_append, List.length_cons, List.length_nil]; omega))
   have HSI1 : Hid (w.heap.size ≤ (wr.alloc (.cells #[.int .i64 (k : Int), .int .u64 (lo : Int)] 155)).heap.size) := Lib.hid (by have := HI.out.bel.size; simp; omega)
   have h631 : (ol).length + 1 ≤ maxLen := by have := HLA1.out; unfold maxLen; omega
   have hby1 : ((ol).length + 1) * 16 ≤ 140737488355328 := by have := HLA1.out; omega
   go_wp2_with (at_builtin; go_loud (refine wpList_append_own_at _ rfl _ _ 256 rfl w.heap.size 155 iP (.agg #[.int .i64 0, .int .u64 0]) 2 16 Tryz.underlying256 hP hP0 hP1 hP2 rfl (by decide) _ (ol).length _ rfl HOO1.out ⟨wr.heap.size, 0, none⟩ 1 1 [.int .i64 (k : Int), .int .u64 (lo : Int)] rfl rfl HCE1.out hone1 h631 hby1 HSI1.out ?_))
   intro v1 w1 hown1 hgrow1 hnil1 hloc1
   obtain ⟨hbo1, hI1⟩ := CvI.midO HI.out (k, lo) hown1 hgrow1 (by simpa using hloc1)
   have d1 := hbo1.cell 0
   have f1 := hbo1.frozen 0
   simp at d1
   have HI1 := Lib.hid hI1
   obtain ⟨bo1, bc1, hbv1⟩ := own_form hown1
   subst hbv1
   clear hown1 hgrow1 hnil1 hloc1 hbo1 hI1 hone1 h631 hby1 c1
   clear HAL1 HOO1 HCE1 HLA1 HSI1
   go_wp2_with fail
   rw [HO.out]
   exact cov_ret HI1.out.same HNE.out (by have := HLEN.out.2; simp only [List.length_append, List.length_cons, List.length_nil]; omega) rfl rfl
  ·rw [if_neg heq] at hO hR
   have hlO : ol.length ≤ 120 := by have := HLEN.out; rw [hO, List.length_append] at this; omega
   have hlR : rl.length ≤ 60 := by have := HLEN.out; rw [hR, List.length_append] at this; omega
   have hlt : lo < hi := by omega
   have hkb : k < b := by
    have := HHK.out
    by_cases e : b - k = 0
    ·rw [e] at this; omega
    ·omega
   have heq2 : ¬ ((lo : Int) = (hi : Int)) := by omega
   obtain ⟨LO, hLO⟩ : ∃ x, x = lo1 lo := ⟨_, rfl⟩
   obtain ⟨HH, hHH⟩ : ∃ x, x = hi1 hi := ⟨_, rfl⟩
   rw [← hLO, ← hHH] at hO hR
   have HO := Lib.hid hO
   have HR := Lib.hid hR
   unfold lo1 at hLO
   unfold hi1 at hHH
   have HPW : Hid (LO ≤ HH → HH / 2 < 2 ^ (b - (k + 1))) := Lib.hid (fun _ => by
    have h1 := HHK.out
    rw [show b - k = (b - (k + 1)) + 1 by omega, Nat.pow_succ] at h1
    omega)
   have HKB := Lib.hid hkb
   have el : (lo % 2 = 1) → IntKind.u64.wrap ((lo : Int) + 1) = (LO : Int) := fun h => by rw [wrapU_mod]; omega
   have eh : (hi % 2 = 0) → IntKind.u64.wrap ((hi : Int) - 1) = (HH : Int) := fun h => by rw [wrapU_mod]; omega
   have HLO := Lib.hid hLO
   have HHH := Lib.hid hHH
   clear hO hR hkb
   by_cases ho : lo % 2 = 1
   ·have ea : bits BinOp.and IntKind.u64 (lo : Int) 1 = 1 := by rw [and1 _ (by omega), ho]; rfl
    have HO1 : Hid (OL = (ol ++ [(k, lo)]) ++ (if HH < LO then [] else covO (b + 1 - (k + 1)) (k + 1) (LO / 2) (HH / 2))) := Lib.hid (by rw [HO.out, if_pos ho]; simp)
    have elo := el ho
    have c2 := HI.out.bo.cell 0
    simp at c2
    have HAL2 := Lib.hid (Blk.new wr 155 #[.int .i64 (k : Int), .int .u64 (lo : Int)])
    have HOO2 : Hid (World.ownsRow (wr.alloc (.cells #[.int .i64 (k : Int), .int .u64 (lo : Int)] 155)) w.heap.size 155 2 (.slice ao (ol).length ac) (ol).length (pCells (ol))) := Lib.hid (ownKeep HI.out.oo (below_gr (row := none) ((Below.refl _ wr).alloc (Nat.le_refl _) _)) (fun k _ => by simp))
    have HCE2 : Hid (∀ j u, ([.int .i64 (k : Int), .int .u64 (lo : Int)] : List Value)[j]? = some u → World.cell? (wr.alloc (.cells #[.int .i64 (k : Int), .int .u64 (lo : Int)] 155)) ((Addr.mk wr.heap.size 0 none).add j) = some u) := Lib.hid (fun j u hu => by
     rw [Addr.add_mid, Nat.zero_add]
     exact (HAL2.out.cell j).trans (by simpa using hu))
    have hone2 : ∀ u ∈ ([.int .i64 (k : Int), .int .u64 (lo : Int)] : List Value), u.oneCell' = true := by
     intro u hu
     simp at hu
     rcases hu with rfl | rfl <;> rfl
    have HLA2 : Hid ((ol).length ≤ 122) := Lib.hid (by first | omega | (simp only [List.length_append, List.length_cons, List.length_nil]; omega))
    have HSI2 : Hid (w.heap.size ≤ (wr.alloc (.cells #[.int .i64 (k : Int), .int .u64 (lo : Int)] 155)).heap.size) := Lib.hid (by have := HI.out.bel.size; simp; omega)
    have h632 : (ol).length + 1 ≤ maxLen := by have := HLA2.out; unfold maxLen; omega
    have hby2 : ((ol).length + 1) * 16 ≤ 140737488355328 := by have := HLA2.out; omega
    go_wp2_with (at_builtin; go_loud (refine wpList_append_own_at _ rfl _ _ 256 rfl w.heap.size 155 iP (.agg #[.int .i64 0, .int .u64 0]) 2 16 Tryz.underlying256 hP hP0 hP1 hP2 rfl (by decide) _ (ol).length _ rfl HOO2.out ⟨wr.heap.size, 0, none⟩ 1 1 [.int .i64 (k : Int), .int .u64 (lo : Int)] rfl rfl HCE2.out hone2 h632 hby2 HSI2.out ?_))
    intro v2 w2 hown2 hgrow2 hnil2 hloc2
    obtain ⟨hbo2, hI2⟩ := CvI.midO HI.out (k, lo) hown2 hgrow2 (by simpa using hloc2)
    have d2 := hbo2.cell 0
    have f2 := hbo2.frozen 0
    simp at d2
    have HI2 := Lib.hid hI2
    obtain ⟨bo2, bc2, hbv2⟩ := own_form hown2
    subst hbv2
    clear hown2 hgrow2 hnil2 hloc2 hbo2 hI2 hone2 h632 hby2 c2
    clear HAL2 HOO2 HCE2 HLA2 HSI2
    go_upto_region 12 with fail
    generalize (w2.setCell ⟨w.heap.size, 0, none⟩ (.slice bo2 (((ol)).length + 1) bc2)) = wb at *
    obtain rfl : LO = lo + 1 := by omega
    clear hLO el elo HLO
    clear d2 f2
    by_cases he : hi % 2 = 0
    ·have ec : bits BinOp.and IntKind.u64 (hi : Int) 1 = 0 := by rw [and1 _ (by omega), he]; rfl
     have HR1 : Hid (RL = (rl ++ [(k, hi)]) ++ (if HH < (lo + 1) then [] else covR (b + 1 - (k + 1)) (k + 1) ((lo + 1) / 2) (HH / 2))) := Lib.hid (by rw [HR.out, if_pos he]; simp)
     have ehi := eh he
     have c3 := HI2.out.br.cell 0
     simp at c3
     have HAL3 := Lib.hid (Blk.new wb 155 #[.int .i64 (k : Int), .int .u64 (hi : Int)])
     have HOO3 : Hid (World.ownsRow (wb.alloc (.cells #[.int .i64 (k : Int), .int .u64 (hi : Int)] 155)) w.heap.size 155 2 (.slice ro (rl).length rc) (rl).length (pCells (rl))) := Lib.hid (ownKeep HI2.out.ro (below_gr (row := none) ((Below.refl _ wb).alloc (Nat.le_refl _) _)) (fun k _ => by simp))
     have HCE3 : Hid (∀ j u, ([.int .i64 (k : Int), .int .u64 (hi : Int)] : List Value)[j]? = some u → World.cell? (wb.alloc (.cells #[.int .i64 (k : Int), .int .u64 (hi : Int)] 155)) ((Addr.mk wb.heap.size 0 none).add j) = some u) := Lib.hid (fun j u hu => by
      rw [Addr.add_mid, Nat.zero_add]
      exact (HAL3.out.cell j).trans (by simpa using hu))
     have hone3 : ∀ u ∈ ([.int .i64 (k : Int), .int .u64 (hi : Int)] : List Value), u.oneCell' = true := by
      intro u hu
      simp at hu
      rcases hu with rfl | rfl <;> rfl
     have HLA3 : Hid ((rl).length ≤ 122) := Lib.hid (by first | omega | (simp only [List.length_append, List.length_cons, List.length_nil]; omega))
     have HSI3 : Hid (w.heap.size ≤ (wb.alloc (.cells #[.int .i64 (k : Int), .int .u64 (hi : Int)] 155)).heap.size) := Lib.hid (by have := HI2.out.bel.size; simp; omega)
     have h633 : (rl).length + 1 ≤ maxLen := by have := HLA3.out; unfold maxLen; omega
     have hby3 : ((rl).length + 1) * 16 ≤ 140737488355328 := by have := HLA3.out; omega
     go_wp2_with (at_builtin; go_loud (refine wpList_append_own_at _ rfl _ _ 256 rfl w.heap.size 155 iP (.agg #[.int .i64 0, .int .u64 0]) 2 16 Tryz.underlying256 hP hP0 hP1 hP2 rfl (by decide) _ (rl).length _ rfl HOO3.out ⟨wb.heap.size, 0, none⟩ 1 1 [.int .i64 (k : Int), .int .u64 (hi : Int)] rfl rfl HCE3.out hone3 h633 hby3 HSI3.out ?_))
     intro v3 w3 hown3 hgrow3 hnil3 hloc3
     obtain ⟨hbo3, hI3⟩ := CvI.midR HI2.out (k, hi) hown3 hgrow3 (by simpa using hloc3)
     have d3 := hbo3.cell 0
     have f3 := hbo3.frozen 0
     simp at d3
     have HI3 := Lib.hid hI3
     obtain ⟨bo3, bc3, hbv3⟩ := own_form hown3
     subst hbv3
     clear hown3 hgrow3 hnil3 hloc3 hbo3 hI3 hone3 h633 hby3 c3
     clear HAL3 HOO3 HCE3 HLA3 HSI3
     go_upto_region 15 with fail
     generalize (w3.setCell ⟨R, 0, none⟩ (.slice bo3 (((rl)).length + 1) bc3)) = wc at *
     obtain rfl : HH = hi - 1 := by omega
     clear hHH eh ehi HHH
     by_cases hx : (hi - 1) < (lo + 1)
     ·have hx1 : (((hi - 1 : Nat) : Int) < (lo : Int) + 1) := by omega
      have HOF : Hid (OL = ol ++ [(k, lo)]) := Lib.hid (by rw [HO1.out, if_pos hx]; simp)
      have HRF : Hid (RL = rl ++ [(k, hi)]) := Lib.hid (by rw [HR1.out, if_pos hx]; simp)
      have cc0 := HI3.out.bo.cell 0
      have cf0 := HI3.out.bo.frozen 0
      simp at cc0
      go_wp2_with fail
      rw [HOF.out, HRF.out]
      refine cov_ret HI3.out.same (by rw [← HRF.out]; exact HNE.out) (by have := HLEN.out; rw [HOF.out, HRF.out] at this; omega) rfl rfl
     ·have hx1 : ¬ (((hi - 1 : Nat) : Int) < (lo : Int) + 1) := by omega
      have HOF : Hid (OL = ol ++ [(k, lo)] ++ covO (b + 1 - (k + 1)) (k + 1) ((lo + 1) / 2) ((hi - 1) / 2)) := Lib.hid (by rw [HO1.out, if_neg hx])
      have HRF : Hid (RL = rl ++ [(k, hi)] ++ covR (b + 1 - (k + 1)) (k + 1) ((lo + 1) / 2) ((hi - 1) / 2)) := Lib.hid (by rw [HR1.out, if_neg hx])
      have hk1 : IntKind.i64.wrap ((k : Int) + 1) = (k : Int) + 1 := wrapI_of _ (by omega) (by omega)
      go_wp2_with fail
      go_roundw
      case rel => exact ⟨k + 1, (lo + 1) / 2, (hi - 1) / 2, _, _, _, _, by go_num, by go_num, by go_num, HI3.out, HOF.out, HRF.out, by omega, HPW.out (by omega), HKB.out⟩
      case measure => simp [intOf]; have := HKB.out; omega
    ·have ec : bits BinOp.and IntKind.u64 (hi : Int) 1 = 1 := by rw [and1 _ (by omega), show hi % 2 = 1 by omega]; rfl
     have HR1 : Hid (RL = rl ++ (if HH < (lo + 1) then [] else covR (b + 1 - (k + 1)) (k + 1) ((lo + 1) / 2) (HH / 2))) := Lib.hid (by rw [HR.out, if_neg he]; simp)
     obtain rfl : hi = HH := by omega
     clear hHH eh HHH
     by_cases hx : hi < (lo + 1)
     ·exact absurd hx (by omega)
     ·have hx1 : ¬ ((hi : Int) < (lo : Int) + 1) := by omega
      have HOF : Hid (OL = ol ++ [(k, lo)] ++ covO (b + 1 - (k + 1)) (k + 1) ((lo + 1) / 2) (hi / 2)) := Lib.hid (by rw [HO1.out, if_neg hx])
      have HRF : Hid (RL = rl ++ covR (b + 1 - (k + 1)) (k + 1) ((lo + 1) / 2) (hi / 2)) := Lib.hid (by rw [HR1.out, if_neg hx])
      have hk1 : IntKind.i64.wrap ((k : Int) + 1) = (k : Int) + 1 := wrapI_of _ (by omega) (by omega)
      go_wp2_with fail
      go_roundw
      case rel => exact ⟨k + 1, (lo + 1) / 2, hi / 2, _, _, _, _, by go_num, by go_num, by go_num, HI2.out, HOF.out, HRF.out, by omega, HPW.out (by omega), HKB.out⟩
      case measure => simp [intOf]; have := HKB.out; omega
   ·have ea : bits BinOp.and IntKind.u64 (lo : Int) 1 = 0 := by rw [and1 _ (by omega), show lo % 2 = 0 by omega]; rfl
    have HO1 : Hid (OL = ol ++ (if HH < LO then [] else covO (b + 1 - (k + 1)) (k + 1) (LO / 2) (HH / 2))) := Lib.hid (by rw [HO.out, if_neg ho]; simp)
    obtain rfl : lo = LO := by omega
    clear hLO el HLO
    by_cases he : hi % 2 = 0
    ·have ec : bits BinOp.and IntKind.u64 (hi : Int) 1 = 0 := by rw [and1 _ (by omega), he]; rfl
     have HR1 : Hid (RL = (rl ++ [(k, hi)]) ++ (if HH < lo then [] else covR (b + 1 - (k + 1)) (k + 1) (lo / 2) (HH / 2))) := Lib.hid (by rw [HR.out, if_pos he]; simp)
     have ehi := eh he
     have c4 := HI.out.br.cell 0
     simp at c4
     have HAL4 := Lib.hid (Blk.new wr 155 #[.int .i64 (k : Int), .int .u64 (hi : Int)])
     have HOO4 : Hid (World.ownsRow (wr.alloc (.cells #[.int .i64 (k : Int), .int .u64 (hi : Int)] 155)) w.heap.size 155 2 (.slice ro (rl).length rc) (rl).length (pCells (rl))) := Lib.hid (ownKeep HI.out.ro (below_gr (row := none) ((Below.refl _ wr).alloc (Nat.le_refl _) _)) (fun k _ => by simp))
     have HCE4 : Hid (∀ j u, ([.int .i64 (k : Int), .int .u64 (hi : Int)] : List Value)[j]? = some u → World.cell? (wr.alloc (.cells #[.int .i64 (k : Int), .int .u64 (hi : Int)] 155)) ((Addr.mk wr.heap.size 0 none).add j) = some u) := Lib.hid (fun j u hu => by
      rw [Addr.add_mid, Nat.zero_add]
      exact (HAL4.out.cell j).trans (by simpa using hu))
     have hone4 : ∀ u ∈ ([.int .i64 (k : Int), .int .u64 (hi : Int)] : List Value), u.oneCell' = true := by
      intro u hu
      simp at hu
      rcases hu with rfl | rfl <;> rfl
     have HLA4 : Hid ((rl).length ≤ 122) := Lib.hid (by first | omega | (simp only [List.length_append, List.length_cons, List.length_nil]; omega))
     have HSI4 : Hid (w.heap.size ≤ (wr.alloc (.cells #[.int .i64 (k : Int), .int .u64 (hi : Int)] 155)).heap.size) := Lib.hid (by have := HI.out.bel.size; simp; omega)
     have h634 : (rl).length + 1 ≤ maxLen := by have := HLA4.out; unfold maxLen; omega
     have hby4 : ((rl).length + 1) * 16 ≤ 140737488355328 := by have := HLA4.out; omega
     go_wp2_with (at_builtin; go_loud (refine wpList_append_own_at _ rfl _ _ 256 rfl w.heap.size 155 iP (.agg #[.int .i64 0, .int .u64 0]) 2 16 Tryz.underlying256 hP hP0 hP1 hP2 rfl (by decide) _ (rl).length _ rfl HOO4.out ⟨wr.heap.size, 0, none⟩ 1 1 [.int .i64 (k : Int), .int .u64 (hi : Int)] rfl rfl HCE4.out hone4 h634 hby4 HSI4.out ?_))
     intro v4 w4 hown4 hgrow4 hnil4 hloc4
     obtain ⟨hbo4, hI4⟩ := CvI.midR HI.out (k, hi) hown4 hgrow4 (by simpa using hloc4)
     have d4 := hbo4.cell 0
     have f4 := hbo4.frozen 0
     simp at d4
     have HI4 := Lib.hid hI4
     obtain ⟨bo4, bc4, hbv4⟩ := own_form hown4
     subst hbv4
     clear hown4 hgrow4 hnil4 hloc4 hbo4 hI4 hone4 h634 hby4 c4
     clear HAL4 HOO4 HCE4 HLA4 HSI4
     go_upto_region 15 with fail
     generalize (w4.setCell ⟨R, 0, none⟩ (.slice bo4 (((rl)).length + 1) bc4)) = wc at *
     obtain rfl : HH = hi - 1 := by omega
     clear hHH eh ehi HHH
     by_cases hx : (hi - 1) < lo
     ·exact absurd hx (by omega)
     ·have hx1 : ¬ (((hi - 1 : Nat) : Int) < (lo : Int)) := by omega
      have HOF : Hid (OL = ol ++ covO (b + 1 - (k + 1)) (k + 1) (lo / 2) ((hi - 1) / 2)) := Lib.hid (by rw [HO1.out, if_neg hx])
      have HRF : Hid (RL = rl ++ [(k, hi)] ++ covR (b + 1 - (k + 1)) (k + 1) (lo / 2) ((hi - 1) / 2)) := Lib.hid (by rw [HR1.out, if_neg hx])
      have hk1 : IntKind.i64.wrap ((k : Int) + 1) = (k : Int) + 1 := wrapI_of _ (by omega) (by omega)
      go_wp2_with fail
      go_roundw
      case rel => exact ⟨k + 1, lo / 2, (hi - 1) / 2, _, _, _, _, by go_num, by go_num, by go_num, HI4.out, HOF.out, HRF.out, by omega, HPW.out (by omega), HKB.out⟩
      case measure => simp [intOf]; have := HKB.out; omega
    ·have ec : bits BinOp.and IntKind.u64 (hi : Int) 1 = 1 := by rw [and1 _ (by omega), show hi % 2 = 1 by omega]; rfl
     have HR1 : Hid (RL = rl ++ (if HH < lo then [] else covR (b + 1 - (k + 1)) (k + 1) (lo / 2) (HH / 2))) := Lib.hid (by rw [HR.out, if_neg he]; simp)
     obtain rfl : hi = HH := by omega
     clear hHH eh HHH
     by_cases hx : hi < lo
     ·exact absurd hx (by omega)
     ·have hx1 : ¬ ((hi : Int) < (lo : Int)) := by omega
      have HOF : Hid (OL = ol ++ covO (b + 1 - (k + 1)) (k + 1) (lo / 2) (hi / 2)) := Lib.hid (by rw [HO1.out, if_neg hx])
      have HRF : Hid (RL = rl ++ covR (b + 1 - (k + 1)) (k + 1) (lo / 2) (hi / 2)) := Lib.hid (by rw [HR1.out, if_neg hx])
      have hk1 : IntKind.i64.wrap ((k : Int) + 1) = (k : Int) + 1 := wrapI_of _ (by omega) (by omega)
      go_wp2_with fail
      go_roundw
      case rel => exact ⟨k + 1, lo / 2, hi / 2, _, _, _, _, by go_num, by go_num, by go_num, HI.out, HOF.out, HRF.out, by omega, HPW.out (by omega), HKB.out⟩
      case measure => simp [intOf]; have := HKB.out; omega
end Go.Proofs.YtfeficdndjiijaaGreatDoor


namespace Go.Proofs.YtfeficdndjiijaaGreatDoor
open Go.RowKit Go.Shelf
set_option linter.unusedVariables false
set_option linter.unusedSimpArgs false
attribute [local go_sem] Oper.semAt_some

theorem slvals (ao : Option Addr) (n cap : Nat) (w : World) :
    Calls Tryz.prog 176 #[.slice ao n cap] w fun e w' => e = .returned (.func (.func 213) #[] #[.pointer (some ⟨w.heap.size, 0, none⟩)]) ∧ w' = w.alloc (.cells #[.slice ao n cap] 256) := by
  go_enter Tryz.func176, Tryz.ntmps176
  go_wp2
  go_ret
  exact ⟨rfl, rfl⟩
def pcV (p : Nat × Nat) : Value := .agg #[.int .i64 (p.1 : Int), .int .u64 (p.2 : Int)]
set_option maxRecDepth 100000 in
set_option maxHeartbeats 4000000 in
theorem slv1 (n : Nat) (hn : 1 ≤ n) (l Bs g cap : Nat) {α : Type} (f : α → Nat × Nat) (qs : List α) (hlen : qs.length ≤ 100000) (J Jx : List α → World → Prop)
  (hY : ∀ pre x W, J pre W → pre.length < qs.length → YieldAt Fence.wide (n - 1) Tryz.prog l #[pcV (f x)] W fun e W' =>
   (e = .returned (.bool true) ∧ J (pre ++ [x]) W' ∧ KpB [Bs, g] W W') ∨ (e = .returned (.bool false) ∧ Jx (pre ++ [x]) W'))
  (W : World) (hJ : AbidesFrom W.heap.size J) (hBs : Blk W Bs 256 #[.slice (some ⟨g, 0, none⟩) qs.length cap]) (hg : PcAt W g (qs.map f)) (h0 : J [] W) :
  CallsIn Fence.wide n Tryz.prog 213 #[.func (.yield l) #[] #[], .pointer (some ⟨Bs, 0, none⟩)] W fun e W' => (∃ v, e = .returned v) ∧
   ((∃ ys, ys = qs ∧ J ys W') ∨ (∃ pre, (∃ j, pre = qs.take j) ∧ Jx pre W')) := by
 obtain ⟨N, hN⟩ : ∃ N, N = qs.length := ⟨_, rfl⟩
 have HN := Lib.hid hN
 have HY := Lib.hid hY
 have HJ := Lib.hid hJ
 have HBS := Lib.hid hBs
 have HG := Lib.hid hg
 have HLT : Hid (Bs < W.heap.size ∧ g < W.heap.size) := Lib.hid ⟨hBs.lt, hg.lt⟩
 have c0 := hBs.cell 0
 simp at c0
 rw [← hN] at c0 hlen
 clear hY hJ hBs hg hN
 refine callsIn_of_wp Tryz.func213 rfl trivial ?_ rfl
 simp only [Tryz.ntmps213, List.size_toArray, List.length_cons, List.length_nil, Nat.reduceAdd, Nat.reduceSub, Array.replicate_succ, Array.replicate_zero, List.push_toArray, List.append_toArray, List.nil_append, List.cons_append]
 gi_wp2
 gi_loopw [7] (fun i wr => ∃ j : Nat, j ≤ N ∧ i = .int .i64 (j : Int) ∧ J (qs.take j) wr ∧ KpB [Bs, g] W wr) (fun i _ => N - (intOf i).toNat)
 case atStart => exact ⟨0, by omega, rfl, by simpa using h0, Nat.le_refl _, fun _ _ => rfl⟩
 case round =>
  obtain ⟨j, hj, rfl, hJs, hkp⟩ := hrel
  clear c0
  have HKP := Lib.hid hkp
  by_cases hlt : j < N
  ·have hjl : j < qs.length := by have := HN.out; omega
   obtain ⟨q, hq⟩ : ∃ q, qs[j]? = some q := ⟨_, List.getElem?_eq_getElem hjl⟩
   obtain ⟨p, hpf⟩ : ∃ p, p = f q := ⟨_, rfl⟩
   have hp : (qs.map f)[j]? = some p := by rw [List.getElem?_map, hq, hpf]; rfl
   have HTK : Hid (qs.take (j + 1) = qs.take j ++ [q]) := Lib.hid (by rw [List.take_add_one, hq]; rfl)
   have hpr := (HG.out.of_block (hkp.2 g (by simp))).rng j p hp
   have cx := hpr 0 _ rfl
   have cy := hpr 1 _ rfl
   simp only [Nat.add_zero] at cx
   have HP := Lib.hid hp
   have i0 : (0 : Int) ≤ (j : Int) := by omega
   have i1 : (j : Int) < (N : Int) := by omega
   have HJS := Lib.hid hJs
   have hal : Below wr.heap.size wr (wr.alloc (.cells #[.int .i64 (p.1 : Int), .int .u64 (p.2 : Int)] 155)) := (Below.refl _ _).alloc (Nat.le_refl _) _
   have HKA : Hid (KpB [Bs, g] W (wr.alloc (.cells #[.int .i64 (p.1 : Int), .int .u64 (p.2 : Int)] 155))) := Lib.hid (KpB.trans hkp (KpB.of_below hal (by have := HLT.out; have := hkp.1; intro i hi; simp at hi; omega)))
   have hJA := HJ.out _ wr _ none hJs (below_gr hal) (fun r e => by cases e)
   obtain ⟨fn, tmps, assign, body, hy, hR⟩ := HY.out _ q _ hJA (by rw [List.length_take]; omega)
   rw [← HTK.out] at hR
   rw [← hpf] at hy
   unfold pcV at hy
   clear hkp hpr hp hJs hjl hq hpf hal hJA HJS
   gi_wp2_with fail
   refine hR.mono ?_
   rintro e W3 (⟨rfl, hJ3, hk3⟩ | ⟨rfl, hJx3⟩)
   ·have HJ3 := Lib.hid hJ3
    have HK3 := Lib.hid (KpB.trans HKA.out hk3)
    clear hJ3 hk3 cx cy hy hR
    gi_wp2
    go_roundw
    case rel => exact ⟨j + 1, by omega, by simp, HJ3.out, HK3.out⟩
    case measure => simp [intOf]; omega
   ·have HJ3 := Lib.hid hJx3
    clear hJx3 cx cy hy hR
    gi_wp2
    refine bodyPost_ret (results_none rfl _ _ _) rfl ?_
    exact ⟨⟨_, rfl⟩, .inr ⟨_, ⟨j + 1, rfl⟩, HJ3.out⟩⟩
  ·obtain rfl : j = N := by omega
   have HJ4 : Hid (J qs wr) := Lib.hid (by rw [HN.out, List.take_length] at hJs; exact hJs)
   clear hJs hkp
   gi_wp2
   go_end0
   exact ⟨⟨_, rfl⟩, .inl ⟨_, rfl, HJ4.out⟩⟩
theorem slv_stops (n : Nat) (hn : 1 ≤ n) (Bs g cap : Nat) {α : Type} (f : α → Nat × Nat) (qs : List α) (hlen : qs.length ≤ 100000) (w : World) (hBs : Blk w Bs 256 #[.slice (some ⟨g, 0, none⟩) qs.length cap]) (hg : PcAt w g (qs.map f)) :
    SeqStopsK Fence.wide n Tryz.prog 213 #[.pointer (some ⟨Bs, 0, none⟩)] (fun x : α => #[pcV (f x)]) (KpB [Bs, g]) (fun ys => ys = qs) (fun pre => ∃ j, pre = qs.take j) qs.length w := fun l J Jx W hW hJ _ hY h0 =>
  slv1 n hn l Bs g cap f qs hlen J Jx hY W hJ (hBs.kept hW) (hg.kept hW) h0
end Go.Proofs.YtfeficdndjiijaaGreatDoor

