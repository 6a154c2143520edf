import Derived.Test.YthbkljeibmkimaaGreatQtd
import Derived.Test.YthbkljeibmkimaaGreatQta
import Derived.Test.YthbkljeibmkimaaGreatQtc
import Derived.Deep.DeepCutAuto
import Derived.Deep.Cut
import Derived.BigRegion
import Derived.BigQuiet
import Derived.Test.YthbkljeibmkimaaGreatQtb
import Derived.Test.YthbkljeibmkimaaGreatProg
import Derived.WalkKit
import Derived.ProofKit
import Derived.Lib.Hide
import Derived.Outline
/-
  Contracts of the functions that HeavyTells reaches, and the plain laws that it leans on. Conditions: none beyond those stated at each theorem.
-/
namespace Go.Proofs.YthbkljeibmkimaaGreat
open Go.RowKit Go.Shelf
set_option linter.unusedVariables false
set_option linter.unusedSimpArgs false
attribute [local go_sem] Oper.semAt_some


def StUpPost (w : World) (base S L : Nat) (b r d m s : Int) (X : Nat → Value) (A G C : Nat → Nat) (Z : Nat → List Int) (k : Nat) (x : Int) (e : Ending) (w' : World) : Prop :=
  e = .returned (.int .i64 (stErr b r d m s Z k x)) ∧ StIs w' base S L b r d m s X A G C (stUpd b r d m s Z k x) ∧ RGr w w' C (b.toNat + 1)
theorem stupdate_key (w : World) (base S L : Nat) (b r d m s : Int) (X : Nat → Value) (A G C : Nat → Nat) (Z : Nat → List Int) (h : StIs w base S L b r d m s X A G C Z) (k : Nat) (x : Int) (hk : keysI b r d m 0 ≤ (k : Int)) :
  Calls Tryz.prog 9 #[.pointer (some ⟨S, 0, none⟩), .int .u64 (k : Int), .int .i64 x] w (StUpPost w base S L b r d m s X A G C Z k x) := by
 have HE : Hid (stErr b r d m s Z k x = 2) := Lib.hid (by unfold stErr; rw [if_pos hk])
 have HU : Hid (∀ n, stUpd b r d m s Z k x n = Z n) := Lib.hid (fun n => by unfold stUpd; rw [HE.out, if_neg (by decide)])
 unfold StUpPost
 rw [HE.out]
 have PK := Lib.hid (fun w => keys_any b r d m s 0 w)
 have e1 : decide (keysI b r d m 0 ≤ (k : Int)) = true := decide_eq_true hk
 have hal : Below w.heap.size w (w.alloc (.cells #[.int .i64 x] 2)) := (Below.refl _ _).alloc (Nat.le_refl _) _
 obtain ⟨cap, hbx, -⟩ := h.box
 have hA := hbx.kept hal
 have c0 := hA.cell 0
 have c1 := hA.cell 1
 have c2 := hA.cell 2
 have c3 := hA.cell 3
 have c4 := hA.cell 4
 simp at c0 c1 c2 c3 c4
 have HS := Lib.hid (h.kept hal)
 have HB := Lib.hid hal
 clear h hk hbx hal hA
 go_enter Tryz.func9, Tryz.ntmps9
 go_wp2_with fail
 generalize (w.alloc (.cells #[.int .i64 x] 2)) = w1 at *
 with_reducible refine (PK.out _).mono ?_
 rintro e w2 ⟨rfl, hb⟩
 have HS2 := Lib.hid (HS.out.kept hb)
 have HB2 := Lib.hid (btr HB.out hb)
 clear hb c0 c1 c2 c3 c4
 go_wp2
 go_ret
 exact ⟨rfl, HS2.out.setC (fun n _ => (HU.out n).symm), RGr.of_below HB2.out⟩
def vals {q : Nat} (l : List (LvN q)) : List Nat := l.map (·.1)
theorem vals_snoc {q : Nat} (l : List (LvN q)) (y : LvN q) : vals (l ++ [y]) = vals l ++ [y.1] := by simp [vals]
theorem vals_all (q : Nat) : vals (uptoN q (q + 1)) = List.range (q + 1) := uptoN_map q (q + 1) (Nat.le_refl _)
structure ChkI (W0 W : World) (base S L : Nat) (b r d m s : Int) (X : Nat → Value) (A G C : Nat → Nat) (Z : Nat → List Int) (BD BB T : Nat) (x v : Int) : Prop where
  top : T ≤ W.heap.size
  st : StIs W base S L b r d m s X A G C Z
  num : Blk W BD 2 #[.int .i64 x]
  bad : Blk W BB 31 #[.int .i64 v]
  bel : Below W0.heap.size W0 W
theorem ChkI.kept {W0 W W' : World} {base S L : Nat} {b r d m s : Int} {X : Nat → Value} {A G C : Nat → Nat} {Z : Nat → List Int} {BD BB T : Nat} {x v : Int} (h : ChkI W0 W base S L b r d m s X A G C Z BD BB T x v) (hb : Below W.heap.size W W') : ChkI W0 W' base S L b r d m s X A G C Z BD BB T x v :=
  ⟨Nat.le_trans h.top hb.size, h.st.kept hb, h.num.kept hb, h.bad.kept hb, btr h.bel hb⟩
theorem ChkI.walked {W0 W W' : World} {base S L : Nat} {b r d m s : Int} {X : Nat → Value} {A G C : Nat → Nat} {Z : Nat → List Int} {BD BB T : Nat} {x v : Int} {row : Option Nat} (h : ChkI W0 W base S L b r d m s X A G C Z BD BB T x v) (hg : W.grownBy W' row) (hr : ∀ r, row = some r → W0.heap.size ≤ r ∧ ∃ o : Obj, W.heap[r]? = some o ∧ o.isCells = false) : ChkI W0 W' base S L b r d m s X A G C Z BD BB T x v :=
  ⟨Nat.le_trans h.top hg.size, h.st.walked hg (fun r e => (hr r e).2), h.num.walked hg (fun r e => (hr r e).2), h.bad.walked hg (fun r e => (hr r e).2), h.bel.grown hg h.bel.size (fun k e => (hr k e).1)⟩
theorem ChkI.put {W0 W : World} {base S L : Nat} {b r d m s : Int} {X : Nat → Value} {A G C : Nat → Nat} {Z : Nat → List Int} {BD BB T : Nat} {x v : Int} (h : ChkI W0 W base S L b r d m s X A G C Z BD BB T x v) (hB : W0.heap.size ≤ BB) (u : Int) : ChkI W0 (W.setCell ⟨BB, 0, none⟩ (.int .i64 u)) base S L b r d m s X A G C Z BD BB T x u :=
  ⟨by simpa using h.top, h.st.far h.bad (by decide) (by decide) (grown_set W BB 0 _), h.num.far (by simpa using h.num.ne_ h.bad (by decide)) _, by simpa using h.bad.set_ 0 (.int .i64 u), h.bel.setCell (p := ⟨BB, 0, none⟩) hB _⟩
theorem ChkI.round {W0 W w5 : World} {base S L : Nat} {b r d m s : Int} {X : Nat → Value} {A G C : Nat → Nat} {Z : Nat → List Int} {BD BB T : Nat} {x v : Int} (h : ChkI W0 W base S L b r d m s X A G C Z BD BB T x v) (hb : Below W.heap.size W w5) (o : Obj) (hB : W0.heap.size ≤ BB) (u : Int) (l : List Nat) (hl : ∀ i ∈ l, i < W.heap.size ∧ i ≠ BB) :
    KeepsOthers W ((w5.alloc o).setCell ⟨BB, 0, none⟩ (.int .i64 u)) ∧ KpB l W ((w5.alloc o).setCell ⟨BB, 0, none⟩ (.int .i64 u)) ∧ ChkI W0 ((w5.alloc o).setCell ⟨BB, 0, none⟩ (.int .i64 u)) base S L b r d m s X A G C Z BD BB T x u := by
  have h2 : Below W.heap.size W (w5.alloc o) := btr hb (below_alloc1 w5 o)
  have h3 : W.grownBy ((w5.alloc o).setCell ⟨BB, 0, none⟩ (.int .i64 u)) (some BB) := gr_trans (below_gr h2) (grown_set _ BB 0 _)
  exact ⟨kept_others h3 (fun g e => ⟨_, _, by cases e; exact h.bad⟩), KpB.of_grown h3 (fun i hi => ⟨(hl i hi).1, by simpa using (hl i hi).2⟩), (h.kept h2).put hB u⟩
noncomputable def foldE (b r d m s : Int) (Z : Nat → List Int) (k : Nat) (x : Int) (l : List Nat) : Int := l.foldl (fun a (n : Nat) => firstI a (lvErr b r d m s (n : Int) (Z n) (k / 2 ^ n) x)) 0
theorem foldE_snoc (b r d m s : Int) (Z : Nat → List Int) (k : Nat) (x : Int) (l : List Nat) (n : Nat) : foldE b r d m s Z k x (l ++ [n]) = firstI (foldE b r d m s Z k x l) (lvErr b r d m s (n : Int) (Z n) (k / 2 ^ n) x) := by
  unfold foldE
  rw [List.foldl_append]
  rfl
noncomputable def timesU (b r d m s : Int) (k : Nat) (x : Int) (n : Nat) (zs : List Int) : Nat → List Int
  | 0 => zs
  | j + 1 => lvUpd b r d m s (n : Int) (timesU b r d m s k x n zs j) (k / 2 ^ n) x
structure UpdI (W0 W : World) (base S L : Nat) (b r d m s : Int) (X : Nat → Value) (A G C : Nat → Nat) (Z : Nat → List Int) (BD T D1 : Nat) (x : Int) (k : Nat) (l : List Nat) : Prop where
  top : T ≤ W.heap.size
  st : StIs W base S L b r d m s X A G C (fun n => timesU b r d m s k x n (Z n) (l.count n))
  num : Blk W BD 2 #[.int .i64 x]
  gr : RGr W0 W C (b.toNat + 1)
  mark : W.heap[D1]? = some (.deferred (some []))
theorem RGr.grown {W0 W W' : World} {C : Nat → Nat} {q : Nat} {row : Option Nat} (h : RGr W0 W C q) (hg : W.grownBy W' row) (hr : ∀ r, row = some r → W0.heap.size ≤ r ∨ ∃ n, n < q ∧ r = C n) : RGr W0 W' C q :=
  ⟨hg.os.trans h.os, hg.tape.trans h.tape, hg.output.trans h.output, Nat.le_trans h.size hg.size, fun k hk hne => (hg.block k (Nat.lt_of_lt_of_le hk h.size) (fun e => by
    rcases hr k e.symm with h1 | ⟨n, hn, e2⟩
    · omega
    · exact hne n hn e2)).trans (h.block k hk hne)⟩
theorem UpdI.walked {W0 W W' : World} {base S L : Nat} {b r d m s : Int} {X : Nat → Value} {A G C : Nat → Nat} {Z : Nat → List Int} {BD T D1 : Nat} {x : Int} {k : Nat} {l : List Nat} {row : Option Nat} {B : Nat} (h : UpdI W0 W base S L b r d m s X A G C Z BD T D1 x k l) (h0 : W0.heap.size ≤ B) (h1 : D1 < B) (hg : W.grownBy W' row) (hr : ∀ r, row = some r → B ≤ r ∧ ∃ o : Obj, W.heap[r]? = some o ∧ o.isCells = false) : UpdI W0 W' base S L b r d m s X A G C Z BD T D1 x k l :=
  ⟨Nat.le_trans h.top hg.size, h.st.walked hg (fun r e => (hr r e).2), h.num.walked hg (fun r e => (hr r e).2), h.gr.grown hg (fun r e => .inl (by have := (hr r e).1; omega)),
    (hg.block D1 (Array.getElem?_eq_some_iff.1 h.mark).1 (fun e => by have := (hr D1 e.symm).1; omega)).trans h.mark⟩
theorem UpdI.next {W0 W W' : World} {base S L : Nat} {b r d m s : Int} {X : Nat → Value} {A G C : Nat → Nat} {Z : Nat → List Int} {BD T D1 : Nat} {x : Int} {k : Nat} {l : List Nat} (h : UpdI W0 W base S L b r d m s X A G C Z BD T D1 x k l) (hT : BD < T) {n : Nat} (hn : n ≤ b.toNat) (hBD : BD ≠ C n) {e : Ending}
  (hp : LvUpPost W (X n) (A n) (G n) (C n) b r d m s n (timesU b r d m s k x n (Z n) (l.count n)) (k / 2 ^ n) x e W') : UpdI W0 W' base S L b r d m s X A G C Z BD T D1 x k (l ++ [n]) := by
 obtain ⟨-, hl, hg⟩ := hp
 obtain ⟨cur, hC⟩ := (h.st.lev n hn).cells
 refine ⟨Nat.le_trans h.top hg.size, (h.st.put hn hg hl).setC (fun j hj => ?_), h.num.grown hg (by simpa using hBD), h.gr.grown hg (fun r e => .inr ⟨n, by omega, by have := Option.some.inj e; omega⟩), ?_⟩
 ·by_cases e : j = n
  ·subst e
   rw [upN_same, List.count_append, List.count_singleton_self]
   rfl
  ·rw [upN_other _ _ e, List.count_append, List.count_singleton, if_neg (by simpa using fun e2 => e e2.symm), Nat.add_zero]
 ·refine (hg.block D1 (Array.getElem?_eq_some_iff.1 h.mark).1 (fun e => ?_)).trans h.mark
  have e := Option.some.inj e
  have h1 := h.mark
  unfold Blk at hC
  rw [e, hC] at h1
  cases h1
theorem count_upto (q n : Nat) : (List.range q).count n = if n < q then 1 else 0 := by
  induction q with
  | zero => simp
  | succ q ih =>
    rw [List.range_succ, List.count_append, ih, List.count_singleton]
    by_cases h1 : n < q
    · rw [if_pos h1, if_neg (by simp; omega), if_pos (by omega)]
    · by_cases h2 : n = q
      · subst h2; simp
      · rw [if_neg h1, if_neg (by simp; omega), if_neg (by omega)]
theorem shr_small {k : Nat} (hk : k < 18446744073709551616) (n : Nat) : k / 2 ^ n < 18446744073709551616 := Nat.lt_of_le_of_lt (Nat.div_le_self _ _) hk
set_option maxRecDepth 100000 in
set_option maxHeartbeats 8000000 in
theorem stupdate_in (w : World) (base S L : Nat) (b r d m s : Int) (X : Nat → Value) (A G C : Nat → Nat) (Z : Nat → List Int) (h : StIs w base S L b r d m s X A G C Z) (s0 : 0 ≤ s) (s1 : s ≤ 18446744073709551615) (k : Nat) (hk64 : k < 18446744073709551616) (x : Int) (hx : In64 x) (hk : (k : Int) < keysI b r d m 0) :
  Calls Tryz.prog 9 #[.pointer (some ⟨S, 0, none⟩), .int .u64 (k : Int), .int .i64 x] w (StUpPost w base S L b r d m s X A G C Z k x) := by
 obtain ⟨q, hq⟩ : ∃ q : Nat, b.toNat = q := ⟨_, rfl⟩
 have hR := right_of h.right
 have hq59 : q ≤ 59 := by omega
 have PK := Lib.hid (fun w => keys_any b r d m s 0 w)
 have e1 : decide (keysI b r d m 0 ≤ (k : Int)) = false := decide_eq_false (by omega)
 have hal : Below w.heap.size w (w.alloc (.cells #[.int .i64 x] 2)) := (Below.refl _ _).alloc (Nat.le_refl _) _
 have HNUM := Lib.hid (Blk.new w 2 #[.int .i64 x])
 obtain ⟨cap, hbx, hcap⟩ := h.box
 rw [hq] at hbx hcap
 have hA := hbx.kept hal
 have c0 := hA.cell 0
 have c1 := hA.cell 1
 have c2 := hA.cell 2
 have c3 := hA.cell 3
 have c4 := hA.cell 4
 simp at c0 c1 c2 c3 c4
 have HCL : Hid (∀ n, n ≤ b.toNat → C n < w.heap.size) := Lib.hid (fun n hn => (h.lev n hn).ltC)
 have HS := Lib.hid (h.kept hal)
 have HB := Lib.hid hal
 have HRT := Lib.hid h.right
 have HKK := Lib.hid hk
 have HQ := Lib.hid hq
 have PI := Lib.hid hbx
 clear h hbx hal hA hR hk hcap hq
 refine (callsIn_wide (n := 6)).1 ?_
 refine callsIn_of_wp_marks Tryz.func9 rfl trivial ?_ rfl
 simp only [Tryz.ntmps9, List.size_toArray, List.length_cons, List.length_nil, Nat.reduceAdd, Nat.reduceSub, Array.replicate_succ, Array.replicate_zero, List.push_toArray, List.append_toArray, List.nil_append, List.cons_append]
 gi_wp2_with fail
 generalize hw1 : (w.alloc (.cells #[.int .i64 x] 2)) = w1 at *
 have HW1 := Lib.hid hw1
 clear hw1
 refine ⟨trivial, ?_⟩
 with_reducible refine (callsIn_wide.2 (PK.out _)).mono ?_
 rintro e w2 ⟨rfl, hb⟩
 have HS2 := Lib.hid (HS.out.kept hb)
 have HB2 := Lib.hid (btr HB.out hb)
 have HN2 := Lib.hid (HNUM.out.kept hb)
 clear hb c0 c1 c2 c3 c4
 gi_wp2_with fail
 have HS3 := Lib.hid (HS2.out.kept (below_alloc1 w2 (.cells #[.int .i64 0] 31)))
 have HB3 := Lib.hid (btr HB2.out (below_alloc1 w2 (.cells #[.int .i64 0] 31)))
 have HN3 := Lib.hid (HN2.out.kept (below_alloc1 w2 (.cells #[.int .i64 0] 31)))
 have HE3 := Lib.hid (Blk.new w2 31 #[.int .i64 0])
 have HSZ : Hid (w.heap.size ≤ w2.heap.size) := Lib.hid HB2.out.size
 generalize (w2.alloc (.cells #[.int .i64 0] 31)) = w3 at *
 refine ⟨trivial, ?_⟩
 with_reducible refine (callsIn_wide.2 (stat S (k : Int) w3)).mono ?_
 rintro e w4 ⟨rfl, hw4⟩
 obtain ⟨ga, gb, gc, gd⟩ := news2 w3 (.cells #[.pointer (some ⟨S, 0, none⟩)] 30) (.cells #[.int .u64 (k : Int)] 22)
 rw [← hw4] at ga gb gc gd
 have HGA : Hid (Blk w4 w3.heap.size 30 #[.pointer (some ⟨S, 0, none⟩)]) := Lib.hid ga
 have HGB : Hid (Blk w4 (w3.heap.size + 1) 22 #[.int .u64 (k : Int)]) := Lib.hid gb
 have HI0 : Hid (ChkI w w4 base S L b r d m s X A G C Z w.heap.size w2.heap.size w4.heap.size x (foldE b r d m s Z k x [])) := Lib.hid ⟨Nat.le_refl _, HS3.out.kept gc, HN3.out.kept gc, HE3.out.kept gc, btr HB3.out gc⟩
 have HTOP : Hid (w3.heap.size + 2 = w4.heap.size ∧ w2.heap.size < w3.heap.size) := Lib.hid ⟨gd.symm, HE3.out.lt⟩
 clear hw4 ga gb gc gd
 gi_wp2_with fail
 obtain ⟨capS, hbx, -⟩ := HI0.out.st.box
 obtain ⟨cur, hrow, hcur⟩ := HI0.out.st.row
 rw [HQ.out] at hbx hcur
 have HXO : Hid (∀ n, n ≤ q → ∃ t a, X n = .iface t (.pointer (some ⟨a, 0, none⟩))) := Lib.hid (fun n hn => by
  obtain ⟨t, ht⟩ := (HI0.out.st.lev n (by rw [HQ.out]; exact hn)).open_
  exact ⟨t, _, ht⟩)
 have HNE : Hid (S < w4.heap.size ∧ L < w4.heap.size ∧ S ≠ w2.heap.size ∧ L ≠ w2.heap.size) := Lib.hid ⟨hbx.lt, hrow.lt, hbx.ne_ HI0.out.bad (by decide), hrow.ne_ HI0.out.bad (by decide)⟩
 refine wpIn_rangeFunc_ownF rfl (by omega) (gf := 54) (lb := #[.pointer (some ⟨w3.heap.size, 0, none⟩), .pointer (some ⟨w3.heap.size + 1, 0, none⟩)]) rfl trivial (enters_of Tryz.func54 (by kernel_rfl) rfl)
  (st_stops (6 - 1) (by omega) w3.heap.size (w3.heap.size + 1) S L q capS k cur X hq59 w4 HXO.out HGA.out HGB.out ⟨_, _, _, _, _, hbx⟩ hrow hcur) KpB.trans (KpB.put (by
   have h1 := HTOP.out; have h2 := HNE.out
   intro i hi
   simp at hi
   omega)) (Below.refl _ _) (fun _ => rfl)
  (fun (pre : List (LvN q)) W => ChkI w W base S L b r d m s X A G C Z w.heap.size w2.heap.size w4.heap.size x (foldE b r d m s Z k x (vals pre)))
  (fun _ _ _ => False)
  (fun pre W W' row hs hg hr => hs.walked hg (fun r e => ⟨by have h1 := (hr r e).1; have h2 := HI0.out.bel.size; omega, (hr r e).2⟩))
  (fun _ _ _ _ _ hs _ _ => hs)
  HI0.out
  (fun (y : LvN q) => { tmps := #[.pointer (some ⟨S, 0, none⟩), .int .u64 (k : Int), .int .i64 x, undef, undef, .pointer (some ⟨w.heap.size, 0, none⟩), .int .i64 0, .pointer (some ⟨w2.heap.size, 0, none⟩), X y.1, .int .u64 ((k / 2 ^ y.1 : Nat) : Int), undef, undef,
   .int .u64 (k : Int), .pointer (some ⟨S, 0, none⟩), .pointer (some ⟨S, 0, none⟩), .pointer (some ⟨S, 0, none⟩), .agg #[.int .i64 b, .int .i64 r, .int .i64 d, .int .i64 m, .int .u64 s], .int .u64 (keysI b r d m 0), .bool false, .pointer (some ⟨S, 0, none⟩), .int .u64 (k : Int),
   .func (.func 54) #[] #[.pointer (some ⟨w3.heap.size, 0, none⟩), .pointer (some ⟨w3.heap.size + 1, 0, none⟩)], X y.1, .int .u64 ((k / 2 ^ y.1 : Nat) : Int), undef, undef, undef, undef, undef, undef, undef, undef, undef, undef, undef, undef, undef, undef, undef, undef, undef, undef, undef], defers := [] }) ?assign ?body ?done ?stop
 case assign =>
  intro l y W K hK
  obtain ⟨t, a, hx⟩ := HXO.out y.1 y.2
  simp only [hx] at hK ⊢
  gi_wp2
  exact hK
 case body =>
  intro l pre y W hI _
  have HI := Lib.hid hI
  have hyb : y.1 ≤ b.toNat := by have := HQ.out; have := y.2; omega
  obtain ⟨f, ⟨TX, hX, hm, hen⟩, PCk⟩ := lvcheck W.drew (X y.1) _ _ _ b r d m s (y.1 : Int) (Z y.1) ((hI.st.lev y.1 hyb).kept (below_drewN (Below.refl _ _) 1)) HRT.out s0 s1 (k / 2 ^ y.1) (shr_small hk64 _) x hx
  rw [show ((k / 2 ^ y.1 : Nat) : Int) = (k : Int) / 2 ^ y.1 by rw [Int.natCast_ediv, Int.natCast_pow]; rfl] at PCk
  have PCk := Lib.hid PCk
  have HI1 : Hid (ChkI w W.drew base S L b r d m s X A G C Z w.heap.size w2.heap.size w4.heap.size x (foldE b r d m s Z k x (vals pre))) := Lib.hid (hI.kept (below_drewN (Below.refl _ _) 1))
  have HF := Lib.hid (foldE_snoc b r d m s Z k x (vals pre) y.1)
  have HEND : Hid (∀ w5 o, Below W.drew.heap.size W.drew w5 → ∀ u, u = foldE b r d m s Z k x (vals (pre ++ [y])) → KeepsOthers W ((w5.alloc o).setCell ⟨w2.heap.size, 0, none⟩ (.int .i64 u)) ∧ KpB [w3.heap.size, w3.heap.size + 1, S, L] W ((w5.alloc o).setCell ⟨w2.heap.size, 0, none⟩ (.int .i64 u)) ∧ ChkI w ((w5.alloc o).setCell ⟨w2.heap.size, 0, none⟩ (.int .i64 u)) base S L b r d m s X A G C Z w.heap.size w2.heap.size w4.heap.size x (foldE b r d m s Z k x (vals (pre ++ [y])))) := Lib.hid (fun w5 o hb u hu => by
   rw [← hu]
   refine hI.round (btr (below_drewN (Below.refl _ _) 1) hb) o HSZ.out u _ (fun i hi => ?_)
   have h1 := HTOP.out; have h2 := HNE.out; have h3 := hI.top
   simp at hi
   omega)
  have HUE : Hid (firstI (foldE b r d m s Z k x (vals pre)) (lvErr b r d m s (y.1 : Int) (Z y.1) (k / 2 ^ y.1) x) = foldE b r d m s Z k x (vals (pre ++ [y]))) := Lib.hid (by rw [vals_snoc, HF.out])
  simp only [hX]
  clear hI hX
  gi_wp2_with fail
  refine wpIn_round_any (by kernel_rfl) (by kernel_rfl) (by rintro ⟨_, _, h⟩; exact h) ?_; generalize W.drew = Wd at *; have q0 := HI1.out.bad.cell 0; have q1 := HI1.out.num.cell 0; simp at q0 q1
  refine tkA (i := 1) (v := ?_) rfl (by kernel_rfl) (fun _ _ _ h => h) (Or.inl ⟨by rfl, ?_⟩) ?_
  rotate_left
  ·intro w
   go_simp
   try with_reducible rfl
  simp only [Act.put, z1, z2, z3, z4, z5, z6]
  refine tkA (i := 2) (v := ?_) rfl (by kernel_rfl) (fun _ _ _ h => h) (Or.inl ⟨by rfl, ?_⟩) ?_
  rotate_left
  ·intro w
   go_simp
   try with_reducible rfl
  simp only [Act.put, z1, z2, z3, z4, z5, z6]
  refine wpAny_ready (rs := [0, 3]) (by kernel_rfl) (by simp) ?_
  refine AllReady.cons rfl (fun Kc hKc => ?_) (AllReady.cons rfl (fun Kc hKc => ?_) AllReady.nil)
  ·have HKc := Lib.hid hKc
   clear hKc
   go_simp
   refine HKc.out _ _ ?_
   clear HKc Kc
   refine wpAny_ready (rs := [3]) (by kernel_rfl) (by simp) ?_
   refine AllReady.cons rfl (fun Kc hKc => ?_) AllReady.nil
   have HKc := Lib.hid hKc
   clear hKc
   go_simp
   refine HKc.out _ _ ?_
   clear HKc Kc
   refine wpAny_ready (rs := [4]) (by kernel_rfl) (by simp) ?_
   refine AllReady.cons rfl (fun Kc hKc => ?_) AllReady.nil
   have HKc := Lib.hid hKc
   clear hKc
   go_simp
   go_wp2_with (first | (with_reducible refine PCk.out.mono ?_; rintro e w5 ⟨rfl, hb⟩; have HI5 := Lib.hid (HI1.out.kept hb); have HP := Lib.hid (HEND.out w5 (.cells #[.int .i64 (foldE b r d m s Z k x (vals pre)), .int .i64 (lvErr b r d m s (y.1 : Int) (Z y.1) (k / 2 ^ y.1) x)] 31) hb _ HUE.out); have q0 := HI5.out.bad.cell 0; simp at q0; clear hb) | (go_at_call 25; refine (first_any w5.heap.size _ _ _ (Blk.new w5 _ _)).mono ?_; rintro e w6 ⟨rfl, hw6⟩; subst hw6; have HI6 := Lib.hid (HI5.out.kept (below_alloc1 w5 (.cells #[.int .i64 (foldE b r d m s Z k x (vals pre)), .int .i64 (lvErr b r d m s (y.1 : Int) (Z y.1) (k / 2 ^ y.1) x)] 31))); have f0 := HI6.out.bad.frozen 0; have q0 := HI6.out.bad.cell 0; simp at q0 f0))
   refine HKc.out _ _ ?_
   clear HKc Kc
   refine wpAny_ready (rs := [5]) (by kernel_rfl) (by simp) ?_
   refine AllReady.cons rfl (fun Kc hKc => ?_) AllReady.nil
   have HKc := Lib.hid hKc
   clear hKc
   go_simp
   refine HKc.out _ _ ?_
   clear HKc Kc
   refine wpAny_ready (rs := [6]) (by kernel_rfl) (by simp) ?_
   refine AllReady.cons rfl (fun Kc hKc => ?_) AllReady.nil
   have HKc := Lib.hid hKc
   clear hKc
   go_simp
   go_wp2_with (first | (with_reducible refine PCk.out.mono ?_; rintro e w5 ⟨rfl, hb⟩; have HI5 := Lib.hid (HI1.out.kept hb); have HP := Lib.hid (HEND.out w5 (.cells #[.int .i64 (foldE b r d m s Z k x (vals pre)), .int .i64 (lvErr b r d m s (y.1 : Int) (Z y.1) (k / 2 ^ y.1) x)] 31) hb _ HUE.out); have q0 := HI5.out.bad.cell 0; simp at q0; clear hb) | (go_at_call 25; refine (first_any w5.heap.size _ _ _ (Blk.new w5 _ _)).mono ?_; rintro e w6 ⟨rfl, hw6⟩; subst hw6; have HI6 := Lib.hid (HI5.out.kept (below_alloc1 w5 (.cells #[.int .i64 (foldE b r d m s Z k x (vals pre)), .int .i64 (lvErr b r d m s (y.1 : Int) (Z y.1) (k / 2 ^ y.1) x)] 31))); have f0 := HI6.out.bad.frozen 0; have q0 := HI6.out.bad.cell 0; simp at q0 f0))
   refine HKc.out _ _ ?_
   clear HKc Kc
   refine wpAny_ready (rs := [7]) (by kernel_rfl) (by simp) ?_
   refine AllReady.cons rfl (fun Kc hKc => ?_) AllReady.nil
   have HKc := Lib.hid hKc
   clear hKc
   go_simp
   refine HKc.out _ _ ?_
   clear HKc Kc
   refine wpAny_done (by kernel_rfl) ?_ _
   gi_wp2
   exact HP.out
  ·have HKc := Lib.hid hKc
   clear hKc
   go_simp
   refine HKc.out _ _ ?_
   clear HKc Kc
   refine wpAny_ready (rs := [0, 4]) (by kernel_rfl) (by simp) ?_
   refine AllReady.cons rfl (fun Kc hKc => ?_) (AllReady.cons rfl (fun Kc hKc => ?_) AllReady.nil)
   ·have HKc := Lib.hid hKc
    clear hKc
    go_simp
    refine HKc.out _ _ ?_
    clear HKc Kc
    refine wpAny_ready (rs := [4]) (by kernel_rfl) (by simp) ?_
    refine AllReady.cons rfl (fun Kc hKc => ?_) AllReady.nil
    have HKc := Lib.hid hKc
    clear hKc
    go_simp
    go_wp2_with (first | (with_reducible refine PCk.out.mono ?_; rintro e w5 ⟨rfl, hb⟩; have HI5 := Lib.hid (HI1.out.kept hb); have HP := Lib.hid (HEND.out w5 (.cells #[.int .i64 (foldE b r d m s Z k x (vals pre)), .int .i64 (lvErr b r d m s (y.1 : Int) (Z y.1) (k / 2 ^ y.1) x)] 31) hb _ HUE.out); have q0 := HI5.out.bad.cell 0; simp at q0; clear hb) | (go_at_call 25; refine (first_any w5.heap.size _ _ _ (Blk.new w5 _ _)).mono ?_; rintro e w6 ⟨rfl, hw6⟩; subst hw6; have HI6 := Lib.hid (HI5.out.kept (below_alloc1 w5 (.cells #[.int .i64 (foldE b r d m s Z k x (vals pre)), .int .i64 (lvErr b r d m s (y.1 : Int) (Z y.1) (k / 2 ^ y.1) x)] 31))); have f0 := HI6.out.bad.frozen 0; have q0 := HI6.out.bad.cell 0; simp at q0 f0))
    refine HKc.out _ _ ?_
    clear HKc Kc
    refine wpAny_ready (rs := [5]) (by kernel_rfl) (by simp) ?_
    refine AllReady.cons rfl (fun Kc hKc => ?_) AllReady.nil
    have HKc := Lib.hid hKc
    clear hKc
    go_simp
    refine HKc.out _ _ ?_
    clear HKc Kc
    refine wpAny_ready (rs := [6]) (by kernel_rfl) (by simp) ?_
    refine AllReady.cons rfl (fun Kc hKc => ?_) AllReady.nil
    have HKc := Lib.hid hKc
    clear hKc
    go_simp
    go_wp2_with (first | (with_reducible refine PCk.out.mono ?_; rintro e w5 ⟨rfl, hb⟩; have HI5 := Lib.hid (HI1.out.kept hb); have HP := Lib.hid (HEND.out w5 (.cells #[.int .i64 (foldE b r d m s Z k x (vals pre)), .int .i64 (lvErr b r d m s (y.1 : Int) (Z y.1) (k / 2 ^ y.1) x)] 31) hb _ HUE.out); have q0 := HI5.out.bad.cell 0; simp at q0; clear hb) | (go_at_call 25; refine (first_any w5.heap.size _ _ _ (Blk.new w5 _ _)).mono ?_; rintro e w6 ⟨rfl, hw6⟩; subst hw6; have HI6 := Lib.hid (HI5.out.kept (below_alloc1 w5 (.cells #[.int .i64 (foldE b r d m s Z k x (vals pre)), .int .i64 (lvErr b r d m s (y.1 : Int) (Z y.1) (k / 2 ^ y.1) x)] 31))); have f0 := HI6.out.bad.frozen 0; have q0 := HI6.out.bad.cell 0; simp at q0 f0))
    refine HKc.out _ _ ?_
    clear HKc Kc
    refine wpAny_ready (rs := [7]) (by kernel_rfl) (by simp) ?_
    refine AllReady.cons rfl (fun Kc hKc => ?_) AllReady.nil
    have HKc := Lib.hid hKc
    clear hKc
    go_simp
    refine HKc.out _ _ ?_
    clear HKc Kc
    refine wpAny_done (by kernel_rfl) ?_ _
    gi_wp2
    exact HP.out
   ·have HKc := Lib.hid hKc
    clear hKc
    go_simp
    go_wp2_with (first | (with_reducible refine PCk.out.mono ?_; rintro e w5 ⟨rfl, hb⟩; have HI5 := Lib.hid (HI1.out.kept hb); have HP := Lib.hid (HEND.out w5 (.cells #[.int .i64 (foldE b r d m s Z k x (vals pre)), .int .i64 (lvErr b r d m s (y.1 : Int) (Z y.1) (k / 2 ^ y.1) x)] 31) hb _ HUE.out); have q0 := HI5.out.bad.cell 0; simp at q0; clear hb) | (go_at_call 25; refine (first_any w5.heap.size _ _ _ (Blk.new w5 _ _)).mono ?_; rintro e w6 ⟨rfl, hw6⟩; subst hw6; have HI6 := Lib.hid (HI5.out.kept (below_alloc1 w5 (.cells #[.int .i64 (foldE b r d m s Z k x (vals pre)), .int .i64 (lvErr b r d m s (y.1 : Int) (Z y.1) (k / 2 ^ y.1) x)] 31))); have f0 := HI6.out.bad.frozen 0; have q0 := HI6.out.bad.cell 0; simp at q0 f0))
    refine HKc.out _ _ ?_
    clear HKc Kc
    refine wpAny_ready (rs := [0]) (by kernel_rfl) (by simp) ?_
    refine AllReady.cons rfl (fun Kc hKc => ?_) AllReady.nil
    have HKc := Lib.hid hKc
    clear hKc
    go_simp
    refine HKc.out _ _ ?_
    clear HKc Kc
    refine wpAny_ready (rs := [5]) (by kernel_rfl) (by simp) ?_
    refine AllReady.cons rfl (fun Kc hKc => ?_) AllReady.nil
    have HKc := Lib.hid hKc
    clear hKc
    go_simp
    refine HKc.out _ _ ?_
    clear HKc Kc
    refine wpAny_ready (rs := [6]) (by kernel_rfl) (by simp) ?_
    refine AllReady.cons rfl (fun Kc hKc => ?_) AllReady.nil
    have HKc := Lib.hid hKc
    clear hKc
    go_simp
    go_wp2_with (first | (with_reducible refine PCk.out.mono ?_; rintro e w5 ⟨rfl, hb⟩; have HI5 := Lib.hid (HI1.out.kept hb); have HP := Lib.hid (HEND.out w5 (.cells #[.int .i64 (foldE b r d m s Z k x (vals pre)), .int .i64 (lvErr b r d m s (y.1 : Int) (Z y.1) (k / 2 ^ y.1) x)] 31) hb _ HUE.out); have q0 := HI5.out.bad.cell 0; simp at q0; clear hb) | (go_at_call 25; refine (first_any w5.heap.size _ _ _ (Blk.new w5 _ _)).mono ?_; rintro e w6 ⟨rfl, hw6⟩; subst hw6; have HI6 := Lib.hid (HI5.out.kept (below_alloc1 w5 (.cells #[.int .i64 (foldE b r d m s Z k x (vals pre)), .int .i64 (lvErr b r d m s (y.1 : Int) (Z y.1) (k / 2 ^ y.1) x)] 31))); have f0 := HI6.out.bad.frozen 0; have q0 := HI6.out.bad.cell 0; simp at q0 f0))
    refine HKc.out _ _ ?_
    clear HKc Kc
    refine wpAny_ready (rs := [7]) (by kernel_rfl) (by simp) ?_
    refine AllReady.cons rfl (fun Kc hKc => ?_) AllReady.nil
    have HKc := Lib.hid hKc
    clear hKc
    go_simp
    refine HKc.out _ _ ?_
    clear HKc Kc
    refine wpAny_done (by kernel_rfl) ?_ _
    gi_wp2
    exact HP.out
 case done =>
  intro D xs W hD hxs hI hK
  subst hxs
  rw [vals_all] at hI
  have hfe : foldE b r d m s Z k x (List.range (q + 1)) = stErr b r d m s Z k x := by
   have h1 := stErr_firsts (s := s) (Z := Z) (x := x) HRT.out HKK.out
   rw [HQ.out] at h1
   exact h1
  rw [hfe] at hI
  have HI := Lib.hid hI
  have HK := Lib.hid hK
  have hDs : w.heap.size ≤ D := by have := HI0.out.bel.size; omega
  have HDS := Lib.hid hDs
  have q0 := hI.bad.cell 0
  simp at q0
  clear hI hfe hK hDs
  by_cases h0 : stErr b r d m s Z k x = 0
  ·have H0 := Lib.hid h0
   rw [h0] at q0
   clear h0
   gi_wp2_with fail
   refine ⟨trivial, ?_⟩
   with_reducible refine (callsIn_wide.2 (stat S (k : Int) W)).mono ?_
   rintro e w5 ⟨rfl, hw5⟩
   obtain ⟨ga, gb, gc, gd⟩ := news2 W (.cells #[.pointer (some ⟨S, 0, none⟩)] 30) (.cells #[.int .u64 (k : Int)] 22)
   rw [← hw5] at ga gb gc gd
   have HGA5 : Hid (Blk w5 W.heap.size 30 #[.pointer (some ⟨S, 0, none⟩)]) := Lib.hid ga
   have HGB5 : Hid (Blk w5 (W.heap.size + 1) 22 #[.int .u64 (k : Int)]) := Lib.hid gb
   have HT5 : Hid (W.heap.size + 2 = w5.heap.size ∧ w4.heap.size ≤ W.heap.size ∧ D < W.heap.size ∧ w.heap.size ≤ W.heap.size) := Lib.hid ⟨gd.symm, HI.out.top, (Array.getElem?_eq_some_iff.1 HK.out).1, HI.out.bel.size⟩
   have HJ0 : Hid (UpdI w w5 base S L b r d m s X A G C Z w.heap.size w5.heap.size D x k []) := Lib.hid ⟨Nat.le_refl _, (HI.out.st.kept gc).setC (fun n _ => rfl), HI.out.num.kept gc, RGr.of_below (btr HI.out.bel gc), (gc.block D HT5.out.2.2.1).trans HK.out⟩
   clear hw5 ga gb gc gd q0
   gi_wp2_with fail
   obtain ⟨capS2, hbx2, -⟩ := HJ0.out.st.box
   obtain ⟨cur2, hrow2, hcur2⟩ := HJ0.out.st.row
   rw [HQ.out] at hbx2 hcur2
   have HLT5 : Hid (S < w5.heap.size ∧ L < w5.heap.size ∧ w.heap.size < w5.heap.size) := Lib.hid ⟨hbx2.lt, hrow2.lt, HJ0.out.num.lt⟩
   refine wpIn_rangeFunc_ownF rfl (by omega) (gf := 54) (lb := #[.pointer (some ⟨W.heap.size, 0, none⟩), .pointer (some ⟨W.heap.size + 1, 0, none⟩)]) rfl trivial (enters_of Tryz.func54 (by kernel_rfl) rfl)
    (st_stops (6 - 1) (by omega) W.heap.size (W.heap.size + 1) S L q capS2 k cur2 X hq59 w5 HXO.out HGA5.out HGB5.out ⟨_, _, _, _, _, hbx2⟩ hrow2 hcur2) KpB.trans (KpB.put (by
     have h1 := HT5.out; have h2 := HLT5.out
     intro i hi
     simp at hi
     omega)) (Below.refl _ _) (fun _ => rfl)
    (fun (pre : List (LvN q)) W' => UpdI w W' base S L b r d m s X A G C Z w.heap.size w5.heap.size D x k (vals pre))
    (fun _ _ _ => False)
    (fun pre W1 W2 row hs hg hr => hs.walked (B := w5.heap.size) (by have := HT5.out; omega) (by have := HT5.out; omega) hg hr)
    (fun _ _ _ _ _ hs _ _ => hs)
    HJ0.out
    (fun (y : LvN q) => { tmps := #[.pointer (some ⟨S, 0, none⟩), .int .u64 (k : Int), .int .i64 x, undef, undef, .pointer (some ⟨w.heap.size, 0, none⟩), .int .i64 0, .pointer (some ⟨w2.heap.size, 0, none⟩), undef, undef, X y.1, .int .u64 ((k / 2 ^ y.1 : Nat) : Int),
     .int .u64 (k : Int), .pointer (some ⟨S, 0, none⟩), .pointer (some ⟨S, 0, none⟩), .pointer (some ⟨S, 0, none⟩), .agg #[.int .i64 b, .int .i64 r, .int .i64 d, .int .i64 m, .int .u64 s], .int .u64 (keysI b r d m 0), .bool false, .pointer (some ⟨S, 0, none⟩), .int .u64 (k : Int),
     .func (.func 54) #[] #[.pointer (some ⟨w3.heap.size, 0, none⟩), .pointer (some ⟨w3.heap.size + 1, 0, none⟩)], undef, undef, undef, undef, undef, undef, undef, undef, undef, .int .i64 0, .bool false, undef, .pointer (some ⟨S, 0, none⟩), .int .u64 (k : Int),
     .func (.func 54) #[] #[.pointer (some ⟨W.heap.size, 0, none⟩), .pointer (some ⟨W.heap.size + 1, 0, none⟩)], X y.1, .int .u64 ((k / 2 ^ y.1 : Nat) : Int), undef, undef, undef, undef], defers := [] }) ?assign2 ?body2 ?done2 ?stop2
   case assign2 =>
    intro l y W K hK
    obtain ⟨t, a, hx⟩ := HXO.out y.1 y.2
    simp only [hx] at hK ⊢
    gi_wp2
    exact hK
   case body2 =>
    intro l pre y W1 hI1 _
    have hyb : y.1 ≤ b.toNat := by have := HQ.out; have := y.2; omega
    have HI1 := Lib.hid hI1
    obtain ⟨f, ⟨TX, hX, hm, hen⟩, PUp⟩ := lvupdate W1 (X y.1) _ _ _ b r d m s (y.1 : Int) _ (hI1.st.lev y.1 hyb) HRT.out s0 s1 (k / 2 ^ y.1) (shr_small hk64 _) x hx
    obtain ⟨curC, hC⟩ := (hI1.st.lev y.1 hyb).cells
    obtain ⟨capS3, hb3, -⟩ := hI1.st.box
    obtain ⟨cur3, hr3, -⟩ := hI1.st.row
    have HNE3 : Hid (∀ i ∈ [W.heap.size, W.heap.size + 1, S, L], i < W1.heap.size ∧ i ≠ C y.1) := Lib.hid (by
     have h1 := HT5.out; have h2 := HLT5.out; have h3 := hI1.top
     have n1 := hb3.ne_ hC (by decide)
     have n2 := hr3.ne_ hC (by decide)
     have n3 : C y.1 < W.heap.size := by
      obtain ⟨c2, h5⟩ := (HI.out.st.lev y.1 hyb).cells
      exact h5.lt
     intro i hi
     simp at hi
     omega)
    have HBN : Hid (w.heap.size ≠ C y.1) := Lib.hid (by have := HCL.out y.1 hyb; omega)
    have PUp2 : Calls Tryz.prog f #[.pointer (some ⟨A y.1, 0, none⟩), .int .u64 ((k : Int) / 2 ^ y.1), .int .i64 x] W1 fun e W2 => (∃ v, e = .returned v) ∧ KeepsOthers W1 W2 ∧ KpB [W.heap.size, W.heap.size + 1, S, L] W1 W2 ∧ UpdI w W2 base S L b r d m s X A G C Z w.heap.size w5.heap.size D x k (vals (pre ++ [y])) := by
     rw [show ((k / 2 ^ y.1 : Nat) : Int) = (k : Int) / 2 ^ y.1 by rw [Int.natCast_ediv, Int.natCast_pow]; rfl] at PUp
     refine PUp.mono (fun e W2 hp => ?_)
     have hp2 := hp
     obtain ⟨he, -, hg⟩ := hp2
     refine ⟨⟨_, he⟩, kept_others hg (fun g e => ⟨_, _, by cases e; exact hC⟩), KpB.of_grown hg (fun i hi => ⟨(HNE3.out i hi).1, by simpa using (HNE3.out i hi).2⟩), ?_⟩
     rw [vals_snoc]
     exact HI1.out.next (by have := HLT5.out; omega) hyb HBN.out hp
    have PUp2 := Lib.hid PUp2
    have q1 := hI1.num.cell 0
    simp at q1
    simp only [hX]
    clear hI1 hX PUp hC hb3 hr3
    gi_wp2_with fail
    refine ⟨trivial, ?_⟩
    with_reducible refine (CallsIn.inRound l (callsIn_wide.2 PUp2.out)).mono ?_
    rintro e W2 ⟨⟨v, rfl⟩, hp⟩
    have HP := Lib.hid hp
    clear hp q1
    gi_wp2
    exact HP.out
   case done2 =>
    intro D2 xs W2 hD2 hxs hI2 hK2
    subst hxs
    rw [vals_all] at hI2
    have hne : D ≠ D2 := by have := HT5.out; omega
    have g1 := grownBy_putObj' W2 D2 (.deferred none)
    have hK1 : (W2.putObj D2 (.deferred none)).heap[D]? = some (.deferred (some [])) := (World.putObj_heap_other hne).trans hI2.mark
    have g2 := grownBy_putObj' (W2.putObj D2 (.deferred none)) D (.deferred none)
    have HP : Hid (StUpPost w base S L b r d m s X A G C Z k x (.returned (.int .i64 0)) ((W2.putObj D2 (.deferred none)).putObj D (.deferred none))) := Lib.hid (by
     refine ⟨by rw [H0.out], ?_, ?_⟩
     ·refine ((hI2.st.walked g1 (fun r e => by cases e; exact ⟨_, hK2, rfl⟩)).walked g2 (fun r e => by cases e; exact ⟨_, hK1, rfl⟩)).setC (fun n hn => ?_)
      have hc : (List.range (q + 1)).count n = 1 := by
       rw [HQ.out] at hn
       rw [count_upto, if_pos (by omega)]
      unfold stUpd
      rw [if_pos H0.out, hc]
      rfl
     ·exact (hI2.gr.grown g1 (fun r e => .inl (by cases e; have := HT5.out; omega))).grown g2 (fun r e => .inl (by cases e; exact HDS.out)))
    have HK1 := Lib.hid hK1
    have HK2 := Lib.hid hK2
    clear hI2 g1 g2 hK1 hK2
    gi_wp2
    refine ⟨by simp, .inl ⟨_, _, rfl, run_takeDeferred HK2.out, by simp, .inl ⟨_, _, rfl, run_takeDeferred HK1.out, ?_⟩⟩⟩
    refine ⟨.int .i64 0, ?_, HP.out⟩
    simp [results, Tryz.results9, go_sem]
   case stop2 =>
    intro D c pre W _ _ h _
    exact h.elim
  ·have n1 : (stErr b r d m s Z k x != 0) = true := by simp [h0]
   have HU : Hid (∀ n, stUpd b r d m s Z k x n = Z n) := Lib.hid (fun n => by unfold stUpd; rw [if_neg h0])
   have HP : Hid (StUpPost w base S L b r d m s X A G C Z k x (.returned (.int .i64 (stErr b r d m s Z k x))) (W.putObj D (.deferred none))) := Lib.hid
    ⟨rfl, (HI.out.st.walked (grownBy_putObj' W D _) (fun r e => by cases e; exact ⟨_, HK.out, rfl⟩)).setC (fun n _ => (HU.out n).symm), (RGr.of_below HI.out.bel).grown (grownBy_putObj' W D _) (fun r e => .inl (by cases e; exact HDS.out))⟩
   generalize stErr b r d m s Z k x = e0 at *
   clear h0
   gi_wp2
   refine ⟨by simp, .inl ⟨_, _, rfl, run_takeDeferred HK.out, ?_⟩⟩
   refine ⟨.int .i64 e0, ?_, HP.out⟩
   simp [results, Tryz.results9, go_sem]
 case stop =>
  intro D c pre W _ _ h _
  exact h.elim
theorem stupdate (w : World) (base S L : Nat) (b r d m s : Int) (X : Nat → Value) (A G C : Nat → Nat) (Z : Nat → List Int) (h : StIs w base S L b r d m s X A G C Z) (s0 : 0 ≤ s) (s1 : s ≤ 18446744073709551615) (k : Nat) (hk64 : k < 18446744073709551616) (x : Int) (hx : In64 x) :
    Calls Tryz.prog 9 #[.pointer (some ⟨S, 0, none⟩), .int .u64 (k : Int), .int .i64 x] w (StUpPost w base S L b r d m s X A G C Z k x) := by
  by_cases hk : keysI b r d m 0 ≤ (k : Int)
  · exact stupdate_key w base S L b r d m s X A G C Z h k x hk
  · exact stupdate_in w base S L b r d m s X A G C Z h s0 s1 k hk64 x hx (by omega)
end Go.Proofs.YthbkljeibmkimaaGreat


namespace Go.Proofs.YthbkljeibmkimaaGreat
open Go.RowKit Go.Maps
set_option linter.unusedVariables false
set_option linter.unusedSimpArgs false

theorem In64.zero : In64 0 := by unfold In64; omega
theorem kthL_mem (l : List Int) (k : Nat) : kthL l k ∈ l ∨ kthL l k = 0 := by
  unfold kthL
  split
  · rename_i h
    exact .inl h.choose_spec.1
  · exact .inr rfl
noncomputable def ptOf (b : Nat) (r d m s : Int) (Z : Nat → List Int) (n i : Nat) : Int := if n ≤ b ∧ i < 2 ^ (b - n) then lvPt (b : Int) r d m s (n : Int) (Z n) i else 0
theorem ptOf_in {b : Nat} {r d m s : Int} {Z : Nat → List Int} {n i : Nat} (hn : n ≤ b) (hi : i < 2 ^ (b - n)) : ptOf b r d m s Z n i = lvPt (b : Int) r d m s (n : Int) (Z n) i := by unfold ptOf; rw [if_pos ⟨hn, hi⟩]
theorem lvPt_mem (b r d m s l : Int) (zs : List Int) (k : Nat) : (∃ i, lvPt b r d m s l zs k = cellD zs i) ∨ lvPt b r d m s l zs k = 0 := by
  unfold lvPt
  split
  · exact .inl ⟨k, rfl⟩
  · rcases kthL_mem (readZ d.toNat zs (colsZ d s l (k : Int) r.toNat)) (if m = 3 then (r.toNat - 1) / 2 else 0) with h | h
    · unfold readZ at h
      rw [List.mem_map] at h
      obtain ⟨q, -, e⟩ := h
      exact .inl ⟨_, e.symm⟩
    · exact .inr h
theorem ptOf64 {w : World} {base S L b : Nat} {r d m s : Int} {X : Nat → Value} {A G C : Nat → Nat} {Z : Nat → List Int} (h : StIs w base S L (b : Int) r d m s X A G C Z) (n i : Nat) : In64 (ptOf b r d m s Z n i) := by
  unfold ptOf
  split
  · rename_i hh
    rcases lvPt_mem (b : Int) r d m s (n : Int) (Z n) i with ⟨j, e⟩ | e
    · rw [e]; exact cell_fit (h.lev n (by simpa using hh.1)).fit j
    · rw [e]; exact In64.zero
  · exact In64.zero
theorem StIs.bounds {w : World} {base S L b : Nat} {r d m s : Int} {X : Nat → Value} {A G C : Nat → Nat} {Z : Nat → List Int} (h : StIs w base S L (b : Int) r d m s X A G C Z) : 1 ≤ b ∧ b ≤ 59 := by
  have := right_of h.right
  omega
theorem keysI_nat {b n : Nat} {r d m : Int} (hr : rightB (b : Int) r d m = true) (hn : n ≤ b) : keysI (b : Int) r d m (n : Int) = ((2 ^ (b - n) : Nat) : Int) := by
  rw [keysI_yes hr (by omega) (by omega), show ((b : Int) - (n : Int)).toNat = b - n by omega]
  simp
theorem ptis_of {w : World} {base S L b : Nat} {r d m s : Int} {X : Nat → Value} {A G C : Nat → Nat} {Z : Nat → List Int} (h : StIs w base S L (b : Int) r d m s X A G C Z) (s0 : 0 ≤ s) (s1 : s ≤ 18446744073709551615) : PtIs w S b r d m s (ptOf b r d m s Z) := by
  refine ⟨fun wq hq => stconfig wq base S L _ r d m s X A G C Z (h.kept hq), fun wq hq n i hn hi => ?_⟩
  have h2 := two_lt (n := b - n) (by have := h.bounds; omega)
  have e : ((2 ^ (b - n) : Nat) : Int) = (2 : Int) ^ (b - n) := by simp
  rw [ptOf_in hn hi]
  exact stpoint wq base S L _ r d m s X A G C Z (h.kept hq) s0 s1 n (by simpa using hn) i (by omega) (by rw [keysI_nat h.right hn]; omega)
theorem below_rgr {w w1 w2 : World} {B q : Nat} {C : Nat → Nat} (h : Below B w w1) (hB : B ≤ w1.heap.size) (k : RGr w1 w2 C q) (hC : ∀ n, n < q → B ≤ C n) : Below B w w2 :=
  ⟨k.os.trans h.os, k.tape.trans h.tape, k.output.trans h.output, Nat.le_trans h.size k.size, fun j hj => (k.block j (by omega) (fun r hr e => by have := hC r hr; omega)).trans (h.block j hj)⟩
theorem stErr_zero {b r d m s : Int} {Z : Nat → List Int} {k : Nat} {x : Int} (h1 : ¬ keysI b r d m 0 ≤ (k : Int)) (h2 : ¬ (m = 2 ∧ x < 0)) (h3 : ∀ n : Nat, n ≤ b.toNat → lvErr b r d m s (n : Int) (Z n) (k / 2 ^ n) x = 0) : stErr b r d m s Z k x = 0 := by
  unfold stErr; rw [if_neg h1, if_neg h2, if_pos h3]
theorem lvErr_ex {b r d m s l : Int} {zs : List Int} {k : Nat} {x : Int} (h : exactB b r d m l = true) : lvErr b r d m s l zs k x = chkI (keysI b r d m l).toNat m zs k x := by unfold lvErr; rw [if_pos h]
theorem lvUpd_ex {b r d m s l : Int} {zs : List Int} {k : Nat} {x : Int} (h : exactB b r d m l = true) : lvUpd b r d m s l zs k x = updZ (keysI b r d m l).toNat m zs k x := by unfold lvUpd; rw [if_pos h]
theorem stUpd_ok {b r d m s : Int} {Z : Nat → List Int} {k : Nat} {x : Int} (h : stErr b r d m s Z k x = 0) (n : Nat) : stUpd b r d m s Z k x n = lvUpd b r d m s (n : Int) (Z n) (k / 2 ^ n) x := by unfold stUpd; rw [if_pos h]
noncomputable def shZ1 : Nat → List Int := stUpd 2 1 4 1 0 (zeroZ 2 1 4 1) 1 5
noncomputable def shZ2 : Nat → List Int := stUpd 2 1 4 1 0 shZ1 2 3
theorem sh_ex : exactB 2 1 4 1 0 = true ∧ exactB 2 1 4 1 1 = true ∧ exactB 2 1 4 1 2 = true := by decide
theorem sh_err1 : stErr 2 1 4 1 0 (zeroZ 2 1 4 1) 1 5 = 0 := stErr_zero (by decide) (by decide) (fun n hn => by
  obtain ⟨e0, e1, e2⟩ := sh_ex
  match n, hn with
  | 0, _ => exact (lvErr_ex e0).trans (by decide)
  | 1, _ => exact (lvErr_ex e1).trans (by decide)
  | 2, _ => exact (lvErr_ex e2).trans (by decide)
  | n + 3, h => simp at h)
theorem sh_z1 : shZ1 0 = [0, 5, 0, 0] ∧ shZ1 1 = [5, 0] ∧ shZ1 2 = [5] := by
  obtain ⟨e0, e1, e2⟩ := sh_ex
  unfold shZ1
  rw [stUpd_ok sh_err1, stUpd_ok sh_err1, stUpd_ok sh_err1]
  exact ⟨(lvUpd_ex e0).trans (by decide), (lvUpd_ex e1).trans (by decide), (lvUpd_ex e2).trans (by decide)⟩
theorem sh_err2 : stErr 2 1 4 1 0 shZ1 2 3 = 0 := stErr_zero (by decide) (by decide) (fun n hn => by
  obtain ⟨e0, e1, e2⟩ := sh_ex
  obtain ⟨z0, z1, z2⟩ := sh_z1
  match n, hn with
  | 0, _ => rw [z0]; exact (lvErr_ex e0).trans (by decide)
  | 1, _ => rw [z1]; exact (lvErr_ex e1).trans (by decide)
  | 2, _ => rw [z2]; exact (lvErr_ex e2).trans (by decide)
  | n + 3, h => simp at h)
theorem sh_z2 : shZ2 0 = [0, 5, 3, 0] ∧ shZ2 1 = [5, 3] ∧ shZ2 2 = [8] := by
  obtain ⟨e0, e1, e2⟩ := sh_ex
  obtain ⟨z0, z1, z2⟩ := sh_z1
  unfold shZ2
  rw [stUpd_ok sh_err2, stUpd_ok sh_err2, stUpd_ok sh_err2, z0, z1, z2]
  exact ⟨(lvUpd_ex e0).trans (by decide), (lvUpd_ex e1).trans (by decide), (lvUpd_ex e2).trans (by decide)⟩
noncomputable def shP : Nat → Nat → Int := ptOf 2 1 4 1 0 shZ2
theorem sh_pt : shP 2 0 = 8 ∧ shP 1 0 = 5 ∧ shP 1 1 = 3 ∧ shP 0 0 = 0 ∧ shP 0 1 = 5 ∧ shP 0 2 = 3 ∧ shP 0 3 = 0 := by
  obtain ⟨e0, e1, e2⟩ := sh_ex
  obtain ⟨z0, z1, z2⟩ := sh_z2
  have h : ∀ (n i : Nat) (v : Int) (zs : List Int), n ≤ 2 → i < 2 ^ (2 - n) → exactB 2 1 4 1 (n : Int) = true → shZ2 n = zs → cellD zs i = v → shP n i = v := fun n i v zs h1 h2 h3 h4 h5 => by
    unfold shP
    rw [ptOf_in h1 h2]
    unfold lvPt
    have h6 : exactB ((2 : Nat) : Int) 1 4 1 (n : Int) = true := h3
    rw [if_pos h6, h4, h5]
  exact ⟨h 2 0 _ _ (by decide) (by decide) e2 z2 (by decide), h 1 0 _ _ (by decide) (by decide) e1 z1 (by decide), h 1 1 _ _ (by decide) (by decide) e1 z1 (by decide), h 0 0 _ _ (by decide) (by decide) e0 z0 (by decide), h 0 1 _ _ (by decide) (by decide) e0 z0 (by decide), h 0 2 _ _ (by decide) (by decide) e0 z0 (by decide), h 0 3 _ _ (by decide) (by decide) e0 z0 (by decide)⟩
theorem sh_heavy : hvOut shP 4 2 3 = [(2, 0), (1, 0), (0, 1)] ∧ askedUp shP 4 2 3 = 5 ∧ hvOut shP 3 2 3 = [(2, 0), (1, 0), (1, 1), (0, 1), (0, 2)] ∧ askedUp shP 3 2 3 = 7 := by
  obtain ⟨p1, p2, p3, p4, p5, p6, p7⟩ := sh_pt
  refine ⟨?_, ?_, ?_, ?_⟩
  all_goals simp [hvOut, askedUp, rowAt, foundR, toldR, kids, p1, p2, p3, p4, p5, p6, p7]
theorem sh_hier : hiKept shP 3 2 = some [(0, 1, 5), (0, 2, 3)] := by
  obtain ⟨p1, p2, p3, p4, p5, p6, p7⟩ := sh_pt
  have hT : hiT shP 3 2 = [(0, 1), (0, 2), (1, 0), (1, 1), (2, 0)] := by
    unfold hiT
    rw [sh_heavy.2.2.1]
    decide
  unfold hiKept
  rw [hT]
  simp [keptAt, rest, wI, fits, p1, p2, p3, p4, p5, p6, p7]
theorem sh_errs : hvErr shP 4 7 2 = 0 ∧ hvErr shP 4 4 2 = 7 ∧ hvErr shP 0 7 2 = 1 ∧ hvErr shP 3 7 2 = 0 ∧ hiErr shP 3 7 2 = 0 := by
  obtain ⟨h1, h2, h3, h4⟩ := sh_heavy
  have e : hvErr shP 3 7 2 = 0 := by unfold hvErr; rw [h4]; decide
  refine ⟨by unfold hvErr; rw [h2]; decide, by unfold hvErr; rw [h2]; decide, by unfold hvErr; decide, e, ?_⟩
  unfold hiErr
  rw [if_pos e, sh_hier]
set_option maxRecDepth 100000 in
set_option maxHeartbeats 8000000 in
theorem shown18 (w : World) : Calls Tryz.prog 5 #[] w fun e w' => e = .returned (.bool true) ∧ Below w.heap.size w w' := by
 have PN := Lib.hid (fun w => stnew_yes 2 1 4 1 0 (by decide) w)
 have PU1 : Hid (∀ (w : World) (base S L : Nat) (X : Nat → Value) (A G C : Nat → Nat), StIs w base S L 2 1 4 1 0 X A G C (zeroZ 2 1 4 1) → Calls Tryz.prog 9 #[.pointer (some ⟨S, 0, none⟩), .int .u64 1, .int .i64 5] w fun e w' => e = .returned (.int .i64 0) ∧ StIs w' base S L 2 1 4 1 0 X A G C shZ1 ∧ RGr w w' C 3) := Lib.hid (fun w base S L X A G C h => (stupdate w base S L 2 1 4 1 0 X A G C _ h (by decide) (by decide) 1 (by decide) 5 (by unfold In64; omega)).mono (fun e w' hp => by
  obtain ⟨h1, h2, h3⟩ := hp
  rw [sh_err1] at h1
  exact ⟨h1, h2, h3⟩))
 have PU2 : Hid (∀ (w : World) (base S L : Nat) (X : Nat → Value) (A G C : Nat → Nat), StIs w base S L 2 1 4 1 0 X A G C shZ1 → Calls Tryz.prog 9 #[.pointer (some ⟨S, 0, none⟩), .int .u64 2, .int .i64 3] w fun e w' => e = .returned (.int .i64 0) ∧ StIs w' base S L 2 1 4 1 0 X A G C shZ2 ∧ RGr w w' C 3) := Lib.hid (fun w base S L X A G C h => (stupdate w base S L 2 1 4 1 0 X A G C _ h (by decide) (by decide) 2 (by decide) 3 (by unfold In64; omega)).mono (fun e w' hp => by
  obtain ⟨h1, h2, h3⟩ := hp
  rw [sh_err2] at h1
  exact ⟨h1, h2, h3⟩))
 have PV : Hid (∀ (w : World) (base S L : Nat) (X : Nat → Value) (A G C : Nat → Nat), StIs w base S L 2 1 4 1 0 X A G C shZ2 → ∀ least budget, In64 least → In64 budget → Calls Tryz.prog 11 #[.pointer (some ⟨S, 0, none⟩), .int .i64 least, .int .i64 budget] w (HvPost w shP least budget 2)) := Lib.hid (fun w base S L X A G C h least budget h1 h2 => hvheavy w S 2 1 4 1 0 shP (ptis_of (b := 2) h (by decide) (by decide)) (by decide) (by decide) least budget h1 h2)
 have PH : Hid (∀ (w : World) (base S L : Nat) (X : Nat → Value) (A G C : Nat → Nat), StIs w base S L 2 1 4 1 0 X A G C shZ2 → ∀ least budget, In64 least → In64 budget → Calls Tryz.prog 13 #[.pointer (some ⟨S, 0, none⟩), .int .i64 least, .int .i64 budget] w (HiPost w shP least budget 2)) := Lib.hid (fun w base S L X A G C h least budget h1 h2 => hvhier w S 2 1 4 1 0 shP (ptis_of (b := 2) h (by decide) (by decide)) (fun n i => ptOf64 (b := 2) h n i) (by decide) (by decide) least budget h1 h2)
 have i4 : In64 4 := by unfold In64; omega
 have i7 : In64 7 := by unfold In64; omega
 have i3 : In64 3 := by unfold In64; omega
 have I := Lib.hid (And.intro i4 (And.intro i7 i3))
 clear i4 i7 i3
 go_enter Tryz.func5, Tryz.ntmps5
 go_wp2_with fail
 with_reducible refine (PN.out _).mono ?_
 rintro e w1 ⟨S, L, X, A, G, C, rfl, hS, hst, hb⟩
 have HS := Lib.hid hst
 have HB := Lib.hid hb
 have HLO : Hid (∀ n, n < 3 → w.heap.size ≤ C n) := Lib.hid (fun n hn => hst.low n (by simp; omega))
 clear hst hb hS
 go_wp2_with fail
 with_reducible refine (PU1.out _ _ _ _ _ _ _ _ HS.out).mono ?_
 rintro e w2 ⟨rfl, hst, hr⟩
 have HS2 := Lib.hid hst
 have HB2 := Lib.hid (below_rgr HB.out HB.out.size hr HLO.out)
 clear hst hr HS HB
 go_wp2_with fail
 with_reducible refine (PU2.out _ _ _ _ _ _ _ _ HS2.out).mono ?_
 rintro e w3 ⟨rfl, hst, hr⟩
 have HS3 := Lib.hid hst
 have HB3 := Lib.hid (below_rgr HB2.out HB2.out.size hr HLO.out)
 clear hst hr HS2 HB2 HLO
 go_wp2_with fail
 with_reducible refine (PV.out _ _ _ _ _ _ _ _ HS3.out 4 7 I.out.1 I.out.2.1).mono ?_
 rintro e w4 ⟨v, rfl, hv, -, hb⟩
 have e1 := sh_errs.1
 have HV := Lib.hid (hv e1)
 have HS4 := Lib.hid (HS3.out.kept hb)
 have HB4 := Lib.hid (btr HB3.out hb)
 rw [e1]
 clear hv e1 hb
 go_wp2_with fail
 with_reducible refine (PV.out _ _ _ _ _ _ _ _ HS4.out 4 4 I.out.1 I.out.1).mono ?_
 rintro e w5 ⟨v2, rfl, -, -, hb⟩
 have e1 := sh_errs.2.1
 have HV5 := Lib.hid (HV.out.kept hb)
 have HS5 := Lib.hid (HS4.out.kept hb)
 have HB5 := Lib.hid (btr HB4.out hb)
 rw [e1]
 clear e1 hb
 go_wp2_with fail
 with_reducible refine (PV.out _ _ _ _ _ _ _ _ HS5.out 0 7 In64.zero I.out.2.1).mono ?_
 rintro e w6 ⟨v3, rfl, -, -, hb⟩
 have e1 := sh_errs.2.2.1
 have HV6 := Lib.hid (HV5.out.kept hb)
 have HS6 := Lib.hid (HS5.out.kept hb)
 have HB6 := Lib.hid (btr HB5.out hb)
 rw [e1]
 clear e1 hb
 go_wp2_with fail
 with_reducible refine (PH.out _ _ _ _ _ _ _ _ HS6.out 3 7 I.out.2.2 I.out.2.1).mono ?_
 rintro e w7 ⟨v4, rfl, hv, -, hb⟩
 obtain ⟨o, ho, hown⟩ := hv sh_errs.2.2.2.2
 rw [sh_hier] at ho
 cases ho
 have e1 := sh_errs.2.2.2.2
 have HV7 := HV6.out.kept hb
 have HB7 := Lib.hid (btr HB6.out hb)
 rw [e1]
 rw [sh_heavy.1] at HV7
 obtain ⟨p1, p2, p3, p4, p5, p6, p7⟩ := sh_pt
 obtain ⟨g, cap, hv1, -, -, -, -, hr0⟩ := HV7.range (t := 0) rfl
 obtain ⟨g', cap', hv1', -, -, -, -, hr2⟩ := HV7.range (t := 2) rfl
 rw [hv1] at hv1'
 simp only [Value.slice.injEq, Option.some.injEq, Addr.mk.injEq] at hv1'
 obtain ⟨⟨rfl, -⟩, -, rfl⟩ := hv1'
 obtain ⟨gh, caph, hv2, -, -, -, -, hr1⟩ := hown.range (t := 1) rfl
 subst hv1 hv2
 simp only [p1, p5, p6] at hr0 hr2 hr1
 clear e1 hb hv hown HV7
 have a0 := hr0 0 _ rfl
 have a1 := hr0 1 _ rfl
 have a2 := hr0 2 _ rfl
 have b0 := hr2 0 _ rfl
 have b1 := hr2 1 _ rfl
 have b2 := hr2 2 _ rfl
 have c0 := hr1 0 _ rfl
 have c1 := hr1 1 _ rfl
 have c2 := hr1 2 _ rfl
 have c3 := hr1 3 _ rfl
 simp at a0 a1 a2 b0 b1 b2 c0 c1 c2 c3
 clear hr0 hr1 hr2
 go_wp2
 go_ret
 exact ⟨rfl, HB7.out⟩
end Go.Proofs.YthbkljeibmkimaaGreat


namespace Go.Proofs.YthbkljeibmkimaaGreat
open Go.RowKit
set_option linter.unusedVariables false
set_option linter.unusedSimpArgs false

def UpdsAt (w : World) (l : Value) (n : Nat) (ks : Nat → Nat) (ds : Nat → Int) : Prop :=
  ∃ (ao : Option Addr) (cap : Nat), l = .slice ao n cap ∧ n ≤ maxLen ∧ (∀ i, i < n → In64 (ds i) ∧ ks i < 18446744073709551616) ∧
    (0 < n → ∃ b off, ao = some ⟨b, off, none⟩ ∧ b < w.heap.size ∧ ∀ i, i < n → w.cell? ⟨b, off + i * 2, none⟩ = some (.int .u64 (ks i : Int)) ∧ w.cell? ⟨b, off + i * 2 + 1, none⟩ = some (.int .i64 (ds i)))
theorem UpdsAt.kept {w w' : World} {l : Value} {n : Nat} {ks : Nat → Nat} {ds : Nat → Int} (h : UpdsAt w l n ks ds) (hb : Below w.heap.size w w') : UpdsAt w' l n ks ds := by
  obtain ⟨ao, cap, e, hm, hu, h⟩ := h
  refine ⟨ao, cap, e, hm, hu, fun h0 => ?_⟩
  obtain ⟨b, off, e2, hlt, hc⟩ := h h0
  refine ⟨b, off, e2, Nat.lt_of_lt_of_le hlt hb.size, fun i hi => ?_⟩
  obtain ⟨c1, c2⟩ := hc i hi
  exact ⟨(hb.cell (p := ⟨b, off + i * 2, none⟩) hlt).trans c1, (hb.cell (p := ⟨b, off + i * 2 + 1, none⟩) hlt).trans c2⟩
def shUpd : Sh := .agg (.cons (.int .u64) (.cons (.int .i64) .unit))
theorem upds_of_val {w : World} {v : Value} (h : (Sh.slice shUpd).Val w v) : ∃ n ks ds, UpdsAt w v n ks ds := by
 obtain ⟨ao, len, cap, h1, hl, hm, hx⟩ := h
 have h1 : v = .slice ao len cap := by simpa using h1
 subst h1
 by_cases h0 : 0 < len
 ·obtain ⟨b, off, rfl, hb, hc⟩ := hx h0
  have key : ∀ i, i < len → ∃ (k : Nat) (z : Int), (In64 z ∧ k < 18446744073709551616) ∧ w.cell? ⟨b, off + i * 2, none⟩ = some (.int .u64 (k : Int)) ∧ w.cell? ⟨b, off + i * 2 + 1, none⟩ = some (.int .i64 z) := by
   intro i hi
   obtain ⟨c0, hcl, hcell, hr⟩ := hc i hi
   obtain ⟨k, d1, rfl, hk, hr⟩ := Sh.reads_int hr
   obtain ⟨z, d3, rfl, hz, hr⟩ := Sh.reads_int hr
   have e : shUpd.size = 2 := rfl
   have a0 := hcell 0 (by decide)
   have a1 := hcell 1 (by decide)
   rw [e] at a0 a1
   simp [Lit.wf, IntKind.min, IntKind.max, IntKind.signed, IntKind.bits] at hz hk
   refine ⟨k.toNat, z, ⟨⟨by omega, by omega⟩, by omega⟩, ?_, by simpa [Nat.add_assoc] using a1⟩
   rw [Int.toNat_of_nonneg (by omega)]
   simpa using a0
  refine ⟨len, fun i => if h : i < len then (key i h).choose else 0, fun i => if h : i < len then (key i h).choose_spec.choose else 0, some ⟨b, off, none⟩, cap, rfl, by omega, fun i hi => ?_, fun _ => ⟨b, off, rfl, hb, fun i hi => ?_⟩⟩
  ·simp only [dif_pos hi]; exact (key i hi).choose_spec.choose_spec.1
  ·simp only [dif_pos hi]; exact (key i hi).choose_spec.choose_spec.2
 ·obtain rfl : len = 0 := by omega
  exact ⟨0, fun _ => 0, fun _ => 0, ao, cap, rfl, by omega, fun i hi => by omega, fun h => by omega⟩
def shPlay : Sh := .agg (.cons shCfg (.cons (.slice shUpd) .unit))
theorem valPlay {w : World} {v : Value} (h : shPlay.Val w v) : ∃ b r d m s l n ks ds, v = .agg #[.int .i64 b, .int .i64 r, .int .i64 d, .int .i64 m, .int .u64 s, l] ∧ UpdsAt w l n ks ds ∧ In64 b ∧ In64 r ∧ In64 d ∧ In64 m ∧ 0 ≤ s ∧ s ≤ 18446744073709551615 := by
  obtain ⟨cs, rfl, h⟩ := h
  obtain ⟨c, q, e, hc, h⟩ := Sh.reads_agg h
  obtain ⟨b, q1, rfl, hb, h2⟩ := Sh.reads_int hc
  obtain ⟨r, q2, rfl, hr, h3⟩ := Sh.reads_int h2
  obtain ⟨d, q3, rfl, hd, h4⟩ := Sh.reads_int h3
  obtain ⟨m, q4, rfl, hm, h5⟩ := Sh.reads_int h4
  obtain ⟨s, q5, rfl, hs, h6⟩ := Sh.reads_int h5
  obtain rfl := Sh.reads_unit h6
  obtain ⟨l, q7, rfl, hl, h⟩ := Sh.reads_slice h
  obtain rfl := Sh.reads_unit h
  obtain ⟨n, ks, ds, hs2⟩ := upds_of_val hl
  simp [Lit.wf, IntKind.min, IntKind.max, IntKind.signed, IntKind.bits] at hb hr hd hm hs
  exact ⟨b, r, d, m, s, l, n, ks, ds, by rw [agg_of_list e]; rfl, hs2, ⟨by omega, by omega⟩, ⟨by omega, by omega⟩, ⟨by omega, by omega⟩, ⟨by omega, by omega⟩, by omega, by omega⟩
end Go.Proofs.YthbkljeibmkimaaGreat


namespace Go.Proofs.YthbkljeibmkimaaGreat
open Go.RowKit
set_option linter.unusedVariables false
set_option linter.unusedSimpArgs false

end Go.Proofs.YthbkljeibmkimaaGreat


namespace Go.Proofs.YthbkljeibmkimaaGreat
open Go.RowKit
set_option linter.unusedVariables false
set_option linter.unusedSimpArgs false

theorem grown_setRow (w : World) (g : Nat) (cs : Array Value) : w.grownBy (w.setRow g cs) (some g) := ⟨rfl, rfl, rfl, by simp, fun k _ hne => setRow_other w g k cs (fun e => hne (by rw [e]))⟩
structure CutS (w0 w' : World) (A : Nat) (c5 u2 : Array Value) : Prop where
  c : Blk w' A 24 c5
  u : Blk w' (A + 1) 38 u2
  r : ∃ cs, Blk w' (A + 1 + 1) 38 cs ∧ cs.size = 2
  b : Below A w0 w'
theorem CutS.kept {w0 w1 w2 : World} {A : Nat} {c5 u2 : Array Value} (h : CutS w0 w1 A c5 u2) (hb : Below w1.heap.size w1 w2) : CutS w0 w2 A c5 u2 := by
  obtain ⟨cs, h1, h2⟩ := h.r
  have := h.c.lt
  exact ⟨h.c.kept hb, h.u.kept hb, ⟨cs, h1.kept hb, h2⟩, h.b.trans (hb.mono (by omega))⟩
theorem CutS.drew {w0 w1 : World} {A : Nat} {c5 u2 : Array Value} (h : CutS w0 w1 A c5 u2) (n : Nat) : CutS w0 (w1.drewN n) A c5 u2 := h.kept (below_drewN (Below.refl _ _) n)
theorem CutS.set {w0 w1 : World} {A : Nat} {c5 u2 : Array Value} (h : CutS w0 w1 A c5 u2) (cs : Array Value) (hs : cs.size = 2) : CutS w0 (w1.setRow (A + 1 + 1) cs) A c5 u2 := by
  obtain ⟨cs0, h1, h2⟩ := h.r
  exact ⟨h.c.rowFar (by omega), h.u.rowFar (by omega), ⟨cs, h1.rowNew, hs⟩, below_setRow h.b (by omega) cs⟩
theorem UpdsAt.range {w : World} {ao : Option Addr} {n cap : Nat} {ks : Nat → Nat} {ds : Nat → Int} (h : UpdsAt w (.slice ao n cap) n ks ds) {t : Nat} (ht : t < n) : ∃ g off, ao = some ⟨g, off, none⟩ ∧ g < w.heap.size ∧ w.rangeAt g (off + t * 2) [.int .u64 (ks t : Int), .int .i64 (ds t)] := by
  obtain ⟨ao', cap', e, -, -, hc⟩ := h
  simp only [Value.slice.injEq] at e
  obtain ⟨rfl, -, rfl⟩ := e
  obtain ⟨g, off, e, hlt, hcell⟩ := hc (by omega)
  obtain ⟨c1, c2⟩ := hcell t ht
  refine ⟨g, off, e, hlt, fun j u hu => ?_⟩
  match j, hu with
  | 0, hu => simp at hu; subst hu; exact c1
  | 1, hu => simp at hu; subst hu; exact c2
  | j + 2, hu => simp at hu
structure FedE (w0 w' : World) (A D : Nat) (xs zs cs : Array Value) : Prop where
  x : Blk w' A 27 xs
  z : Blk w' (A + 1) 24 zs
  c : Blk w' D 24 cs
  b : Below w0.heap.size w0 w'
theorem FedE.kept {w0 w1 w2 : World} {A D : Nat} {xs zs cs : Array Value} (h : FedE w0 w1 A D xs zs cs) (hb : Below w1.heap.size w1 w2) : FedE w0 w2 A D xs zs cs := ⟨h.x.kept hb, h.z.kept hb, h.c.kept hb, btr h.b hb⟩
end Go.Proofs.YthbkljeibmkimaaGreat


namespace Go.Proofs.YthbkljeibmkimaaGreat
open Go.RowKit
set_option linter.unusedVariables false
set_option linter.unusedSimpArgs false

end Go.Proofs.YthbkljeibmkimaaGreat


namespace Go.Proofs.YthbkljeibmkimaaGreat
open Go.RowKit
set_option linter.unusedVariables false
set_option linter.unusedSimpArgs false

theorem row_up (pt : Nat → Nat → Int) (least : Int) (b : Nat) : ∀ j, (rowAt pt least b j).Pairwise (· < ·)
  | 0 => List.pairwise_singleton _ _
  | j + 1 => by
    rw [rowAt]
    unfold kids
    rw [List.pairwise_flatMap]
    refine ⟨fun a _ => by simp, ((row_up pt least b j).filter _).imp (fun {u v} h x hx y hy => ?_)⟩
    simp at hx hy
    omega
def Ordd (u v : Nat × Nat) : Prop := v.1 < u.1 ∨ u.1 = v.1 ∧ u.2 < v.2
theorem hv_level {pt : Nat → Nat → Int} {least : Int} {b : Nat} : ∀ {j : Nat} {p : Nat × Nat}, p ∈ hvOut pt least b j → ∃ q, q < j ∧ p.1 = b - q
  | 0, p, h => by simp [hvOut] at h
  | j + 1, p, h => by
    rw [hvOut, List.mem_append] at h
    rcases h with h | h
    · obtain ⟨q, h1, h2⟩ := hv_level h
      exact ⟨q, by omega, h2⟩
    · unfold foundR at h
      rw [List.mem_map] at h
      obtain ⟨i, -, rfl⟩ := h
      exact ⟨j, by omega, rfl⟩
theorem hv_ord (pt : Nat → Nat → Int) (least : Int) (b : Nat) : ∀ j, j ≤ b + 1 → (hvOut pt least b j).Pairwise Ordd
  | 0, _ => List.Pairwise.nil
  | j + 1, hj => by
    rw [hvOut, List.pairwise_append]
    refine ⟨hv_ord pt least b j (by omega), ?_, fun u hu v hv => ?_⟩
    · unfold foundR
      rw [List.pairwise_map]
      exact ((row_up pt least b j).filter _).imp (fun {u v} h => .inr ⟨rfl, h⟩)
    · obtain ⟨q, h1, h2⟩ := hv_level hu
      unfold foundR at hv
      rw [List.mem_map] at hv
      obtain ⟨i, -, rfl⟩ := hv
      left
      show b - j < u.1
      omega
end Go.Proofs.YthbkljeibmkimaaGreat


namespace Go.Proofs.YthbkljeibmkimaaGreat
open Go.RowKit
set_option linter.unusedVariables false
set_option linter.unusedSimpArgs false

end Go.Proofs.YthbkljeibmkimaaGreat


namespace Go.Proofs.YthbkljeibmkimaaGreat
open Go.RowKit
set_option linter.unusedVariables false
set_option linter.unusedSimpArgs false

def posL (H : List (Nat × Nat × Int)) : List (Nat × Nat) := H.map fun q => (q.1, q.2.1)
def Lvd (u v : Nat × Nat) : Prop := u.1 ≤ v.1 ∧ u ≠ v
theorem byKey_lvd {x : List (Nat × Nat)} {b : Nat} (h : x.Pairwise Ordd) : (byKey lvK b x).Pairwise Lvd := by
  unfold byKey
  rw [List.pairwise_flatMap]
  constructor
  · intro n hn
    have h2 := List.Pairwise.filter (fun e : Nat × Nat => decide (lvK e = (n : Int))) h
    refine (List.Pairwise.and_mem.1 h2).imp (fun {u v} hh => ?_)
    obtain ⟨hu, hv, ho⟩ := hh
    have e1 : lvK u = (n : Int) := by simpa using (List.mem_filter.1 hu).2
    have e2 : lvK v = (n : Int) := by simpa using (List.mem_filter.1 hv).2
    unfold lvK at e1 e2
    refine ⟨by omega, fun e => ?_⟩
    subst e
    unfold Ordd at ho
    omega
  · refine List.pairwise_lt_range.imp (fun {m n} hmn u hu v hv => ?_)
    have e1 : lvK u = (m : Int) := by simpa using (List.mem_filter.1 hu).2
    have e2 : lvK v = (n : Int) := by simpa using (List.mem_filter.1 hv).2
    unfold lvK at e1 e2
    refine ⟨by omega, fun e => ?_⟩
    subst e
    omega
theorem hiT_lvd (pt : Nat → Nat → Int) (least : Int) (b : Nat) : (hiT pt least b).Pairwise Lvd := byKey_lvd (hv_ord pt least b (b + 1) (Nat.le_refl _))
theorem hiT_mem {pt : Nat → Nat → Int} {least : Int} {b : Nat} {p : Nat × Nat} : p ∈ hiT pt least b ↔ p ∈ hvOut pt least b (b + 1) := by
  unfold hiT
  rw [byKey_mem]
  refine ⟨fun h => h.1, fun h => ⟨h, ?_⟩⟩
  have := (hv_in (pt := pt) (least := least) (b := b) (n := p.1) (i := p.2) h).1
  omega
theorem lvd_nodup {l : List (Nat × Nat)} (h : l.Pairwise Lvd) : l.Nodup := h.imp (fun hh => hh.2)
def aloneB (H : List (Nat × Nat × Int)) (k t : Nat) : Nat → Bool
  | 0 => match H[k]?, H[t]? with
    | some a, some c => liesB (a.1, a.2.1) (c.1, c.2.1)
    | _, _ => false
  | j + 1 => aloneB H k t j && !(match H[k]?, H[k + 1 + j]?, H[t]? with
    | some a, some m, some c => liesB (a.1, a.2.1) (m.1, m.2.1) && liesB (m.1, m.2.1) (c.1, c.2.1)
    | _, _, _ => false)
def sumK (pt : Nat → Nat → Int) (H : List (Nat × Nat × Int)) (t : Nat) (x : Int) : Nat → Int
  | 0 => x
  | k + 1 => sumK pt H t x k + (if aloneB H k t (t - (k + 1)) = true then (match H[k]? with | some a => pt a.1 a.2.1 | none => 0) else 0)
theorem posL_get {H : List (Nat × Nat × Int)} {k : Nat} {a : Nat × Nat × Int} (h : H[k]? = some a) : (posL H)[k]? = some (a.1, a.2.1) := by
  unfold posL
  rw [List.getElem?_map, h]
  rfl
theorem sum_take {β : Type} (f : β → Int) (K : List β) : ∀ (j : Nat) (q : β), K[j]? = some q → ((K.take (j + 1)).map f).sum = ((K.take j).map f).sum + f q := by
  intro j q h
  rw [List.take_add_one, h, List.map_append, List.sum_append]
  simp
theorem sub_len {β : Type} [DecidableEq β] : ∀ {l m : List β}, l.Nodup → (∀ x ∈ l, x ∈ m) → l.length ≤ m.length
  | [], _, _, _ => Nat.zero_le _
  | a :: l, m, hn, h => by
    rw [List.nodup_cons] at hn
    have ha := h a (List.mem_cons_self ..)
    have ih := sub_len (l := l) (m := m.erase a) hn.2 (fun x hx => by
      rw [List.mem_erase_of_ne (show x ≠ a from fun e => hn.1 (e ▸ hx))]
      exact h x (List.mem_cons_of_mem _ hx))
    rw [List.length_erase_of_mem ha] at ih
    have := List.length_pos_of_mem ha
    rw [List.length_cons]
    omega
structure KeptOk (pt : Nat → Nat → Int) (least : Int) (lo : List (Nat × Nat)) (H : List (Nat × Nat × Int)) : Prop where
  len : H.length ≤ lo.length
  mem : ∀ (t n i : Nat) (x : Int), H[t]? = some (n, i, x) → (n, i) ∈ lo ∧ least ≤ x ∧ (n = 0 → x = pt n i) ∧ sumK pt H t x t = pt n i ∧ (t < lo.countP (fun p => decide (p.1 = 0)) ↔ n = 0) ∧ -18084767253659648 ≤ x ∧ x ≤ 18084767253659648
  ord : ∀ (t n i n' i' : Nat) (x x' : Int), H[t]? = some (n, i, x) → H[t + 1]? = some (n', i', x') → n ≤ n'
  keys : lo.countP (fun p => decide (p.1 = 0)) ≤ H.length
end Go.Proofs.YthbkljeibmkimaaGreat


namespace Go.Proofs.YthbkljeibmkimaaGreat
open Go.RowKit
set_option linter.unusedVariables false
set_option linter.unusedSimpArgs false

def kidsP (p : Nat × Nat) : List (Nat × Nat) := if 0 < p.1 then [(p.1 - 1, 2 * p.2), (p.1 - 1, 2 * p.2 + 1)] else []
def qSt (pt : Nat → Nat → Int) (least : Int) (b : Nat) : Nat → List (Nat × Nat) × List (Nat × Nat)
  | 0 => ([(b, 0)], [])
  | t + 1 => match (qSt pt least b t).1[t]? with
    | none => qSt pt least b t
    | some p => if least ≤ pt p.1 p.2 then ((qSt pt least b t).1 ++ kidsP p, (qSt pt least b t).2 ++ [p]) else qSt pt least b t
theorem qSt_next {pt : Nat → Nat → Int} {least : Int} {b t : Nat} {p : Nat × Nat} (h : (qSt pt least b t).1[t]? = some p) : qSt pt least b (t + 1) = if least ≤ pt p.1 p.2 then ((qSt pt least b t).1 ++ kidsP p, (qSt pt least b t).2 ++ [p]) else qSt pt least b t := by
  conv => lhs; unfold qSt
  rw [h]
theorem qSt_stuck {pt : Nat → Nat → Int} {least : Int} {b t : Nat} (h : (qSt pt least b t).1.length ≤ t) : ∀ d, qSt pt least b (t + d) = qSt pt least b t
  | 0 => rfl
  | d + 1 => by
    have ih := qSt_stuck h d
    rw [← Nat.add_assoc]
    conv => lhs; unfold qSt
    rw [ih, List.getElem?_eq_none (by omega)]
theorem qSt_mono (pt : Nat → Nat → Int) (least : Int) (b t : Nat) : (qSt pt least b t).1.length ≤ (qSt pt least b (t + 1)).1.length := by
  cases h : (qSt pt least b t).1[t]? with
  | none => conv => rhs; unfold qSt
            rw [h]
            exact Nat.le_refl _
  | some p =>
    rw [qSt_next h]
    split
    · rw [List.length_append]; omega
    · exact Nat.le_refl _
theorem qSt_mono' (pt : Nat → Nat → Int) (least : Int) (b : Nat) {t u : Nat} (h : t ≤ u) : (qSt pt least b t).1.length ≤ (qSt pt least b u).1.length := by
  induction h with
  | refl => exact Nat.le_refl _
  | step _ ih => exact Nat.le_trans ih (qSt_mono pt least b _)
def rowsP (pt : Nat → Nat → Int) (least : Int) (b : Nat) : Nat → List (Nat × Nat)
  | 0 => []
  | j + 1 => rowsP pt least b j ++ (rowAt pt least b j).map fun i => (b - j, i)
theorem rowsP_len (pt : Nat → Nat → Int) (least : Int) (b : Nat) : ∀ j, (rowsP pt least b j).length = askedUp pt least b j
  | 0 => rfl
  | j + 1 => by rw [rowsP, askedUp, List.length_append, List.length_map, rowsP_len pt least b j]
def kidsQ (pt : Nat → Nat → Int) (least : Int) (b j k : Nat) : List (Nat × Nat) := if j < b then (kids (toldR pt least (b - j) ((rowAt pt least b j).take k))).map (fun i => (b - (j + 1), i)) else []
theorem q_row {pt : Nat → Nat → Int} {least : Int} {b j : Nat} (hj : j ≤ b) (h0 : qSt pt least b (askedUp pt least b j) = (rowsP pt least b (j + 1), hvOut pt least b j)) :
  ∀ k, k ≤ (rowAt pt least b j).length → qSt pt least b (askedUp pt least b j + k) = (rowsP pt least b (j + 1) ++ kidsQ pt least b j k, hvOut pt least b j ++ foundR pt least (b - j) ((rowAt pt least b j).take k))
 | 0, _ => by
  rw [Nat.add_zero, h0]
  simp [kidsQ, toldR, kids, foundR]
 | k + 1, hk => by
  have ih := q_row hj h0 k (by omega)
  obtain ⟨i, hi⟩ : ∃ i, (rowAt pt least b j)[k]? = some i := ⟨_, List.getElem?_eq_getElem (by omega)⟩
  have hget : (qSt pt least b (askedUp pt least b j + k)).1[askedUp pt least b j + k]? = some (b - j, i) := by
   rw [ih]
   have hl := rowsP_len pt least b j
   have h1 : askedUp pt least b j + k < (rowsP pt least b (j + 1)).length := by rw [rowsP_len, askedUp]; omega
   rw [List.getElem?_append_left h1, rowsP, List.getElem?_append_right (by omega), hl, Nat.add_sub_cancel_left, List.getElem?_map, hi]
   rfl
  rw [← Nat.add_assoc, qSt_next hget, ih]
  have e1 : toldR pt least (b - j) ((rowAt pt least b j).take (k + 1)) = toldR pt least (b - j) ((rowAt pt least b j).take k) ++ (if least ≤ pt (b - j) i then [i] else []) := by
   unfold toldR
   rw [List.take_add_one, hi, List.filter_append]
   by_cases h : least ≤ pt (b - j) i <;> simp [h]
  unfold kidsQ foundR
  rw [e1]
  by_cases h : least ≤ pt (b - j) i
  ·rw [if_pos h, if_pos h]
   have e2 : kidsP (b - j, i) = if j < b then [(b - (j + 1), 2 * i), (b - (j + 1), 2 * i + 1)] else [] := by
    unfold kidsP
    by_cases hb : j < b
    ·rw [if_pos (by simp; omega), if_pos hb]
     rfl
    ·rw [if_neg (by simp; omega), if_neg hb]
   rw [e2]
   by_cases hb : j < b <;> simp [hb, kids]
  ·rw [if_neg h, if_neg h]
   simp
theorem q_rows (pt : Nat → Nat → Int) (least : Int) (b : Nat) : ∀ j, j ≤ b → qSt pt least b (askedUp pt least b j) = (rowsP pt least b (j + 1), hvOut pt least b j)
  | 0, _ => by simp [qSt, askedUp, rowsP, rowAt, hvOut]
  | j + 1, hj => by
    have h := q_row (by omega) (q_rows pt least b j (by omega)) _ (Nat.le_refl _)
    rw [List.take_length] at h
    rw [askedUp, h]
    have e1 : kidsQ pt least b j (rowAt pt least b j).length = (rowAt pt least b (j + 1)).map fun i => (b - (j + 1), i) := by
      unfold kidsQ
      rw [if_pos (by omega), List.take_length, rowAt]
    rw [e1]
    rfl
theorem q_end (pt : Nat → Nat → Int) (least : Int) (b : Nat) : qSt pt least b (askedUp pt least b (b + 1)) = (rowsP pt least b (b + 1), hvOut pt least b (b + 1)) := by
  have h := q_row (Nat.le_refl b) (q_rows pt least b b (Nat.le_refl _)) _ (Nat.le_refl _)
  rw [List.take_length] at h
  rw [askedUp, h]
  have e1 : kidsQ pt least b b (rowAt pt least b b).length = [] := by unfold kidsQ; rw [if_neg (by omega)]
  rw [e1, List.append_nil]
  rfl
theorem q_last {pt : Nat → Nat → Int} {least : Int} {b t : Nat} (h : (qSt pt least b t).1.length ≤ t) : qSt pt least b t = (rowsP pt least b (b + 1), hvOut pt least b (b + 1)) := by
  have he := q_end pt least b
  rcases Nat.le_total t (askedUp pt least b (b + 1)) with h1 | h1
  · have h2 := qSt_stuck h (askedUp pt least b (b + 1) - t)
    rw [show t + (askedUp pt least b (b + 1) - t) = askedUp pt least b (b + 1) by omega, he] at h2
    exact h2.symm
  · have h2 := qSt_stuck (pt := pt) (least := least) (b := b) (t := askedUp pt least b (b + 1)) (by rw [he, rowsP_len]; exact Nat.le_refl _) (t - askedUp pt least b (b + 1))
    rw [show askedUp pt least b (b + 1) + (t - askedUp pt least b (b + 1)) = t by omega, he] at h2
    exact h2
theorem q_most (pt : Nat → Nat → Int) (least : Int) (b t : Nat) : (qSt pt least b t).1.length ≤ askedUp pt least b (b + 1) := by
  have he := q_end pt least b
  have hl : (qSt pt least b (askedUp pt least b (b + 1))).1.length = askedUp pt least b (b + 1) := by rw [he, rowsP_len]
  rcases Nat.le_total t (askedUp pt least b (b + 1)) with h1 | h1
  · have := qSt_mono' pt least b h1
    omega
  · have h2 := qSt_stuck (pt := pt) (least := least) (b := b) (t := askedUp pt least b (b + 1)) (by omega) (t - askedUp pt least b (b + 1))
    rw [show askedUp pt least b (b + 1) + (t - askedUp pt least b (b + 1)) = t by omega] at h2
    rw [h2, hl]
    exact Nat.le_refl _
theorem q_in (pt : Nat → Nat → Int) (least : Int) (b : Nat) : ∀ (t : Nat) (p : Nat × Nat), p ∈ (qSt pt least b t).1 → p.1 ≤ b ∧ p.2 < 2 ^ (b - p.1)
  | 0, p, h => by
    simp [qSt] at h
    subst h
    simp
  | t + 1, p, h => by
    cases hg : (qSt pt least b t).1[t]? with
    | none =>
      unfold qSt at h
      rw [hg] at h
      exact q_in pt least b t p h
    | some q =>
      rw [qSt_next hg] at h
      split at h
      · rw [List.mem_append] at h
        rcases h with h | h
        · exact q_in pt least b t p h
        · obtain ⟨h1, h2⟩ := q_in pt least b t q (List.mem_of_getElem? hg)
          unfold kidsP at h
          split at h
          · rename_i h0
            have e : b - (q.1 - 1) = b - q.1 + 1 := by omega
            have e2 : (2 : Nat) ^ (b - q.1 + 1) = 2 * 2 ^ (b - q.1) := by rw [Nat.pow_succ, Nat.mul_comm]
            simp at h
            rcases h with h | h <;> subst h <;> refine ⟨by simp; omega, ?_⟩ <;> show _ < 2 ^ (b - (q.1 - 1)) <;> rw [e, e2] <;> omega
          · simp at h
      · exact q_in pt least b t p h
theorem q_lens (pt : Nat → Nat → Int) (least : Int) (b : Nat) : ∀ t, (qSt pt least b t).2.length ≤ t ∧ 1 ≤ (qSt pt least b t).1.length ∧ (qSt pt least b t).1.length ≤ 1 + 2 * t
  | 0 => by simp [qSt]
  | t + 1 => by
    have ih := q_lens pt least b t
    cases hg : (qSt pt least b t).1[t]? with
    | none =>
      unfold qSt
      rw [hg]
      simp only
      omega
    | some q =>
      rw [qSt_next hg]
      split
      · have hk : (kidsP q).length ≤ 2 := by unfold kidsP; split <;> simp
        simp only [List.length_append, List.length_singleton]
        omega
      · omega
def posJ (lo : List (Nat × Nat)) (n i : Nat) : Nat := (byKey lvK n lo).length + ((lo.take i).filter fun e => decide (lvK e = (n : Int))).length
theorem byKey_succ {α : Type} (key : α → Int) (n : Nat) (x : List α) : byKey key (n + 1) x = byKey key n x ++ x.filter fun e => decide (key e = (n : Int)) := by
  unfold byKey
  rw [List.range_succ, List.flatMap_append]
  simp
theorem byKey_pre {α : Type} (key : α → Int) (x : List α) {n m : Nat} (h : n ≤ m) : byKey key n x <+: byKey key m x := by
  induction h with
  | refl => exact List.prefix_refl _
  | step _ ih => rw [byKey_succ]; exact ih.trans (List.prefix_append _ _)
theorem filter_at {α : Type} {P : α → Bool} {l : List α} {i : Nat} {p : α} (h : l[i]? = some p) (hp : P p = true) : (l.filter P)[((l.take i).filter P).length]? = some p := by
  have hl : i < l.length := (List.getElem?_eq_some_iff.1 h).1
  have e : l = l.take i ++ p :: l.drop (i + 1) := by
    have h2 := (List.getElem?_eq_some_iff.1 h).2
    rw [← h2, List.getElem_cons_drop, List.take_append_drop]
  conv => lhs; rw [e]
  rw [List.filter_append]
  have e2 : (List.take i (l.take i ++ p :: l.drop (i + 1))) = l.take i := by rw [← e]
  rw [e2, List.getElem?_append_right (Nat.le_refl _), Nat.sub_self, List.filter_cons, if_pos hp]
  rfl
theorem posJ_at {lo : List (Nat × Nat)} {n i m : Nat} {p : Nat × Nat} (h : lo[i]? = some p) (hp : p.1 = n) (hm : n < m) : (byKey lvK m lo)[posJ lo n i]? = some p := by
  have hP : (fun e : Nat × Nat => decide (lvK e = (n : Int))) p = true := by simp [lvK, hp]
  have h1 := filter_at (P := fun e : Nat × Nat => decide (lvK e = (n : Int))) h hP
  have h2 : (byKey lvK (n + 1) lo)[posJ lo n i]? = some p := by
    rw [byKey_succ]
    unfold posJ
    rw [List.getElem?_append_right (by omega), Nat.add_sub_cancel_left]
    exact h1
  obtain ⟨t, ht⟩ := byKey_pre lvK lo (show n + 1 ≤ m by omega)
  rw [← ht, List.getElem?_append_left (List.getElem?_eq_some_iff.1 h2).1]
  exact h2
theorem posJ_yes {lo : List (Nat × Nat)} {n i : Nat} {p : Nat × Nat} (h : lo[i]? = some p) (hp : p.1 = n) : posJ lo n (i + 1) = posJ lo n i + 1 := by
  unfold posJ
  rw [List.take_add_one, h, List.filter_append]
  simp [lvK, hp]
  omega
theorem posJ_not {lo : List (Nat × Nat)} {n i : Nat} {p : Nat × Nat} (h : lo[i]? = some p) (hp : p.1 ≠ n) : posJ lo n (i + 1) = posJ lo n i := by
  unfold posJ
  rw [List.take_add_one, h, List.filter_append]
  have e : decide (lvK p = (n : Int)) = false := decide_eq_false (by unfold lvK; omega)
  simp [e]
theorem posJ_row (lo : List (Nat × Nat)) (n : Nat) : posJ lo n lo.length = posJ lo (n + 1) 0 := by
  unfold posJ
  rw [List.take_length, byKey_succ]
  simp
theorem posJ_end (lo : List (Nat × Nat)) (m : Nat) : posJ lo m 0 = (byKey lvK m lo).length := by simp [posJ]
theorem posJ_zero (lo : List (Nat × Nat)) : posJ lo 0 0 = 0 := by simp [posJ, byKey]
def aloneR (K : List (Nat × Nat)) (p : Nat × Nat) (k : Nat) : Nat → Bool
  | 0 => true
  | m + 1 => aloneR K p k m && (decide (m = k) || !(match K[k]?, K[m]? with | some q, some u => liesB q u && liesB u p | _, _ => false))
theorem aloneR_iff {K : List (Nat × Nat)} {p q : Nat × Nat} {k : Nat} (hk : K[k]? = some q) : ∀ m, aloneR K p k m = true ↔ ∀ j u, j < m → j ≠ k → K[j]? = some u → liesB q u = true → liesB u p = true → False
  | 0 => by simp [aloneR]
  | m + 1 => by
    unfold aloneR
    rw [Bool.and_eq_true, aloneR_iff hk m, hk]
    constructor
    · rintro ⟨h1, h2⟩ j u hj hne hu a1 a2
      by_cases e : j = m
      · subst e
        rw [hu] at h2
        simp [hne, a1, a2] at h2
      · exact h1 j u (by omega) hne hu a1 a2
    · intro h
      refine ⟨fun j u hj hne hu a1 a2 => h j u (by omega) hne hu a1 a2, ?_⟩
      by_cases e : m = k
      · simp [e]
      · cases hm : K[m]? with
        | none => simp
        | some u =>
          have h3 := h m u (by omega) e hm
          cases e1 : liesB q u with
          | false => simp [e1]
          | true =>
            cases e2 : liesB u p with
            | false => simp [e2]
            | true => exact (h3 e1 e2).elim
theorem aloneR_all {K : List (Nat × Nat)} {p q : Nat × Nat} {k : Nat} (hn : K.Nodup) (hk : K[k]? = some q) : aloneR K p k K.length = alone K q p := by
  rw [Bool.eq_iff_iff, aloneR_iff hk, alone_iff]
  constructor
  · intro h m hm hne a1 a2
    obtain ⟨j, hj⟩ := List.getElem?_of_mem hm
    exact h j m (List.getElem?_eq_some_iff.1 hj).1 (fun e => hne (by subst e; rw [hk] at hj; exact (Option.some.inj hj).symm)) hj a1 a2
  · intro h j u hj hne hu a1 a2
    refine h u (List.mem_of_getElem? hu) (fun e => hne ?_) a1 a2
    obtain ⟨l1, e1⟩ := List.getElem?_eq_some_iff.1 hu
    obtain ⟨l2, e2⟩ := List.getElem?_eq_some_iff.1 hk
    exact (List.getElem_inj hn).1 (by rw [e1, e2, e])
def leftK (pt : Nat → Nat → Int) (K : List (Nat × Nat)) (p : Nat × Nat) (k : Nat) : Int := pt p.1 p.2 - ((K.take k).map (sTerm pt K p)).sum
theorem leftK_next {pt : Nat → Nat → Int} {K : List (Nat × Nat)} {p q : Nat × Nat} {k : Nat} (hn : K.Nodup) (hk : K[k]? = some q) : leftK pt K p (k + 1) = if liesB q p = true ∧ aloneR K p k K.length = true then leftK pt K p k - pt q.1 q.2 else leftK pt K p k := by
  unfold leftK
  rw [sum_take _ K k q hk, aloneR_all hn hk]
  unfold sTerm
  by_cases h1 : liesB q p = true <;> by_cases h2 : alone K q p = true <;> simp [h1, h2] <;> omega
theorem leftK_all {pt : Nat → Nat → Int} {K : List (Nat × Nat)} {p : Nat × Nat} (hn : K.Nodup) : leftK pt K p K.length = rest pt K p := by
  unfold leftK rest
  rw [List.take_length, ← show sAl pt K p = (K.map (sTerm pt K p)).sum from rfl]
  have := sAl_eq pt K hn p.1 p.2
  rw [show sAl pt K p = wI pt K p.1 p.2 from this]
theorem leftK_bd {pt : Nat → Nat → Int} {K : List (Nat × Nat)} {p : Nat × Nat} (hp : ∀ n i, -9223372036854775808 ≤ pt n i ∧ pt n i ≤ 9223372036854775807) : ∀ k : Nat, -(9223372036854775808 * ((k : Int) + 1)) ≤ leftK pt K p k ∧ leftK pt K p k ≤ 9223372036854775808 * ((k : Int) + 1)
  | 0 => by
    unfold leftK
    have := hp p.1 p.2
    simp
    omega
  | k + 1 => by
    have ih := leftK_bd (K := K) (p := p) hp k
    cases hk : K[k]? with
    | none =>
      have e : leftK pt K p (k + 1) = leftK pt K p k := by unfold leftK; rw [List.take_add_one, hk]; simp
      rw [e]
      omega
    | some q =>
      have e : leftK pt K p (k + 1) = leftK pt K p k - sTerm pt K p q := by
        unfold leftK
        rw [sum_take _ K k q hk]
        omega
      have h2 : -9223372036854775808 ≤ sTerm pt K p q ∧ sTerm pt K p q ≤ 9223372036854775807 := by
        unfold sTerm
        split
        · exact hp _ _
        · omega
      rw [e]
      omega
end Go.Proofs.YthbkljeibmkimaaGreat


namespace Go.Proofs.YthbkljeibmkimaaGreat
open Go.RowKit
set_option linter.unusedVariables false
set_option linter.unusedSimpArgs false

theorem own_frame {w w' : World} {base n : Nat} {e : TypeId} {v : Value} {xs : List Value} (h : w.ownsRow base e 1 v n xs) (hk : ∀ k, v.ownBlock = some k → w'.heap[k]? = w.heap[k]?) : w'.ownsRow base e 1 v n xs := by
  refine ⟨h.1, ?_⟩
  rcases h.2 with h2 | ⟨g, cap, cur, rfl, hb, hg, rest⟩
  · exact .inl h2
  · exact .inr ⟨g, cap, cur, rfl, hb, (hk g rfl).trans hg, rest⟩
theorem RefIs.frame {w w' : World} {N G : Nat} {v : Value} {B K : Nat → Nat} {R W : Nat} {zs : List Int} (h : RefIs w N G v B K R W zs) (hG : w'.heap[G]? = w.heap[G]?) (hv : ∀ k, v.ownBlock = some k → w'.heap[k]? = w.heap[k]?) (hB : ∀ i, i < R → w'.heap[B i]? = w.heap[B i]?) : RefIs w' N G v B K R W zs :=
  ⟨hG.trans h.box, own_frame h.own hv, h.cap, fun r hr => by obtain ⟨cur, hc, hcur⟩ := h.cells r hr; exact ⟨cur, (hB r hr).trans hc, hcur⟩, h.inj, h.lo, h.len, h.rows, h.width⟩
def RLevIs (w : World) (F : Nat → Prop) (P : Nat) (b r d m s l : Int) (zs : List Int) : Prop :=
  (exactB b r d m l = true ∧ ∃ RA LA, Blk w P 113 #[.pointer (some ⟨RA, 0, none⟩), .pointer none] ∧ RArr w RA LA b r d m s l zs ∧ zs.length = (keysI b r d m l).toNat ∧ F P ∧ F RA ∧ F LA) ∨
  (exactB b r d m l = false ∧ ∃ SA G v B K N, Blk w P 113 #[.pointer none, .pointer (some ⟨SA, 0, none⟩)] ∧ Blk w SA 118 #[.int .i64 b, .int .i64 r, .int .i64 d, .int .i64 m, .int .u64 s, .int .i64 l, .pointer (some ⟨G, 0, none⟩)] ∧
    RefIs w N G v B K r.toNat d.toNat zs ∧ F P ∧ F SA ∧ F G ∧ (∀ k, v.ownBlock = some k → F k) ∧ ∀ i, i < r.toNat → F (B i))
theorem RLevIs.frame {w w' : World} {F : Nat → Prop} {P : Nat} {b r d m s l : Int} {zs : List Int} (h : RLevIs w F P b r d m s l zs) (hk : ∀ k, F k → w'.heap[k]? = w.heap[k]?) : RLevIs w' F P b r d m s l zs := by
  rcases h with ⟨h1, RA, LA, h2, ⟨cap, cur, h3, h4, h5, h6⟩, h7, f1, f2, f3⟩ | ⟨h1, SA, G, v, B, K, N, h2, h3, h4, f1, f2, f3, f4, f5⟩
  · exact .inl ⟨h1, RA, LA, (hk _ f1).trans h2, ⟨cap, cur, h3, (hk _ f2).trans h4, (hk _ f3).trans h5, h6⟩, h7, f1, f2, f3⟩
  · exact .inr ⟨h1, SA, G, v, B, K, N, (hk _ f1).trans h2, (hk _ f2).trans h3, h4.frame (hk _ f3) (fun k e => hk _ (f4 k e)) (fun i hi => hk _ (f5 i hi)), f1, f2, f3, f4, f5⟩
theorem RLevIs.len {w : World} {F : Nat → Prop} {P : Nat} {b r d m s l : Int} {zs : List Int} (h : RLevIs w F P b r d m s l zs) : zs.length = cellsN b r d m l := by
  unfold cellsN
  rcases h with ⟨h1, RA, LA, h2, h3, h7, -⟩ | ⟨h1, SA, G, v, B, K, N, h2, h3, h4, -⟩
  · rw [if_pos h1, h7]
  · rw [h1]; simpa using h4.len
def RSkPost (w : World) (b r d m s l : Int) (e : Ending) (w' : World) : Prop :=
  ∃ SA G v B K, e = .returned (.pointer (some ⟨SA, 0, none⟩)) ∧ w.heap.size ≤ SA ∧ Blk w' SA 118 #[.int .i64 b, .int .i64 r, .int .i64 d, .int .i64 m, .int .u64 s, .int .i64 l, .pointer (some ⟨G, 0, none⟩)] ∧ RefIs w' w.heap.size G v B K r.toNat d.toNat (List.replicate (r.toNat * d.toNat) 0) ∧ Below w.heap.size w w'
theorem RefIs.base {w : World} {N N' G : Nat} {v : Value} {B K : Nat → Nat} {R W : Nat} {zs : List Int} (h : RefIs w N G v B K R W zs) (hn : N' ≤ N) : RefIs w N' G v B K R W zs := by
  refine ⟨h.box, ⟨h.own.1, ?_⟩, h.cap, h.cells, h.inj, ⟨Nat.le_trans hn h.lo.1, fun r hr => Nat.le_trans hn (h.lo.2 r hr)⟩, h.len, h.rows, h.width⟩
  rcases h.own.2 with h2 | ⟨g, cap, cur, e, hb, rest⟩
  · exact .inl h2
  · exact .inr ⟨g, cap, cur, e, Nat.le_trans hn hb, rest⟩
set_option maxRecDepth 100000 in
set_option maxHeartbeats 4000000 in
theorem rsknew (b r d m s l : Int) (hr : rightB b r d m = true) (w : World) :
  Calls Tryz.prog 53 #[.agg #[.int .i64 b, .int .i64 r, .int .i64 d, .int .i64 m, .int .u64 s], .int .i64 l] w (RSkPost w b r d m s l) := by
 have hR := right_of hr
 have PN := Lib.hid (fun w => rnew_any r d w)
 rw [clampN_of (by omega), clampN_of (by omega)] at PN
 clear hr hR
 obtain ⟨g1, hb1, hsz1⟩ := news1 w (.cells #[.int .i64 b, .int .i64 r, .int .i64 d, .int .i64 m, .int .u64 s] 24)
 have HX1 : Hid (Blk _ w.heap.size 24 #[.int .i64 b, .int .i64 r, .int .i64 d, .int .i64 m, .int .u64 s]) := Lib.hid g1
 have HB1 := Lib.hid hb1
 clear g1 hb1 hsz1
 go_enter Tryz.func53, Tryz.ntmps53
 go_wp2_with fail
 refine wp_region_held_drew (S := fun w' => Blk w' w.heap.size 24 #[.int .i64 b, .int .i64 r, .int .i64 d, .int .i64 m, .int .u64 s] ∧ Below w.heap.size w w') (by kernel_rfl) (by exact ⟨HX1.out.drewN 1, below_drewN HB1.out 1⟩) (fun hHeld => ?_)
 refine tkH (i := 0) (v := ?_) rfl (by kernel_rfl) (fun _ _ _ h => h) (Or.inl ⟨by rfl, ?_⟩) (by assumption) ?_
 rotate_left
 ·intro w hSw
  have q0 := hSw.1.cell 0
  have q1 := hSw.1.cell 1
  have q2 := hSw.1.cell 2
  simp at q0 q1 q2
  try refine (exec_load_row 24 _ rfl _ rfl 24 _ (0, 0) _ hSw.1 Tryz.underlying24 rfl (by kernel_rfl)).trans ?_
  go_simp
  try with_reducible rfl
 simp only [Act.put, z1, z2, z3, z4, z5, z6]
 refine tkH (i := 1) (v := ?_) rfl (by kernel_rfl) (fun _ _ _ h => h) (Or.inl ⟨by rfl, ?_⟩) (by assumption) ?_
 rotate_left
 ·intro w hSw
  try dsimp only at hSw
  go_simp
  try with_reducible rfl
 simp only [Act.put, z1, z2, z3, z4, z5, z6]
 refine tkH (i := 2) (v := ?_) rfl (by kernel_rfl) (fun _ _ _ h => h) (Or.inl ⟨by rfl, ?_⟩) (by assumption) ?_
 rotate_left
 ·intro w hSw
  try dsimp only at hSw
  go_simp
  try with_reducible rfl
 simp only [Act.put, z1, z2, z3, z4, z5, z6]
 refine tkH (i := 3) (v := ?_) rfl (by kernel_rfl) (fun _ _ _ h => h) (Or.inl ⟨by rfl, ?_⟩) (by assumption) ?_
 rotate_left
 ·intro w hSw
  have q0 := hSw.1.cell 0
  have q1 := hSw.1.cell 1
  have q2 := hSw.1.cell 2
  simp at q0 q1 q2
  try refine (exec_load_row 24 _ rfl _ rfl 24 _ (0, 0) _ hSw.1 Tryz.underlying24 rfl (by kernel_rfl)).trans ?_
  go_simp
  try with_reducible rfl
 simp only [Act.put, z1, z2, z3, z4, z5, z6]
 refine tkH (i := 4) (v := ?_) rfl (by kernel_rfl) (fun _ _ _ h => h) (Or.inl ⟨by rfl, ?_⟩) (by assumption) ?_
 rotate_left
 ·intro w hSw
  try dsimp only at hSw
  go_simp
  try with_reducible rfl
 simp only [Act.put, z1, z2, z3, z4, z5, z6]
 refine tkH (i := 5) (v := ?_) rfl (by kernel_rfl) (fun _ _ _ h => h) (Or.inl ⟨by rfl, ?_⟩) (by assumption) ?_
 rotate_left
 ·intro w hSw
  have q0 := hSw.1.cell 0
  have q1 := hSw.1.cell 1
  have q2 := hSw.1.cell 2
  simp at q0 q1 q2
  try refine (exec_load_row 24 _ rfl _ rfl 24 _ (0, 0) _ hSw.1 Tryz.underlying24 rfl (by kernel_rfl)).trans ?_
  go_simp
  try with_reducible rfl
 simp only [Act.put, z1, z2, z3, z4, z5, z6]
 refine wpAnyH_ready (rs := [6]) (by kernel_rfl) (by simp) ?_
 refine AllReadyH.cons rfl (fun Kc hKc => ?_) AllReadyH.nil
 go_simp
 go_wp2_with (go_at_call 65; refine (PN.out _).mono ?_; rintro e w4 ⟨G, v, B, K, rfl, hg, hb'⟩; have HG4 := Lib.hid hg; have HB4 := Lib.hid (btr hHeld.2 hb'); have HN4 : Hid (w.heap.size ≤ _) := Lib.hid hHeld.2.size; clear hg)
 refine hKc.out _ _ ?_ (fun hHeld => ?_)
 ·first | assumption | exact ⟨hHeld.1.kept hb', btr hHeld.2 hb'⟩ | exact ⟨hHeld.1.alloc _, hHeld.2.alloc hHeld.2.size _⟩
 clear hKc Kc
 refine tkH (i := 7) (v := ?_) rfl (by kernel_rfl) (fun _ _ _ h => h) (Or.inl ⟨by rfl, ?_⟩) (by assumption) ?_
 rotate_left
 ·intro w hSw
  try dsimp only at hSw
  go_simp
  try with_reducible rfl
 simp only [Act.put, z1, z2, z3, z4, z5, z6]
 refine wpAnyH_ready (rs := [8]) (by kernel_rfl) (by simp) ?_
 refine AllReadyH.cons rfl (fun Kc hKc => ?_) AllReadyH.nil
 go_simp
 refine hKc.out _ _ ?_ (fun hHeld => ?_)
 ·first | assumption | exact ⟨hHeld.1.kept hb', btr hHeld.2 hb'⟩ | exact ⟨hHeld.1.alloc _, hHeld.2.alloc hHeld.2.size _⟩
 clear hKc Kc
 refine tkH (i := 9) (v := ?_) rfl (by kernel_rfl) (fun _ _ _ h => h) (Or.inl ⟨by rfl, ?_⟩) (by assumption) ?_
 rotate_left
 ·intro w hSw
  try dsimp only at hSw
  go_simp
  try with_reducible rfl
 simp only [Act.put, z1, z2, z3, z4, z5, z6]
 refine wpAnyH_done (by kernel_rfl) ?_ _
 have HNEW := Lib.hid (Blk.new w4 118 #[.int .i64 b, .int .i64 r, .int .i64 d, .int .i64 m, .int .u64 s, .int .i64 l, .pointer (some ⟨G, 0, none⟩)])
 have HAL : Hid (Below w4.heap.size w4 (w4.alloc (.cells #[.int .i64 b, .int .i64 r, .int .i64 d, .int .i64 m, .int .u64 s, .int .i64 l, .pointer (some ⟨G, 0, none⟩)] 118))) := Lib.hid ((Below.refl _ _).alloc (Nat.le_refl _) _)
 have HG5 := Lib.hid ((HG4.out.kept HAL.out).base HN4.out)
 have HB5 := Lib.hid (btr HB4.out HAL.out)
 clear hHeld
 go_wp2_with fail
 go_ret
 exact ⟨w4.heap.size, G, v, B, K, rfl, HB4.out.size, HNEW.out, HG5.out, HB5.out⟩
def Btw (a c : Nat) : Nat → Prop := fun k => a ≤ k ∧ k < c
def RLvPost (w : World) (b r d m s l : Int) (e : Ending) (w' : World) : Prop :=
  ∃ P, e = .returned (.pointer (some ⟨P, 0, none⟩)) ∧ RLevIs w' (Btw w.heap.size w'.heap.size) P b r d m s l (List.replicate (cellsN b r d m l) 0) ∧ Below w.heap.size w w'
theorem RefIs.inside {w : World} {N G : Nat} {v : Value} {B K : Nat → Nat} {R W : Nat} {zs : List Int} (h : RefIs w N G v B K R W zs) : Btw N w.heap.size G ∧ (∀ k, v.ownBlock = some k → Btw N w.heap.size k) ∧ ∀ i, i < R → Btw N w.heap.size (B i) :=
  ⟨⟨h.lo.1, h.box.lt⟩, fun k e => h.own.lt k e, fun i hi => ⟨h.lo.2 i hi, by obtain ⟨cur, hc, -⟩ := h.cells i hi; exact (show Blk w (B i) _ _ from hc).lt⟩⟩
set_option maxRecDepth 100000 in
set_option maxHeartbeats 4000000 in
theorem rlnew (b r d m s l : Int) (hr : rightB b r d m = true) (w : World) :
  Calls Tryz.prog 22 #[.agg #[.int .i64 b, .int .i64 r, .int .i64 d, .int .i64 m, .int .u64 s], .int .i64 l] w (RLvPost w b r d m s l) := by
 have PE := fun w => rexact_any b r d m s l w
 have hR := right_of hr
 obtain ⟨g1, hb1, hsz1⟩ := news1 w (.cells #[.int .i64 b, .int .i64 r, .int .i64 d, .int .i64 m, .int .u64 s] 24)
 have hx1 : Blk _ w.heap.size 24 #[.int .i64 b, .int .i64 r, .int .i64 d, .int .i64 m, .int .u64 s] := g1
 have HB1 := Lib.hid hb1
 have HX1 := Lib.hid hx1
 clear g1 hb1 hsz1
 cases he : exactB b r d m l
 ·rw [he] at PE
  have PE := Lib.hid PE
  have PS := Lib.hid (fun w => rsknew b r d m s l hr w)
  have HEX := Lib.hid he
  have HCN : Hid (cellsN b r d m l = r.toNat * d.toNat) := Lib.hid (by unfold cellsN; rw [he]; simp)
  clear he hr hR
  go_enter Tryz.func22, Tryz.ntmps22
  go_wp2_with (refine wpList_load_row rfl 24 _ rfl w.heap.size rfl 24 _ (0, 0) _ hx1 Tryz.underlying24 rfl (by kernel_rfl) ?_)
  with_reducible refine (PE.out _).mono ?_
  rintro e w2 ⟨rfl, hb⟩
  have HB2 := Lib.hid (btr HB1.out hb)
  have HX2 := Lib.hid (HX1.out.kept hb)
  clear hb hx1
  go_wp2_with (refine wpList_load_row rfl 24 _ rfl w.heap.size rfl 24 _ (0, 0) _ HX2.out Tryz.underlying24 rfl (by kernel_rfl) ?_)
  with_reducible refine (PS.out _).mono ?_
  rintro e w3 ⟨SA, G, v, B, K, rfl, hSA, hsk, hrf, hb⟩
  have HB3 := Lib.hid (btr HB2.out hb)
  have HSK := Lib.hid hsk
  have HRF := Lib.hid (hrf.base HB2.out.size)
  have HSA : Hid (w.heap.size ≤ SA) := Lib.hid (Nat.le_trans HB2.out.size hSA)
  clear hb hsk hrf hSA
  have HNEW := Lib.hid (Blk.new w3 113 #[.pointer none, .pointer (some ⟨SA, 0, none⟩)])
  have HAL : Hid (Below w3.heap.size w3 (w3.alloc (.cells #[.pointer none, .pointer (some ⟨SA, 0, none⟩)] 113))) := Lib.hid ((Below.refl _ _).alloc (Nat.le_refl _) _)
  have HSK4 := Lib.hid (HSK.out.kept HAL.out)
  have HRF4 := Lib.hid (HRF.out.kept HAL.out)
  have HB4 := Lib.hid (btr HB3.out HAL.out)
  have hsz3 := HB3.out.size
  go_wp2
  go_ret
  exact ⟨w3.heap.size, rfl, .inr ⟨HEX.out, SA, G, v, B, K, _, HNEW.out, HSK4.out, by rw [HCN.out]; exact HRF4.out, ⟨hsz3, HNEW.out.lt⟩, ⟨HSA.out, HSK4.out.lt⟩, HRF4.out.inside.1, HRF4.out.inside.2.1, HRF4.out.inside.2.2⟩, HB4.out⟩
 ·rw [he] at PE
  have PE := Lib.hid PE
  have hkd := of_decide_eq_true he
  obtain ⟨K, hK⟩ : ∃ K : Nat, keysI b r d m l = (K : Int) := ⟨(keysI b r d m l).toNat, by omega⟩
  have hK128 : K ≤ 128 := by omega
  have PK := Lib.hid (fun w => rkeys_any b r d m s l w)
  rw [hK] at PK
  have PX := Lib.hid (fun w => rxnew b r d m s l K hK128 w)
  have HEX := Lib.hid he
  have HKK := Lib.hid hK
  have HCN : Hid (cellsN b r d m l = K) := Lib.hid (by unfold cellsN; rw [he, hK]; simp)
  clear he hr hR hkd hK
  go_enter Tryz.func22, Tryz.ntmps22
  go_wp2_with (refine wpList_load_row rfl 24 _ rfl w.heap.size rfl 24 _ (0, 0) _ hx1 Tryz.underlying24 rfl (by kernel_rfl) ?_)
  with_reducible refine (PE.out _).mono ?_
  rintro e w2 ⟨rfl, hb⟩
  have HB2 := Lib.hid (btr HB1.out hb)
  have HX2 := Lib.hid (HX1.out.kept hb)
  clear hb hx1
  go_wp2_with fail
  refine wp_region_held_drew (S := fun w' => Blk w' w.heap.size 24 #[.int .i64 b, .int .i64 r, .int .i64 d, .int .i64 m, .int .u64 s] ∧ Below w.heap.size w w') (by kernel_rfl) (by exact ⟨HX2.out.drewN 1, below_drewN HB2.out 1⟩) (fun hHeld => ?_)
  refine tkH (i := 0) (v := ?_) rfl (by kernel_rfl) (fun _ _ _ h => h) (Or.inl ⟨by rfl, ?_⟩) (by assumption) ?_
  rotate_left
  ·intro w hSw
   try refine (exec_load_row 24 _ rfl _ rfl 24 _ (0, 0) _ hSw.1 Tryz.underlying24 rfl (by kernel_rfl)).trans ?_
   go_simp
   try with_reducible rfl
  simp only [Act.put, z1, z2, z3, z4, z5, z6]
  refine tkH (i := 1) (v := ?_) rfl (by kernel_rfl) (fun _ _ _ h => h) (Or.inl ⟨by rfl, ?_⟩) (by assumption) ?_
  rotate_left
  ·intro w hSw
   try dsimp only at hSw
   go_simp
   try with_reducible rfl
  simp only [Act.put, z1, z2, z3, z4, z5, z6]
  refine tkH (i := 2) (v := ?_) rfl (by kernel_rfl) (fun _ _ _ h => h) (Or.inl ⟨by rfl, ?_⟩) (by assumption) ?_
  rotate_left
  ·intro w hSw
   try refine (exec_load_row 24 _ rfl _ rfl 24 _ (0, 0) _ hSw.1 Tryz.underlying24 rfl (by kernel_rfl)).trans ?_
   go_simp
   try with_reducible rfl
  simp only [Act.put, z1, z2, z3, z4, z5, z6]
  refine tkH (i := 3) (v := ?_) rfl (by kernel_rfl) (fun _ _ _ h => h) (Or.inl ⟨by rfl, ?_⟩) (by assumption) ?_
  rotate_left
  ·intro w hSw
   try dsimp only at hSw
   go_simp
   try with_reducible rfl
  simp only [Act.put, z1, z2, z3, z4, z5, z6]
  refine wpAnyH_ready (rs := [4]) (by kernel_rfl) (by simp) ?_
  refine AllReadyH.cons rfl (fun Kc hKc => ?_) AllReadyH.nil
  go_simp
  go_wp2_with (first | (go_at_call 26; refine (PK.out _).mono ?_; rintro e w3 ⟨rfl, hb'⟩) | (go_at_call 52; refine (PX.out _).mono ?_; rintro e w4 ⟨RA, LA, rfl, hRA, hLA, hra, hb'⟩; have HRA := Lib.hid hra; have HB4 := Lib.hid (btr hHeld.2 hb'); have HLO : Hid (w.heap.size ≤ RA ∧ w.heap.size ≤ LA) := Lib.hid ⟨Nat.le_trans hHeld.2.size hRA, Nat.le_trans hHeld.2.size hLA⟩; clear hra hRA hLA))
  refine hKc.out _ _ ?_ (fun hHeld => ?_)
  ·first | assumption | exact ⟨hHeld.1.kept hb', btr hHeld.2 hb'⟩ | exact ⟨hHeld.1.alloc _, hHeld.2.alloc hHeld.2.size _⟩
  clear hKc Kc
  refine wpAnyH_ready (rs := [5]) (by kernel_rfl) (by simp) ?_
  refine AllReadyH.cons rfl (fun Kc hKc => ?_) AllReadyH.nil
  go_simp
  go_wp2_with (first | (go_at_call 26; refine (PK.out _).mono ?_; rintro e w3 ⟨rfl, hb'⟩) | (go_at_call 52; refine (PX.out _).mono ?_; rintro e w4 ⟨RA, LA, rfl, hRA, hLA, hra, hb'⟩; have HRA := Lib.hid hra; have HB4 := Lib.hid (btr hHeld.2 hb'); have HLO : Hid (w.heap.size ≤ RA ∧ w.heap.size ≤ LA) := Lib.hid ⟨Nat.le_trans hHeld.2.size hRA, Nat.le_trans hHeld.2.size hLA⟩; clear hra hRA hLA))
  refine hKc.out _ _ ?_ (fun hHeld => ?_)
  ·first | assumption | exact ⟨hHeld.1.kept hb', btr hHeld.2 hb'⟩ | exact ⟨hHeld.1.alloc _, hHeld.2.alloc hHeld.2.size _⟩
  clear hKc Kc
  refine tkH (i := 6) (v := ?_) rfl (by kernel_rfl) (fun _ _ _ h => h) (Or.inl ⟨by rfl, ?_⟩) (by assumption) ?_
  rotate_left
  ·intro w hSw
   try dsimp only at hSw
   go_simp
   try with_reducible rfl
  simp only [Act.put, z1, z2, z3, z4, z5, z6]
  refine wpAnyH_ready (rs := [7]) (by kernel_rfl) (by simp) ?_
  refine AllReadyH.cons rfl (fun Kc hKc => ?_) AllReadyH.nil
  go_simp
  refine hKc.out _ _ ?_ (fun hHeld => ?_)
  ·first | assumption | exact ⟨hHeld.1.kept hb', btr hHeld.2 hb'⟩ | exact ⟨hHeld.1.alloc _, hHeld.2.alloc hHeld.2.size _⟩
  clear hKc Kc
  refine tkH (i := 8) (v := ?_) rfl (by kernel_rfl) (fun _ _ _ h => h) (Or.inl ⟨by rfl, ?_⟩) (by assumption) ?_
  rotate_left
  ·intro w hSw
   try dsimp only at hSw
   go_simp
   try with_reducible rfl
  simp only [Act.put, z1, z2, z3, z4, z5, z6]
  refine wpAnyH_done (by kernel_rfl) ?_ _
  have HNEW := Lib.hid (Blk.new w4 113 #[.pointer (some ⟨RA, 0, none⟩), .pointer none])
  have HAL : Hid (Below w4.heap.size w4 (w4.alloc (.cells #[.pointer (some ⟨RA, 0, none⟩), .pointer none] 113))) := Lib.hid ((Below.refl _ _).alloc (Nat.le_refl _) _)
  have HRA5 := Lib.hid (HRA.out.kept HAL.out)
  have HB5 := Lib.hid (btr HB4.out HAL.out)
  have hsz4 := HB4.out.size
  clear hHeld
  go_wp2
  go_ret
  exact ⟨w4.heap.size, rfl, .inl ⟨HEX.out, RA, LA, HNEW.out, by rw [HCN.out]; exact HRA5.out, by rw [HCN.out, HKK.out]; simp, ⟨hsz4, HNEW.out.lt⟩, ⟨HLO.out.1, HRA5.out.ltR⟩, ⟨HLO.out.2, HRA5.out.ltL⟩⟩, HB5.out⟩
end Go.Proofs.YthbkljeibmkimaaGreat


namespace Go.Proofs.YthbkljeibmkimaaGreat
open Go.RowKit
set_option linter.unusedVariables false
set_option linter.unusedSimpArgs false

theorem RArr.ints {w : World} {R L : Nat} {b r d m s l : Int} {zs : List Int} (h : RArr w R L b r d m s l zs) : ∃ cap, w.cell? ⟨R, 6, none⟩ = some (.slice (some ⟨L, 0, none⟩) zs.length cap) ∧ zs.length ≤ cap ∧ ∀ j u, (zs.map (Value.int .i64))[j]? = some u → w.cell? ((Addr.mk L 0 none).add j) = some u := by
  obtain ⟨cap, cur, h1, h2, h3, h4⟩ := h
  refine ⟨cap, h2.cell 6, h1, fun j u hu => ?_⟩
  rw [List.getElem?_map] at hu
  cases hz : zs[j]? with
  | none => rw [hz] at hu; simp at hu
  | some z =>
    rw [hz] at hu
    simp at hu
    subst hu
    rw [addr_add, Nat.zero_add]
    exact (h3.cell j).trans (h4 j z hz)
end Go.Proofs.YthbkljeibmkimaaGreat


namespace Go.Proofs.YthbkljeibmkimaaGreat
open Go.RowKit
set_option linter.unusedVariables false
set_option linter.unusedSimpArgs false

def Only (F : Nat → Prop) (w w' : World) : Prop := w'.os = w.os ∧ w'.tape = w.tape ∧ w'.output = w.output ∧ w.heap.size ≤ w'.heap.size ∧ ∀ k, k < w.heap.size → ¬ F k → w'.heap[k]? = w.heap[k]?
theorem Only.of_gr {w w' : World} {F : Nat → Prop} {g : Nat} (h : w.grownBy w' (some g)) (hg : F g) : Only F w w' :=
  ⟨h.os, h.tape, h.output, h.size, fun k hk hn => h.block k hk (fun e => hn (by rw [Option.some.inj e]; exact hg))⟩
theorem Only.trans {w w1 w2 : World} {F F1 : Nat → Prop} (h : Only F w w1) (k : Only F1 w1 w2) (hf : ∀ x, F1 x → F x ∨ w.heap.size ≤ x) : Only F w w2 :=
  ⟨k.1.trans h.1, k.2.1.trans h.2.1, k.2.2.1.trans h.2.2.1, Nat.le_trans h.2.2.2.1 k.2.2.2.1, fun x hx hn => (k.2.2.2.2 x (Nat.lt_of_lt_of_le hx h.2.2.2.1) (fun h1 => by rcases hf x h1 with h2 | h2; exact hn h2; omega)).trans (h.2.2.2.2 x hx hn)⟩
theorem Only.below {w w' : World} {F : Nat → Prop} {B : Nat} (h : Only F w w') (hf : ∀ x, F x → B ≤ x) (hB : B ≤ w.heap.size) : Below B w w' :=
  ⟨h.1, h.2.1, h.2.2.1, h.2.2.2.1, fun k hk => h.2.2.2.2 k (by omega) (fun hn => by have := hf k hn; omega)⟩
def RLd (w0 w : World) (F : Nat → Prop) (P SA G L vcap N : Nat) (B K : Nat → Nat) (R W : Nat) (b r d m s l : Int) (cs zs : List Int) (a : Nat) : Prop :=
  Blk w P 113 #[.pointer none, .pointer (some ⟨SA, 0, none⟩)] ∧ Blk w SA 118 #[.int .i64 b, .int .i64 r, .int .i64 d, .int .i64 m, .int .u64 s, .int .i64 l, .pointer (some ⟨G, 0, none⟩)] ∧
  RefIs w N G (.slice (some ⟨L, 0, none⟩) R vcap) B K R W (cs.take a ++ zs.drop a) ∧ Only F w0 w
theorem Only.refl (F : Nat → Prop) (w : World) : Only F w w := ⟨rfl, rfl, rfl, Nat.le_refl _, fun _ _ _ => rfl⟩
theorem Only.drew {F : Nat → Prop} {w w' : World} (h : Only F w w') : Only F w (w'.drewN 1) := h
theorem Only.cell {F : Nat → Prop} {w w' : World} (h : Only F w w') {g i : Nat} {u : Value} (hg : ¬ F g) (hc : w.cell? ⟨g, i, none⟩ = some u) : w'.cell? ⟨g, i, none⟩ = some u := by
  have hlt : g < w.heap.size := cell_block hc
  have := h.2.2.2.2 g hlt hg
  unfold World.cell? at hc ⊢
  simp only at hc ⊢
  rw [this]; exact hc
theorem RLd.step {w0 w : World} {F : Nat → Prop} {P SA G L vcap N : Nat} {B K : Nat → Nat} {R W : Nat} {b r d m s l : Int} {cs zs : List Int} {i c : Nat} (h : RLd w0 w F P SA G L vcap N B K R W b r d m s l cs zs (i * W + c)) (hi : i < R) (hc : c < W) (hl : cs.length = zs.length) (hf : F (B i)) {u : Int} (hu : cs[i * W + c]? = some u) :
    RLd w0 (w.setCell ⟨B i, c, none⟩ (.int .i64 u)) F P SA G L vcap N B K R W b r d m s l cs zs (i * W + c + 1) := by
  obtain ⟨h1, h2, h3, h4⟩ := h
  obtain ⟨cur, hB, -⟩ := h3.cells i hi
  refine ⟨h1.far ((show Blk w P _ _ from h1).ne_ (show Blk w (B i) _ _ from hB) (by decide)) _, h2.far ((show Blk w SA _ _ from h2).ne_ (show Blk w (B i) _ _ from hB) (by decide)) _, ?_, h4.trans (Only.of_gr (F := F) (grown_set w (B i) c _) hf) (fun x hx => .inl hx)⟩
  have := h3.set i c u hi hc
  rw [take_drop_set hu hl] at this
  exact this
end Go.Proofs.YthbkljeibmkimaaGreat


namespace Go.Proofs.YthbkljeibmkimaaGreat
open Go.RowKit
set_option linter.unusedVariables false
set_option linter.unusedSimpArgs false

structure RLevsB (w : World) (base RS : Nat) (v : Value) (b r d m s : Int) (P : Nat → Nat) (F : Nat → Nat → Prop) (Z : Nat → List Int) (j : Nat) : Prop where
  own : w.ownsRow base 55 1 v j ((List.range j).map fun n => .pointer (some ⟨P n, 0, none⟩))
  lev : ∀ n, n < j → RLevIs w (F n) (P n) b r d m s n (Z n)
  fin : ∀ n k, n < j → F n k → base ≤ k ∧ k < w.heap.size
  apart : ∀ n q k, n < j → q < j → n ≠ q → F n k → ¬ F q k
  out : ∀ n, n < j → ¬ F n RS ∧ ∀ k, v.ownBlock = some k → ¬ F n k
theorem RLevsB.kept {w w' : World} {base RS : Nat} {v : Value} {b r d m s : Int} {P : Nat → Nat} {F : Nat → Nat → Prop} {Z : Nat → List Int} {j : Nat} (h : RLevsB w base RS v b r d m s P F Z j) (hb : Below w.heap.size w w') : RLevsB w' base RS v b r d m s P F Z j :=
  ⟨World.ownsRow.kept h.own (below_gr (row := none) hb) (by cases v.ownBlock <;> simp), fun n hn => (h.lev n hn).frame (fun k hk => hb.block k (h.fin n k hn hk).2), fun n k hn hk => ⟨(h.fin n k hn hk).1, Nat.lt_of_lt_of_le (h.fin n k hn hk).2 hb.size⟩, h.apart, h.out⟩
theorem RLevsB.far {w : World} {base RS : Nat} {v : Value} {b r d m s : Int} {P : Nat → Nat} {F : Nat → Nat → Prop} {Z : Nat → List Int} {j : Nat} (h : RLevsB w base RS v b r d m s P F Z j) {cs : Array Value} (hs : Blk w RS 58 cs) (i : Nat) (u : Value) : RLevsB (w.setCell ⟨RS, i, none⟩ u) base RS v b r d m s P F Z j := by
  have hg := grown_set w RS i u
  have hne := own_ne h.own hs (by decide)
  exact ⟨World.ownsRow.kept h.own hg (.inr hne), fun n hn => (h.lev n hn).frame (fun k hk => hg.block k (h.fin n k hn hk).2 (fun e => (h.out n hn).1 (by rw [← Option.some.inj e]; exact hk))), fun n k hn hk => ⟨(h.fin n k hn hk).1, by simpa using (h.fin n k hn hk).2⟩, h.apart, h.out⟩
theorem RLevsB.zero (w : World) (base RS : Nat) (b r d m s : Int) (P : Nat → Nat) (F : Nat → Nat → Prop) (Z : Nat → List Int) : RLevsB w base RS (.slice none 0 0) b r d m s P F Z 0 :=
  ⟨World.ownsRow_nil _ _ _ _, fun n hn => by omega, fun n k hn => by omega, fun n q k hn => by omega, fun n hn => by omega⟩
theorem RLevsB.push {w w' : World} {base RS lo : Nat} {v v' : Value} {b r d m s : Int} {P : Nat → Nat} {F : Nat → Nat → Prop} {Z : Nat → List Int} {j p : Nat} {f : Nat → Prop} {zs : List Int} (h : RLevsB w base RS v b r d m s P F Z j)
  (hl : RLevIs w f p b r d m s j zs) (hf : ∀ k, f k → lo ≤ k ∧ k < w.heap.size) (hlo : base ≤ lo) (hF : ∀ n k, n < j → F n k → k < lo) (hRS : RS < lo) (hv : ∀ k, v.ownBlock = some k → k < lo)
  (hg : w.grownBy w' v.ownBlock) (ho : w'.ownsRow base 55 1 v' (j + 1) ((List.range j).map (fun n => Value.pointer (some ⟨P n, 0, none⟩)) ++ [.pointer (some ⟨p, 0, none⟩)])) (hq : v'.ownBlock = v.ownBlock ∨ v'.ownBlock = some w.heap.size) :
  RLevsB w' base RS v' b r d m s (upN P j p) (upN F j f) (upN Z j zs) (j + 1) := by
 have hnf : ∀ k, f k → some k ≠ v.ownBlock := fun k hk e => by have := hv k e.symm; have := hf k hk; omega
 refine ⟨?_, fun n hn => ?_, fun n k hn hk => ?_, fun n q k hn hq2 e hk => ?_, fun n hn => ?_⟩
 ·have e : (List.range (j + 1)).map (fun n => Value.pointer (some ⟨upN P j p n, 0, none⟩)) = (List.range j).map (fun n => Value.pointer (some ⟨P n, 0, none⟩)) ++ [.pointer (some ⟨p, 0, none⟩)] := by
   rw [List.range_succ, List.map_append]
   congr 1
   ·exact List.map_congr_left fun k hk => by rw [upN_other _ _ (by have := List.mem_range.1 hk; omega)]
   ·simp [upN]
  rw [e]; exact ho
 ·by_cases e : n = j
  ·subst e; rw [upN_same, upN_same, upN_same]
   exact hl.frame (fun k hk => hg.block k (hf k hk).2 (hnf k hk))
  ·rw [upN_other _ _ e, upN_other _ _ e, upN_other _ _ e]
   exact (h.lev n (by omega)).frame (fun k hk => hg.block k (h.fin n k (by omega) hk).2 (fun e2 => (h.out n (by omega)).2 k e2.symm hk))
 ·by_cases e : n = j
  ·subst e; rw [upN_same] at hk
   have := hf k hk
   have := hg.size
   omega
  ·rw [upN_other _ _ e] at hk
   have := h.fin n k (by omega) hk
   have := hg.size
   omega
 ·by_cases e1 : n = j
  ·subst e1
   rw [upN_same] at hk
   rw [upN_other _ _ (Ne.symm e)]
   intro hk2
   have := hF q k (by omega) hk2
   have := hf k hk
   omega
  ·rw [upN_other _ _ e1] at hk
   by_cases e2 : q = j
   ·subst e2
    rw [upN_same]
    intro hk2
    have := hF n k (by omega) hk
    have := hf k hk2
    omega
   ·rw [upN_other _ _ e2]
    exact h.apart n q k (by omega) (by omega) e hk
 ·have hnew : ∀ k, v'.ownBlock = some k → v.ownBlock = some k ∨ k = w.heap.size := fun k hk => by
   rcases hq with e | e
   ·exact .inl (e ▸ hk)
   ·rw [e] at hk; exact .inr (Option.some.inj hk).symm
  by_cases e : n = j
  ·subst e; rw [upN_same]
   refine ⟨fun hk => by have := hf RS hk; omega, fun k hk hf2 => ?_⟩
   rcases hnew k hk with h1 | h1
   ·exact hnf k hf2 h1.symm
   ·have := hf k hf2; omega
  ·rw [upN_other _ _ e]
   refine ⟨(h.out n (by omega)).1, fun k hk hf2 => ?_⟩
   rcases hnew k hk with h1 | h1
   ·exact (h.out n (by omega)).2 k h1 hf2
   ·have := h.fin n k (by omega) hf2; omega
structure RStIs (w : World) (base RS RL : Nat) (b r d m s : Int) (P : Nat → Nat) (F : Nat → Nat → Prop) (Z : Nat → List Int) : Prop where
  box : ∃ cap : Nat, Blk w RS 58 #[.int .i64 b, .int .i64 r, .int .i64 d, .int .i64 m, .int .u64 s, .slice (some ⟨RL, 0, none⟩) (b.toNat + 1) cap] ∧ b.toNat + 1 ≤ cap
  right : rightB b r d m = true
  row : ∃ cur : Array Value, Blk w RL 55 cur ∧ ∀ n, n ≤ b.toNat → cur[n]? = some (.pointer (some ⟨P n, 0, none⟩))
  lev : ∀ n, n ≤ b.toNat → RLevIs w (F n) (P n) b r d m s n (Z n)
  fin : ∀ n k, n ≤ b.toNat → F n k → base ≤ k ∧ k < w.heap.size
  apart : ∀ n q k, n ≤ b.toNat → q ≤ b.toNat → n ≠ q → F n k → ¬ F q k
  out : ∀ n, n ≤ b.toNat → ¬ F n RS ∧ ¬ F n RL
theorem RStIs.kept {w w' : World} {base RS RL : Nat} {b r d m s : Int} {P : Nat → Nat} {F : Nat → Nat → Prop} {Z : Nat → List Int} (h : RStIs w base RS RL b r d m s P F Z) (hb : Below w.heap.size w w') : RStIs w' base RS RL b r d m s P F Z := by
  obtain ⟨cap, h1, h2⟩ := h.box
  obtain ⟨cur, h3, h4⟩ := h.row
  exact ⟨⟨cap, h1.kept hb, h2⟩, h.right, ⟨cur, h3.kept hb, h4⟩, fun n hn => (h.lev n hn).frame (fun k hk => hb.block k (h.fin n k hn hk).2), fun n k hn hk => ⟨(h.fin n k hn hk).1, Nat.lt_of_lt_of_le (h.fin n k hn hk).2 hb.size⟩, h.apart, h.out⟩
theorem RStIs.low_ {w : World} {base base' RS RL : Nat} {b r d m s : Int} {P : Nat → Nat} {F : Nat → Nat → Prop} {Z : Nat → List Int} (h : RStIs w base RS RL b r d m s P F Z) (hb : base' ≤ base) : RStIs w base' RS RL b r d m s P F Z :=
  ⟨h.box, h.right, h.row, h.lev, fun n k hn hk => ⟨Nat.le_trans hb (h.fin n k hn hk).1, (h.fin n k hn hk).2⟩, h.apart, h.out⟩
theorem RLevsB.stack {w : World} {base RS : Nat} {v : Value} {r d m s : Int} {P : Nat → Nat} {F : Nat → Nat → Prop} {Z : Nat → List Int} {n : Nat} (h : RLevsB w base RS v (n : Int) r d m s P F Z (n + 1)) (hr : rightB (n : Int) r d m = true)
    (hs : Blk w RS 58 #[.int .i64 (n : Int), .int .i64 r, .int .i64 d, .int .i64 m, .int .u64 s, v]) : ∃ RL, RStIs w base RS RL (n : Int) r d m s P F Z := by
  rcases h.own.2 with ⟨rfl, h0⟩ | ⟨g, cap, cur, rfl, hb, hg, hnc, hcm, hsz, htake⟩
  · omega
  · refine ⟨g, ⟨cap, by simpa using hs, by simpa using hnc⟩, hr, ⟨cur, hg, fun k hk => ?_⟩, fun k hk => h.lev k (by simp at hk; omega), fun k q hk => h.fin k q (by simp at hk; omega), fun k q x hk hq e => h.apart k q x (by simp at hk; omega) (by simp at hq; omega) e, fun k hk => ⟨(h.out k (by simp at hk; omega)).1, (h.out k (by simp at hk; omega)).2 g rfl⟩⟩
    have hk : k < n + 1 := by simp at hk; omega
    have h2 : (cur.toList.take ((n + 1) * 1))[k]? = ((List.range (n + 1)).map fun n => Value.pointer (some ⟨P n, 0, none⟩))[k]? := by rw [htake]
    rw [List.getElem?_take, if_pos (by omega)] at h2
    simpa [hk] using h2
end Go.Proofs.YthbkljeibmkimaaGreat


namespace Go.Proofs.YthbkljeibmkimaaGreat
open Go.RowKit
set_option linter.unusedVariables false
set_option linter.unusedSimpArgs false

def RStNewPost (w : World) (b r d m s : Int) (e : Ending) (w' : World) : Prop :=
  ∃ RS RL P F, e = .returned (.pointer (some ⟨RS, 0, none⟩)) ∧ w.heap.size ≤ RS ∧ RStIs w' w.heap.size RS RL b r d m s P F (zeroZ b r d m) ∧ Below w.heap.size w w'
theorem Tryz.infoRL : (Tryz.prog.info? 55).map (fun i => (i.zero, i.size, i.bytes)) = some (some (.pointer none), 1, 8) := by kernel_rfl
theorem RLevsB.open2 {w : World} {base RS : Nat} {v : Value} {b r d m s : Int} {P : Nat → Nat} {F : Nat → Nat → Prop} {Z : Nat → List Int} {j : Nat} (h : RLevsB w base RS v b r d m s P F Z j) : ∃ ao n cap, v = .slice ao n cap := by
  rcases h.own.2 with ⟨rfl, h0⟩ | ⟨g, cap, cur, rfl, -⟩
  · exact ⟨_, _, _, rfl⟩
  · exact ⟨_, _, _, rfl⟩
set_option maxRecDepth 100000 in
set_option maxHeartbeats 8000000 in
theorem rstnew (b r d m s : Int) (hr : rightB b r d m = true) (w : World) :
  Calls Tryz.prog 8 #[.agg #[.int .i64 b, .int .i64 r, .int .i64 d, .int .i64 m, .int .u64 s]] w (RStNewPost w b r d m s) := by
 obtain ⟨i0, hi, hz0, hz1, hz2⟩ := info_parts Tryz.infoRL
 have HR := Lib.hid hr
 have hb59 := right_of hr
 obtain ⟨n, hn⟩ : ∃ n : Nat, b = (n : Int) := ⟨b.toNat, by omega⟩
 subst hn
 have hn59 : n ≤ 59 := by omega
 have PN := Lib.hid (fun (j : Nat) w => rlnew (n : Int) r d m s (j : Int) hr w)
 clear hb59 hr
 obtain ⟨g1, hb1, hsz1⟩ := news1 w (.cells #[.int .i64 (n : Int), .int .i64 r, .int .i64 d, .int .i64 m, .int .u64 s] 24)
 have hx1 : Blk _ w.heap.size 24 #[.int .i64 (n : Int), .int .i64 r, .int .i64 d, .int .i64 m, .int .u64 s] := g1
 have HB1 := Lib.hid hb1
 have HX1 := Lib.hid hx1
 have hs1 : (w.alloc (.cells #[.int .i64 (n : Int), .int .i64 r, .int .i64 d, .int .i64 m, .int .u64 s] 24)).heap.size = w.heap.size + 1 := by simp
 clear g1 hb1 hsz1
 have HSB := Lib.hid (Blk.new (w.alloc (.cells #[.int .i64 (n : Int), .int .i64 r, .int .i64 d, .int .i64 m, .int .u64 s] 24)) 58 #[.int .i64 (n : Int), .int .i64 r, .int .i64 d, .int .i64 m, .int .u64 s, .slice none 0 0])
 have HX2 := Lib.hid (HX1.out.alloc (.cells #[.int .i64 (n : Int), .int .i64 r, .int .i64 d, .int .i64 m, .int .u64 s, .slice none 0 0] 58))
 have HB2 := Lib.hid (HB1.out.alloc HB1.out.size (.cells #[.int .i64 (n : Int), .int .i64 r, .int .i64 d, .int .i64 m, .int .u64 s, .slice none 0 0] 58))
 rw [hs1] at HSB
 clear hs1
 go_enter Tryz.func8, Tryz.ntmps8
 go_wp2_with (refine wpList_load_row rfl 24 _ rfl w.heap.size rfl 24 _ (0, 0) _ hx1 Tryz.underlying24 rfl (by kernel_rfl) ?_)
 clear hx1
 generalize (w.alloc (.cells #[.int .i64 (n : Int), .int .i64 r, .int .i64 d, .int .i64 m, .int .u64 s] 24)).alloc (.cells #[.int .i64 (n : Int), .int .i64 r, .int .i64 d, .int .i64 m, .int .u64 s, .slice none 0 0] 58) = w2 at *
 obtain ⟨RS, hRS⟩ : ∃ RS, RS = w.heap.size + 1 := ⟨_, rfl⟩
 rw [← hRS] at HSB ⊢
 have hRS1 : w.heap.size < RS := by omega
 clear hRS HX1 HB1
 go_loopw [4] (fun i wr => ∃ (j : Nat) (P : Nat → Nat) (F : Nat → Nat → Prop) (v : Value), j ≤ n + 1 ∧ i = .int .i64 (j : Int) ∧ Blk wr w.heap.size 24 #[.int .i64 (n : Int), .int .i64 r, .int .i64 d, .int .i64 m, .int .u64 s] ∧ Blk wr RS 58 #[.int .i64 (n : Int), .int .i64 r, .int .i64 d, .int .i64 m, .int .u64 s, v] ∧ RLevsB wr w.heap.size RS v (n : Int) r d m s P F (zeroZ (n : Int) r d m) j ∧ Below w.heap.size w wr) (fun i _ => n + 1 - (intOf i).toNat)
 case atStart => exact ⟨0, fun _ => 0, fun _ _ => False, _, by omega, rfl, HX2.out, HSB.out, RLevsB.zero _ _ _ _ _ _ _ _ _ _ _, HB2.out⟩
 case round =>
  obtain ⟨j, P, F, v, hj, rfl, hx, hs, hlv, hbel⟩ := hrel
  obtain ⟨vo, vl, vc, rfl⟩ := hlv.open2
  have q0 := hx.cell 0
  simp at q0
  have HX := Lib.hid (hx.drewN 1)
  have HS := Lib.hid (hs.drewN 1)
  have HLV := Lib.hid (hlv.kept (below_drewN (Below.refl _ _) 1))
  have HB := Lib.hid (below_drewN hbel 1)
  have HX0 := Lib.hid hx
  have HS0 := Lib.hid hs
  have HLV0 := Lib.hid hlv
  have HB0 := Lib.hid hbel
  have hRSl := hs.lt
  clear hx hs hlv hbel HX2 HSB HB2
  by_cases hlt : j < n + 1
  ·have i1 : (j : Int) ≤ (n : Int) := by omega
   have i2 : decide ((j : Int) ≤ (n : Int)) = true := decide_eq_true i1
   have i3 : decide (j ≤ n) = true := decide_eq_true (by omega)
   have PN2 := Lib.hid (PN.out j)
   have HZZ : Hid (upN (zeroZ (n : Int) r d m) j (List.replicate (cellsN (n : Int) r d m (j : Int)) 0) = zeroZ (n : Int) r d m) := Lib.hid (by
    funext k
    by_cases e : k = j
    ·subst e; exact upN_same _ _ _
    ·exact upN_other _ _ e)
   go_wp2_with fail
   clear q0
   have k5 := HS.out.cell 5
   simp at k5
   refine wp_region_held_drew (S := fun w' => Blk w' w.heap.size 24 #[.int .i64 (n : Int), .int .i64 r, .int .i64 d, .int .i64 m, .int .u64 s] ∧ (∃ x, Blk w' RS 58 #[.int .i64 (n : Int), .int .i64 r, .int .i64 d, .int .i64 m, .int .u64 s, x]) ∧ Below w.heap.size w w') (by kernel_rfl) (by exact ⟨HX.out, ⟨_, HS.out⟩, HB.out⟩) (fun hHeld => ?_)
   refine tkH (i := 0) (v := ?_) rfl (by kernel_rfl) (fun _ _ _ h => h) (Or.inl ⟨by rfl, ?_⟩) (by assumption) ?_
   rotate_left
   ·intro w hSw
    try dsimp only at hSw
    go_simp
    try with_reducible rfl
   simp only [Act.put, z1, z2, z3, z4, z5, z6]
   refine tkH (i := 1) (v := ?_) rfl (by kernel_rfl) (fun _ _ _ h => h) (Or.inl ⟨by rfl, ?_⟩) (by assumption) ?_
   rotate_left
   ·intro w hSw
    try dsimp only at hSw
    go_simp
    try with_reducible rfl
   simp only [Act.put, z1, z2, z3, z4, z5, z6]
   refine tkH (i := 2) (v := ?_) rfl (by kernel_rfl) (fun _ _ _ h => h) (Or.inl ⟨by rfl, ?_⟩) (by assumption) ?_
   rotate_left
   ·intro w hSw
    try dsimp only at hSw
    go_simp
    try with_reducible rfl
   simp only [Act.put, z1, z2, z3, z4, z5, z6]
   refine tkH (i := 3) (v := ?_) rfl (by kernel_rfl) (fun _ _ _ h => h) (Or.inl ⟨by rfl, ?_⟩) (by assumption) ?_
   rotate_left
   ·intro w hSw
    try dsimp only at hSw
    go_simp
    try with_reducible rfl
   simp only [Act.put, z1, z2, z3, z4, z5, z6]
   refine tkH (i := 5) (v := ?_) rfl (by kernel_rfl) (fun _ _ _ h => h) (Or.inl ⟨by rfl, ?_⟩) (by assumption) ?_
   rotate_left
   ·intro w hSw
    try refine (exec_load_row 24 _ rfl _ rfl 24 _ (0, 0) _ hSw.1 Tryz.underlying24 rfl (by kernel_rfl)).trans ?_
    go_simp
    try with_reducible rfl
   simp only [Act.put, z1, z2, z3, z4, z5, z6]
   refine tkH (i := 6) (v := ?_) rfl (by kernel_rfl) (fun _ _ _ h => h) (Or.inl ⟨by rfl, ?_⟩) (by assumption) ?_
   rotate_left
   ·intro w hSw
    try dsimp only at hSw
    go_simp
    try with_reducible rfl
   simp only [Act.put, z1, z2, z3, z4, z5, z6]
   refine wpAnyH_ready (rs := [4, 7]) (by kernel_rfl) (by simp) ?_
   refine AllReadyH.cons rfl (fun Kc hKc => ?_) (AllReadyH.cons rfl (fun Kc hKc => ?_) AllReadyH.nil)
   ·go_simp
    refine hKc.out _ _ ?_ (fun hHeld => ?_)
    ·first | exact hHeld | exact ⟨HX4.out, ⟨_, HS4.out⟩, HB4.out⟩ | exact ⟨HX4.out.far (p := ⟨RS, 5, none⟩) (by simp; omega) _, ⟨_, HS4.out.set_ 5 _⟩, HB4.out.setCell (p := ⟨RS, 5, none⟩) (by simp; omega) _⟩ | exact ⟨hHeld.1.kept hb', ⟨_, HS.out.kept hb'⟩, btr hHeld.2.2 hb'⟩ | exact ⟨hHeld.1.alloc _, by obtain ⟨x, hx⟩ := hHeld.2.1; exact ⟨x, hx.alloc _⟩, hHeld.2.2.alloc hHeld.2.2.size _⟩
    clear hKc Kc
    refine wpAnyH_ready (rs := [7]) (by kernel_rfl) (by simp) ?_
    refine AllReadyH.cons rfl (fun Kc hKc => ?_) AllReadyH.nil
    go_simp
    go_wp2_with (go_at_call 22; refine (PN2.out _).mono ?_; rintro e w3 ⟨p, rfl, hlv3, hb'⟩; have HL3 := Lib.hid hlv3; have HBK := Lib.hid hb'; have k5' := (HS.out.kept hb').cell 5; simp at k5'; have k6' := ((HS.out.kept hb').alloc (.cells #[.pointer (some ⟨p, 0, none⟩)] 55)).cell 5; simp at k6'; clear hlv3)
    refine hKc.out _ _ ?_ (fun hHeld => ?_)
    ·first | exact hHeld | exact ⟨HX4.out, ⟨_, HS4.out⟩, HB4.out⟩ | exact ⟨HX4.out.far (p := ⟨RS, 5, none⟩) (by simp; omega) _, ⟨_, HS4.out.set_ 5 _⟩, HB4.out.setCell (p := ⟨RS, 5, none⟩) (by simp; omega) _⟩ | exact ⟨hHeld.1.kept hb', ⟨_, HS.out.kept hb'⟩, btr hHeld.2.2 hb'⟩ | exact ⟨hHeld.1.alloc _, by obtain ⟨x, hx⟩ := hHeld.2.1; exact ⟨x, hx.alloc _⟩, hHeld.2.2.alloc hHeld.2.2.size _⟩
    clear hKc Kc
    refine wpAnyH_ready (rs := [8]) (by kernel_rfl) (by simp) ?_
    refine AllReadyH.cons rfl (fun Kc hKc => ?_) AllReadyH.nil
    go_simp
    refine hKc.out _ _ ?_ (fun hHeld => ?_)
    ·first | exact hHeld | exact ⟨HX4.out, ⟨_, HS4.out⟩, HB4.out⟩ | exact ⟨HX4.out.far (p := ⟨RS, 5, none⟩) (by simp; omega) _, ⟨_, HS4.out.set_ 5 _⟩, HB4.out.setCell (p := ⟨RS, 5, none⟩) (by simp; omega) _⟩ | exact ⟨hHeld.1.kept hb', ⟨_, HS.out.kept hb'⟩, btr hHeld.2.2 hb'⟩ | exact ⟨hHeld.1.alloc _, by obtain ⟨x, hx⟩ := hHeld.2.1; exact ⟨x, hx.alloc _⟩, hHeld.2.2.alloc hHeld.2.2.size _⟩
    clear hKc Kc
    refine wpAnyH_ready (rs := [9]) (by kernel_rfl) (by simp) ?_
    refine AllReadyH.cons rfl (fun Kc hKc => ?_) AllReadyH.nil
    refine wp_append_own_at _ _ 56 rfl w.heap.size 55 i0 (.pointer none) 1 8 Tryz.underlying56 hi hz0 hz1 hz2 rfl (by decide) _ j _ rfl ((HLV.out.kept HBK.out).own.alloc _) ⟨w3.heap.size, 0, none⟩ 1 1 [.pointer (some ⟨p, 0, none⟩)] rfl rfl (cell_one_new _ _ _) (by simp [Value.oneCell']) (by unfold maxLen; omega) (by omega) (by have := (btr HB.out HBK.out).size; simp; omega) ?_; intro v' w4 hown' hgrow hnil' hq9; have HAL : Hid (Below w3.heap.size w3 (w3.alloc (.cells #[.pointer (some ⟨p, 0, none⟩)] 55))) := Lib.hid ((Below.refl _ _).alloc (Nat.le_refl _) _); have hpush := RLevsB.push ((HLV.out.kept HBK.out).kept HAL.out) (HL3.out.frame (fun k hk => HAL.out.block k hk.2)) (fun k hk => ⟨hk.1, Nat.lt_of_lt_of_le hk.2 HAL.out.size⟩) HB.out.size (fun q k hq hk => (HLV.out.fin q k hq hk).2) HS.out.lt (fun k hk => (HLV.out.own.lt k hk).2) hgrow hown' hq9; rw [HZZ.out] at hpush; have HX4 := Lib.hid (((HX.out.kept HBK.out).kept HAL.out).grown hgrow (Ne.symm (own_ne ((HLV.out.kept HBK.out).kept HAL.out).own ((HX.out.kept HBK.out).kept HAL.out) (by decide)))); have HS4 := Lib.hid (((HS.out.kept HBK.out).kept HAL.out).grown hgrow (Ne.symm (own_ne ((HLV.out.kept HBK.out).kept HAL.out).own ((HS.out.kept HBK.out).kept HAL.out) (by decide)))); have HB4 : Hid (Below w.heap.size w w4) := Lib.hid ((btr (btr HB.out HBK.out) HAL.out).grown hgrow (btr (btr HB.out HBK.out) HAL.out).size (fun k e => (HLV.out.own.lt k e).1)); obtain ⟨xo, xl, xc, rfl⟩ := hpush.open2; have HP := Lib.hid hpush; clear hpush hown' hgrow hnil' hq9 k5 k5' k6'
    refine hKc.out _ _ ?_ (fun hHeld => ?_)
    ·first | exact hHeld | exact ⟨HX4.out, ⟨_, HS4.out⟩, HB4.out⟩ | exact ⟨HX4.out.far (p := ⟨RS, 5, none⟩) (by simp; omega) _, ⟨_, HS4.out.set_ 5 _⟩, HB4.out.setCell (p := ⟨RS, 5, none⟩) (by simp; omega) _⟩ | exact ⟨hHeld.1.kept hb', ⟨_, HS.out.kept hb'⟩, btr hHeld.2.2 hb'⟩ | exact ⟨hHeld.1.alloc _, by obtain ⟨x, hx⟩ := hHeld.2.1; exact ⟨x, hx.alloc _⟩, hHeld.2.2.alloc hHeld.2.2.size _⟩
    clear hKc Kc
    refine tkH (i := 10) (v := ?_) rfl (by kernel_rfl) (fun _ _ _ h => h) (Or.inl ⟨by rfl, ?_⟩) (by assumption) ?_
    rotate_left
    ·intro w hSw
     try dsimp only at hSw
     go_simp
     try with_reducible rfl
    simp only [Act.put, z1, z2, z3, z4, z5, z6]
    refine tkH (i := 11) (v := ?_) rfl (by kernel_rfl) (fun _ _ _ h => h) (Or.inl ⟨by rfl, ?_⟩) (by assumption) ?_
    rotate_left
    ·intro w hSw
     try dsimp only at hSw
     go_simp
     try with_reducible rfl
    simp only [Act.put, z1, z2, z3, z4, z5, z6]
    refine wpAnyH_ready (rs := [12]) (by kernel_rfl) (by simp) ?_
    refine AllReadyH.cons rfl (fun Kc hKc => ?_) AllReadyH.nil
    have k7 := HS4.out.cell 5; have fz7 := HS4.out.frozen 5; simp at k7; go_simp
    refine hKc.out _ _ ?_ (fun hHeld => ?_)
    ·first | exact hHeld | exact ⟨HX4.out, ⟨_, HS4.out⟩, HB4.out⟩ | exact ⟨HX4.out.far (p := ⟨RS, 5, none⟩) (by simp; omega) _, ⟨_, HS4.out.set_ 5 _⟩, HB4.out.setCell (p := ⟨RS, 5, none⟩) (by simp; omega) _⟩ | exact ⟨hHeld.1.kept hb', ⟨_, HS.out.kept hb'⟩, btr hHeld.2.2 hb'⟩ | exact ⟨hHeld.1.alloc _, by obtain ⟨x, hx⟩ := hHeld.2.1; exact ⟨x, hx.alloc _⟩, hHeld.2.2.alloc hHeld.2.2.size _⟩
    clear hKc Kc
    refine wpAnyH_done (by kernel_rfl) ?_ _
    clear hHeld
    go_wp2
    go_roundw
    case rel => exact ⟨j + 1, _, _, _, by omega, by go_num, HX4.out.far (p := ⟨RS, 5, none⟩) (by simp; omega) _, by simpa using HS4.out.set_ 5 (.slice xo xl xc), HP.out.far HS4.out 5 _, HB4.out.setCell (p := ⟨RS, 5, none⟩) (by simp; omega) _⟩
    case measure => simp [intOf]; omega
   ·go_simp
    go_wp2_with (go_at_call 22; refine (PN2.out _).mono ?_; rintro e w3 ⟨p, rfl, hlv3, hb'⟩; have HL3 := Lib.hid hlv3; have HBK := Lib.hid hb'; have k5' := (HS.out.kept hb').cell 5; simp at k5'; have k6' := ((HS.out.kept hb').alloc (.cells #[.pointer (some ⟨p, 0, none⟩)] 55)).cell 5; simp at k6'; clear hlv3)
    refine hKc.out _ _ ?_ (fun hHeld => ?_)
    ·first | exact hHeld | exact ⟨HX4.out, ⟨_, HS4.out⟩, HB4.out⟩ | exact ⟨HX4.out.far (p := ⟨RS, 5, none⟩) (by simp; omega) _, ⟨_, HS4.out.set_ 5 _⟩, HB4.out.setCell (p := ⟨RS, 5, none⟩) (by simp; omega) _⟩ | exact ⟨hHeld.1.kept hb', ⟨_, HS.out.kept hb'⟩, btr hHeld.2.2 hb'⟩ | exact ⟨hHeld.1.alloc _, by obtain ⟨x, hx⟩ := hHeld.2.1; exact ⟨x, hx.alloc _⟩, hHeld.2.2.alloc hHeld.2.2.size _⟩
    clear hKc Kc
    refine wpAnyH_ready (rs := [4, 8]) (by kernel_rfl) (by simp) ?_
    refine AllReadyH.cons rfl (fun Kc hKc => ?_) (AllReadyH.cons rfl (fun Kc hKc => ?_) AllReadyH.nil)
    ·go_simp
     refine hKc.out _ _ ?_ (fun hHeld => ?_)
     ·first | exact hHeld | exact ⟨HX4.out, ⟨_, HS4.out⟩, HB4.out⟩ | exact ⟨HX4.out.far (p := ⟨RS, 5, none⟩) (by simp; omega) _, ⟨_, HS4.out.set_ 5 _⟩, HB4.out.setCell (p := ⟨RS, 5, none⟩) (by simp; omega) _⟩ | exact ⟨hHeld.1.kept hb', ⟨_, HS.out.kept hb'⟩, btr hHeld.2.2 hb'⟩ | exact ⟨hHeld.1.alloc _, by obtain ⟨x, hx⟩ := hHeld.2.1; exact ⟨x, hx.alloc _⟩, hHeld.2.2.alloc hHeld.2.2.size _⟩
     clear hKc Kc
     refine wpAnyH_ready (rs := [8]) (by kernel_rfl) (by simp) ?_
     refine AllReadyH.cons rfl (fun Kc hKc => ?_) AllReadyH.nil
     go_simp
     refine hKc.out _ _ ?_ (fun hHeld => ?_)
     ·first | exact hHeld | exact ⟨HX4.out, ⟨_, HS4.out⟩, HB4.out⟩ | exact ⟨HX4.out.far (p := ⟨RS, 5, none⟩) (by simp; omega) _, ⟨_, HS4.out.set_ 5 _⟩, HB4.out.setCell (p := ⟨RS, 5, none⟩) (by simp; omega) _⟩ | exact ⟨hHeld.1.kept hb', ⟨_, HS.out.kept hb'⟩, btr hHeld.2.2 hb'⟩ | exact ⟨hHeld.1.alloc _, by obtain ⟨x, hx⟩ := hHeld.2.1; exact ⟨x, hx.alloc _⟩, hHeld.2.2.alloc hHeld.2.2.size _⟩
     clear hKc Kc
     refine wpAnyH_ready (rs := [9]) (by kernel_rfl) (by simp) ?_
     refine AllReadyH.cons rfl (fun Kc hKc => ?_) AllReadyH.nil
     refine wp_append_own_at _ _ 56 rfl w.heap.size 55 i0 (.pointer none) 1 8 Tryz.underlying56 hi hz0 hz1 hz2 rfl (by decide) _ j _ rfl ((HLV.out.kept HBK.out).own.alloc _) ⟨w3.heap.size, 0, none⟩ 1 1 [.pointer (some ⟨p, 0, none⟩)] rfl rfl (cell_one_new _ _ _) (by simp [Value.oneCell']) (by unfold maxLen; omega) (by omega) (by have := (btr HB.out HBK.out).size; simp; omega) ?_; intro v' w4 hown' hgrow hnil' hq9; have HAL : Hid (Below w3.heap.size w3 (w3.alloc (.cells #[.pointer (some ⟨p, 0, none⟩)] 55))) := Lib.hid ((Below.refl _ _).alloc (Nat.le_refl _) _); have hpush := RLevsB.push ((HLV.out.kept HBK.out).kept HAL.out) (HL3.out.frame (fun k hk => HAL.out.block k hk.2)) (fun k hk => ⟨hk.1, Nat.lt_of_lt_of_le hk.2 HAL.out.size⟩) HB.out.size (fun q k hq hk => (HLV.out.fin q k hq hk).2) HS.out.lt (fun k hk => (HLV.out.own.lt k hk).2) hgrow hown' hq9; rw [HZZ.out] at hpush; have HX4 := Lib.hid (((HX.out.kept HBK.out).kept HAL.out).grown hgrow (Ne.symm (own_ne ((HLV.out.kept HBK.out).kept HAL.out).own ((HX.out.kept HBK.out).kept HAL.out) (by decide)))); have HS4 := Lib.hid (((HS.out.kept HBK.out).kept HAL.out).grown hgrow (Ne.symm (own_ne ((HLV.out.kept HBK.out).kept HAL.out).own ((HS.out.kept HBK.out).kept HAL.out) (by decide)))); have HB4 : Hid (Below w.heap.size w w4) := Lib.hid ((btr (btr HB.out HBK.out) HAL.out).grown hgrow (btr (btr HB.out HBK.out) HAL.out).size (fun k e => (HLV.out.own.lt k e).1)); obtain ⟨xo, xl, xc, rfl⟩ := hpush.open2; have HP := Lib.hid hpush; clear hpush hown' hgrow hnil' hq9 k5 k5' k6'
     refine hKc.out _ _ ?_ (fun hHeld => ?_)
     ·first | exact hHeld | exact ⟨HX4.out, ⟨_, HS4.out⟩, HB4.out⟩ | exact ⟨HX4.out.far (p := ⟨RS, 5, none⟩) (by simp; omega) _, ⟨_, HS4.out.set_ 5 _⟩, HB4.out.setCell (p := ⟨RS, 5, none⟩) (by simp; omega) _⟩ | exact ⟨hHeld.1.kept hb', ⟨_, HS.out.kept hb'⟩, btr hHeld.2.2 hb'⟩ | exact ⟨hHeld.1.alloc _, by obtain ⟨x, hx⟩ := hHeld.2.1; exact ⟨x, hx.alloc _⟩, hHeld.2.2.alloc hHeld.2.2.size _⟩
     clear hKc Kc
     refine tkH (i := 10) (v := ?_) rfl (by kernel_rfl) (fun _ _ _ h => h) (Or.inl ⟨by rfl, ?_⟩) (by assumption) ?_
     rotate_left
     ·intro w hSw
      try dsimp only at hSw
      go_simp
      try with_reducible rfl
     simp only [Act.put, z1, z2, z3, z4, z5, z6]
     refine tkH (i := 11) (v := ?_) rfl (by kernel_rfl) (fun _ _ _ h => h) (Or.inl ⟨by rfl, ?_⟩) (by assumption) ?_
     rotate_left
     ·intro w hSw
      try dsimp only at hSw
      go_simp
      try with_reducible rfl
     simp only [Act.put, z1, z2, z3, z4, z5, z6]
     refine wpAnyH_ready (rs := [12]) (by kernel_rfl) (by simp) ?_
     refine AllReadyH.cons rfl (fun Kc hKc => ?_) AllReadyH.nil
     have k7 := HS4.out.cell 5; have fz7 := HS4.out.frozen 5; simp at k7; go_simp
     refine hKc.out _ _ ?_ (fun hHeld => ?_)
     ·first | exact hHeld | exact ⟨HX4.out, ⟨_, HS4.out⟩, HB4.out⟩ | exact ⟨HX4.out.far (p := ⟨RS, 5, none⟩) (by simp; omega) _, ⟨_, HS4.out.set_ 5 _⟩, HB4.out.setCell (p := ⟨RS, 5, none⟩) (by simp; omega) _⟩ | exact ⟨hHeld.1.kept hb', ⟨_, HS.out.kept hb'⟩, btr hHeld.2.2 hb'⟩ | exact ⟨hHeld.1.alloc _, by obtain ⟨x, hx⟩ := hHeld.2.1; exact ⟨x, hx.alloc _⟩, hHeld.2.2.alloc hHeld.2.2.size _⟩
     clear hKc Kc
     refine wpAnyH_done (by kernel_rfl) ?_ _
     clear hHeld
     go_wp2
     go_roundw
     case rel => exact ⟨j + 1, _, _, _, by omega, by go_num, HX4.out.far (p := ⟨RS, 5, none⟩) (by simp; omega) _, by simpa using HS4.out.set_ 5 (.slice xo xl xc), HP.out.far HS4.out 5 _, HB4.out.setCell (p := ⟨RS, 5, none⟩) (by simp; omega) _⟩
     case measure => simp [intOf]; omega
    ·go_simp
     refine hKc.out _ _ ?_ (fun hHeld => ?_)
     ·first | exact hHeld | exact ⟨HX4.out, ⟨_, HS4.out⟩, HB4.out⟩ | exact ⟨HX4.out.far (p := ⟨RS, 5, none⟩) (by simp; omega) _, ⟨_, HS4.out.set_ 5 _⟩, HB4.out.setCell (p := ⟨RS, 5, none⟩) (by simp; omega) _⟩ | exact ⟨hHeld.1.kept hb', ⟨_, HS.out.kept hb'⟩, btr hHeld.2.2 hb'⟩ | exact ⟨hHeld.1.alloc _, by obtain ⟨x, hx⟩ := hHeld.2.1; exact ⟨x, hx.alloc _⟩, hHeld.2.2.alloc hHeld.2.2.size _⟩
     clear hKc Kc
     refine wpAnyH_ready (rs := [4]) (by kernel_rfl) (by simp) ?_
     refine AllReadyH.cons rfl (fun Kc hKc => ?_) AllReadyH.nil
     go_simp
     refine hKc.out _ _ ?_ (fun hHeld => ?_)
     ·first | exact hHeld | exact ⟨HX4.out, ⟨_, HS4.out⟩, HB4.out⟩ | exact ⟨HX4.out.far (p := ⟨RS, 5, none⟩) (by simp; omega) _, ⟨_, HS4.out.set_ 5 _⟩, HB4.out.setCell (p := ⟨RS, 5, none⟩) (by simp; omega) _⟩ | exact ⟨hHeld.1.kept hb', ⟨_, HS.out.kept hb'⟩, btr hHeld.2.2 hb'⟩ | exact ⟨hHeld.1.alloc _, by obtain ⟨x, hx⟩ := hHeld.2.1; exact ⟨x, hx.alloc _⟩, hHeld.2.2.alloc hHeld.2.2.size _⟩
     clear hKc Kc
     refine wpAnyH_ready (rs := [9]) (by kernel_rfl) (by simp) ?_
     refine AllReadyH.cons rfl (fun Kc hKc => ?_) AllReadyH.nil
     refine wp_append_own_at _ _ 56 rfl w.heap.size 55 i0 (.pointer none) 1 8 Tryz.underlying56 hi hz0 hz1 hz2 rfl (by decide) _ j _ rfl ((HLV.out.kept HBK.out).own.alloc _) ⟨w3.heap.size, 0, none⟩ 1 1 [.pointer (some ⟨p, 0, none⟩)] rfl rfl (cell_one_new _ _ _) (by simp [Value.oneCell']) (by unfold maxLen; omega) (by omega) (by have := (btr HB.out HBK.out).size; simp; omega) ?_; intro v' w4 hown' hgrow hnil' hq9; have HAL : Hid (Below w3.heap.size w3 (w3.alloc (.cells #[.pointer (some ⟨p, 0, none⟩)] 55))) := Lib.hid ((Below.refl _ _).alloc (Nat.le_refl _) _); have hpush := RLevsB.push ((HLV.out.kept HBK.out).kept HAL.out) (HL3.out.frame (fun k hk => HAL.out.block k hk.2)) (fun k hk => ⟨hk.1, Nat.lt_of_lt_of_le hk.2 HAL.out.size⟩) HB.out.size (fun q k hq hk => (HLV.out.fin q k hq hk).2) HS.out.lt (fun k hk => (HLV.out.own.lt k hk).2) hgrow hown' hq9; rw [HZZ.out] at hpush; have HX4 := Lib.hid (((HX.out.kept HBK.out).kept HAL.out).grown hgrow (Ne.symm (own_ne ((HLV.out.kept HBK.out).kept HAL.out).own ((HX.out.kept HBK.out).kept HAL.out) (by decide)))); have HS4 := Lib.hid (((HS.out.kept HBK.out).kept HAL.out).grown hgrow (Ne.symm (own_ne ((HLV.out.kept HBK.out).kept HAL.out).own ((HS.out.kept HBK.out).kept HAL.out) (by decide)))); have HB4 : Hid (Below w.heap.size w w4) := Lib.hid ((btr (btr HB.out HBK.out) HAL.out).grown hgrow (btr (btr HB.out HBK.out) HAL.out).size (fun k e => (HLV.out.own.lt k e).1)); obtain ⟨xo, xl, xc, rfl⟩ := hpush.open2; have HP := Lib.hid hpush; clear hpush hown' hgrow hnil' hq9 k5 k5' k6'
     refine hKc.out _ _ ?_ (fun hHeld => ?_)
     ·first | exact hHeld | exact ⟨HX4.out, ⟨_, HS4.out⟩, HB4.out⟩ | exact ⟨HX4.out.far (p := ⟨RS, 5, none⟩) (by simp; omega) _, ⟨_, HS4.out.set_ 5 _⟩, HB4.out.setCell (p := ⟨RS, 5, none⟩) (by simp; omega) _⟩ | exact ⟨hHeld.1.kept hb', ⟨_, HS.out.kept hb'⟩, btr hHeld.2.2 hb'⟩ | exact ⟨hHeld.1.alloc _, by obtain ⟨x, hx⟩ := hHeld.2.1; exact ⟨x, hx.alloc _⟩, hHeld.2.2.alloc hHeld.2.2.size _⟩
     clear hKc Kc
     refine tkH (i := 10) (v := ?_) rfl (by kernel_rfl) (fun _ _ _ h => h) (Or.inl ⟨by rfl, ?_⟩) (by assumption) ?_
     rotate_left
     ·intro w hSw
      try dsimp only at hSw
      go_simp
      try with_reducible rfl
     simp only [Act.put, z1, z2, z3, z4, z5, z6]
     refine tkH (i := 11) (v := ?_) rfl (by kernel_rfl) (fun _ _ _ h => h) (Or.inl ⟨by rfl, ?_⟩) (by assumption) ?_
     rotate_left
     ·intro w hSw
      try dsimp only at hSw
      go_simp
      try with_reducible rfl
     simp only [Act.put, z1, z2, z3, z4, z5, z6]
     refine wpAnyH_ready (rs := [12]) (by kernel_rfl) (by simp) ?_
     refine AllReadyH.cons rfl (fun Kc hKc => ?_) AllReadyH.nil
     have k7 := HS4.out.cell 5; have fz7 := HS4.out.frozen 5; simp at k7; go_simp
     refine hKc.out _ _ ?_ (fun hHeld => ?_)
     ·first | exact hHeld | exact ⟨HX4.out, ⟨_, HS4.out⟩, HB4.out⟩ | exact ⟨HX4.out.far (p := ⟨RS, 5, none⟩) (by simp; omega) _, ⟨_, HS4.out.set_ 5 _⟩, HB4.out.setCell (p := ⟨RS, 5, none⟩) (by simp; omega) _⟩ | exact ⟨hHeld.1.kept hb', ⟨_, HS.out.kept hb'⟩, btr hHeld.2.2 hb'⟩ | exact ⟨hHeld.1.alloc _, by obtain ⟨x, hx⟩ := hHeld.2.1; exact ⟨x, hx.alloc _⟩, hHeld.2.2.alloc hHeld.2.2.size _⟩
     clear hKc Kc
     refine wpAnyH_done (by kernel_rfl) ?_ _
     clear hHeld
     go_wp2
     go_roundw
     case rel => exact ⟨j + 1, _, _, _, by omega, by go_num, HX4.out.far (p := ⟨RS, 5, none⟩) (by simp; omega) _, by simpa using HS4.out.set_ 5 (.slice xo xl xc), HP.out.far HS4.out 5 _, HB4.out.setCell (p := ⟨RS, 5, none⟩) (by simp; omega) _⟩
     case measure => simp [intOf]; omega
  ·obtain rfl : j = n + 1 := by omega
   have i1 : ¬ (((n + 1 : Nat) : Int) ≤ (n : Int)) := by omega
   have i3 : decide (n + 1 ≤ n) = false := decide_eq_false (by omega)
   obtain ⟨RL, hst⟩ := HLV0.out.stack HR.out HS0.out
   have HST := Lib.hid hst
   clear hst hlt
   go_wp2
   go_ret
   exact ⟨RS, RL, P, F, rfl, by omega, HST.out, HB0.out⟩
theorem Only.blk {w w' : World} {F : Nat → Prop} {g : Nat} {t : TypeId} {cs : Array Value} (h : Only F w w') (hb : Blk w g t cs) (hg : ¬ F g) : Blk w' g t cs := (h.2.2.2.2 g hb.lt hg).trans hb
theorem RStIs.load {w w' : World} {base RS RL : Nat} {b r d m s : Int} {P : Nat → Nat} {F : Nat → Nat → Prop} {Z : Nat → List Int} {j : Nat} {F' : Nat → Prop} {cs : List Int} (h : RStIs w base RS RL b r d m s P F Z) (hj : j ≤ b.toNat) (hbase : base ≤ w.heap.size)
  (hl : RLevIs w' F' (P j) b r d m s j cs) (hf : ∀ k, F' k → F j k ∨ (w.heap.size ≤ k ∧ k < w'.heap.size)) (ho : Only (F j) w w') : RStIs w' base RS RL b r d m s P (upN F j F') (upN Z j cs) := by
 obtain ⟨cap, h1, h2⟩ := h.box
 obtain ⟨cur, h3, h4⟩ := h.row
 have hRS := h1.lt
 have hRL := h3.lt
 refine ⟨⟨cap, ho.blk h1 (h.out j hj).1, h2⟩, h.right, ⟨cur, ho.blk h3 (h.out j hj).2, h4⟩, fun n hn => ?_, fun n k hn hk => ?_, fun n q k hn hq e hk hk2 => ?_, fun n hn => ?_⟩
 ·by_cases e : n = j
  ·subst e; rw [upN_same, upN_same]; exact hl
  ·rw [upN_other _ _ e, upN_other _ _ e]
   exact (h.lev n hn).frame (fun k hk => ho.2.2.2.2 k (h.fin n k hn hk).2 (fun hk2 => h.apart n j k hn hj e hk hk2))
 ·by_cases e : n = j
  ·subst e
   rw [upN_same] at hk
   rcases hf k hk with h5 | h5
   ·have := h.fin n k hn h5; have := ho.2.2.2.1; omega
   ·omega
  ·rw [upN_other _ _ e] at hk
   have := h.fin n k hn hk; have := ho.2.2.2.1; omega
 ·by_cases e1 : n = j
  ·subst e1
   rw [upN_same] at hk
   rw [upN_other _ _ (Ne.symm e)] at hk2
   rcases hf k hk with h5 | h5
   ·exact h.apart n q k hn hq e h5 hk2
   ·have := h.fin q k hq hk2; omega
  ·rw [upN_other _ _ e1] at hk
   by_cases e2 : q = j
   ·subst e2
    rw [upN_same] at hk2
    rcases hf k hk2 with h5 | h5
    ·exact h.apart n q k hn hq e hk h5
    ·have := h.fin n k hn hk; omega
   ·rw [upN_other _ _ e2] at hk2
    exact h.apart n q k hn hq e hk hk2
 ·by_cases e : n = j
  ·subst e
   rw [upN_same]
   exact ⟨fun hk => by rcases hf _ hk with h5 | h5; exact (h.out n hn).1 h5; omega, fun hk => by rcases hf _ hk with h5 | h5; exact (h.out n hn).2 h5; omega⟩
  ·rw [upN_other _ _ e]; exact h.out n hn
end Go.Proofs.YthbkljeibmkimaaGreat


namespace Go.Proofs.YthbkljeibmkimaaGreat
open Go.RowKit
set_option linter.unusedVariables false
set_option linter.unusedSimpArgs false

theorem ret_u64' {a b : Int} (h : a = b) : Ending.returned (.int .u64 a) = .returned (.int .u64 b) := by rw [h]

def timesI (a b : Int) : Int := nv (bv a * bv b)
def TRel (a b O A B : Int) : Prop := 0 ≤ O ∧ O ≤ 18446744073709551615 ∧ 0 ≤ A ∧ A ≤ 18446744073709551615 ∧ 0 ≤ B ∧ B ≤ 18446744073709551615 ∧ bv O + bv A * bv B = bv a * bv b
theorem bv_two (B : Int) : bv B = bv (B / 2) + bv (B / 2) + bv (B % 2) := by
  rw [← bv_add, ← bv_add]; congr 1; omega
theorem times_step (O A B : Int) :
    (B % 2 = 1 → bv (IntKind.u64.wrap (O + A)) + bv (IntKind.u64.wrap (A + A)) * bv (B / 2) = bv O + bv A * bv B) ∧
    (B % 2 = 0 → bv O + bv (IntKind.u64.wrap (A + A)) * bv (B / 2) = bv O + bv A * bv B) := by
  have e1 : bv (1 : Int) = 1#64 := rfl
  have e0 : bv (0 : Int) = 0#64 := rfl
  constructor <;> intro h <;> rw [bv_two B, h] <;> simp only [bv_wrap, bv_add, e1, e0, BitVec.mul_add, BitVec.add_mul, BitVec.mul_one, BitVec.mul_zero, BitVec.add_zero]
  rw [BitVec.add_assoc, BitVec.add_comm (bv A)]
theorem wrap_bd (a : Int) : 0 ≤ IntKind.u64.wrap a ∧ IntKind.u64.wrap a ≤ 18446744073709551615 := by rw [wrap_bv]; exact nv_bd _

theorem times_any (a b : Int) (h0 : 0 ≤ a) (h1 : a ≤ 18446744073709551615) (g0 : 0 ≤ b) (g1 : b ≤ 18446744073709551615) (w : World) :
  Calls Tryz.prog 89 #[.int .u64 a, .int .u64 b] w fun e w' => e = .returned (.int .u64 (timesI a b)) ∧ w = w' := by
 have start : TRel a b 0 a b := ⟨by omega, by omega, h0, h1, g0, g1, by rw [show bv 0 = 0#64 from rfl, BitVec.zero_add]⟩
 go_enter Tryz.func89, Tryz.ntmps89
 go_wp2
 go_loop [0, 1, 5] (fun x y o => ∃ O A B : Int, TRel a b O A B ∧ x = .int .u64 A ∧ y = .int .u64 B ∧ o = .int .u64 O) (fun _ y _ => (intOf y).toNat)
 case atStart => exact ⟨_, _, _, start, rfl, rfl, rfl⟩
 case round =>
  obtain ⟨O, A, B, hR, rfl, rfl, rfl⟩ := hrel
  obtain ⟨o0, o1, x0, x1, y0, y1, hmid⟩ := hR
  have HM := Lib.hid hmid
  clear hmid start
  by_cases hy : 0 < B
  ·have w1 := wrap_bd (O + A)
   have w2 := wrap_bd (A + A)
   have hs1 := Lib.hid w1
   have hs2 := Lib.hid w2
   clear w1 w2
   by_cases ho : B % 2 = 1
   ·have hob : (B % 2 == 1) = true := by simp [ho]
    have HS := Lib.hid ((times_step O A B).1 ho)
    clear ho
    go_wp2
    go_round
    case rel => exact ⟨_, _, _, ⟨hs1.out.1, hs1.out.2, hs2.out.1, hs2.out.2, by omega, by omega, by rw [HS.out]; exact HM.out⟩, rfl, rfl, rfl⟩
    case measure => simp [intOf]; omega
   ·have hob : (B % 2 == 1) = false := by simp [ho]
    have HS := Lib.hid ((times_step O A B).2 (by omega))
    clear ho
    go_wp2
    go_round
    case rel => exact ⟨_, _, _, ⟨o0, o1, hs2.out.1, hs2.out.2, by omega, by omega, by rw [HS.out]; exact HM.out⟩, rfl, rfl, rfl⟩
    case measure => simp [intOf]; omega
  ·obtain rfl : B = 0 := by omega
   go_wp2
   go_ret
   refine ⟨ret_u64' ?_, rfl⟩
   have := HM.out
   rw [show bv 0 = 0#64 from rfl, BitVec.mul_zero, BitVec.add_zero] at this
   unfold timesI
   rw [← this, nv_bv _ o0 o1]

theorem shaken_any (z : Int) (k : Nat) (h0 : 0 ≤ z) (h1 : z ≤ 18446744073709551615) (g0 : 22 ≤ k) (g1 : k ≤ 63) (w : World) :
  Calls Tryz.prog 93 #[.int .u64 z, .int .i64 (k : Int)] w fun e w' => e = .returned (.int .u64 (nv (sx k (bv z)))) ∧ w = w' := by
 obtain ⟨x, rfl⟩ : ∃ x : BitVec 64, z = nv x := ⟨bv z, (nv_bv z h0 h1).symm⟩
 rw [bv_nv]
 go_enter Tryz.func93, Tryz.ntmps93
 go_wp2
 go_loop [5, 6] (fun o i => ∃ i' : Nat, i' ≤ 64 ∧ o = .int .u64 (((sx k x).toNat % 2 ^ i' : Nat) : Int) ∧ i = .int .i64 (i' : Int)) (fun _ i => 64 - (intOf i).toNat)
 case atStart => exact ⟨0, by omega, by simp [Nat.mod_one], rfl⟩
 case round =>
  obtain ⟨i, hi, rfl, rfl⟩ := hrel
  generalize hS : (((sx k x).toNat % 2 ^ i : Nat) : Int) = S
  have HS := Lib.hid hS
  clear hS
  by_cases hlt : i < 64
  ·by_cases hk : i + k < 64
   ·have H := Lib.hid (shaken_step1 x k i hlt)
    go_wp2
    go_round
    case rel => exact ⟨i + 1, by omega, by rw [← HS.out]; exact congrArg (Value.int IntKind.u64) H.out, by go_num⟩
    case measure => simp [intOf]; omega
   ·have H := Lib.hid (shaken_step2 x k i hlt (by omega))
    go_wp2
    go_round
    case rel => exact ⟨i + 1, by omega, by rw [← HS.out]; exact congrArg (Value.int IntKind.u64) H.out, by go_num⟩
    case measure => simp [intOf]; omega
  ·obtain rfl : i = 64 := by omega
   go_wp2
   go_ret
   refine ⟨ret_u64' ?_, rfl⟩
   rw [← HS.out, Nat.mod_eq_of_lt (sx k x).isLt]; rfl

end Go.Proofs.YthbkljeibmkimaaGreat


namespace Go.Proofs.YthbkljeibmkimaaGreat
open Go.RowKit
set_option linter.unusedVariables false
set_option linter.unusedSimpArgs false

theorem shaken_c (z k : Int) (x : BitVec 64) (K : Nat) (hz : z = nv x) (hk : k = (K : Int)) (g0 : 22 ≤ K) (g1 : K ≤ 63) (w : World) :
    Calls Tryz.prog 93 #[.int .u64 z, .int .i64 k] w fun e w' => e = .returned (.int .u64 (nv (sx K x))) ∧ w = w' := by
  subst hz; subst hk
  have := shaken_any (nv x) K (nv_bd x).1 (nv_bd x).2 g0 g1 w
  rw [bv_nv] at this; exact this
theorem times_c (a b : Int) (x y : BitVec 64) (hx : a = nv x) (hy : b = nv y) (w : World) :
    Calls Tryz.prog 89 #[.int .u64 a, .int .u64 b] w fun e w' => e = .returned (.int .u64 (nv (x * y))) ∧ w = w' := by
  subst hx; subst hy
  have := times_any (nv x) (nv y) (nv_bd x).1 (nv_bd x).2 (nv_bd y).1 (nv_bd y).2 w
  unfold timesI at this
  rw [bv_nv, bv_nv] at this; exact this
theorem rmix_any (a : Int) (h0 : 0 ≤ a) (h1 : a ≤ 18446744073709551615) (w : World) :
    Calls Tryz.prog 88 #[.int .u64 a] w fun e w' => e = .returned (.int .u64 (mixI a)) ∧ w = w' := by
  have ha : Hid (a = nv (bv a)) := Lib.hid (nv_bv a h0 h1).symm
  go_enter Tryz.func88, Tryz.ntmps88
  go_wp2_with fail
  refine (shaken_c _ _ (bv a) 30 ha.out rfl (by omega) (by omega) _).mono ?_; rintro e w' ⟨rfl, rfl⟩
  go_wp2_with fail
  refine (times_c _ _ (sx 30 (bv a)) C1 rfl (by decide) _).mono ?_; rintro e w' ⟨rfl, rfl⟩
  go_wp2_with fail
  refine (shaken_c _ _ (sx 30 (bv a) * C1) 27 rfl rfl (by omega) (by omega) _).mono ?_; rintro e w' ⟨rfl, rfl⟩
  go_wp2_with fail
  refine (times_c _ _ (sx 27 (sx 30 (bv a) * C1)) C2 rfl (by decide) _).mono ?_; rintro e w' ⟨rfl, rfl⟩
  go_wp2_with fail
  refine (shaken_c _ _ (sx 27 (sx 30 (bv a) * C1) * C2) 31 rfl rfl (by omega) (by omega) _).mono ?_; rintro e w' ⟨rfl, rfl⟩
  go_wp2_with fail
  go_ret
  exact ⟨ret_u64s rfl, rfl⟩

theorem rdraw_any (s i : Int) (h0 : 0 ≤ s) (h1 : s ≤ 18446744073709551615) (g0 : 0 ≤ i) (g1 : i ≤ 18446744073709551615) (w : World) :
    Calls Tryz.prog 82 #[.int .u64 s, .int .u64 i] w fun e w' => e = .returned (.int .u64 (drawI s i)) ∧ w = w' := by
  have hn : Hid (IntKind.u64.wrap (i + 1) = nv (bv i + 1#64)) := Lib.hid (by rw [wrap_bv, bv_add]; rfl)
  have hw : Hid (0 ≤ IntKind.u64.wrap (s + nv ((bv i + 1#64) * G)) ∧ IntKind.u64.wrap (s + nv ((bv i + 1#64) * G)) ≤ 18446744073709551615) := Lib.hid (by rw [wrap_bv]; exact nv_bd _)
  have HE : Hid (mixI (IntKind.u64.wrap (s + nv ((bv i + 1#64) * G))) = drawI s i) := Lib.hid (by
    unfold mixI drawI drawB; rw [bv_wrap, bv_add, bv_nv])
  go_enter Tryz.func82, Tryz.ntmps82
  go_wp2_with fail
  refine (times_c _ _ (bv i + 1#64) G hn.out (by decide) _).mono ?_; rintro e w' ⟨rfl, rfl⟩
  go_wp2_with fail
  refine (rmix_any _ hw.out.1 hw.out.2 _).mono ?_; rintro e w' ⟨rfl, rfl⟩
  go_wp2_with fail
  go_ret
  exact ⟨ret_u64s HE.out, rfl⟩

theorem rpair_any (s l r : Int) (h0 : 0 ≤ s) (h1 : s ≤ 18446744073709551615) (l0 : 0 ≤ l) (l1 : l ≤ 59) (r0 : 0 ≤ r) (r1 : r ≤ 7) (w : World) :
    Calls Tryz.prog 76 #[.int .u64 s, .int .i64 l, .int .i64 r] w fun e w' => e = .returned (.tuple #[.int .u64 (pairA s l r), .int .u64 (pairB s l r)]) ∧ w = w' := by
  have b1 := drawI_bd s (16 * l + 2 * r)
  have b2 := drawI_bd s (16 * l + 2 * r + 1)
  go_enter Tryz.func76, Tryz.ntmps76
  go_wp2_with fail
  refine (rdraw_any _ _ h0 h1 (by omega) (by omega) _).mono ?_
  rintro e w' ⟨rfl, rfl⟩
  go_wp2_with fail
  refine (rdraw_any _ _ h0 h1 (by omega) (by omega) _).mono ?_
  rintro e w2 ⟨rfl, rfl⟩
  go_wp2_with fail
  go_ret2
  exact ⟨ret_u64s2 rfl rfl, rfl⟩

end Go.Proofs.YthbkljeibmkimaaGreat


namespace Go.Proofs.YthbkljeibmkimaaGreat
open Go.RowKit Go.ChangeShapes Go.WideShapes Go.ChangeAt
set_option linter.unusedVariables false
set_option linter.unusedSimpArgs false

theorem range_map_succ (f : Nat → Int) (j : Nat) : ((List.range (j + 1)).map f).map (Value.int .i64) = ((List.range j).map f).map (Value.int .i64) ++ [Value.int .i64 (f j)] := by
  rw [List.range_succ]; simp

set_option maxRecDepth 100000 in
set_option maxHeartbeats 1000000 in
def RColsPost2 (w : World) (R : Nat) (d s l k : Int) (e : Ending) (w' : World) : Prop :=
  ∃ v, e = .returned v ∧ IntsAt w' v ((List.range R).map fun (i : Nat) => colI d s l k (i : Int)) ∧ Below w.heap.size w w' ∧ w'.ownsRow (w.heap.size + 1) 3 1 v R (((List.range R).map fun (i : Nat) => colI d s l k (i : Int)).map (Value.int .i64))
theorem rcols_own (b d m s l k : Int) (R : Nat) (s0 : 0 ≤ s) (s1 : s ≤ 18446744073709551615) (k0 : 0 ≤ k) (k1 : k ≤ 18446744073709551615) (hk : k < keysI b (R : Int) d m l) (w : World) :
  Calls Tryz.prog 69 #[.agg #[.int .i64 b, .int .i64 (R : Int), .int .i64 d, .int .i64 m, .int .u64 s], .int .i64 l, .int .u64 k] w (RColsPost2 w R d s l k) := by
 obtain ⟨j0, j1⟩ := keysI_bd b (R : Int) d m l
 have HR := keys_right (b := b) (r := (R : Int)) (d := d) (m := m) (l := l) (by omega)
 obtain ⟨d0, d1, b0, b1, l0, l1, r0, r1, _⟩ := HR
 have e1 : decide (keysI b (R : Int) d m l ≤ k) = false := decide_eq_false (by omega)
 obtain ⟨i0, hi, hz0, hz1, hz2⟩ := info_parts Tryz.infoInt
 go_enter Tryz.func69, Tryz.ntmps69
 go_wp2_with fail
 refine (rkeys_any b (R : Int) d m s l _).mono ?_; rintro e w1 ⟨rfl, hb'⟩
 have hk := (Blk.new w 24 #[.int .i64 b, .int .i64 (R : Int), .int .i64 d, .int .i64 m, .int .u64 s]).alloc (.cells #[] 3) |>.kept hb'
 have hown0 := World.ownsRow_lit (base := w.heap.size + 1) (e := 3) (size := 1) (w.alloc (.cells #[.int .i64 b, .int .i64 (R : Int), .int .i64 d, .int .i64 m, .int .u64 s] 24)) #[] 0 (by simp) (by unfold maxLen; omega) (by simp)
 have hown : w1.ownsRow (w.heap.size + 1) 3 1 (.slice (some ⟨w.heap.size + 1, 0, none⟩) 0 0) 0 [] := by
  have hg : ((w.alloc (.cells #[.int .i64 b, .int .i64 (R : Int), .int .i64 d, .int .i64 m, .int .u64 s] 24)).alloc (.cells #[] 3)).grownBy w1 none := ⟨hb'.os, hb'.tape, hb'.output, hb'.size, fun i hi _ => hb'.block i hi⟩
  have := hown0.kept hg (Or.inr (by simp [Value.ownBlock]))
  simpa using this
 have hbel : Below w.heap.size w w1 := (((Below.refl _ _).alloc (Nat.le_refl _) _).alloc (by simp) _).trans (hb'.mono (by simp; omega))
 have hsz : w.heap.size + 1 < w1.heap.size := by have := hb'.size; simp at this; omega
 clear hown0 hb'
 obtain ⟨q0, q1, q2, q3, q4⟩ := box_cells hk
 generalize hA : w.heap.size = A at *
 have HA := Lib.hid hA
 clear hA
 go_wp2_with fail
 clear q0 q1 q2 q3 q4
 have HK := Lib.hid hk
 have HO := Lib.hid hown
 have HBL := Lib.hid hbel
 clear hk hown hbel
 go_loopw [7, 8] (fun v i wr => ∃ j : Nat, j ≤ R ∧ i = .int .i64 (j : Int) ∧ wr.ownsRow (A + 1) 3 1 v j (((List.range j).map fun (i : Nat) => colI d s l k (i : Int)).map (Value.int .i64)) ∧ Blk wr A 24 #[.int .i64 b, .int .i64 (R : Int), .int .i64 d, .int .i64 m, .int .u64 s] ∧ Below A w wr ∧ A + 1 < wr.heap.size) (fun _ i _ => R - (intOf i).toNat)
 case atStart => exact ⟨0, by omega, rfl, HO.out, HK.out, HBL.out, hsz⟩
 case round =>
  obtain ⟨j, hj, rfl, hown, hk, hbel, hsz⟩ := hrel
  clear HO HK HBL
  obtain ⟨q0, q1, q2, q3, q4⟩ := box_cells hk
  have HK := Lib.hid hk
  have HO := Lib.hid hown
  have HBL := Lib.hid hbel
  clear hk hown hbel
  obtain ⟨pa0, pa1⟩ := pairA_bd s l (j : Int)
  obtain ⟨pb0, pb1⟩ := pairB_bd s l (j : Int)
  by_cases hlt : j < R
  ·go_wp2_with fail
   refine (rpair_any s l (j : Int) s0 s1 l0 (by omega) (by omega) (by omega) _).mono ?_; rintro e w2 ⟨rfl, rfl⟩
   go_wp2_with fail
   refine (rbucket_any _ _ k d (by omega) (by omega) (by omega) (by omega) k0 k1 d0 (by omega) _).mono ?_; rintro e w2 ⟨rfl, rfl⟩
   rw [show lineI (pairA s l (j : Int)) (pairB s l (j : Int)) k % d = colI d s l k (j : Int) from rfl]
   have hlen : j + 1 ≤ maxLen := by unfold maxLen; omega
   go_wp2_with (at_builtin; refine wpList_append_own _ rfl _ _ 158 rfl (A + 1) 3 i0 (.int .i64 0) 1 8 Tryz.underlying158 hi hz0 hz1 hz2 rfl (by decide) _ _ _ rfl (HO.out.alloc _) ⟨wr.heap.size, 0, none⟩ 1 1 [.int .i64 (colI d s l k (j : Int))] rfl rfl (cell_one_new _ _ _) ?c2 hlen ?c4 ?c5 ?_)
   case c2 => simp [Value.oneCell']
   case c4 => omega
   case c5 => simp; omega
   intro v' w3 hown' hgrow _
   have hA1 : some A ≠ Value.ownBlock u7 := by
    intro h
    have := (HO.out.lt A h.symm).1
    omega
   have HK3 := Lib.hid ((HK.out.alloc (.cells #[.int .i64 (colI d s l k (j : Int))] 3)).grown hgrow hA1)
   have HB3 : Hid (Below A w w3) := Lib.hid ((HBL.out.alloc (by omega) _).grown hgrow (by simp; omega) (fun g hg => by have := (HO.out.lt g hg).1; omega))
   have HO3 : Hid (w3.ownsRow (A + 1) 3 1 v' (j + 1) (((List.range (j + 1)).map fun (i : Nat) => colI d s l k (i : Int)).map (Value.int .i64))) := Lib.hid (by rw [range_map_succ, List.map_map]; exact hown')
   have hsz3 : A + 1 < w3.heap.size := by have := hgrow.size; simp at this; omega
   clear hown' hgrow hA1 q0 q1 q2 q3 q4
   go_wp2
   go_roundw
   case rel => exact ⟨j + 1, by omega, by go_num, HO3.out, HK3.out, HB3.out, hsz3⟩
   case measure => simp [intOf]; omega
  ·obtain rfl : j = R := by omega
   go_wp2
   go_ret
   exact ⟨_, rfl, IntsAt.of_own HO.out (by simp), by rw [HA.out]; exact HBL.out, by rw [HA.out]; exact HO.out⟩
end Go.Proofs.YthbkljeibmkimaaGreat


namespace Go.Proofs.YthbkljeibmkimaaGreat
open Go.RowKit
set_option linter.unusedVariables false
set_option linter.unusedSimpArgs false

theorem RefIs.newrow {w : World} {N G L vcap : Nat} {B K : Nat → Nat} {R W : Nat} {zs zs' : List Int} {r g cp : Nat} {cur : Array Value} (h : RefIs w N G (.slice (some ⟨L, 0, none⟩) R vcap) B K R W zs) (hr : r < R) (hg : Blk w g 2 cur)
  (hcur : ∀ (c : Nat) (u : Int), c < W → zs'[r * W + c]? = some u → cur[c]? = some (Value.int .i64 u)) (hW : W ≤ cp) (hN : N ≤ g) (hne : ∀ i, i < R → B i ≠ g) (hlen : zs'.length = R * W) (hsame : ∀ i c, i < R → i ≠ r → c < W → zs'[i * W + c]? = zs[i * W + c]?) :
  RefIs (w.setCell ⟨L, r, none⟩ (.slice (some ⟨g, 0, none⟩) W cp)) N G (.slice (some ⟨L, 0, none⟩) R vcap) (upN B r g) (upN K r cp) R W zs' := by
 obtain ⟨hl, hx⟩ := h.own
 rcases hx with ⟨hx, -⟩ | ⟨L', cap', curL, e, hb, hL, hnc, hcm, hsz, htake⟩
 ·cases hx
 ·simp only [Value.slice.injEq, Option.some.injEq, Addr.mk.injEq, and_true, true_and] at e
  obtain ⟨rfl, rfl⟩ := e
  have hL' : Blk w L 54 curL := hL
  have hfarI : ∀ {q : Nat} {cs : Array Value}, Blk w q 2 cs → Blk (w.setCell ⟨L, r, none⟩ (.slice (some ⟨g, 0, none⟩) W cp)) q 2 cs := fun hq => hq.far (by simpa using hq.ne_ hL' (by decide)) _
  refine ⟨h.box.far (by simpa using h.box.ne_ hL' (by decide)) _, ⟨by simp, .inr ⟨L, vcap, curL.setIfInBounds r (.slice (some ⟨g, 0, none⟩) W cp), rfl, hb, hL'.set_ r _, hnc, hcm, by simpa using hsz, ?_⟩⟩, fun i hi => ?_, fun i hi => ?_, fun i j hi hj e => ?_, ⟨h.lo.1, fun i hi => ?_⟩, hlen, h.rows, h.width⟩
  ·apply List.ext_getElem?
   intro i
   rw [List.getElem?_take, List.getElem?_map]
   by_cases hi : i < R
   ·rw [if_pos (by omega), List.getElem?_range hi, Array.getElem?_toList, Array.getElem?_setIfInBounds]
    have h1 : (curL.toList.take (R * 1))[i]? = ((List.range R).map fun r => Value.slice (some ⟨B r, 0, none⟩) W (K r))[i]? := by rw [htake]
    rw [List.getElem?_take, if_pos (by omega), Array.getElem?_toList, List.getElem?_map, List.getElem?_range hi] at h1
    by_cases e : r = i
    ·subst e
     rw [if_pos rfl, if_pos (by omega)]
     simp [upN_same]
    ·rw [if_neg e, h1]
     simp [upN_other _ _ (Ne.symm e)]
   ·rw [if_neg (by omega), List.getElem?_eq_none (by simp; omega)]
    rfl
  ·by_cases e : i = r
   ·subst e; rw [upN_same]; exact hW
   ·rw [upN_other _ _ e]; exact h.cap i hi
  ·by_cases e : i = r
   ·subst e; rw [upN_same]; exact ⟨cur, hfarI hg, hcur⟩
   ·rw [upN_other _ _ e]
    obtain ⟨c2, h2, h3⟩ := h.cells i hi
    exact ⟨c2, hfarI h2, fun c u hc hu => h3 c u hc (by rw [← hsame i c hi e hc]; exact hu)⟩
  ·by_cases e1 : i = r
   ·by_cases e2 : j = r
    ·omega
    ·rw [e1, upN_same, upN_other _ _ e2] at e
     exact absurd e.symm (hne j hj)
   ·by_cases e2 : j = r
    ·rw [e2, upN_same, upN_other _ _ e1] at e
     exact absurd e (hne i hi)
    ·rw [upN_other _ _ e1, upN_other _ _ e2] at e
     exact h.inj i j hi hj e
  ·by_cases e : i = r
   ·subst e; rw [upN_same]; exact hN
   ·rw [upN_other _ _ e]; exact h.lo.2 i hi
def rowsTo (zs : List Int) (R W j : Nat) : List Int := zs.take (j * W) ++ List.replicate (R * W - j * W) 0
theorem rowsTo_len {zs : List Int} {R W j : Nat} (h : zs.length = R * W) (hj : j ≤ R) : (rowsTo zs R W j).length = R * W := by
  have : j * W ≤ R * W := Nat.mul_le_mul_right W hj
  unfold rowsTo
  rw [List.length_append, List.length_take, List.length_replicate, h]
  omega
theorem rowsTo_get {zs : List Int} {R W j i : Nat} (h : zs.length = R * W) (hj : j ≤ R) (hi : i < R * W) : (rowsTo zs R W j)[i]? = if i < j * W then zs[i]? else some 0 := by
  have hjw : j * W ≤ R * W := Nat.mul_le_mul_right W hj
  have hl : (zs.take (j * W)).length = j * W := by rw [List.length_take, h]; omega
  unfold rowsTo
  by_cases e : i < j * W
  · rw [if_pos e, List.getElem?_append_left (by omega), List.getElem?_take, if_pos e]
  · rw [if_neg e, List.getElem?_append_right (by omega), hl, List.getElem?_replicate, if_pos (by omega)]
theorem rowsTo_zero (zs : List Int) (R W : Nat) : rowsTo zs R W 0 = List.replicate (R * W) 0 := by simp [rowsTo]
theorem rowsTo_all {zs : List Int} {R W : Nat} (h : zs.length = R * W) : rowsTo zs R W R = zs := by
  unfold rowsTo
  rw [List.take_of_length_le (by omega)]
  simp
theorem place_lt {i c W R : Nat} (hi : i < R) (hc : c < W) : i * W + c < R * W := by
  have h1 : (i + 1) * W ≤ R * W := Nat.mul_le_mul_right W (by omega)
  rw [Nat.add_mul] at h1
  omega
theorem place_row {i j c W : Nat} (hc : c < W) : i * W + c < j * W ↔ i < j := by
  constructor
  · intro h
    rcases Nat.lt_or_ge i j with h1 | h1
    · exact h1
    · have := Nat.mul_le_mul_right W h1
      omega
  · intro h
    exact place_lt h hc
def RSkCopyPost (w : World) (b r d m s l : Int) (zs : List Int) (e : Ending) (w' : World) : Prop :=
  ∃ SA G v B K, e = .returned (.pointer (some ⟨SA, 0, none⟩)) ∧ w.heap.size ≤ SA ∧ Blk w' SA 118 #[.int .i64 b, .int .i64 r, .int .i64 d, .int .i64 m, .int .u64 s, .int .i64 l, .pointer (some ⟨G, 0, none⟩)] ∧ RefIs w' w.heap.size G v B K r.toNat d.toNat zs ∧ Below w.heap.size w w'
set_option maxRecDepth 100000 in
set_option maxHeartbeats 8000000 in
theorem rskcopy (w : World) (SA G N0 : Nat) (v : Value) (B K : Nat → Nat) (b m s l : Int) (R W : Nat) (zs : List Int) (hr : rightB b R W m = true) (hSA : Blk w SA 118 #[.int .i64 b, .int .i64 (R : Int), .int .i64 (W : Int), .int .i64 m, .int .u64 s, .int .i64 l, .pointer (some ⟨G, 0, none⟩)]) (hG : RefIs w N0 G v B K R W zs) :
  Calls Tryz.prog 67 #[.pointer (some ⟨SA, 0, none⟩)] w (RSkCopyPost w b R W m s l zs) := by
 have hR := right_of hr
 have hR0 : 0 < R := by omega
 have hR8 : R ≤ 8 := by omega
 have hW128 : W ≤ 128 := by omega
 have PN := Lib.hid (fun w => rsknew b R W m s l hr w)
 have HLEN := Lib.hid hG.len
 obtain ⟨L, vc, rfl⟩ := hG.openL hR0
 have HG := Lib.hid hG
 have HSA := Lib.hid hSA
 clear hr hR hSA hG
 unfold RSkCopyPost
 rw [Int.toNat_natCast, Int.toNat_natCast]
 obtain ⟨i0, hi, hz0, hz1, hz2⟩ := info_parts Tryz.info64
 go_enter Tryz.func67, Tryz.ntmps67
 go_wp2_with fail
 refine wp_region_still_tail 8 (by kernel_rfl) (by kernel_rfl) ?_
 simp only [List.take_succ_cons, List.take_zero, List.drop_succ_cons, List.drop_zero]
 have HB2 : Hid (Below w.heap.size w { heap := w.heap, tape := w.tape, drawn := w.drawn + 1, os := w.os, output := w.output }) := Lib.hid (below_drewN (Below.refl _ _) 1)
 generalize ({ heap := w.heap, tape := w.tape, drawn := w.drawn + 1, os := w.os, output := w.output } : World) = wd at *
 have q0 := (HSA.out.kept HB2.out).cell 0
 have q1 := (HSA.out.kept HB2.out).cell 1
 have q2 := (HSA.out.kept HB2.out).cell 2
 have q3 := (HSA.out.kept HB2.out).cell 3
 have q4 := (HSA.out.kept HB2.out).cell 4
 have q5 := (HSA.out.kept HB2.out).cell 5
 simp at q0 q1 q2 q3 q4 q5
 repeat still_step
 refine wpStill_nil ?_
 go_wp2_with fail
 with_reducible refine (PN.out _).mono ?_
 rintro e w2 ⟨SA2, G2, v2, B2, K2, rfl, hS2, hbx, hg, hb⟩
 rw [Int.toNat_natCast, Int.toNat_natCast] at hg
 obtain ⟨L2, vc2, rfl⟩ := hg.openL hR0
 have HBX := Lib.hid hbx
 have HB3 := Lib.hid (btr HB2.out hb)
 have HLO : Hid (w.heap.size ≤ wd.heap.size ∧ w.heap.size ≤ SA2) := Lib.hid ⟨HB2.out.size, Nat.le_trans HB2.out.size hS2⟩
 have HG2 := Lib.hid (hg.base HLO.out.1)
 obtain ⟨ao0, c0, e0, hRc, hLL⟩ := hg.openG
 obtain ⟨L3, curL, e1, hL2N, hL2, -⟩ := hLL hR0
 rw [e1] at e0
 simp only [Value.slice.injEq, Option.some.injEq, Addr.mk.injEq, and_true, true_and] at e0
 obtain ⟨rfl, rfl⟩ := e0
 have HL2 : Hid (Blk w2 L2 54 curL) := Lib.hid hL2
 have HL2N : Hid (w.heap.size ≤ L2) := Lib.hid (Nat.le_trans HB2.out.size hL2N)
 clear hbx hg hb hS2 q0 q1 q2 q3 q4 q5 hRc hLL hL2N hL2 e1
 go_wp2_with fail
 go_loopw [4] (fun i wr => ∃ (j : Nat) (B' K' : Nat → Nat), j ≤ R ∧ i = .int .i64 (j : Int) ∧ RefIs wr w.heap.size G2 (.slice (some ⟨L2, 0, none⟩) R vc2) B' K' R W (rowsTo zs R W j) ∧ Blk wr SA2 118 #[.int .i64 b, .int .i64 (R : Int), .int .i64 (W : Int), .int .i64 m, .int .u64 s, .int .i64 l, .pointer (some ⟨G2, 0, none⟩)] ∧ Below w.heap.size w wr) (fun i _ => R - (intOf i).toNat)
 case atStart => exact ⟨0, B2, K2, by omega, rfl, by rw [rowsTo_zero]; exact HG2.out, HBX.out, HB3.out⟩
 case round =>
  obtain ⟨j, B', K', hj, rfl, hg, hbx, hbel⟩ := hrel
  have HGR := Lib.hid hg
  have HBR := Lib.hid hbel
  have HBXR := Lib.hid hbx
  clear HBX HB3 HG2
  have hSAr := HSA.out.kept hbel
  have hGr := HG.out.below hbel (Nat.le_refl _)
  have q6 := hSAr.cell 6
  have qG := hGr.box.cell 0
  simp at q6 qG
  by_cases hlt : j < R
  ·obtain ⟨cB, hBj, hcB⟩ := hGr.cells j hlt
   obtain ⟨-, hLj⟩ := hGr.lookR hlt
   obtain ⟨curS, hLS⟩ : ∃ curS, Blk wr L 54 curS := by
    obtain ⟨ao1, c1, e2, -, hh⟩ := hGr.openG
    obtain ⟨L4, cu, e3, -, h5, -⟩ := hh hR0
    rw [e3] at e2
    simp only [Value.slice.injEq, Option.some.injEq, Addr.mk.injEq, and_true, true_and] at e2
    obtain ⟨rfl, rfl⟩ := e2
    exact ⟨cu, h5⟩
   have HKJ := Lib.hid (hGr.cap j hlt)
   have hlen := HLEN.out
   obtain ⟨zl, hzl⟩ : ∃ zl, zl = rowZ zs W j := ⟨_, rfl⟩
   have HZL := Lib.hid hzl
   have HZN : Hid (zl.length = W) := Lib.hid (by rw [hzl]; exact rowZ_len hlen hlt)
   have HN : Hid (L2 ≠ L ∧ j * W ≤ R * W) := Lib.hid ⟨by
    have h1 := hLS.lt
    have h2 := HL2N.out
    intro e
    have h3 : L < w.heap.size := by
     obtain ⟨ao1, c1, e2, -, hh⟩ := HG.out.openG
     obtain ⟨L4, cu, e3, -, h5, -⟩ := hh hR0
     rw [e3] at e2
     simp only [Value.slice.injEq, Option.some.injEq, Addr.mk.injEq, and_true, true_and] at e2
     obtain ⟨rfl, rfl⟩ := e2
     exact h5.lt
    omega, Nat.mul_le_mul_right W (by omega)⟩
   have HCB : Hid (∀ i u, zl[i]? = some u → cB[i]? = some (Value.int .i64 u)) := Lib.hid (fun i u hu => by
    have hiW : i < W := by
     have := (List.getElem?_eq_some_iff.1 hu).1
     rw [HZN.out] at this; exact this
    rw [HZL.out, rowZ_get hiW] at hu
    exact hcB i u hiW hu)
   have HLTS : Hid (∀ k ∈ [SA2, G2, SA, G, L, B j], k < wr.heap.size) := Lib.hid (fun k hk => by
    simp at hk
    have h1 := HBXR.out.lt
    have h2 := HGR.out.ltG
    have h3 := hSAr.lt
    have h4 := hGr.ltG
    have h5 := hLS.lt
    have h6 := hBj.lt
    omega)
   have HNEL : Hid (∀ k ∈ [SA2, G2, SA, G, L, B j], k ≠ L2) := Lib.hid (by
    obtain ⟨ao1, c1, e2, -, hh⟩ := HGR.out.openG
    obtain ⟨L4, cu, e3, -, h5, -⟩ := hh hR0
    rw [e3] at e2
    simp only [Value.slice.injEq, Option.some.injEq, Addr.mk.injEq, and_true, true_and] at e2
    obtain ⟨rfl, rfl⟩ := e2
    have n1 := HBXR.out.ne_ h5 (by decide)
    have n2 := HGR.out.box.ne_ h5 (by decide)
    have n3 := hSAr.ne_ h5 (by decide)
    have n4 := hGr.box.ne_ h5 (by decide)
    have n5 := HN.out.1
    have n6 := hBj.ne_ h5 (by decide)
    intro k hk
    simp at hk
    omega)
   have HSAr := Lib.hid hSAr
   have HGBr := Lib.hid hGr.box
   have HLSr := Lib.hid hLS
   have HBJ := Lib.hid hBj
   have HLJ := Lib.hid hLj
   obtain ⟨kj, hkj⟩ : ∃ kj, kj = K j := ⟨_, rfl⟩
   have HLJ2 : Hid (∀ w', KpB [SA2, G2, SA, G, L, B j] wr w' → w'.cell? ⟨L, j, none⟩ = some (.slice (some ⟨B j, 0, none⟩) W kj)) := Lib.hid (fun w' hk => by
    rw [hkj, ← HLJ.out]
    exact ((hk.blk (by simp) HLSr.out).cell j).trans (HLSr.out.cell j).symm)
   have HNEWS : Hid (∀ w', KpB [SA2, G2, SA, G, L, B j] wr w' → (0 < W → ∃ ad, (some ⟨B j, 0, none⟩ : Option Addr) = some ad ∧ ∀ i u, (zl.map (Value.int .i64))[i]? = some u → w'.cell? (ad.add i) = some u)) := Lib.hid (fun w' hk _ => ⟨_, rfl, fun i u hu => by
    rw [addr_add, Nat.zero_add]
    rw [List.getElem?_map] at hu
    cases hz : zl[i]? with
    | none => rw [hz] at hu; simp at hu
    | some z =>
     rw [hz] at hu
     simp at hu
     subst hu
     exact ((hk.blk (by simp) HBJ.out).cell i).trans (HCB.out i z hz)⟩)
   have hown0 := World.ownsRow_lit (base := wr.heap.size) (e := 2) (size := 1) (wr.drewN 1) #[] 0 (by exact Nat.le_refl _) (by unfold maxLen; omega) (by simp)
   have HO := Lib.hid hown0
   have HKJ2 : Hid (W ≤ kj) := Lib.hid (by rw [hkj]; exact HKJ.out)
   have hkm : W ≤ maxLen := by unfold maxLen; omega
   have j0 : (0 : Int) ≤ (j : Int) := by omega
   have j1 : (j : Int) < (R : Int) := by omega
   have HFIN : Hid (∀ (w5 : World) (g cp : Nat) (cur : Array Value), (∀ k, k < wr.heap.size → w5.heap[k]? = wr.heap[k]?) → Below w.heap.size w w5 → wr.heap.size ≤ g → Blk w5 g 2 cur → (∀ (i : Nat) (u : Int), zl[i]? = some u → cur[i]? = some (Value.int .i64 u)) → W ≤ cp →
     RefIs (w5.setCell ⟨L2, j, none⟩ (.slice (some ⟨g, 0, none⟩) W cp)) w.heap.size G2 (.slice (some ⟨L2, 0, none⟩) R vc2) (upN B' j g) (upN K' j cp) R W (rowsTo zs R W (j + 1)) ∧
     Blk (w5.setCell ⟨L2, j, none⟩ (.slice (some ⟨g, 0, none⟩) W cp)) SA2 118 #[.int .i64 b, .int .i64 (R : Int), .int .i64 (W : Int), .int .i64 m, .int .u64 s, .int .i64 l, .pointer (some ⟨G2, 0, none⟩)] ∧ Below w.heap.size w (w5.setCell ⟨L2, j, none⟩ (.slice (some ⟨g, 0, none⟩) W cp))) := Lib.hid (fun w5 g cp cur hfr hbl hge hgb hgc hcp => by
    have hR5 : RefIs w5 w.heap.size G2 (.slice (some ⟨L2, 0, none⟩) R vc2) B' K' R W (rowsTo zs R W j) := HGR.out.frame (hfr _ HGR.out.ltG) (fun k hk => hfr k (HGR.out.own.lt k hk).2) (fun i hi => by
     obtain ⟨c2, h2, -⟩ := HGR.out.cells i hi
     exact hfr _ h2.lt)
    have hS5 : Blk w5 SA2 118 #[.int .i64 b, .int .i64 (R : Int), .int .i64 (W : Int), .int .i64 m, .int .u64 s, .int .i64 l, .pointer (some ⟨G2, 0, none⟩)] := (hfr _ HBXR.out.lt).trans HBXR.out
    have hL5 : ∃ c5, Blk w5 L2 54 c5 := by
     obtain ⟨ao1, c1, e2, -, hh⟩ := hR5.openG
     obtain ⟨L4, cu, e3, -, h5, -⟩ := hh hR0
     rw [e3] at e2
     simp only [Value.slice.injEq, Option.some.injEq, Addr.mk.injEq, and_true, true_and] at e2
     obtain ⟨rfl, rfl⟩ := e2
     exact ⟨cu, h5⟩
    obtain ⟨c5, hL5⟩ := hL5
    refine ⟨hR5.newrow hlt hgb (fun c u hc hu => ?_) hcp (by have := HBR.out.size; omega) (fun i hi e => ?_) (rowsTo_len HLEN.out (by omega)) (fun i c hi hne hc => ?_), hS5.far (by simpa using hS5.ne_ hL5 (by decide)) _, hbl.setCell (p := ⟨L2, j, none⟩) HL2N.out _⟩
    ·refine hgc c u ?_
     rw [rowsTo_get HLEN.out (by omega) (place_lt hlt hc), if_pos ((place_row hc).2 (by omega))] at hu
     rw [HZL.out, rowZ_get hc]
     exact hu
    ·obtain ⟨c2, h2, -⟩ := HGR.out.cells i hi
     have := h2.lt
     omega
    ·rw [rowsTo_get HLEN.out (by omega) (place_lt hi hc), rowsTo_get HLEN.out (by omega) (place_lt hi hc)]
     by_cases e : i < j
     ·rw [if_pos ((place_row hc).2 (by omega)), if_pos ((place_row hc).2 e)]
     ·rw [if_neg (fun h => by have := (place_row hc).1 h; omega), if_neg (fun h => by have := (place_row hc).1 h; omega)])
   have HLK : Hid (∀ w5 : World, (∀ k, k < wr.heap.size → w5.heap[k]? = wr.heap[k]?) → (∃ x, w5.cell? ⟨L2, j, none⟩ = some x) ∧ w5.frozen? ⟨L2, j, none⟩ = false) := Lib.hid (fun w5 hfr => by
    obtain ⟨ao1, c1, e2, hRc, hh⟩ := HGR.out.openG
    obtain ⟨L4, cu, e3, -, h5, h6⟩ := hh hR0
    rw [e3] at e2
    simp only [Value.slice.injEq, Option.some.injEq, Addr.mk.injEq, and_true, true_and] at e2
    obtain ⟨rfl, rfl⟩ := e2
    have h7 : Blk w5 L2 54 cu := (hfr _ h5.lt).trans h5
    exact ⟨⟨_, (h7.cell j).trans (h6 j hlt)⟩, h7.frozen j⟩)
   clear hg hbx hbel hSAr hGr hcB hBj hLj hLS hzl hown0 hlen hkj
   go_wp2_with fail
   clear q6 qG
   refine wp_region_held_drew (S := fun w' => KpB [SA2, G2, SA, G, L, B j] wr w') (by kernel_rfl) (by exact KpB.of_below (below_drewN (Below.refl wr.heap.size _) 1) HLTS.out) (fun hHeld => ?_)
   refine tkH (i := 0) (v := ?_) rfl (by kernel_rfl) (fun _ _ _ h => h) (Or.inl ⟨by rfl, ?_⟩) (by assumption) ?_
   rotate_left
   ·intro w hSw
    try dsimp only at hSw
    go_simp
    try with_reducible rfl
   simp only [Act.put, z1, z2, z3, z4, z5, z6]
   refine tkH (i := 1) (v := ?_) rfl (by kernel_rfl) (fun _ _ _ h => h) (Or.inl ⟨by rfl, ?_⟩) (by assumption) ?_
   rotate_left
   ·intro w hSw
    try dsimp only at hSw
    go_simp
    try with_reducible rfl
   simp only [Act.put, z1, z2, z3, z4, z5, z6]
   refine tkH (i := 2) (v := ?_) rfl (by kernel_rfl) (fun _ _ _ h => h) (Or.inl ⟨by rfl, ?_⟩) (by assumption) ?_
   rotate_left
   ·intro w hSw
    try dsimp only at hSw
    go_simp
    try with_reducible rfl
   simp only [Act.put, z1, z2, z3, z4, z5, z6]
   refine tkH (i := 3) (v := ?_) rfl (by kernel_rfl) (fun _ _ _ h => h) (Or.inl ⟨by rfl, ?_⟩) (by assumption) ?_
   rotate_left
   ·intro w hSw
    have q0 := (hSw.blk (by simp) HBXR.out).cell 6
    have q1 := (hSw.blk (by simp) HGR.out.box).cell 0
    have q2 := (hSw.blk (by simp) HSAr.out).cell 6
    have q3 := (hSw.blk (by simp) HGBr.out).cell 0
    have q4 := HLJ2.out _ hSw
    simp at q0 q1 q2 q3 q4
    go_simp
    try with_reducible rfl
   simp only [Act.put, z1, z2, z3, z4, z5, z6]
   refine tkH (i := 4) (v := ?_) rfl (by kernel_rfl) (fun _ _ _ h => h) (Or.inl ⟨by rfl, ?_⟩) (by assumption) ?_
   rotate_left
   ·intro w hSw
    try dsimp only at hSw
    go_simp
    try with_reducible rfl
   simp only [Act.put, z1, z2, z3, z4, z5, z6]
   refine tkH (i := 5) (v := ?_) rfl (by kernel_rfl) (fun _ _ _ h => h) (Or.inl ⟨by rfl, ?_⟩) (by assumption) ?_
   rotate_left
   ·intro w hSw
    try dsimp only at hSw
    go_simp
    try with_reducible rfl
   simp only [Act.put, z1, z2, z3, z4, z5, z6]
   refine tkH (i := 6) (v := ?_) rfl (by kernel_rfl) (fun _ _ _ h => h) (Or.inl ⟨by rfl, ?_⟩) (by assumption) ?_
   rotate_left
   ·intro w hSw
    have q0 := (hSw.blk (by simp) HBXR.out).cell 6
    have q1 := (hSw.blk (by simp) HGR.out.box).cell 0
    have q2 := (hSw.blk (by simp) HSAr.out).cell 6
    have q3 := (hSw.blk (by simp) HGBr.out).cell 0
    have q4 := HLJ2.out _ hSw
    simp at q0 q1 q2 q3 q4
    go_simp
    try with_reducible rfl
   simp only [Act.put, z1, z2, z3, z4, z5, z6]
   refine tkH (i := 7) (v := ?_) rfl (by kernel_rfl) (fun _ _ _ h => h) (Or.inl ⟨by rfl, ?_⟩) (by assumption) ?_
   rotate_left
   ·intro w hSw
    try dsimp only at hSw
    go_simp
    try with_reducible rfl
   simp only [Act.put, z1, z2, z3, z4, z5, z6]
   refine tkH (i := 9) (v := ?_) rfl (by kernel_rfl) (fun _ _ _ h => h) (Or.inl ⟨by rfl, ?_⟩) (by assumption) ?_
   rotate_left
   ·intro w hSw
    try dsimp only at hSw
    go_simp
    try with_reducible rfl
   simp only [Act.put, z1, z2, z3, z4, z5, z6]
   refine tkH (i := 10) (v := ?_) rfl (by kernel_rfl) (fun _ _ _ h => h) (Or.inl ⟨by rfl, ?_⟩) (by assumption) ?_
   rotate_left
   ·intro w hSw
    try dsimp only at hSw
    go_simp
    try with_reducible rfl
   simp only [Act.put, z1, z2, z3, z4, z5, z6]
   refine tkH (i := 11) (v := ?_) rfl (by kernel_rfl) (fun _ _ _ h => h) (Or.inl ⟨by rfl, ?_⟩) (by assumption) ?_
   rotate_left
   ·intro w hSw
    try dsimp only at hSw
    go_simp
    try with_reducible rfl
   simp only [Act.put, z1, z2, z3, z4, z5, z6]
   refine tkH (i := 12) (v := ?_) rfl (by kernel_rfl) (fun _ _ _ h => h) (Or.inl ⟨by rfl, ?_⟩) (by assumption) ?_
   rotate_left
   ·intro w hSw
    have q0 := (hSw.blk (by simp) HBXR.out).cell 6
    have q1 := (hSw.blk (by simp) HGR.out.box).cell 0
    have q2 := (hSw.blk (by simp) HSAr.out).cell 6
    have q3 := (hSw.blk (by simp) HGBr.out).cell 0
    have q4 := HLJ2.out _ hSw
    simp at q0 q1 q2 q3 q4
    go_simp
    try with_reducible rfl
   simp only [Act.put, z1, z2, z3, z4, z5, z6]
   refine tkH (i := 13) (v := ?_) rfl (by kernel_rfl) (fun _ _ _ h => h) (Or.inl ⟨by rfl, ?_⟩) (by assumption) ?_
   rotate_left
   ·intro w hSw
    try dsimp only at hSw
    go_simp
    try with_reducible rfl
   simp only [Act.put, z1, z2, z3, z4, z5, z6]
   refine tkH (i := 14) (v := ?_) rfl (by kernel_rfl) (fun _ _ _ h => h) (Or.inl ⟨by rfl, ?_⟩) (by assumption) ?_
   rotate_left
   ·intro w hSw
    try dsimp only at hSw
    go_simp
    try with_reducible rfl
   simp only [Act.put, z1, z2, z3, z4, z5, z6]
   refine tkH (i := 15) (v := ?_) rfl (by kernel_rfl) (fun _ _ _ h => h) (Or.inl ⟨by rfl, ?_⟩) (by assumption) ?_
   rotate_left
   ·intro w hSw
    have q0 := (hSw.blk (by simp) HBXR.out).cell 6
    have q1 := (hSw.blk (by simp) HGR.out.box).cell 0
    have q2 := (hSw.blk (by simp) HSAr.out).cell 6
    have q3 := (hSw.blk (by simp) HGBr.out).cell 0
    have q4 := HLJ2.out _ hSw
    simp at q0 q1 q2 q3 q4
    go_simp
    try with_reducible rfl
   simp only [Act.put, z1, z2, z3, z4, z5, z6]
   refine tkH (i := 16) (v := ?_) rfl (by kernel_rfl) (fun _ _ _ h => h) (Or.inl ⟨by rfl, ?_⟩) (by assumption) ?_
   rotate_left
   ·intro w hSw
    try dsimp only at hSw
    go_simp
    try with_reducible rfl
   simp only [Act.put, z1, z2, z3, z4, z5, z6]
   refine tkH (i := 17) (v := ?_) rfl (by kernel_rfl) (fun _ _ _ h => h) (Or.inl ⟨by rfl, ?_⟩) (by assumption) ?_
   rotate_left
   ·intro w hSw
    try dsimp only at hSw
    go_simp
    try with_reducible rfl
   simp only [Act.put, z1, z2, z3, z4, z5, z6]
   refine tkH (i := 18) (v := ?_) rfl (by kernel_rfl) (fun _ _ _ h => h) (Or.inl ⟨by rfl, ?_⟩) (by assumption) ?_
   rotate_left
   ·intro w hSw
    have q0 := (hSw.blk (by simp) HBXR.out).cell 6
    have q1 := (hSw.blk (by simp) HGR.out.box).cell 0
    have q2 := (hSw.blk (by simp) HSAr.out).cell 6
    have q3 := (hSw.blk (by simp) HGBr.out).cell 0
    have q4 := HLJ2.out _ hSw
    simp at q0 q1 q2 q3 q4
    go_simp
    try with_reducible rfl
   simp only [Act.put, z1, z2, z3, z4, z5, z6]
   refine wpAnyH_ready (rs := [8]) (by kernel_rfl) (by simp) ?_
   refine AllReadyH.cons rfl (fun Kc hKc => ?_) AllReadyH.nil
   go_simp
   refine hKc.out _ _ ?_ (fun hHeld => ?_)
   ·first | exact hHeld | exact ⟨Nat.le_trans hHeld.1 (by simp), fun k hk => (Below.heap_alloc _ _ k (Nat.lt_of_lt_of_le (HLTS.out k hk) hHeld.1)).trans (hHeld.2 k hk)⟩ | exact ⟨Nat.le_trans (by simp) hgrow.size, fun k hk => HFR.out k (HLTS.out k hk)⟩ | exact ⟨Nat.le_trans (by simp) (Nat.le_trans hgrow.size (by simp)), fun k hk => (Below.heap_setCell _ _ _ k (by simpa using HNEL.out k hk)).trans (HFR.out k (HLTS.out k hk))⟩
   clear hKc Kc
   refine wpAnyH_ready (rs := [19]) (by kernel_rfl) (by simp) ?_
   refine AllReadyH.cons rfl (fun Kc hKc => ?_) AllReadyH.nil
   refine wp_append_lit _ _ 54 rfl wr.heap.size 2 i0 (.int .i64 0) 8 Tryz.underlying54 hi hz0 hz1 hz2 rfl wr.heap.size 0 rfl HO.out (some ⟨B j, 0, none⟩) W kj (zl.map (Value.int .i64)) rfl (by rw [List.length_map]; exact HZN.out) (HNEWS.out _ hHeld) (fun u hu => by obtain ⟨z, -, rfl⟩ := List.mem_map.1 hu; rfl) hkm (by omega) (by simp) ?_; intro v' w5 hown' hgrow hnil' hq9; have HLO : Hid (w5.ownsRow wr.heap.size 2 1 v' zl.length (zl.map (Value.int .i64))) := Lib.hid (by rw [HZN.out]; exact hown'); obtain ⟨g', cp', rfl, hg', hcp', curL, hcL, hcLz⟩ := own_row HLO.out hnil'; have HFR : Hid (∀ k, k < wr.heap.size → w5.heap[k]? = wr.heap[k]?) := Lib.hid (fun k hk => (hgrow.block k (by simp; omega) (by simp; omega)).trans (Below.heap_alloc _ _ k (by simpa using hk))); have HB5 : Hid (Below w.heap.size w w5) := Lib.hid (((below_drewN HBR.out 1).alloc (by have := HBR.out.size; simpa using this) _).grown hgrow (by have := HBR.out.size; simp; omega) (fun k e => by have := Option.some.inj e; have := HBR.out.size; omega)); rw [HZN.out] at hcp' ⊢; have HFN := Lib.hid (HFIN.out w5 g' cp' curL HFR.out HB5.out hg' hcL hcLz hcp'); have HCP := Lib.hid hcp'; clear hcL hcLz hown' hnil' hq9 hcp'
   refine hKc.out _ _ ?_ (fun hHeld => ?_)
   ·first | exact hHeld | exact ⟨Nat.le_trans hHeld.1 (by simp), fun k hk => (Below.heap_alloc _ _ k (Nat.lt_of_lt_of_le (HLTS.out k hk) hHeld.1)).trans (hHeld.2 k hk)⟩ | exact ⟨Nat.le_trans (by simp) hgrow.size, fun k hk => HFR.out k (HLTS.out k hk)⟩ | exact ⟨Nat.le_trans (by simp) (Nat.le_trans hgrow.size (by simp)), fun k hk => (Below.heap_setCell _ _ _ k (by simpa using HNEL.out k hk)).trans (HFR.out k (HLTS.out k hk))⟩
   clear hKc Kc
   refine tkH (i := 20) (v := ?_) rfl (by kernel_rfl) (fun _ _ _ h => h) (Or.inl ⟨by rfl, ?_⟩) (by assumption) ?_
   rotate_left
   ·intro w hSw
    try dsimp only at hSw
    go_simp
    try with_reducible rfl
   simp only [Act.put, z1, z2, z3, z4, z5, z6]
   refine wpAnyH_ready (rs := [21]) (by kernel_rfl) (by simp) ?_
   refine AllReadyH.cons rfl (fun Kc hKc => ?_) AllReadyH.nil
   obtain ⟨⟨xo, k7⟩, fz7⟩ := HLK.out w5 HFR.out; go_simp
   refine hKc.out _ _ ?_ (fun hHeld => ?_)
   ·first | exact hHeld | exact ⟨Nat.le_trans hHeld.1 (by simp), fun k hk => (Below.heap_alloc _ _ k (Nat.lt_of_lt_of_le (HLTS.out k hk) hHeld.1)).trans (hHeld.2 k hk)⟩ | exact ⟨Nat.le_trans (by simp) hgrow.size, fun k hk => HFR.out k (HLTS.out k hk)⟩ | exact ⟨Nat.le_trans (by simp) (Nat.le_trans hgrow.size (by simp)), fun k hk => (Below.heap_setCell _ _ _ k (by simpa using HNEL.out k hk)).trans (HFR.out k (HLTS.out k hk))⟩
   clear hKc Kc
   refine wpAnyH_done (by kernel_rfl) ?_ _
   clear hHeld
   go_wp2
   go_roundw
   case rel => exact ⟨j + 1, _, _, by omega, by go_num, HFN.out.1, HFN.out.2.1, HFN.out.2.2⟩
   case measure => simp [intOf]; omega
  ·obtain rfl : j = R := by omega
   have HE := Lib.hid (rowsTo_all (zs := zs) HLEN.out)
   clear hg hbx hbel hSAr hGr
   go_wp2
   go_ret
   exact ⟨SA2, G2, _, B', K', rfl, HLO.out.2, HBXR.out, by have h := HGR.out; rw [HE.out] at h; exact h, HBR.out⟩
end Go.Proofs.YthbkljeibmkimaaGreat


namespace Go.Proofs.YthbkljeibmkimaaGreat
open Go.RowKit
set_option linter.unusedVariables false
set_option linter.unusedSimpArgs false

def RSkUpPost (w : World) (N G : Nat) (v : Value) (B K : Nat → Nat) (b m s l : Int) (R W : Nat) (zs : List Int) (k x : Int) (e : Ending) (w' : World) : Prop :=
  e = .returned (.int .i64 (skErr b R W m s l zs k x)) ∧ RefIs w' N G v B K R W (skUpd b R W m s l zs k x) ∧ RGr w w' B R
set_option maxRecDepth 100000 in
set_option maxHeartbeats 8000000 in
theorem rskupdate_none (w : World) (SA N G : Nat) (v : Value) (B K : Nat → Nat) (b m s l : Int) (R W : Nat) (zs : List Int) (hSA : Blk w SA 118 #[.int .i64 b, .int .i64 (R : Int), .int .i64 (W : Int), .int .i64 m, .int .u64 s, .int .i64 l, .pointer (some ⟨G, 0, none⟩)]) (k x : Int) (hk : keysI b R W m l ≤ k) :
  Calls Tryz.prog 58 #[.pointer (some ⟨SA, 0, none⟩), .int .u64 k, .int .i64 x] w fun e w' => e = .returned (.int .i64 2) ∧ Below w.heap.size w w' := by
 have PK := Lib.hid (fun w => rkeys_any b R W m s l w)
 have e1 : decide (keysI b R W m l ≤ k) = true := decide_eq_true hk
 have HSA := Lib.hid hSA
 clear hSA hk
 go_enter Tryz.func58, Tryz.ntmps58
 go_wp2_with fail
 refine wp_region_held_drew (S := fun w' => Below w.heap.size w w') (by kernel_rfl) (by exact below_drewN (Below.refl _ _) 1) (fun hHeld => ?_)
 refine tkH (i := 0) (v := ?_) rfl (by kernel_rfl) (fun _ _ _ h => h) (Or.inl ⟨by rfl, ?_⟩) (by assumption) ?_
 rotate_left
 ·intro w hSw
  try dsimp only at hSw
  go_simp
  try with_reducible rfl
 simp only [Act.put, z1, z2, z3, z4, z5, z6]
 refine tkH (i := 1) (v := ?_) rfl (by kernel_rfl) (fun _ _ _ h => h) (Or.inl ⟨by rfl, ?_⟩) (by assumption) ?_
 rotate_left
 ·intro w hSw
  try dsimp only at hSw
  go_simp
  try with_reducible rfl
 simp only [Act.put, z1, z2, z3, z4, z5, z6]
 refine tkH (i := 2) (v := ?_) rfl (by kernel_rfl) (fun _ _ _ h => h) (Or.inl ⟨by rfl, ?_⟩) (by assumption) ?_
 rotate_left
 ·intro w hSw
  try dsimp only at hSw
  go_simp
  try with_reducible rfl
 simp only [Act.put, z1, z2, z3, z4, z5, z6]
 refine tkH (i := 3) (v := ?_) rfl (by kernel_rfl) (fun _ _ _ h => h) (Or.inl ⟨by rfl, ?_⟩) (by assumption) ?_
 rotate_left
 ·intro w hSw
  try dsimp only at hSw
  go_simp
  try with_reducible rfl
 simp only [Act.put, z1, z2, z3, z4, z5, z6]
 refine tkH (i := 4) (v := ?_) rfl (by kernel_rfl) (fun _ _ _ h => h) (Or.inl ⟨by rfl, ?_⟩) (by assumption) ?_
 rotate_left
 ·intro w hSw
  have q0 := (HSA.out.kept hSw).cell 0
  have q1 := (HSA.out.kept hSw).cell 1
  have q2 := (HSA.out.kept hSw).cell 2
  have q3 := (HSA.out.kept hSw).cell 3
  have q4 := (HSA.out.kept hSw).cell 4
  have q5 := (HSA.out.kept hSw).cell 5
  simp at q0 q1 q2 q3 q4 q5
  go_simp
  try with_reducible rfl
 simp only [Act.put, z1, z2, z3, z4, z5, z6]
 refine tkH (i := 5) (v := ?_) rfl (by kernel_rfl) (fun _ _ _ h => h) (Or.inl ⟨by rfl, ?_⟩) (by assumption) ?_
 rotate_left
 ·intro w hSw
  try dsimp only at hSw
  go_simp
  try with_reducible rfl
 simp only [Act.put, z1, z2, z3, z4, z5, z6]
 refine tkH (i := 6) (v := ?_) rfl (by kernel_rfl) (fun _ _ _ h => h) (Or.inl ⟨by rfl, ?_⟩) (by assumption) ?_
 rotate_left
 ·intro w hSw
  try dsimp only at hSw
  go_simp
  try with_reducible rfl
 simp only [Act.put, z1, z2, z3, z4, z5, z6]
 refine tkH (i := 7) (v := ?_) rfl (by kernel_rfl) (fun _ _ _ h => h) (Or.inl ⟨by rfl, ?_⟩) (by assumption) ?_
 rotate_left
 ·intro w hSw
  try dsimp only at hSw
  go_simp
  try with_reducible rfl
 simp only [Act.put, z1, z2, z3, z4, z5, z6]
 refine tkH (i := 8) (v := ?_) rfl (by kernel_rfl) (fun _ _ _ h => h) (Or.inl ⟨by rfl, ?_⟩) (by assumption) ?_
 rotate_left
 ·intro w hSw
  have q0 := (HSA.out.kept hSw).cell 0
  have q1 := (HSA.out.kept hSw).cell 1
  have q2 := (HSA.out.kept hSw).cell 2
  have q3 := (HSA.out.kept hSw).cell 3
  have q4 := (HSA.out.kept hSw).cell 4
  have q5 := (HSA.out.kept hSw).cell 5
  simp at q0 q1 q2 q3 q4 q5
  go_simp
  try with_reducible rfl
 simp only [Act.put, z1, z2, z3, z4, z5, z6]
 refine wpAnyH_ready (rs := [9]) (by kernel_rfl) (by simp) ?_
 refine AllReadyH.cons rfl (fun Kc hKc => ?_) AllReadyH.nil
 go_simp
 go_wp2_with (go_at_call 26; refine (PK.out _).mono ?_; rintro e w4 ⟨rfl, hb'⟩)
 refine hKc.out _ _ ?_ (fun hHeld => ?_)
 ·first | exact btr hHeld hb' | exact hHeld
 clear hKc Kc
 refine tkH (i := 10) (v := ?_) rfl (by kernel_rfl) (fun _ _ _ h => h) (Or.inl ⟨by rfl, ?_⟩) (by assumption) ?_
 rotate_left
 ·intro w hSw
  try dsimp only at hSw
  go_simp
  try with_reducible rfl
 simp only [Act.put, z1, z2, z3, z4, z5, z6]
 refine wpAnyH_done (by kernel_rfl) ?_ _
 have HB4 := Lib.hid hHeld
 clear hHeld hb'
 go_wp2
 go_ret
 exact ⟨rfl, HB4.out⟩
theorem rcols_rowI (b d m s l k : Int) (R : Nat) (hR : 0 < R) (s0 : 0 ≤ s) (s1 : s ≤ 18446744073709551615) (k0 : 0 ≤ k) (k1 : k ≤ 18446744073709551615) (hk : k < keysI b (R : Int) d m l) (w : World) :
    Calls Tryz.prog 69 #[.agg #[.int .i64 b, .int .i64 (R : Int), .int .i64 d, .int .i64 m, .int .u64 s], .int .i64 l, .int .u64 k] w fun e w' => ∃ g cap, e = .returned (.slice (some ⟨g, 0, none⟩) R cap) ∧ RowI w' (.slice (some ⟨g, 0, none⟩) R cap) (colsZ d s l k R) ∧ Below w.heap.size w w' := by
  refine (rcols_own b d m s l k R s0 s1 k0 k1 hk w).mono fun e w' ⟨v, h1, h2, h3, h4⟩ => ?_
  have hl : (colsZ d s l k R).length = R := colsZ_len ..
  have h5 : RowI w' v (colsZ d s l k R) := own_rowI (base := w.heap.size + 1) (by rw [hl]; exact h4) (by
    rintro rfl
    rcases h4.2 with ⟨-, h⟩ | ⟨_, _, _, h, -⟩
    · omega
    · cases h)
  have h6 := h5
  obtain ⟨g, cap, cur, rfl, -, -, -⟩ := h6
  rw [hl] at h1 h5
  exact ⟨g, cap, h1, h5, h3⟩
set_option maxRecDepth 100000 in
set_option maxHeartbeats 8000000 in
theorem rskupdate_in (w : World) (SA N G : Nat) (v : Value) (B K : Nat → Nat) (b m s l : Int) (R W : Nat) (zs : List Int) (hSA : Blk w SA 118 #[.int .i64 b, .int .i64 (R : Int), .int .i64 (W : Int), .int .i64 m, .int .u64 s, .int .i64 l, .pointer (some ⟨G, 0, none⟩)]) (hG : RefIs w N G v B K R W zs) (hfit : Fit zs)
  (hR : 0 < R) (hW : 0 < W) (s0 : 0 ≤ s) (s1 : s ≤ 18446744073709551615) (k x : Int) (k0 : 0 ≤ k) (k1 : k ≤ 18446744073709551615) (hx : In64 x) (hk : k < keysI b R W m l) :
  Calls Tryz.prog 58 #[.pointer (some ⟨SA, 0, none⟩), .int .u64 k, .int .i64 x] w (RSkUpPost w N G v B K b m s l R W zs k x) := by
 have PK := Lib.hid (fun w => rkeys_any b R W m s l w)
 have PC := Lib.hid (fun w => rcols_rowI b W m s l k R hR s0 s1 k0 k1 hk w)
 have HM : Hid (meetB R W (colsZ W s l k R) = true) := Lib.hid (by have := colsZ_meet (d := (W : Int)) (s := s) (l := l) (k := k) hR (by omega); simpa using this)
 have e1 : decide (keysI b R W m l ≤ k) = false := decide_eq_false (by omega)
 have HSA := Lib.hid hSA
 have HG := Lib.hid hG
 have HFIT := Lib.hid hfit
 have hE : skErr b R W m s l zs k x = (open Classical in if m = 2 then (if x < 0 then 3 else if In64 (kthL (readZ W zs (colsZ W s l k R)) 0 + x) then 0 else 4) else if changeFits W zs (colsZ W s l k R) x then 0 else 4) := by
  unfold skErr
  rw [if_neg (by omega), Int.toNat_natCast, Int.toNat_natCast]
 have hU : skUpd b R W m s l zs k x = if skErr b R W m s l zs k x = 0 then (if m = 2 then raiseZ W zs (colsZ W s l k R) (kthL (readZ W zs (colsZ W s l k R)) 0 + x) else changeZ W zs (colsZ W s l k R) x) else zs := by
  unfold skUpd
  rw [Int.toNat_natCast, Int.toNat_natCast]
 unfold RSkUpPost
 generalize skErr b R W m s l zs k x = qe at *
 generalize skUpd b R W m s l zs k x = qu at *
 clear hSA hk hG hfit
 by_cases hm : m = 2
 ·rw [if_pos hm] at hE hU
  have HE := Lib.hid hE
  have HU := Lib.hid hU
  clear hE hU
  subst hm
  go_enter Tryz.func58, Tryz.ntmps58
  go_wp2_with fail
  refine wp_region_held_drew (S := fun w' => Below w.heap.size w w') (by kernel_rfl) (by exact below_drewN (Below.refl _ _) 1) (fun hHeld => ?_)
  refine tkH (i := 0) (v := ?_) rfl (by kernel_rfl) (fun _ _ _ h => h) (Or.inl ⟨by rfl, ?_⟩) (by assumption) ?_
  rotate_left
  ·intro w hSw
   try dsimp only at hSw
   go_simp
   try with_reducible rfl
  simp only [Act.put, z1, z2, z3, z4, z5, z6]
  refine tkH (i := 1) (v := ?_) rfl (by kernel_rfl) (fun _ _ _ h => h) (Or.inl ⟨by rfl, ?_⟩) (by assumption) ?_
  rotate_left
  ·intro w hSw
   try dsimp only at hSw
   go_simp
   try with_reducible rfl
  simp only [Act.put, z1, z2, z3, z4, z5, z6]
  refine tkH (i := 2) (v := ?_) rfl (by kernel_rfl) (fun _ _ _ h => h) (Or.inl ⟨by rfl, ?_⟩) (by assumption) ?_
  rotate_left
  ·intro w hSw
   try dsimp only at hSw
   go_simp
   try with_reducible rfl
  simp only [Act.put, z1, z2, z3, z4, z5, z6]
  refine tkH (i := 3) (v := ?_) rfl (by kernel_rfl) (fun _ _ _ h => h) (Or.inl ⟨by rfl, ?_⟩) (by assumption) ?_
  rotate_left
  ·intro w hSw
   try dsimp only at hSw
   go_simp
   try with_reducible rfl
  simp only [Act.put, z1, z2, z3, z4, z5, z6]
  refine tkH (i := 4) (v := ?_) rfl (by kernel_rfl) (fun _ _ _ h => h) (Or.inl ⟨by rfl, ?_⟩) (by assumption) ?_
  rotate_left
  ·intro w hSw
   have q0 := (HSA.out.kept hSw).cell 0
   have q1 := (HSA.out.kept hSw).cell 1
   have q2 := (HSA.out.kept hSw).cell 2
   have q3 := (HSA.out.kept hSw).cell 3
   have q4 := (HSA.out.kept hSw).cell 4
   have q5 := (HSA.out.kept hSw).cell 5
   simp at q0 q1 q2 q3 q4 q5
   go_simp
   try with_reducible rfl
  simp only [Act.put, z1, z2, z3, z4, z5, z6]
  refine tkH (i := 5) (v := ?_) rfl (by kernel_rfl) (fun _ _ _ h => h) (Or.inl ⟨by rfl, ?_⟩) (by assumption) ?_
  rotate_left
  ·intro w hSw
   try dsimp only at hSw
   go_simp
   try with_reducible rfl
  simp only [Act.put, z1, z2, z3, z4, z5, z6]
  refine tkH (i := 6) (v := ?_) rfl (by kernel_rfl) (fun _ _ _ h => h) (Or.inl ⟨by rfl, ?_⟩) (by assumption) ?_
  rotate_left
  ·intro w hSw
   try dsimp only at hSw
   go_simp
   try with_reducible rfl
  simp only [Act.put, z1, z2, z3, z4, z5, z6]
  refine tkH (i := 7) (v := ?_) rfl (by kernel_rfl) (fun _ _ _ h => h) (Or.inl ⟨by rfl, ?_⟩) (by assumption) ?_
  rotate_left
  ·intro w hSw
   try dsimp only at hSw
   go_simp
   try with_reducible rfl
  simp only [Act.put, z1, z2, z3, z4, z5, z6]
  refine tkH (i := 8) (v := ?_) rfl (by kernel_rfl) (fun _ _ _ h => h) (Or.inl ⟨by rfl, ?_⟩) (by assumption) ?_
  rotate_left
  ·intro w hSw
   have q0 := (HSA.out.kept hSw).cell 0
   have q1 := (HSA.out.kept hSw).cell 1
   have q2 := (HSA.out.kept hSw).cell 2
   have q3 := (HSA.out.kept hSw).cell 3
   have q4 := (HSA.out.kept hSw).cell 4
   have q5 := (HSA.out.kept hSw).cell 5
   simp at q0 q1 q2 q3 q4 q5
   go_simp
   try with_reducible rfl
  simp only [Act.put, z1, z2, z3, z4, z5, z6]
  refine wpAnyH_ready (rs := [9]) (by kernel_rfl) (by simp) ?_
  refine AllReadyH.cons rfl (fun Kc hKc => ?_) AllReadyH.nil
  go_simp
  go_wp2_with (go_at_call 26; refine (PK.out _).mono ?_; rintro e w4 ⟨rfl, hb'⟩)
  refine hKc.out _ _ ?_ (fun hHeld => ?_)
  ·first | exact btr hHeld hb' | exact hHeld
  clear hKc Kc
  refine tkH (i := 10) (v := ?_) rfl (by kernel_rfl) (fun _ _ _ h => h) (Or.inl ⟨by rfl, ?_⟩) (by assumption) ?_
  rotate_left
  ·intro w hSw
   try dsimp only at hSw
   go_simp
   try with_reducible rfl
  simp only [Act.put, z1, z2, z3, z4, z5, z6]
  refine wpAnyH_done (by kernel_rfl) ?_ _
  have HB4 := Lib.hid hHeld
  clear hHeld hb'
  go_wp2_with fail
  refine wp_region_still_tail 9 (by kernel_rfl) (by kernel_rfl) ?_
  simp only [List.take_succ_cons, List.take_zero, List.drop_succ_cons, List.drop_zero]
  have HB5 : Hid (Below w.heap.size w { heap := w4.heap, tape := w4.tape, drawn := w4.drawn + 1, os := w4.os, output := w4.output }) := Lib.hid (below_drewN HB4.out 1)
  generalize ({ heap := w4.heap, tape := w4.tape, drawn := w4.drawn + 1, os := w4.os, output := w4.output } : World) = wd at *
  have q0 := (HSA.out.kept HB5.out).cell 0
  have q1 := (HSA.out.kept HB5.out).cell 1
  have q2 := (HSA.out.kept HB5.out).cell 2
  have q3 := (HSA.out.kept HB5.out).cell 3
  have q4 := (HSA.out.kept HB5.out).cell 4
  have q5 := (HSA.out.kept HB5.out).cell 5
  simp at q0 q1 q2 q3 q4 q5
  repeat still_step
  refine wpStill_nil ?_
  go_wp2_with fail
  with_reducible refine (PC.out _).mono ?_
  rintro e w5 ⟨gc, cc, rfl, hrow, hb⟩
  have HB6 := Lib.hid (btr HB5.out hb)
  have HG6 : Hid (RefIs w5 N G v B K R W zs) := Lib.hid (HG.out.kept HB6.out)
  have PR := Lib.hid (rraise_yes w5 N G v B K R W zs (colsZ W s l k R) x _ HG6.out hrow HM.out hx HFIT.out)
  clear hrow hb q0 q1 q2 q3 q4 q5
  have q3 := (HSA.out.kept HB6.out).cell 3
  have q6 := (HSA.out.kept HB6.out).cell 6
  simp at q3 q6
  go_wp2_with fail
  with_reducible refine PR.out.mono ?_
  rintro e w6 ⟨u, hu, hpost⟩
  have hku := kthL_of hu
  have hres : e = .returned (.int .i64 qe) ∧ RefIs w6 N G v B K R W qu ∧ RGr w w6 B R := by
   rcases hpost with ⟨h1, h2, h3⟩ | ⟨h1, h2, h3, h4⟩ | ⟨h1, h2, h3, h4, h5⟩
   ·have e0 : qe = 3 := by rw [HE.out, if_pos h1]
    exact ⟨by rw [h2, e0], by rw [HU.out, if_neg (by omega)]; exact HG6.out.kept h3, RGr.of_below (btr HB6.out h3)⟩
   ·have e0 : qe = 4 := by rw [HE.out, if_neg (by omega), hku, if_neg h2]
    exact ⟨by rw [h3, e0], by rw [HU.out, if_neg (by omega)]; exact HG6.out.kept h4, RGr.of_below (btr HB6.out h4)⟩
   ·have e0 : qe = 0 := by rw [HE.out, if_neg (by omega), hku, if_pos h2]
    exact ⟨by rw [h3, e0], by rw [HU.out, if_pos e0, hku]; exact h4, (RGr.of_below HB6.out).trans h5⟩
  obtain ⟨rfl, hr1, hr2⟩ := hres
  have HR1 := Lib.hid hr1
  have HR2 := Lib.hid hr2
  clear hr1 hr2 hpost hu hku q3 q6
  go_wp2
  go_ret
  exact ⟨rfl, HR1.out, HR2.out⟩
 ·rw [if_neg hm] at hE hU
  have HE := Lib.hid hE
  have HU := Lib.hid hU
  have em : (m == 2) = false := by simp [hm]
  have em' : decide (m = 2) = false := by simp [hm]
  clear hE hU
  go_enter Tryz.func58, Tryz.ntmps58
  go_wp2_with fail
  refine wp_region_held_drew (S := fun w' => Below w.heap.size w w') (by kernel_rfl) (by exact below_drewN (Below.refl _ _) 1) (fun hHeld => ?_)
  refine tkH (i := 0) (v := ?_) rfl (by kernel_rfl) (fun _ _ _ h => h) (Or.inl ⟨by rfl, ?_⟩) (by assumption) ?_
  rotate_left
  ·intro w hSw
   try dsimp only at hSw
   go_simp
   try with_reducible rfl
  simp only [Act.put, z1, z2, z3, z4, z5, z6]
  refine tkH (i := 1) (v := ?_) rfl (by kernel_rfl) (fun _ _ _ h => h) (Or.inl ⟨by rfl, ?_⟩) (by assumption) ?_
  rotate_left
  ·intro w hSw
   try dsimp only at hSw
   go_simp
   try with_reducible rfl
  simp only [Act.put, z1, z2, z3, z4, z5, z6]
  refine tkH (i := 2) (v := ?_) rfl (by kernel_rfl) (fun _ _ _ h => h) (Or.inl ⟨by rfl, ?_⟩) (by assumption) ?_
  rotate_left
  ·intro w hSw
   try dsimp only at hSw
   go_simp
   try with_reducible rfl
  simp only [Act.put, z1, z2, z3, z4, z5, z6]
  refine tkH (i := 3) (v := ?_) rfl (by kernel_rfl) (fun _ _ _ h => h) (Or.inl ⟨by rfl, ?_⟩) (by assumption) ?_
  rotate_left
  ·intro w hSw
   try dsimp only at hSw
   go_simp
   try with_reducible rfl
  simp only [Act.put, z1, z2, z3, z4, z5, z6]
  refine tkH (i := 4) (v := ?_) rfl (by kernel_rfl) (fun _ _ _ h => h) (Or.inl ⟨by rfl, ?_⟩) (by assumption) ?_
  rotate_left
  ·intro w hSw
   have q0 := (HSA.out.kept hSw).cell 0
   have q1 := (HSA.out.kept hSw).cell 1
   have q2 := (HSA.out.kept hSw).cell 2
   have q3 := (HSA.out.kept hSw).cell 3
   have q4 := (HSA.out.kept hSw).cell 4
   have q5 := (HSA.out.kept hSw).cell 5
   simp at q0 q1 q2 q3 q4 q5
   go_simp
   try with_reducible rfl
  simp only [Act.put, z1, z2, z3, z4, z5, z6]
  refine tkH (i := 5) (v := ?_) rfl (by kernel_rfl) (fun _ _ _ h => h) (Or.inl ⟨by rfl, ?_⟩) (by assumption) ?_
  rotate_left
  ·intro w hSw
   try dsimp only at hSw
   go_simp
   try with_reducible rfl
  simp only [Act.put, z1, z2, z3, z4, z5, z6]
  refine tkH (i := 6) (v := ?_) rfl (by kernel_rfl) (fun _ _ _ h => h) (Or.inl ⟨by rfl, ?_⟩) (by assumption) ?_
  rotate_left
  ·intro w hSw
   try dsimp only at hSw
   go_simp
   try with_reducible rfl
  simp only [Act.put, z1, z2, z3, z4, z5, z6]
  refine tkH (i := 7) (v := ?_) rfl (by kernel_rfl) (fun _ _ _ h => h) (Or.inl ⟨by rfl, ?_⟩) (by assumption) ?_
  rotate_left
  ·intro w hSw
   try dsimp only at hSw
   go_simp
   try with_reducible rfl
  simp only [Act.put, z1, z2, z3, z4, z5, z6]
  refine tkH (i := 8) (v := ?_) rfl (by kernel_rfl) (fun _ _ _ h => h) (Or.inl ⟨by rfl, ?_⟩) (by assumption) ?_
  rotate_left
  ·intro w hSw
   have q0 := (HSA.out.kept hSw).cell 0
   have q1 := (HSA.out.kept hSw).cell 1
   have q2 := (HSA.out.kept hSw).cell 2
   have q3 := (HSA.out.kept hSw).cell 3
   have q4 := (HSA.out.kept hSw).cell 4
   have q5 := (HSA.out.kept hSw).cell 5
   simp at q0 q1 q2 q3 q4 q5
   go_simp
   try with_reducible rfl
  simp only [Act.put, z1, z2, z3, z4, z5, z6]
  refine wpAnyH_ready (rs := [9]) (by kernel_rfl) (by simp) ?_
  refine AllReadyH.cons rfl (fun Kc hKc => ?_) AllReadyH.nil
  go_simp
  go_wp2_with (go_at_call 26; refine (PK.out _).mono ?_; rintro e w4 ⟨rfl, hb'⟩)
  refine hKc.out _ _ ?_ (fun hHeld => ?_)
  ·first | exact btr hHeld hb' | exact hHeld
  clear hKc Kc
  refine tkH (i := 10) (v := ?_) rfl (by kernel_rfl) (fun _ _ _ h => h) (Or.inl ⟨by rfl, ?_⟩) (by assumption) ?_
  rotate_left
  ·intro w hSw
   try dsimp only at hSw
   go_simp
   try with_reducible rfl
  simp only [Act.put, z1, z2, z3, z4, z5, z6]
  refine wpAnyH_done (by kernel_rfl) ?_ _
  have HB4 := Lib.hid hHeld
  clear hHeld hb'
  go_wp2_with fail
  refine wp_region_still_tail 9 (by kernel_rfl) (by kernel_rfl) ?_
  simp only [List.take_succ_cons, List.take_zero, List.drop_succ_cons, List.drop_zero]
  have HB5 : Hid (Below w.heap.size w { heap := w4.heap, tape := w4.tape, drawn := w4.drawn + 1, os := w4.os, output := w4.output }) := Lib.hid (below_drewN HB4.out 1)
  generalize ({ heap := w4.heap, tape := w4.tape, drawn := w4.drawn + 1, os := w4.os, output := w4.output } : World) = wd at *
  have q0 := (HSA.out.kept HB5.out).cell 0
  have q1 := (HSA.out.kept HB5.out).cell 1
  have q2 := (HSA.out.kept HB5.out).cell 2
  have q3 := (HSA.out.kept HB5.out).cell 3
  have q4 := (HSA.out.kept HB5.out).cell 4
  have q5 := (HSA.out.kept HB5.out).cell 5
  simp at q0 q1 q2 q3 q4 q5
  repeat still_step
  refine wpStill_nil ?_
  go_wp2_with fail
  with_reducible refine (PC.out _).mono ?_
  rintro e w5 ⟨gc, cc, rfl, hrow, hb⟩
  have HB6 := Lib.hid (btr HB5.out hb)
  have HG6 : Hid (RefIs w5 N G v B K R W zs) := Lib.hid (HG.out.kept HB6.out)
  have PR := Lib.hid (rchange_yes w5 N G v B K R W zs (colsZ W s l k R) x _ HG6.out hrow HM.out hx HFIT.out)
  clear hrow hb q0 q1 q2 q3 q4 q5
  have q3 := (HSA.out.kept HB6.out).cell 3
  have q6 := (HSA.out.kept HB6.out).cell 6
  simp at q3 q6
  go_wp2_with fail
  with_reducible refine PR.out.mono ?_
  intro e w6 hpost
  have hres : e = .returned (.int .i64 qe) ∧ RefIs w6 N G v B K R W qu ∧ RGr w w6 B R := by
   rcases hpost with ⟨h1, h2, h3, h4⟩ | ⟨h1, h2, h3⟩
   ·have e0 : qe = 0 := by rw [HE.out, if_pos h1]
    exact ⟨by rw [h2, e0], by rw [HU.out, if_pos e0]; exact h3, (RGr.of_below HB6.out).trans h4⟩
   ·have e0 : qe = 4 := by rw [HE.out, if_neg h1]
    exact ⟨by rw [h2, e0], by rw [HU.out, if_neg (by omega)]; exact HG6.out.kept h3, RGr.of_below (btr HB6.out h3)⟩
  obtain ⟨rfl, hr1, hr2⟩ := hres
  have HR1 := Lib.hid hr1
  have HR2 := Lib.hid hr2
  clear hr1 hr2 hpost q3 q6
  go_wp2
  go_ret
  exact ⟨rfl, HR1.out, HR2.out⟩
theorem rskupdate (w : World) (SA N G : Nat) (v : Value) (B K : Nat → Nat) (b m s l : Int) (R W : Nat) (zs : List Int) (hSA : Blk w SA 118 #[.int .i64 b, .int .i64 (R : Int), .int .i64 (W : Int), .int .i64 m, .int .u64 s, .int .i64 l, .pointer (some ⟨G, 0, none⟩)]) (hG : RefIs w N G v B K R W zs) (hfit : Fit zs)
    (hR : 0 < R) (hW : 0 < W) (s0 : 0 ≤ s) (s1 : s ≤ 18446744073709551615) (k x : Int) (k0 : 0 ≤ k) (k1 : k ≤ 18446744073709551615) (hx : In64 x) :
    Calls Tryz.prog 58 #[.pointer (some ⟨SA, 0, none⟩), .int .u64 k, .int .i64 x] w (RSkUpPost w N G v B K b m s l R W zs k x) := by
  by_cases hk : keysI b R W m l ≤ k
  · refine (rskupdate_none w SA N G v B K b m s l R W zs hSA k x hk).mono fun e w' ⟨h1, h2⟩ => ?_
    have e0 : skErr b R W m s l zs k x = 2 := by unfold skErr; rw [if_pos hk]
    have e1 : skUpd b R W m s l zs k x = zs := by unfold skUpd; rw [if_neg (by omega)]
    exact ⟨by rw [h1, e0], by rw [e1]; exact hG.kept h2, RGr.of_below h2⟩
  · exact rskupdate_in w SA N G v B K b m s l R W zs hSA hG hfit hR hW s0 s1 k x k0 k1 hx (by omega)
end Go.Proofs.YthbkljeibmkimaaGreat


namespace Go.Proofs.YthbkljeibmkimaaGreat
open Go.RowKit
set_option linter.unusedVariables false
set_option linter.unusedSimpArgs false

theorem nat_of_right {b r d m : Int} (hr : rightB b r d m = true) : ∃ R W : Nat, r = (R : Int) ∧ d = (W : Int) ∧ 0 < R ∧ R ≤ 8 ∧ 0 < W ∧ W ≤ 128 := by
  have h := right_of hr
  exact ⟨r.toNat, d.toNat, by omega, by omega, by omega, by omega, by omega, by omega⟩
def RLvCPost (w : World) (b r d m s l : Int) (zs : List Int) (e : Ending) (w' : World) : Prop :=
  ∃ P, e = .returned (.pointer (some ⟨P, 0, none⟩)) ∧ RLevIs w' (Btw w.heap.size w'.heap.size) P b r d m s l zs ∧ Below w.heap.size w w'
set_option maxRecDepth 100000 in
set_option maxHeartbeats 4000000 in
theorem rlcopy (w : World) (F : Nat → Prop) (P : Nat) (b r d m s l : Int) (zs : List Int) (h : RLevIs w F P b r d m s l zs) (hr : rightB b r d m = true) :
  Calls Tryz.prog 56 #[.pointer (some ⟨P, 0, none⟩)] w (RLvCPost w b r d m s l zs) := by
 rcases h with ⟨hex, RA, LA, hP, hA, hlen, -, -, -⟩ | ⟨hex, SA, G, v, B, K, N, hP, hS, hG, -, -, -, -, -⟩
 ·have hK : zs.length ≤ 128 := by
   have := of_decide_eq_true hex
   have := right_of hr
   omega
  have c0 := hP.cell 0
  simp at c0
  have PC := Lib.hid (rxcopy w RA LA b r d m s l zs hA hK)
  have HEX := Lib.hid hex
  have HLEN := Lib.hid hlen
  clear hex hlen hP hA hK hr
  go_enter Tryz.func56, Tryz.ntmps56
  go_wp2_with fail
  with_reducible refine PC.out.mono ?_
  rintro e w4 ⟨RA2, LA2, rfl, hRA, hLA, hra, hb⟩
  have HRA := Lib.hid hra
  have HLO : Hid (w.heap.size ≤ RA2 ∧ w.heap.size ≤ LA2) := Lib.hid ⟨hRA, hLA⟩
  have HB4 := Lib.hid hb
  have HNEW := Lib.hid (Blk.new w4 113 #[.pointer (some ⟨RA2, 0, none⟩), .pointer none])
  have HAL : Hid (Below w4.heap.size w4 (w4.alloc (.cells #[.pointer (some ⟨RA2, 0, none⟩), .pointer none] 113))) := Lib.hid (below_alloc1 _ _)
  have HRA5 := Lib.hid (HRA.out.kept HAL.out)
  have HB5 := Lib.hid (btr HB4.out HAL.out)
  have hsz4 := HB4.out.size
  clear hra hb hRA hLA c0
  go_wp2
  go_ret
  exact ⟨w4.heap.size, rfl, .inl ⟨HEX.out, RA2, LA2, HNEW.out, HRA5.out, HLEN.out, ⟨hsz4, HNEW.out.lt⟩, ⟨HLO.out.1, HRA5.out.ltR⟩, ⟨HLO.out.2, HRA5.out.ltL⟩⟩, HB5.out⟩
 ·obtain ⟨R, W, rfl, rfl, h1, h2, h3, h4⟩ := nat_of_right hr
  rw [Int.toNat_natCast, Int.toNat_natCast] at hG
  have c0 := hP.cell 0
  have c1 := hP.cell 1
  simp at c0 c1
  have PC := Lib.hid (rskcopy w SA G N v B K b m s l R W zs hr hS hG)
  have HEX := Lib.hid hex
  clear hex hP hS hG hr
  go_enter Tryz.func56, Tryz.ntmps56
  go_wp2_with fail
  with_reducible refine PC.out.mono ?_
  rintro e w3 ⟨SA2, G2, v2, B2, K2, rfl, hSA, hsk, hrf, hb⟩
  have HB3 := Lib.hid hb
  have HSK := Lib.hid hsk
  have HRF := Lib.hid hrf
  have HSA := Lib.hid hSA
  clear hb hsk hrf hSA c0 c1
  have HNEW := Lib.hid (Blk.new w3 113 #[.pointer none, .pointer (some ⟨SA2, 0, none⟩)])
  have HAL : Hid (Below w3.heap.size w3 (w3.alloc (.cells #[.pointer none, .pointer (some ⟨SA2, 0, none⟩)] 113))) := Lib.hid (below_alloc1 _ _)
  have HSK4 := Lib.hid (HSK.out.kept HAL.out)
  have HRF4 := Lib.hid (HRF.out.kept HAL.out)
  have HB4 := Lib.hid (btr HB3.out HAL.out)
  have hsz3 := HB3.out.size
  go_wp2
  go_ret
  exact ⟨w3.heap.size, rfl, .inr ⟨HEX.out, SA2, G2, v2, B2, K2, _, HNEW.out, HSK4.out, HRF4.out, ⟨hsz3, HNEW.out.lt⟩, ⟨HSA.out, HSK4.out.lt⟩, HRF4.out.inside.1, HRF4.out.inside.2.1, fun i hi => HRF4.out.inside.2.2 i (by simpa using hi)⟩, HB4.out⟩
def RLvUpPost (w : World) (F : Nat → Prop) (P : Nat) (b r d m s l : Int) (zs : List Int) (k : Nat) (x : Int) (e : Ending) (w' : World) : Prop :=
  e = .returned (.int .i64 (lvErr b r d m s l zs k x)) ∧ RLevIs w' F P b r d m s l (lvUpd b r d m s l zs k x) ∧ Only F w w'
set_option maxRecDepth 100000 in
set_option maxHeartbeats 4000000 in
theorem rlupdate (w : World) (F : Nat → Prop) (P : Nat) (b r d m s l : Int) (zs : List Int) (h : RLevIs w F P b r d m s l zs) (hfit : Fit zs) (hr : rightB b r d m = true) (s0 : 0 ≤ s) (s1 : s ≤ 18446744073709551615) (k : Nat) (hk : k < 18446744073709551616) (x : Int) (hx : In64 x) :
  Calls Tryz.prog 28 #[.pointer (some ⟨P, 0, none⟩), .int .u64 (k : Int), .int .i64 x] w (RLvUpPost w F P b r d m s l zs k x) := by
 rcases h with ⟨hex, RA, LA, hP, hA, hlen, f1, f2, f3⟩ | ⟨hex, SA, G, v, B, K, N, hP, hS, hG, f1, f2, f3, f4, f5⟩
 ·have hK : zs.length ≤ 128 := by
   have := of_decide_eq_true hex
   have := right_of hr
   omega
  have e1 : lvErr b r d m s l zs k x = chkI zs.length m zs k x := by unfold lvErr; rw [if_pos hex, hlen]
  have e2 : lvUpd b r d m s l zs k x = updZ zs.length m zs k x := by unfold lvUpd; rw [if_pos hex, hlen]
  have e3 : (updZ zs.length m zs k x).length = zs.length := by unfold updZ; split <;> simp
  have c0 := hP.cell 0
  simp at c0
  have PU := Lib.hid (rxupdate w RA LA b r d m s l k zs x hA hK hfit hx hk)
  have HFIN : Hid (∀ e w', RUpPost w RA LA b r d m s l zs k x e w' → RLvUpPost w F P b r d m s l zs k x e w') := Lib.hid (fun e w' ⟨q1, q2, q3⟩ => by
   obtain ⟨cp, cu, hc, h5, h6, h7⟩ := hA
   exact ⟨by rw [q1, e1], .inl ⟨hex, RA, LA, hP.grown q3 (by simpa using hP.ne_ h6 (by decide)), by rw [e2]; exact q2, by rw [e2, e3, hlen], f1, f2, f3⟩, Only.of_gr q3 f3⟩)
  clear hex hlen hP hA hK hr e1 e2 e3 hfit
  go_enter Tryz.func28, Tryz.ntmps28
  go_wp2_with fail
  with_reducible refine PU.out.mono ?_
  intro e w4 hp
  have hq := hp.1
  subst hq
  have HP := Lib.hid (HFIN.out _ _ hp)
  clear hp c0
  go_wp2
  go_ret
  exact HP.out
 ·obtain ⟨R, W, rfl, rfl, h1, h2, h3, h4⟩ := nat_of_right hr
  rw [Int.toNat_natCast, Int.toNat_natCast] at hG
  have e1 : lvErr b R W m s l zs k x = skErr b R W m s l zs (k : Int) x := by unfold lvErr; rw [if_neg (by rw [hex]; decide)]
  have e2 : lvUpd b R W m s l zs k x = skUpd b R W m s l zs (k : Int) x := by unfold lvUpd; rw [if_neg (by rw [hex]; decide)]
  have c0 := hP.cell 0
  have c1 := hP.cell 1
  simp at c0 c1
  have PU := Lib.hid (rskupdate w SA N G v B K b m s l R W zs hS hG hfit h1 h3 s0 s1 (k : Int) x (by omega) (by omega) hx)
  have HFIN : Hid (∀ e w', RSkUpPost w N G v B K b m s l R W zs (k : Int) x e w' → RLvUpPost w F P b R W m s l zs k x e w') := Lib.hid (fun e w' ⟨q1, q2, q3⟩ => by
   have hk : ∀ {g : Nat} {t : TypeId} {cs : Array Value}, Blk w g t cs → 2 ≠ t → Blk w' g t cs := fun {g t cs} hb ht => (q3.block g hb.lt (fun i hi e => by
    obtain ⟨cu, hc, -⟩ := hG.cells i hi
    rw [← e] at hc
    exact hc.ne_ hb ht rfl)).trans hb
   exact ⟨by rw [q1, e1], .inr ⟨hex, SA, G, v, B, K, N, hk hP (by decide), hk hS (by decide), by rw [e2, Int.toNat_natCast, Int.toNat_natCast]; exact q2, f1, f2, f3, f4, f5⟩, q3.os, q3.tape, q3.output, q3.size, fun g hg hn => q3.block g hg (fun i hi e => hn (by rw [e]; exact f5 i (by simpa using hi)))⟩)
  clear hex hP hS hG hr e1 e2 hfit
  go_enter Tryz.func28, Tryz.ntmps28
  go_wp2_with fail
  with_reducible refine PU.out.mono ?_
  intro e w4 hp
  have hq := hp.1
  subst hq
  have HP := Lib.hid (HFIN.out _ _ hp)
  clear hp c0 c1
  go_wp2
  go_ret
  exact HP.out
end Go.Proofs.YthbkljeibmkimaaGreat


namespace Go.Proofs.YthbkljeibmkimaaGreat
open Go.RowKit
set_option linter.unusedVariables false
set_option linter.unusedSimpArgs false

def RStCPost (w : World) (b r d m s : Int) (Z : Nat → List Int) (e : Ending) (w' : World) : Prop :=
  ∃ RS RL P F, e = .returned (.pointer (some ⟨RS, 0, none⟩)) ∧ w.heap.size ≤ RS ∧ RStIs w' w.heap.size RS RL b r d m s P F Z ∧ Below w.heap.size w w'
set_option maxRecDepth 100000 in
set_option maxHeartbeats 8000000 in
theorem rstcopy (w : World) (base0 RS0 RL0 : Nat) (b r d m s : Int) (P0 : Nat → Nat) (F0 : Nat → Nat → Prop) (Z : Nat → List Int) (h : RStIs w base0 RS0 RL0 b r d m s P0 F0 Z) :
  Calls Tryz.prog 27 #[.pointer (some ⟨RS0, 0, none⟩)] w (RStCPost w b r d m s Z) := by
 obtain ⟨i0, hi, hz0, hz1, hz2⟩ := info_parts Tryz.infoRL
 have hr := h.right
 have HR := Lib.hid hr
 have hb59 := right_of hr
 obtain ⟨n, hn⟩ : ∃ n : Nat, b = (n : Int) := ⟨b.toNat, by omega⟩
 subst hn
 have hn59 : n ≤ 59 := by omega
 have H := Lib.hid h
 obtain ⟨cap0, hbx0, hcap0⟩ := h.box
 obtain ⟨cur0, hrow0, hcur0⟩ := h.row
 rw [Int.toNat_natCast] at hbx0 hcap0 hcur0
 have HBX0 := Lib.hid hbx0
 have HROW0 := Lib.hid hrow0
 have HCUR0 := Lib.hid hcur0
 have c0 := hbx0.cell 0
 have c1 := hbx0.cell 1
 have c2 := hbx0.cell 2
 have c3 := hbx0.cell 3
 have c4 := hbx0.cell 4
 simp at c0 c1 c2 c3 c4
 have HSB := Lib.hid (Blk.new w 58 #[.int .i64 (n : Int), .int .i64 r, .int .i64 d, .int .i64 m, .int .u64 s, .slice none 0 0])
 have HB2 := Lib.hid (below_alloc1 w (.cells #[.int .i64 (n : Int), .int .i64 r, .int .i64 d, .int .i64 m, .int .u64 s, .slice none 0 0] 58))
 clear hb59 hr h hbx0 hrow0 hcur0
 go_enter Tryz.func27, Tryz.ntmps27
 go_wp2_with fail
 clear c0 c1 c2 c3 c4
 generalize w.alloc (.cells #[.int .i64 (n : Int), .int .i64 r, .int .i64 d, .int .i64 m, .int .u64 s, .slice none 0 0] 58) = w2 at *
 obtain ⟨RS, hRS⟩ : ∃ RS, RS = w.heap.size := ⟨_, rfl⟩
 rw [← hRS] at HSB ⊢
 have HRS := Lib.hid hRS
 have hRS1 : w.heap.size ≤ RS := by omega
 clear hRS
 go_loopw [4] (fun i wr => ∃ (j : Nat) (P : Nat → Nat) (F : Nat → Nat → Prop) (v : Value), j ≤ n + 1 ∧ i = .int .i64 (j : Int) ∧ Blk wr RS 58 #[.int .i64 (n : Int), .int .i64 r, .int .i64 d, .int .i64 m, .int .u64 s, v] ∧ RLevsB wr w.heap.size RS v (n : Int) r d m s P F Z j ∧ Below w.heap.size w wr) (fun i _ => n + 1 - (intOf i).toNat)
 case atStart => exact ⟨0, fun _ => 0, fun _ _ => False, _, by omega, rfl, HSB.out, RLevsB.zero _ _ _ _ _ _ _ _ _ _ _, HB2.out⟩
 case round =>
  obtain ⟨j, P, F, v, hj, rfl, hs, hlv, hbel⟩ := hrel
  obtain ⟨vo, vl, vc, rfl⟩ := hlv.open2
  have HS := Lib.hid (hs.drewN 1)
  have HLV := Lib.hid (hlv.kept (below_drewN (Below.refl _ _) 1))
  have HB := Lib.hid (below_drewN hbel 1)
  have HS0 := Lib.hid hs
  have HLV0 := Lib.hid hlv
  have HB0 := Lib.hid hbel
  have hRSl := hs.lt
  have q5 := (HBX0.out.kept hbel).cell 5
  simp at q5
  clear hs hlv hbel HSB HB2
  by_cases hlt : j < n + 1
  ·have i1 : (j : Int) < (n : Int) + 1 := by omega
   have i0' : (0 : Int) ≤ (j : Int) := by omega
   have hjn : j ≤ (n : Int).toNat := by rw [Int.toNat_natCast]; omega
   have hlev := H.out.lev j hjn
   have PN2 : Hid (∀ w', Below w.heap.size w w' → Calls Tryz.prog 56 #[.pointer (some ⟨P0 j, 0, none⟩)] w' (RLvCPost w' (n : Int) r d m s (j : Int) (Z j))) := Lib.hid (fun w' hb => rlcopy w' (F0 j) (P0 j) _ r d m s _ (Z j) (hlev.frame (fun k hk => hb.block k (H.out.fin j k hjn hk).2)) HR.out)
   have HZZ : Hid (upN Z j (Z j) = Z) := Lib.hid (by
    funext k
    by_cases e : k = j
    ·subst e; exact upN_same _ _ _
    ·exact upN_other _ _ e)
   clear hlev
   go_wp2_with fail
   clear q5
   have k5 := HS.out.cell 5
   simp at k5
   refine wp_region_held_drew (S := fun w' => (∃ x, Blk w' RS 58 #[.int .i64 (n : Int), .int .i64 r, .int .i64 d, .int .i64 m, .int .u64 s, x]) ∧ Below w.heap.size w w') (by kernel_rfl) (by exact ⟨⟨_, HS.out⟩, HB.out⟩) (fun hHeld => ?_)
   refine tkH (i := 0) (v := ?_) rfl (by kernel_rfl) (fun _ _ _ h => h) (Or.inl ⟨by rfl, ?_⟩) (by assumption) ?_
   rotate_left
   ·intro w hSw
    try dsimp only at hSw
    go_simp
    try with_reducible rfl
   simp only [Act.put, z1, z2, z3, z4, z5, z6]
   refine tkH (i := 1) (v := ?_) rfl (by kernel_rfl) (fun _ _ _ h => h) (Or.inl ⟨by rfl, ?_⟩) (by assumption) ?_
   rotate_left
   ·intro w hSw
    try dsimp only at hSw
    go_simp
    try with_reducible rfl
   simp only [Act.put, z1, z2, z3, z4, z5, z6]
   refine tkH (i := 2) (v := ?_) rfl (by kernel_rfl) (fun _ _ _ h => h) (Or.inl ⟨by rfl, ?_⟩) (by assumption) ?_
   rotate_left
   ·intro w hSw
    try dsimp only at hSw
    go_simp
    try with_reducible rfl
   simp only [Act.put, z1, z2, z3, z4, z5, z6]
   refine tkH (i := 3) (v := ?_) rfl (by kernel_rfl) (fun _ _ _ h => h) (Or.inl ⟨by rfl, ?_⟩) (by assumption) ?_
   rotate_left
   ·intro w hSw
    try dsimp only at hSw
    go_simp
    try with_reducible rfl
   simp only [Act.put, z1, z2, z3, z4, z5, z6]
   refine tkH (i := 5) (v := ?_) rfl (by kernel_rfl) (fun _ _ _ h => h) (Or.inl ⟨by rfl, ?_⟩) (by assumption) ?_
   rotate_left
   ·intro w hSw
    try dsimp only at hSw
    go_simp
    try with_reducible rfl
   simp only [Act.put, z1, z2, z3, z4, z5, z6]
   refine tkH (i := 6) (v := ?_) rfl (by kernel_rfl) (fun _ _ _ h => h) (Or.inl ⟨by rfl, ?_⟩) (by assumption) ?_
   rotate_left
   ·intro w hSw
    try dsimp only at hSw
    go_simp
    try with_reducible rfl
   simp only [Act.put, z1, z2, z3, z4, z5, z6]
   refine tkH (i := 7) (v := ?_) rfl (by kernel_rfl) (fun _ _ _ h => h) (Or.inl ⟨by rfl, ?_⟩) (by assumption) ?_
   rotate_left
   ·intro w hSw
    try dsimp only at hSw
    go_simp
    try with_reducible rfl
   simp only [Act.put, z1, z2, z3, z4, z5, z6]
   refine tkH (i := 8) (v := ?_) rfl (by kernel_rfl) (fun _ _ _ h => h) (Or.inl ⟨by rfl, ?_⟩) (by assumption) ?_
   rotate_left
   ·intro w hSw
    have q6 := (HBX0.out.kept hSw.2).cell 5
    have q7 := ((HROW0.out.kept hSw.2).cell j).trans (HCUR0.out j (by omega))
    simp at q6
    go_simp
    try with_reducible rfl
   simp only [Act.put, z1, z2, z3, z4, z5, z6]
   refine tkH (i := 9) (v := ?_) rfl (by kernel_rfl) (fun _ _ _ h => h) (Or.inl ⟨by rfl, ?_⟩) (by assumption) ?_
   rotate_left
   ·intro w hSw
    try dsimp only at hSw
    go_simp
    try with_reducible rfl
   simp only [Act.put, z1, z2, z3, z4, z5, z6]
   refine tkH (i := 10) (v := ?_) rfl (by kernel_rfl) (fun _ _ _ h => h) (Or.inl ⟨by rfl, ?_⟩) (by assumption) ?_
   rotate_left
   ·intro w hSw
    try dsimp only at hSw
    go_simp
    try with_reducible rfl
   simp only [Act.put, z1, z2, z3, z4, z5, z6]
   refine tkH (i := 11) (v := ?_) rfl (by kernel_rfl) (fun _ _ _ h => h) (Or.inl ⟨by rfl, ?_⟩) (by assumption) ?_
   rotate_left
   ·intro w hSw
    have q6 := (HBX0.out.kept hSw.2).cell 5
    have q7 := ((HROW0.out.kept hSw.2).cell j).trans (HCUR0.out j (by omega))
    simp at q6
    go_simp
    try with_reducible rfl
   simp only [Act.put, z1, z2, z3, z4, z5, z6]
   refine wpAnyH_ready (rs := [4, 12]) (by kernel_rfl) (by simp) ?_
   refine AllReadyH.cons rfl (fun Kc hKc => ?_) (AllReadyH.cons rfl (fun Kc hKc => ?_) AllReadyH.nil)
   ·go_simp
    refine hKc.out _ _ ?_ (fun hHeld => ?_)
    ·first | exact hHeld | exact ⟨⟨_, HS4.out⟩, HB4.out⟩ | exact ⟨⟨_, HS4.out.set_ 5 _⟩, HB4.out.setCell (p := ⟨RS, 5, none⟩) hRS1 _⟩ | exact ⟨⟨_, HS.out.kept hb'⟩, btr hHeld.2 hb'⟩ | exact ⟨by obtain ⟨x, hx⟩ := hHeld.1; exact ⟨x, hx.alloc _⟩, hHeld.2.alloc hHeld.2.size _⟩
    clear hKc Kc
    refine wpAnyH_ready (rs := [12]) (by kernel_rfl) (by simp) ?_
    refine AllReadyH.cons rfl (fun Kc hKc => ?_) AllReadyH.nil
    go_simp
    go_wp2_with (go_at_call 56; refine (PN2.out _ (by assumption)).mono ?_; rintro e w3 ⟨p, rfl, hlv3, hb'⟩; have HL3 := Lib.hid hlv3; have HBK := Lib.hid hb'; have k5' := (HS.out.kept hb').cell 5; simp at k5'; have k6' := ((HS.out.kept hb').alloc (.cells #[.pointer (some ⟨p, 0, none⟩)] 55)).cell 5; simp at k6'; clear hlv3)
    refine hKc.out _ _ ?_ (fun hHeld => ?_)
    ·first | exact hHeld | exact ⟨⟨_, HS4.out⟩, HB4.out⟩ | exact ⟨⟨_, HS4.out.set_ 5 _⟩, HB4.out.setCell (p := ⟨RS, 5, none⟩) hRS1 _⟩ | exact ⟨⟨_, HS.out.kept hb'⟩, btr hHeld.2 hb'⟩ | exact ⟨by obtain ⟨x, hx⟩ := hHeld.1; exact ⟨x, hx.alloc _⟩, hHeld.2.alloc hHeld.2.size _⟩
    clear hKc Kc
    refine wpAnyH_ready (rs := [13]) (by kernel_rfl) (by simp) ?_
    refine AllReadyH.cons rfl (fun Kc hKc => ?_) AllReadyH.nil
    go_simp
    refine hKc.out _ _ ?_ (fun hHeld => ?_)
    ·first | exact hHeld | exact ⟨⟨_, HS4.out⟩, HB4.out⟩ | exact ⟨⟨_, HS4.out.set_ 5 _⟩, HB4.out.setCell (p := ⟨RS, 5, none⟩) hRS1 _⟩ | exact ⟨⟨_, HS.out.kept hb'⟩, btr hHeld.2 hb'⟩ | exact ⟨by obtain ⟨x, hx⟩ := hHeld.1; exact ⟨x, hx.alloc _⟩, hHeld.2.alloc hHeld.2.size _⟩
    clear hKc Kc
    refine wpAnyH_ready (rs := [14]) (by kernel_rfl) (by simp) ?_
    refine AllReadyH.cons rfl (fun Kc hKc => ?_) AllReadyH.nil
    refine wp_append_own_at _ _ 56 rfl w.heap.size 55 i0 (.pointer none) 1 8 Tryz.underlying56 hi hz0 hz1 hz2 rfl (by decide) _ j _ rfl ((HLV.out.kept HBK.out).own.alloc _) ⟨w3.heap.size, 0, none⟩ 1 1 [.pointer (some ⟨p, 0, none⟩)] rfl rfl (cell_one_new _ _ _) (by simp [Value.oneCell']) (by unfold maxLen; omega) (by omega) (by have := (btr HB.out HBK.out).size; simp; omega) ?_; intro v' w4 hown' hgrow hnil' hq9; have HAL : Hid (Below w3.heap.size w3 (w3.alloc (.cells #[.pointer (some ⟨p, 0, none⟩)] 55))) := Lib.hid ((Below.refl _ _).alloc (Nat.le_refl _) _); have hpush := RLevsB.push ((HLV.out.kept HBK.out).kept HAL.out) (HL3.out.frame (fun k hk => HAL.out.block k hk.2)) (fun k hk => ⟨hk.1, Nat.lt_of_lt_of_le hk.2 HAL.out.size⟩) HB.out.size (fun q k hq hk => (HLV.out.fin q k hq hk).2) HS.out.lt (fun k hk => (HLV.out.own.lt k hk).2) hgrow hown' hq9; rw [HZZ.out] at hpush; have HS4 := Lib.hid (((HS.out.kept HBK.out).kept HAL.out).grown hgrow (Ne.symm (own_ne ((HLV.out.kept HBK.out).kept HAL.out).own ((HS.out.kept HBK.out).kept HAL.out) (by decide)))); have HB4 : Hid (Below w.heap.size w w4) := Lib.hid ((btr (btr HB.out HBK.out) HAL.out).grown hgrow (btr (btr HB.out HBK.out) HAL.out).size (fun k e => (HLV.out.own.lt k e).1)); obtain ⟨xo, xl, xc, rfl⟩ := hpush.open2; have HP := Lib.hid hpush; clear hpush hown' hgrow hnil' hq9 k5 k5' k6'
    refine hKc.out _ _ ?_ (fun hHeld => ?_)
    ·first | exact hHeld | exact ⟨⟨_, HS4.out⟩, HB4.out⟩ | exact ⟨⟨_, HS4.out.set_ 5 _⟩, HB4.out.setCell (p := ⟨RS, 5, none⟩) hRS1 _⟩ | exact ⟨⟨_, HS.out.kept hb'⟩, btr hHeld.2 hb'⟩ | exact ⟨by obtain ⟨x, hx⟩ := hHeld.1; exact ⟨x, hx.alloc _⟩, hHeld.2.alloc hHeld.2.size _⟩
    clear hKc Kc
    refine tkH (i := 15) (v := ?_) rfl (by kernel_rfl) (fun _ _ _ h => h) (Or.inl ⟨by rfl, ?_⟩) (by assumption) ?_
    rotate_left
    ·intro w hSw
     try dsimp only at hSw
     go_simp
     try with_reducible rfl
    simp only [Act.put, z1, z2, z3, z4, z5, z6]
    refine tkH (i := 16) (v := ?_) rfl (by kernel_rfl) (fun _ _ _ h => h) (Or.inl ⟨by rfl, ?_⟩) (by assumption) ?_
    rotate_left
    ·intro w hSw
     try dsimp only at hSw
     go_simp
     try with_reducible rfl
    simp only [Act.put, z1, z2, z3, z4, z5, z6]
    refine wpAnyH_ready (rs := [17]) (by kernel_rfl) (by simp) ?_
    refine AllReadyH.cons rfl (fun Kc hKc => ?_) AllReadyH.nil
    have k7 := HS4.out.cell 5; have fz7 := HS4.out.frozen 5; simp at k7; go_simp
    refine hKc.out _ _ ?_ (fun hHeld => ?_)
    ·first | exact hHeld | exact ⟨⟨_, HS4.out⟩, HB4.out⟩ | exact ⟨⟨_, HS4.out.set_ 5 _⟩, HB4.out.setCell (p := ⟨RS, 5, none⟩) hRS1 _⟩ | exact ⟨⟨_, HS.out.kept hb'⟩, btr hHeld.2 hb'⟩ | exact ⟨by obtain ⟨x, hx⟩ := hHeld.1; exact ⟨x, hx.alloc _⟩, hHeld.2.alloc hHeld.2.size _⟩
    clear hKc Kc
    refine wpAnyH_done (by kernel_rfl) ?_ _
    clear hHeld
    go_wp2
    go_roundw
    case rel => exact ⟨j + 1, _, _, _, by omega, by go_num, by simpa using HS4.out.set_ 5 (.slice xo xl xc), HP.out.far HS4.out 5 _, HB4.out.setCell (p := ⟨RS, 5, none⟩) hRS1 _⟩
    case measure => simp [intOf]; omega
   ·go_simp
    go_wp2_with (go_at_call 56; refine (PN2.out _ (by assumption)).mono ?_; rintro e w3 ⟨p, rfl, hlv3, hb'⟩; have HL3 := Lib.hid hlv3; have HBK := Lib.hid hb'; have k5' := (HS.out.kept hb').cell 5; simp at k5'; have k6' := ((HS.out.kept hb').alloc (.cells #[.pointer (some ⟨p, 0, none⟩)] 55)).cell 5; simp at k6'; clear hlv3)
    refine hKc.out _ _ ?_ (fun hHeld => ?_)
    ·first | exact hHeld | exact ⟨⟨_, HS4.out⟩, HB4.out⟩ | exact ⟨⟨_, HS4.out.set_ 5 _⟩, HB4.out.setCell (p := ⟨RS, 5, none⟩) hRS1 _⟩ | exact ⟨⟨_, HS.out.kept hb'⟩, btr hHeld.2 hb'⟩ | exact ⟨by obtain ⟨x, hx⟩ := hHeld.1; exact ⟨x, hx.alloc _⟩, hHeld.2.alloc hHeld.2.size _⟩
    clear hKc Kc
    refine wpAnyH_ready (rs := [4, 13]) (by kernel_rfl) (by simp) ?_
    refine AllReadyH.cons rfl (fun Kc hKc => ?_) (AllReadyH.cons rfl (fun Kc hKc => ?_) AllReadyH.nil)
    ·go_simp
     refine hKc.out _ _ ?_ (fun hHeld => ?_)
     ·first | exact hHeld | exact ⟨⟨_, HS4.out⟩, HB4.out⟩ | exact ⟨⟨_, HS4.out.set_ 5 _⟩, HB4.out.setCell (p := ⟨RS, 5, none⟩) hRS1 _⟩ | exact ⟨⟨_, HS.out.kept hb'⟩, btr hHeld.2 hb'⟩ | exact ⟨by obtain ⟨x, hx⟩ := hHeld.1; exact ⟨x, hx.alloc _⟩, hHeld.2.alloc hHeld.2.size _⟩
     clear hKc Kc
     refine wpAnyH_ready (rs := [13]) (by kernel_rfl) (by simp) ?_
     refine AllReadyH.cons rfl (fun Kc hKc => ?_) AllReadyH.nil
     go_simp
     refine hKc.out _ _ ?_ (fun hHeld => ?_)
     ·first | exact hHeld | exact ⟨⟨_, HS4.out⟩, HB4.out⟩ | exact ⟨⟨_, HS4.out.set_ 5 _⟩, HB4.out.setCell (p := ⟨RS, 5, none⟩) hRS1 _⟩ | exact ⟨⟨_, HS.out.kept hb'⟩, btr hHeld.2 hb'⟩ | exact ⟨by obtain ⟨x, hx⟩ := hHeld.1; exact ⟨x, hx.alloc _⟩, hHeld.2.alloc hHeld.2.size _⟩
     clear hKc Kc
     refine wpAnyH_ready (rs := [14]) (by kernel_rfl) (by simp) ?_
     refine AllReadyH.cons rfl (fun Kc hKc => ?_) AllReadyH.nil
     refine wp_append_own_at _ _ 56 rfl w.heap.size 55 i0 (.pointer none) 1 8 Tryz.underlying56 hi hz0 hz1 hz2 rfl (by decide) _ j _ rfl ((HLV.out.kept HBK.out).own.alloc _) ⟨w3.heap.size, 0, none⟩ 1 1 [.pointer (some ⟨p, 0, none⟩)] rfl rfl (cell_one_new _ _ _) (by simp [Value.oneCell']) (by unfold maxLen; omega) (by omega) (by have := (btr HB.out HBK.out).size; simp; omega) ?_; intro v' w4 hown' hgrow hnil' hq9; have HAL : Hid (Below w3.heap.size w3 (w3.alloc (.cells #[.pointer (some ⟨p, 0, none⟩)] 55))) := Lib.hid ((Below.refl _ _).alloc (Nat.le_refl _) _); have hpush := RLevsB.push ((HLV.out.kept HBK.out).kept HAL.out) (HL3.out.frame (fun k hk => HAL.out.block k hk.2)) (fun k hk => ⟨hk.1, Nat.lt_of_lt_of_le hk.2 HAL.out.size⟩) HB.out.size (fun q k hq hk => (HLV.out.fin q k hq hk).2) HS.out.lt (fun k hk => (HLV.out.own.lt k hk).2) hgrow hown' hq9; rw [HZZ.out] at hpush; have HS4 := Lib.hid (((HS.out.kept HBK.out).kept HAL.out).grown hgrow (Ne.symm (own_ne ((HLV.out.kept HBK.out).kept HAL.out).own ((HS.out.kept HBK.out).kept HAL.out) (by decide)))); have HB4 : Hid (Below w.heap.size w w4) := Lib.hid ((btr (btr HB.out HBK.out) HAL.out).grown hgrow (btr (btr HB.out HBK.out) HAL.out).size (fun k e => (HLV.out.own.lt k e).1)); obtain ⟨xo, xl, xc, rfl⟩ := hpush.open2; have HP := Lib.hid hpush; clear hpush hown' hgrow hnil' hq9 k5 k5' k6'
     refine hKc.out _ _ ?_ (fun hHeld => ?_)
     ·first | exact hHeld | exact ⟨⟨_, HS4.out⟩, HB4.out⟩ | exact ⟨⟨_, HS4.out.set_ 5 _⟩, HB4.out.setCell (p := ⟨RS, 5, none⟩) hRS1 _⟩ | exact ⟨⟨_, HS.out.kept hb'⟩, btr hHeld.2 hb'⟩ | exact ⟨by obtain ⟨x, hx⟩ := hHeld.1; exact ⟨x, hx.alloc _⟩, hHeld.2.alloc hHeld.2.size _⟩
     clear hKc Kc
     refine tkH (i := 15) (v := ?_) rfl (by kernel_rfl) (fun _ _ _ h => h) (Or.inl ⟨by rfl, ?_⟩) (by assumption) ?_
     rotate_left
     ·intro w hSw
      try dsimp only at hSw
      go_simp
      try with_reducible rfl
     simp only [Act.put, z1, z2, z3, z4, z5, z6]
     refine tkH (i := 16) (v := ?_) rfl (by kernel_rfl) (fun _ _ _ h => h) (Or.inl ⟨by rfl, ?_⟩) (by assumption) ?_
     rotate_left
     ·intro w hSw
      try dsimp only at hSw
      go_simp
      try with_reducible rfl
     simp only [Act.put, z1, z2, z3, z4, z5, z6]
     refine wpAnyH_ready (rs := [17]) (by kernel_rfl) (by simp) ?_
     refine AllReadyH.cons rfl (fun Kc hKc => ?_) AllReadyH.nil
     have k7 := HS4.out.cell 5; have fz7 := HS4.out.frozen 5; simp at k7; go_simp
     refine hKc.out _ _ ?_ (fun hHeld => ?_)
     ·first | exact hHeld | exact ⟨⟨_, HS4.out⟩, HB4.out⟩ | exact ⟨⟨_, HS4.out.set_ 5 _⟩, HB4.out.setCell (p := ⟨RS, 5, none⟩) hRS1 _⟩ | exact ⟨⟨_, HS.out.kept hb'⟩, btr hHeld.2 hb'⟩ | exact ⟨by obtain ⟨x, hx⟩ := hHeld.1; exact ⟨x, hx.alloc _⟩, hHeld.2.alloc hHeld.2.size _⟩
     clear hKc Kc
     refine wpAnyH_done (by kernel_rfl) ?_ _
     clear hHeld
     go_wp2
     go_roundw
     case rel => exact ⟨j + 1, _, _, _, by omega, by go_num, by simpa using HS4.out.set_ 5 (.slice xo xl xc), HP.out.far HS4.out 5 _, HB4.out.setCell (p := ⟨RS, 5, none⟩) hRS1 _⟩
     case measure => simp [intOf]; omega
    ·go_simp
     refine hKc.out _ _ ?_ (fun hHeld => ?_)
     ·first | exact hHeld | exact ⟨⟨_, HS4.out⟩, HB4.out⟩ | exact ⟨⟨_, HS4.out.set_ 5 _⟩, HB4.out.setCell (p := ⟨RS, 5, none⟩) hRS1 _⟩ | exact ⟨⟨_, HS.out.kept hb'⟩, btr hHeld.2 hb'⟩ | exact ⟨by obtain ⟨x, hx⟩ := hHeld.1; exact ⟨x, hx.alloc _⟩, hHeld.2.alloc hHeld.2.size _⟩
     clear hKc Kc
     refine wpAnyH_ready (rs := [4]) (by kernel_rfl) (by simp) ?_
     refine AllReadyH.cons rfl (fun Kc hKc => ?_) AllReadyH.nil
     go_simp
     refine hKc.out _ _ ?_ (fun hHeld => ?_)
     ·first | exact hHeld | exact ⟨⟨_, HS4.out⟩, HB4.out⟩ | exact ⟨⟨_, HS4.out.set_ 5 _⟩, HB4.out.setCell (p := ⟨RS, 5, none⟩) hRS1 _⟩ | exact ⟨⟨_, HS.out.kept hb'⟩, btr hHeld.2 hb'⟩ | exact ⟨by obtain ⟨x, hx⟩ := hHeld.1; exact ⟨x, hx.alloc _⟩, hHeld.2.alloc hHeld.2.size _⟩
     clear hKc Kc
     refine wpAnyH_ready (rs := [14]) (by kernel_rfl) (by simp) ?_
     refine AllReadyH.cons rfl (fun Kc hKc => ?_) AllReadyH.nil
     refine wp_append_own_at _ _ 56 rfl w.heap.size 55 i0 (.pointer none) 1 8 Tryz.underlying56 hi hz0 hz1 hz2 rfl (by decide) _ j _ rfl ((HLV.out.kept HBK.out).own.alloc _) ⟨w3.heap.size, 0, none⟩ 1 1 [.pointer (some ⟨p, 0, none⟩)] rfl rfl (cell_one_new _ _ _) (by simp [Value.oneCell']) (by unfold maxLen; omega) (by omega) (by have := (btr HB.out HBK.out).size; simp; omega) ?_; intro v' w4 hown' hgrow hnil' hq9; have HAL : Hid (Below w3.heap.size w3 (w3.alloc (.cells #[.pointer (some ⟨p, 0, none⟩)] 55))) := Lib.hid ((Below.refl _ _).alloc (Nat.le_refl _) _); have hpush := RLevsB.push ((HLV.out.kept HBK.out).kept HAL.out) (HL3.out.frame (fun k hk => HAL.out.block k hk.2)) (fun k hk => ⟨hk.1, Nat.lt_of_lt_of_le hk.2 HAL.out.size⟩) HB.out.size (fun q k hq hk => (HLV.out.fin q k hq hk).2) HS.out.lt (fun k hk => (HLV.out.own.lt k hk).2) hgrow hown' hq9; rw [HZZ.out] at hpush; have HS4 := Lib.hid (((HS.out.kept HBK.out).kept HAL.out).grown hgrow (Ne.symm (own_ne ((HLV.out.kept HBK.out).kept HAL.out).own ((HS.out.kept HBK.out).kept HAL.out) (by decide)))); have HB4 : Hid (Below w.heap.size w w4) := Lib.hid ((btr (btr HB.out HBK.out) HAL.out).grown hgrow (btr (btr HB.out HBK.out) HAL.out).size (fun k e => (HLV.out.own.lt k e).1)); obtain ⟨xo, xl, xc, rfl⟩ := hpush.open2; have HP := Lib.hid hpush; clear hpush hown' hgrow hnil' hq9 k5 k5' k6'
     refine hKc.out _ _ ?_ (fun hHeld => ?_)
     ·first | exact hHeld | exact ⟨⟨_, HS4.out⟩, HB4.out⟩ | exact ⟨⟨_, HS4.out.set_ 5 _⟩, HB4.out.setCell (p := ⟨RS, 5, none⟩) hRS1 _⟩ | exact ⟨⟨_, HS.out.kept hb'⟩, btr hHeld.2 hb'⟩ | exact ⟨by obtain ⟨x, hx⟩ := hHeld.1; exact ⟨x, hx.alloc _⟩, hHeld.2.alloc hHeld.2.size _⟩
     clear hKc Kc
     refine tkH (i := 15) (v := ?_) rfl (by kernel_rfl) (fun _ _ _ h => h) (Or.inl ⟨by rfl, ?_⟩) (by assumption) ?_
     rotate_left
     ·intro w hSw
      try dsimp only at hSw
      go_simp
      try with_reducible rfl
     simp only [Act.put, z1, z2, z3, z4, z5, z6]
     refine tkH (i := 16) (v := ?_) rfl (by kernel_rfl) (fun _ _ _ h => h) (Or.inl ⟨by rfl, ?_⟩) (by assumption) ?_
     rotate_left
     ·intro w hSw
      try dsimp only at hSw
      go_simp
      try with_reducible rfl
     simp only [Act.put, z1, z2, z3, z4, z5, z6]
     refine wpAnyH_ready (rs := [17]) (by kernel_rfl) (by simp) ?_
     refine AllReadyH.cons rfl (fun Kc hKc => ?_) AllReadyH.nil
     have k7 := HS4.out.cell 5; have fz7 := HS4.out.frozen 5; simp at k7; go_simp
     refine hKc.out _ _ ?_ (fun hHeld => ?_)
     ·first | exact hHeld | exact ⟨⟨_, HS4.out⟩, HB4.out⟩ | exact ⟨⟨_, HS4.out.set_ 5 _⟩, HB4.out.setCell (p := ⟨RS, 5, none⟩) hRS1 _⟩ | exact ⟨⟨_, HS.out.kept hb'⟩, btr hHeld.2 hb'⟩ | exact ⟨by obtain ⟨x, hx⟩ := hHeld.1; exact ⟨x, hx.alloc _⟩, hHeld.2.alloc hHeld.2.size _⟩
     clear hKc Kc
     refine wpAnyH_done (by kernel_rfl) ?_ _
     clear hHeld
     go_wp2
     go_roundw
     case rel => exact ⟨j + 1, _, _, _, by omega, by go_num, by simpa using HS4.out.set_ 5 (.slice xo xl xc), HP.out.far HS4.out 5 _, HB4.out.setCell (p := ⟨RS, 5, none⟩) hRS1 _⟩
     case measure => simp [intOf]; omega
  ·obtain rfl : j = n + 1 := by omega
   obtain ⟨RL, hst⟩ := HLV0.out.stack HR.out HS0.out
   have HST := Lib.hid hst
   clear hst hlt
   go_wp2
   go_ret
   exact ⟨RS, RL, P, F, rfl, hRS1, HST.out, HB0.out⟩
end Go.Proofs.YthbkljeibmkimaaGreat


namespace Go.Proofs.YthbkljeibmkimaaGreat
open Go.RowKit
set_option linter.unusedVariables false
set_option linter.unusedSimpArgs false

theorem RStIs.take {w : World} {base base2 RS RS2 RL2 n cap : Nat} {r d m s : Int} {P : Nat → Nat} {F : Nat → Nat → Prop} {Z : Nat → List Int} {x : Value} (h : RStIs w base2 RS2 RL2 (n : Int) r d m s P F Z) (hb : base ≤ base2) (hRS : RS < base2) (hx : Blk w RS 58 #[.int .i64 (n : Int), .int .i64 r, .int .i64 d, .int .i64 m, .int .u64 s, x])
    (hcap : n + 1 ≤ cap) : RStIs (w.setCell ⟨RS, 5, none⟩ (.slice (some ⟨RL2, 0, none⟩) (n + 1) cap)) base RS RL2 (n : Int) r d m s P F Z := by
  obtain ⟨cur, h3, h4⟩ := h.row
  have hne : RL2 ≠ RS := h3.ne_ hx (by decide)
  refine ⟨⟨cap, by simpa using hx.set_ 5 (.slice (some ⟨RL2, 0, none⟩) (n + 1) cap), by simpa using hcap⟩, h.right, ⟨cur, h3.far (by simpa using hne) _, h4⟩, fun j hj => ?_, fun j k hj hk => ?_, h.apart, fun j hj => ⟨fun hk => ?_, (h.out j hj).2⟩⟩
  · refine (h.lev j hj).frame (fun k hk => Below.heap_setCell _ _ _ k ?_)
    have := (h.fin j k hj hk).1
    simp
    omega
  · have := h.fin j k hj hk
    simp
    omega
  · have := (h.fin j RS hj hk).1
    omega
noncomputable def partU (b r d m s : Int) (Z : Nat → List Int) (k : Nat) (x : Int) (j n : Nat) : List Int := if n < j then lvUpd b r d m s (n : Int) (Z n) (k / 2 ^ n) x else Z n
theorem partU_next (b r d m s : Int) (Z : Nat → List Int) (k : Nat) (x : Int) (j : Nat) : upN (partU b r d m s Z k x j) j (lvUpd b r d m s (j : Int) (Z j) (k / 2 ^ j) x) = partU b r d m s Z k x (j + 1) := by
  funext n
  unfold partU
  by_cases e : n = j
  · subst e; rw [upN_same, if_pos (by omega)]
  · rw [upN_other _ _ e]
    by_cases e2 : n < j
    · rw [if_pos e2, if_pos (by omega)]
    · rw [if_neg e2, if_neg (by omega)]
theorem partU_zero (b r d m s : Int) (Z : Nat → List Int) (k : Nat) (x : Int) : partU b r d m s Z k x 0 = Z := by
  funext n
  unfold partU
  rw [if_neg (by omega)]
theorem RStIs.congr {w : World} {base RS RL : Nat} {b r d m s : Int} {P : Nat → Nat} {F : Nat → Nat → Prop} {Z Z' : Nat → List Int} (h : RStIs w base RS RL b r d m s P F Z) (e : ∀ n, n ≤ b.toNat → Z n = Z' n) : RStIs w base RS RL b r d m s P F Z' :=
  ⟨h.box, h.right, h.row, fun n hn => by rw [← e n hn]; exact h.lev n hn, h.fin, h.apart, h.out⟩
def RStUpPost (w : World) (base RS : Nat) (b r d m s : Int) (Z : Nat → List Int) (k : Nat) (x : Int) (e : Ending) (w' : World) : Prop :=
  ∃ RL P F, e = .returned (.int .i64 (stErr b r d m s Z k x)) ∧ RStIs w' base RS RL b r d m s P F (stUpd b r d m s Z k x) ∧ w.grownBy w' (some RS)
theorem stUpd_none {b r d m s : Int} {Z : Nat → List Int} {k : Nat} {x : Int} (h : stErr b r d m s Z k x ≠ 0) (n : Nat) : stUpd b r d m s Z k x n = Z n := by
  unfold stUpd
  rw [if_neg h]
theorem RStIs.same {w w' : World} {base RS RL : Nat} {b r d m s : Int} {P : Nat → Nat} {F : Nat → Nat → Prop} {Z : Nat → List Int} (h : RStIs w base RS RL b r d m s P F Z) {k : Nat} {x e : Int} (he : stErr b r d m s Z k x = e) (h0 : e ≠ 0) (hb : Below w.heap.size w w') : RStUpPost w base RS b r d m s Z k x (.returned (.int .i64 e)) w' :=
  ⟨RL, P, F, by rw [he], (h.kept hb).congr (fun n _ => (stUpd_none (by rw [he]; exact h0) n).symm), below_gr hb⟩
theorem upN_same_fun {α : Type} (f : Nat → α) (j : Nat) : upN f j (f j) = f := by
  funext k
  by_cases e : k = j
  · subst e; exact upN_same _ _ _
  · exact upN_other _ _ e
theorem shr_small' {k : Nat} (hk : k < 18446744073709551616) (n : Nat) : k / 2 ^ n < 18446744073709551616 := Nat.lt_of_le_of_lt (Nat.div_le_self _ _) hk
set_option maxRecDepth 100000 in
set_option maxHeartbeats 8000000 in
theorem rstupdate (w : World) (base RS RL : Nat) (b r d m s : Int) (P : Nat → Nat) (F : Nat → Nat → Prop) (Z : Nat → List Int) (h : RStIs w base RS RL b r d m s P F Z) (hbase : base ≤ w.heap.size) (hfit : ∀ n, n ≤ b.toNat → Fit (Z n)) (s0 : 0 ≤ s) (s1 : s ≤ 18446744073709551615) (k : Nat) (hk64 : k < 18446744073709551616) (x : Int) (hx : In64 x) :
  Calls Tryz.prog 10 #[.pointer (some ⟨RS, 0, none⟩), .int .u64 (k : Int), .int .i64 x] w (RStUpPost w base RS b r d m s Z k x) := by
 have hr := h.right
 have HR := Lib.hid hr
 have hb59 := right_of hr
 obtain ⟨q, hn⟩ : ∃ q : Nat, b = (q : Int) := ⟨b.toNat, by omega⟩
 subst hn
 have hq59 : q ≤ 59 := by omega
 have H := Lib.hid h
 have HFIT := Lib.hid hfit
 have PK := Lib.hid (fun w => rkeys_any (q : Int) r d m s 0 w)
 obtain ⟨cap0, hbx0, hcap0⟩ := h.box
 rw [Int.toNat_natCast] at hbx0 hcap0
 have HBX0 := Lib.hid hbx0
 have c0 := hbx0.cell 0
 have c1 := hbx0.cell 1
 have c2 := hbx0.cell 2
 have c3 := hbx0.cell 3
 have c4 := hbx0.cell 4
 simp at c0 c1 c2 c3 c4
 clear hb59 hr h hbx0 hfit hcap0
 by_cases hk : keysI (q : Int) r d m 0 ≤ (k : Int)
 ·have e1 : decide (keysI (q : Int) r d m 0 ≤ (k : Int)) = true := decide_eq_true hk
  have HE : Hid (stErr (q : Int) r d m s Z k x = 2) := Lib.hid (by unfold stErr; rw [if_pos hk])
  clear hk
  go_enter Tryz.func10, Tryz.ntmps10
  go_wp2_with fail
  with_reducible refine (PK.out _).mono ?_
  rintro e w2 ⟨rfl, hb⟩
  have HP := Lib.hid (H.out.same HE.out (by decide) hb)
  clear hb c0 c1 c2 c3 c4
  go_wp2
  go_ret
  exact HP.out
 ·have e1 : decide (keysI (q : Int) r d m 0 ≤ (k : Int)) = false := decide_eq_false hk
  have HKK : Hid ((k : Int) < keysI (q : Int) r d m 0) := Lib.hid (by omega)
  by_cases hm : m = 2 ∧ x < 0
  ·have HE : Hid (stErr (q : Int) r d m s Z k x = 3) := Lib.hid (by unfold stErr; rw [if_neg hk, if_pos hm])
   obtain ⟨rfl, hx0⟩ := hm
   have e2 : decide (x < 0) = true := decide_eq_true hx0
   clear hk
   go_enter Tryz.func10, Tryz.ntmps10
   go_wp2_with fail
   with_reducible refine (PK.out _).mono ?_
   rintro e w2 ⟨rfl, hb⟩
   have HP := Lib.hid (H.out.same HE.out (by decide) hb)
   have q3 := (HBX0.out.kept hb).cell 3
   simp at q3
   clear hb c0 c1 c2 c3 c4
   go_wp2
   go_ret
   exact HP.out
  ·have hdec : ((m == 2) = false ∧ decide (m = 2) = false) ∨ ((m == 2) = true ∧ decide (m = 2) = true ∧ decide (x < 0) = false) := by
    by_cases h2 : m = 2
    ·right; exact ⟨by simp [h2], by simp [h2], decide_eq_false (fun hh => hm ⟨h2, hh⟩)⟩
    ·left; exact ⟨by simp [h2], by simp [h2]⟩
   have HE0 : Hid ((∀ n : Nat, n ≤ q → lvErr (q : Int) r d m s (n : Int) (Z n) (k / 2 ^ n) x = 0) → stErr (q : Int) r d m s Z k x = 0) := Lib.hid (fun hh => by
    unfold stErr
    rw [if_neg hk, if_neg hm, Int.toNat_natCast, if_pos hh])
   have HE4 : Hid (∀ n : Nat, n ≤ q → lvErr (q : Int) r d m s (n : Int) (Z n) (k / 2 ^ n) x ≠ 0 → stErr (q : Int) r d m s Z k x = lvErr (q : Int) r d m s (n : Int) (Z n) (k / 2 ^ n) x) := Lib.hid (fun n hn hne => by
    have h4 := (lvErr_in (s := s) (zs := Z n) (x := x) (key_down HR.out HKK.out (show n ≤ (q : Int).toNat by rw [Int.toNat_natCast]; exact hn))).2 hm
    have e4 : lvErr (q : Int) r d m s (n : Int) (Z n) (k / 2 ^ n) x = 4 := h4.resolve_left hne
    rw [e4]
    unfold stErr
    rw [if_neg hk, if_neg hm, Int.toNat_natCast, if_neg]
    intro hh
    exact hne (hh n hn))
   clear hk hm
   rcases hdec with ⟨d1, d2⟩ | ⟨d1, d2, d3⟩
   all_goals
    go_enter Tryz.func10, Tryz.ntmps10
    go_wp2_with fail
    with_reducible refine (PK.out _).mono ?_
    rintro e w2 ⟨rfl, hb⟩
    have HB2 := Lib.hid hb
    have H2 := Lib.hid (H.out.kept hb)
    have PCP := Lib.hid (rstcopy w2 base RS RL (q : Int) r d m s P F Z H2.out)
    have q3 := (HBX0.out.kept hb).cell 3
    simp at q3
    clear hb c0 c1 c2 c3 c4
    go_wp2_with fail
    with_reducible refine PCP.out.mono ?_
    rintro e w3 ⟨RS2, RL2, P2, F2, rfl, hRS2, hcp, hb⟩
    have HC3 := Lib.hid hcp
    have HB3 := Lib.hid (btr HB2.out hb)
    have HRS2 := Lib.hid hRS2
    have HBC := Lib.hid hb
    obtain ⟨cap2, hbx2, hcap2⟩ := hcp.box
    rw [Int.toNat_natCast] at hbx2 hcap2
    have HLO : Hid (w.heap.size ≤ w2.heap.size ∧ RS < w2.heap.size ∧ w2.heap.size ≤ w3.heap.size) := Lib.hid ⟨HB2.out.size, (HBX0.out.kept HB2.out).lt, hb.size⟩
    have HBX3 := Lib.hid hbx2
    have HCAP := Lib.hid hcap2
    clear hb hcp hRS2 q3 hbx2 hcap2
    go_wp2_with fail
    go_loopw [8] (fun i wr => ∃ j : Nat, j ≤ q + 1 ∧ i = .int .i64 (j : Int) ∧ RStIs wr w2.heap.size RS2 RL2 (q : Int) r d m s P2 F2 (partU (q : Int) r d m s Z k x j) ∧ Blk wr RS2 58 #[.int .i64 (q : Int), .int .i64 r, .int .i64 d, .int .i64 m, .int .u64 s, .slice (some ⟨RL2, 0, none⟩) (q + 1) cap2] ∧ Below w2.heap.size w2 wr ∧ (∀ n, n < j → lvErr (q : Int) r d m s (n : Int) (Z n) (k / 2 ^ n) x = 0)) (fun i _ => q + 1 - (intOf i).toNat)
    case atStart => exact ⟨0, by omega, rfl, by rw [partU_zero]; exact HC3.out, HBX3.out, HBC.out, fun n hn => by omega⟩
    case round =>
     obtain ⟨j, hj, rfl, hst, hbx, hbel, hok⟩ := hrel
     have HST := Lib.hid hst
     have HBX := Lib.hid hbx
     have HBR := Lib.hid (btr HB2.out hbel)
     have HBR2 := Lib.hid hbel
     have HOK := Lib.hid hok
     have hRSr : Blk wr RS _ _ := HBX0.out.kept HBR.out
     have HRSR := Lib.hid hRSr
     have s5 := hRSr.cell 5
     have t5 := hbx.cell 5
     simp at s5 t5
     clear HC3 HBX3 HBC hbx hbel hok hRSr
     by_cases hlt : j < q + 1
     ·have hjq : j ≤ (q : Int).toNat := by rw [Int.toNat_natCast]; omega
      have j0 : (0 : Int) ≤ (j : Int) := by omega
      have j1 : (j : Int) < (q : Int) + 1 := by omega
      obtain ⟨cur2, hrow2, hcur2⟩ := hst.row
      have cj := (hrow2.cell j).trans (hcur2 j hjq)
      have hZj : partU (q : Int) r d m s Z k x j j = Z j := by unfold partU; rw [if_neg (by omega)]
      have hlv := hst.lev j hjq
      rw [hZj] at hlv
      have PU := rlupdate wr (F2 j) (P2 j) (q : Int) r d m s (j : Int) (Z j) hlv (HFIT.out j hjq) HR.out s0 s1 (k / 2 ^ j) (shr_small' hk64 _) x hx
      rw [show ((k / 2 ^ j : Nat) : Int) = (k : Int) / 2 ^ j by rw [Int.natCast_ediv, Int.natCast_pow]; rfl] at PU
      have PU := Lib.hid PU
      have ew : IntKind.u64.wrap (j : Int) = (j : Int) := by rw [wrapU_mod]; omega
      have HPN := Lib.hid (partU_next (q : Int) r d m s Z k x j)
      clear hst hrow2 hcur2 hZj hlv
      go_wp2_with fail
      with_reducible refine PU.out.mono ?_
      rintro e w5 ⟨rfl, hl5, hon⟩
      have hbb : Below w2.heap.size wr w5 := hon.below (fun g hg => (HST.out.fin j g hjq hg).1) HBR2.out.size
      have HB5 := Lib.hid (HBR2.out.trans hbb)
      have hbs : w2.heap.size ≤ wr.heap.size := HBR2.out.size
      have hst5 := HST.out.load hjq hbs hl5 (fun g hg => .inl hg) hon
      rw [upN_same_fun, HPN.out] at hst5
      have HST5 := Lib.hid hst5
      have HBX5 : Hid (Blk w5 RS2 _ _) := Lib.hid (hon.blk HBX.out (HST.out.out j hjq).1)
      by_cases he : lvErr (q : Int) r d m s (j : Int) (Z j) (k / 2 ^ j) x = 0
      ·have HOK2 : Hid (∀ n, n < j + 1 → lvErr (q : Int) r d m s (n : Int) (Z n) (k / 2 ^ n) x = 0) := Lib.hid (fun n hn => by
        by_cases e : n = j
        ·subst e; exact he
        ·exact HOK.out n (by omega))
       rw [he]
       clear he hl5 hon hbb hst5 cj s5 t5 hbs
       go_wp2
       go_roundw
       case rel => exact ⟨j + 1, by omega, by go_num, HST5.out, HBX5.out, HB5.out, HOK2.out⟩
       case measure => simp [intOf]; omega
      ·have HE := Lib.hid (HE4.out j (by omega) he)
       have ne : (lvErr (q : Int) r d m s (j : Int) (Z j) (k / 2 ^ j) x != 0) = true := by simp [he]
       have HP := Lib.hid (H.out.same HE.out he (btr HB2.out HB5.out))
       generalize lvErr (q : Int) r d m s (j : Int) (Z j) (k / 2 ^ j) x = e5 at *
       clear he hl5 hon hbb hst5 cj s5 t5 hbs
       go_wp2
       go_ret
       exact HP.out
     ·obtain rfl : j = q + 1 := by omega
      have f5 := HRSR.out.frozen 5
      have HE := Lib.hid (HE0.out (fun n hn => HOK.out n (by omega)))
      have HP : Hid (RStUpPost w base RS (q : Int) r d m s Z k x (.returned (.int .i64 0)) (wr.setCell ⟨RS, 5, none⟩ (.slice (some ⟨RL2, 0, none⟩) (q + 1) cap2))) := Lib.hid (by
       have h1 := HST.out.take (base := base) (by have := HLO.out; omega) HLO.out.2.1 HRSR.out HCAP.out
       refine ⟨RL2, P2, F2, by rw [HE.out], h1.congr (fun n hn => ?_), gr_trans (below_gr HBR.out) (grown_set _ RS 5 _)⟩
       unfold stUpd partU
       rw [if_pos HE.out, if_pos (by rw [Int.toNat_natCast] at hn; omega)])
      clear hst
      go_wp2
      go_ret
      exact HP.out
end Go.Proofs.YthbkljeibmkimaaGreat


namespace Go.Proofs.YthbkljeibmkimaaGreat
open Go.RowKit
set_option linter.unusedVariables false
set_option linter.unusedSimpArgs false

theorem cLt_append (a b : List Int) (v : Int) : cLt (a ++ b) v = cLt a v + cLt b v := by simp [cLt]
theorem cEq_append (a b : List Int) (v : Int) : cEq (a ++ b) v = cEq a v + cEq b v := by simp [cEq]
theorem cLE_all {l : List Int} {v : Int} (h : ∀ x ∈ l, x ≤ v) : cLt l v + cEq l v = l.length := by
  induction l with
  | nil => rfl
  | cons x l ih =>
    have ih := ih (fun y hy => h y (by simp [hy]))
    have hx := h x (by simp)
    rw [cLt_cons, cEq_cons, List.length_cons]
    by_cases e : x = v
    · subst e; simp; omega
    · have : x < v := by omega
      simp [e, this]; omega
theorem cLt_le (l : List Int) (v : Int) : cLt l v ≤ l.length := List.length_filter_le _ _
def SortedL (o : List Int) : Prop := ∀ i k, i ≤ k → k < o.length → cellD o i ≤ cellD o k
theorem sorted_kth {o : List Int} (hs : SortedL o) {k : Nat} (hk : k < o.length) : IsKth o k (cellD o k) := by
 have hz : o[k]? = some (cellD o k) := by simp [cellD, hk]
 refine ⟨List.mem_of_getElem? hz, ?_, ?_⟩
 ·have h1 : cLt o (cellD o k) = cLt (o.take k) (cellD o k) + cLt (o.drop k) (cellD o k) := by rw [← cLt_append, List.take_append_drop]
  have h2 : cLt (o.drop k) (cellD o k) = 0 := by
   unfold cLt
   rw [List.length_eq_zero_iff, List.filter_eq_nil_iff]
   intro x hx
   obtain ⟨i, hi⟩ := List.getElem?_of_mem hx
   rw [List.getElem?_drop] at hi
   have hlt : k + i < o.length := (List.getElem?_eq_some_iff.1 hi).1
   have := hs k (k + i) (by omega) hlt
   have e : cellD o (k + i) = x := by simp [cellD, hi]
   simp; omega
  have h3 := cLt_le (o.take k) (cellD o k)
  simp at h3
  omega
 ·have h1 : cLt o (cellD o k) = cLt (o.take (k + 1)) (cellD o k) + cLt (o.drop (k + 1)) (cellD o k) := by rw [← cLt_append, List.take_append_drop]
  have h2 : cEq o (cellD o k) = cEq (o.take (k + 1)) (cellD o k) + cEq (o.drop (k + 1)) (cellD o k) := by rw [← cEq_append, List.take_append_drop]
  have h3 := cLE_all (l := o.take (k + 1)) (v := cellD o k) (by
   intro x hx
   obtain ⟨i, hi⟩ := List.getElem?_of_mem hx
   rw [List.getElem?_take] at hi
   split at hi
   ·have := hs i k (by omega) hk
    have e : cellD o i = x := by simp [cellD, hi]
    omega
   ·cases hi)
  simp at h3
  omega
theorem kth_perm {o l : List Int} {k : Nat} {v : Int} (hp : o.Perm l) (h : IsKth o k v) : IsKth l k v := by
  have e1 : cLt o v = cLt l v := (hp.filter _).length_eq
  have e2 : cEq o v = cEq l v := (hp.filter _).length_eq
  exact ⟨hp.mem_iff.1 h.1, by rw [← e1]; exact h.2.1, by rw [← e1, ← e2]; exact h.2.2⟩
def insZ (o : List Int) (p : Nat) (x : Int) : List Int := o.take p ++ [x] ++ o.drop p
theorem insZ_len {o : List Int} {p : Nat} {x : Int} : (insZ o p x).length = o.length + 1 := by
  simp [insZ]; omega
theorem insZ_perm (o : List Int) (p : Nat) (x : Int) : (insZ o p x).Perm (o ++ [x]) := by
  have h1 : (insZ o p x).Perm (x :: (o.take p ++ o.drop p)) := by
    unfold insZ
    rw [List.append_assoc]
    exact List.perm_middle
  rw [List.take_append_drop] at h1
  exact h1.trans (List.perm_append_singleton x o).symm
theorem insZ_cell {o : List Int} {p : Nat} {x : Int} (hp : p ≤ o.length) (i : Nat) : cellD (insZ o p x) i = if i < p then cellD o i else if i = p then x else cellD o (i - 1) := by
  unfold cellD insZ
  by_cases h1 : i < p
  · rw [if_pos h1, List.append_assoc, List.getElem?_append_left (by simp; omega), List.getElem?_take, if_pos h1]
  · rw [if_neg h1, List.append_assoc, List.getElem?_append_right (by simp; omega)]
    simp only [List.length_take, Nat.min_eq_left hp]
    by_cases h2 : i = p
    · subst h2; simp
    · rw [if_neg h2]
      obtain ⟨q, hq⟩ : ∃ q, i - p = q + 1 := ⟨i - p - 1, by omega⟩
      rw [hq]
      simp only [List.singleton_append, List.getElem?_cons_succ, List.getElem?_drop]
      congr 2
      omega
theorem insZ_sorted {o : List Int} {p : Nat} {x : Int} (hs : SortedL o) (hp : p ≤ o.length) (h1 : p = 0 ∨ cellD o (p - 1) ≤ x) (h2 : ∀ k, p ≤ k → k < o.length → x < cellD o k) : SortedL (insZ o p x) := by
  intro i k hik hk
  rw [insZ_len] at hk
  rw [insZ_cell hp, insZ_cell hp]
  by_cases a1 : i < p
  · rw [if_pos a1]
    by_cases b1 : k < p
    · rw [if_pos b1]; exact hs i k hik (by omega)
    · rw [if_neg b1]
      have hx : cellD o i ≤ x := by
        rcases h1 with h1 | h1
        · omega
        · have := hs i (p - 1) (by omega) (by omega); omega
      by_cases b2 : k = p
      · rw [if_pos b2]; exact hx
      · rw [if_neg b2]
        have := h2 (k - 1) (by omega) (by omega)
        omega
  · rw [if_neg a1]
    have b1 : ¬ k < p := by omega
    rw [if_neg b1]
    by_cases a2 : i = p
    · rw [if_pos a2]
      by_cases b2 : k = p
      · rw [if_pos b2]; omega
      · rw [if_neg b2]
        have := h2 (k - 1) (by omega) (by omega)
        omega
    · rw [if_neg a2, if_neg (by omega)]
      exact hs (i - 1) (k - 1) (by omega) (by omega)
end Go.Proofs.YthbkljeibmkimaaGreat

