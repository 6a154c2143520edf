/-
  Two arrays of the program beside two of the document: how each step keeps them alike. Conditions: none beyond those stated at each theorem.
-/
import Derived.Test.YtcfmipgdhhogcaaRxB
namespace Go.Proofs.Ytcfmipgdhhogcaa
open Go.RowKit
set_option linter.unusedVariables false
set_option linter.unusedSimpArgs false

/-- a config in block P, two arrays (A G C, B H D) and two of the document (R L, Q M), all of the config and level, with K numbers each -/
structure St (w0 w : World) (P A G C B H D R L Q M : Nat) (b r d m s l : Int) (K : Nat) (za zb zr zq : List Int) : Prop where
  cfg : Blk w P 24 #[.int .i64 b, .int .i64 r, .int .i64 d, .int .i64 m, .int .u64 s]
  fa : ArrIs w A G C b r d m s l K za
  fb : ArrIs w B H D b r d m s l K zb
  fr : RArr w R L b r d m s l zr
  fq : RArr w Q M b r d m s l zq
  lr : zr.length = K
  lq : zq.length = K
  ne : (C ≠ D ∧ C ≠ L ∧ C ≠ M) ∧ (D ≠ L ∧ D ≠ M) ∧ L ≠ M ∧ R ≠ Q
  lo : (w0.heap.size ≤ C ∧ w0.heap.size ≤ D) ∧ (w0.heap.size ≤ L ∧ w0.heap.size ≤ M) ∧ w0.heap.size ≤ R ∧ w0.heap.size ≤ Q
  below : Below w0.heap.size w0 w
section
variable {w0 w w' : World} {P A G C B H D R L Q M : Nat} {b r d m s l : Int} {K : Nat} {za zb zr zq : List Int}
theorem RArr.blk (h : RArr w R L b r d m s l zr) : ∃ cur, Blk w L 2 cur := by
  obtain ⟨cap, cur, h3, h4, h5, h6⟩ := h
  exact ⟨cur, h5⟩
theorem RArr.blkR (h : RArr w R L b r d m s l zr) : ∃ cur, Blk w R 62 cur := by
  obtain ⟨cap, cur, h3, h4, h5, h6⟩ := h
  exact ⟨_, h4⟩
theorem ArrIs.blkC (h : ArrIs w A G C b r d m s l K za) : ∃ cur, Blk w C 2 cur := by
  obtain ⟨cur, hc, _⟩ := h.2.cells
  exact ⟨cur, hc⟩
theorem ArrIs.blkG (h : ArrIs w A G C b r d m s l K za) : ∃ cur, Blk w G 84 cur := by
  obtain ⟨cap, hg, h1⟩ := h.2.fields
  exact ⟨_, hg⟩
theorem ArrIs.lenK (h : ArrIs w A G C b r d m s l K za) : za.length = K := by have := h.2.len; omega
theorem ArrIs.loA {w5 : World} (h : ArrIs w A G C b r d m s l K za) : C < w.heap.size := h.2.ltC
theorem Below.sizes {w1 : World} (h : Below w0.heap.size w0 w) : w0.heap.size ≤ w.heap.size := h.size
/-- an array stays, if a block of numbers that is not its own changes -/
theorem ArrIs.farC {X : Nat} {cur : Array Value} (h : ArrIs w A G C b r d m s l K za) (hX : Blk w X 2 cur) (hne : C ≠ X) (hb : w.grownBy w' (some X)) : ArrIs w' A G C b r d m s l K za := by
  obtain ⟨cg, hg⟩ := h.blkG
  exact h.grown hb (by simpa using h.1.ne_ hX (by decide)) (by simpa using hg.ne_ hX (by decide)) (by simpa using hne)
theorem ArrIs.farR {X : Nat} {cur : Array Value} (h : ArrIs w A G C b r d m s l K za) (hX : Blk w X 62 cur) (hb : w.grownBy w' (some X)) : ArrIs w' A G C b r d m s l K za := by
  obtain ⟨cg, hg⟩ := h.blkG
  obtain ⟨cc, hc⟩ := h.blkC
  exact h.grown hb (by simpa using h.1.ne_ hX (by decide)) (by simpa using hg.ne_ hX (by decide)) (by simpa using hc.ne_ hX (by decide))
theorem RArr.farC {X : Nat} {cur : Array Value} (h : RArr w R L b r d m s l zr) (hX : Blk w X 2 cur) (hne : L ≠ X) (hb : w.grownBy w' (some X)) : RArr w' R L b r d m s l zr := by
  obtain ⟨cr, hr⟩ := h.blkR
  exact h.grown hb (by simpa using hr.ne_ hX (by decide)) (by simpa using hne)
theorem RArr.farR {X : Nat} {cur : Array Value} (h : RArr w R L b r d m s l zr) (hX : Blk w X 62 cur) (hne : R ≠ X) (hb : w.grownBy w' (some X)) : RArr w' R L b r d m s l zr := by
  obtain ⟨cl, hl⟩ := h.blk
  exact h.grown hb (by simpa using hne) (by simpa using hl.ne_ hX (by decide))
theorem below_tr {B' : Nat} {w1 : World} (h : Below B' w0 w) (k : Below w.heap.size w w1) (hB : B' ≤ w.heap.size) : Below B' w0 w1 := h.trans (k.mono hB)
theorem below_gr' {X : Nat} (h : Below w0.heap.size w0 w) (k : w.grownBy w' (some X)) (hX : w0.heap.size ≤ X) : Below w0.heap.size w0 w' := h.grown k h.size (fun q e => by have := Option.some.inj e; omega)

theorem St.kept (h : St w0 w P A G C B H D R L Q M b r d m s l K za zb zr zq) (hb : Below w.heap.size w w') : St w0 w' P A G C B H D R L Q M b r d m s l K za zb zr zq :=
  ⟨h.cfg.kept hb, h.fa.kept hb, h.fb.kept hb, h.fr.kept hb, h.fq.kept hb, h.lr, h.lq, h.ne, h.lo, below_tr h.below hb h.below.size⟩
theorem St.chgA {za' : List Int} (h : St w0 w P A G C B H D R L Q M b r d m s l K za zb zr zq) (hb : w.grownBy w' (some C)) (ha : ArrIs w' A G C b r d m s l K za') : St w0 w' P A G C B H D R L Q M b r d m s l K za' zb zr zq := by
  obtain ⟨cc, hc⟩ := h.fa.blkC
  exact ⟨h.cfg.grown hb (by simpa using h.cfg.ne_ hc (by decide)), ha, h.fb.farC hc h.ne.1.1.symm hb, h.fr.farC hc h.ne.1.2.1.symm hb, h.fq.farC hc h.ne.1.2.2.symm hb, h.lr, h.lq, h.ne, h.lo, below_gr' h.below hb h.lo.1.1⟩
theorem St.chgB {zb' : List Int} (h : St w0 w P A G C B H D R L Q M b r d m s l K za zb zr zq) (hb : w.grownBy w' (some D)) (ha : ArrIs w' B H D b r d m s l K zb') : St w0 w' P A G C B H D R L Q M b r d m s l K za zb' zr zq := by
  obtain ⟨cc, hc⟩ := h.fb.blkC
  exact ⟨h.cfg.grown hb (by simpa using h.cfg.ne_ hc (by decide)), h.fa.farC hc h.ne.1.1 hb, ha, h.fr.farC hc h.ne.2.1.1.symm hb, h.fq.farC hc h.ne.2.1.2.symm hb, h.lr, h.lq, h.ne, h.lo, below_gr' h.below hb h.lo.1.2⟩
theorem St.chgL {zr' : List Int} (h : St w0 w P A G C B H D R L Q M b r d m s l K za zb zr zq) (hb : w.grownBy w' (some L)) (hr : RArr w' R L b r d m s l zr') (hl : zr'.length = K) : St w0 w' P A G C B H D R L Q M b r d m s l K za zb zr' zq := by
  obtain ⟨cc, hc⟩ := h.fr.blk
  exact ⟨h.cfg.grown hb (by simpa using h.cfg.ne_ hc (by decide)), h.fa.farC hc h.ne.1.2.1 hb, h.fb.farC hc h.ne.2.1.1 hb, hr, h.fq.farC hc h.ne.2.2.1.symm hb, hl, h.lq, h.ne, h.lo, below_gr' h.below hb h.lo.2.1.1⟩
theorem St.chgR {zr' : List Int} {L' : Nat} (h : St w0 w P A G C B H D R L Q M b r d m s l K za zb zr zq) (hb : w.grownBy w' (some R)) (hr : RArr w' R L' b r d m s l zr') (hl : zr'.length = K) (hL : w.heap.size ≤ L') : St w0 w' P A G C B H D R L' Q M b r d m s l K za zb zr' zq := by
  obtain ⟨cc, hc⟩ := h.fr.blkR
  have c1 := h.fa.2.ltC
  have c2 := h.fb.2.ltC
  have c3 := h.fq.ltL
  have c4 := h.below.size
  exact ⟨h.cfg.grown hb (by simpa using h.cfg.ne_ hc (by decide)), h.fa.farR hc hb, h.fb.farR hc hb, hr, h.fq.farR hc h.ne.2.2.2.symm hb, hl, h.lq, ⟨⟨h.ne.1.1, by omega, h.ne.1.2.2⟩, ⟨by omega, h.ne.2.1.2⟩, by omega, h.ne.2.2.2⟩, ⟨h.lo.1, ⟨by omega, h.lo.2.1.2⟩, h.lo.2.2⟩, below_gr' h.below hb h.lo.2.2.1⟩
theorem St.swap (h : St w0 w P A G C B H D R L Q M b r d m s l K za zb zr zq) : St w0 w P B H D A G C Q M R L b r d m s l K zb za zq zr :=
  ⟨h.cfg, h.fb, h.fa, h.fq, h.fr, h.lq, h.lr, ⟨⟨h.ne.1.1.symm, h.ne.2.1.2, h.ne.2.1.1⟩, ⟨h.ne.1.2.2, h.ne.1.2.1⟩, h.ne.2.2.1.symm, h.ne.2.2.2.symm⟩, ⟨⟨h.lo.1.2, h.lo.1.1⟩, ⟨h.lo.2.1.2, h.lo.2.1.1⟩, h.lo.2.2.2, h.lo.2.2.1⟩, h.below⟩
theorem St.newA {A' G' C' : Nat} {za' : List Int} (h : St w0 w P A G C B H D R L Q M b r d m s l K za zb zr zq) (hb : Below w.heap.size w w') (ha : ArrIs w' A' G' C' b r d m s l K za') (hC : w.heap.size ≤ C') : St w0 w' P A' G' C' B H D R L Q M b r d m s l K za' zb zr zq := by
  have c1 := h.fr.ltL
  have c2 := h.fb.2.ltC
  have c3 := h.fq.ltL
  have c4 := h.below.size
  exact ⟨h.cfg.kept hb, ha, h.fb.kept hb, h.fr.kept hb, h.fq.kept hb, h.lr, h.lq, ⟨⟨by omega, by omega, by omega⟩, h.ne.2⟩, ⟨⟨by omega, h.lo.1.2⟩, h.lo.2⟩, below_tr h.below hb h.below.size⟩
theorem St.newR {R' L' : Nat} {zr' : List Int} (h : St w0 w P A G C B H D R L Q M b r d m s l K za zb zr zq) (hb : Below w.heap.size w w') (hr : RArr w' R' L' b r d m s l zr') (hl : zr'.length = K) (hR : w.heap.size ≤ R') (hL : w.heap.size ≤ L') : St w0 w' P A G C B H D R' L' Q M b r d m s l K za zb zr' zq := by
  have c1 := h.fa.2.ltC
  have c2 := h.fb.2.ltC
  have c3 := h.fq.ltL
  have c5 := h.fq.ltR
  have c4 := h.below.size
  exact ⟨h.cfg.kept hb, h.fa.kept hb, h.fb.kept hb, hr, h.fq.kept hb, hl, h.lq, ⟨⟨h.ne.1.1, by omega, h.ne.1.2.2⟩, ⟨by omega, h.ne.2.1.2⟩, by omega, by omega⟩, ⟨h.lo.1, ⟨by omega, h.lo.2.1.2⟩, by omega, h.lo.2.2.2⟩, below_tr h.below hb h.below.size⟩
theorem St.newQ {R' L' : Nat} {zr' : List Int} (h : St w0 w P A G C B H D R L Q M b r d m s l K za zb zr zq) (hb : Below w.heap.size w w') (hr : RArr w' R' L' b r d m s l zr') (hl : zr'.length = K) (hR : w.heap.size ≤ R') (hL : w.heap.size ≤ L') : St w0 w' P A G C B H D R L R' L' b r d m s l K za zb zr zr' :=
  (h.swap.newR hb hr hl hR hL).swap
theorem St.rcell (h : St w0 w P A G C B H D R L Q M b r d m s l K za zb zr zq) : ∃ cap, w.cell? ⟨R, 6, none⟩ = some (.slice (some ⟨L, 0, none⟩) K cap) ∧ IntsAt w (.slice (some ⟨L, 0, none⟩) K cap) zr := by
  have hl := h.lr
  obtain ⟨cap, cur, h3, h4, h5, h6⟩ := h.fr
  have c := h4.cell 6
  simp at c
  rw [hl] at c
  exact ⟨cap, c, some ⟨L, 0, none⟩, cap, by rw [hl], h3, fun _ => ⟨L, rfl, h5.lt, fun i u hu => (h5.cell i).trans (h6 i u hu)⟩⟩
theorem St.qcell (h : St w0 w P A G C B H D R L Q M b r d m s l K za zb zr zq) : ∃ cap, w.cell? ⟨Q, 6, none⟩ = some (.slice (some ⟨M, 0, none⟩) K cap) ∧ IntsAt w (.slice (some ⟨M, 0, none⟩) K cap) zq := h.swap.rcell
end

/-- the slice l holds n ops: kinds os, keys ks, numbers ds -/
def OpsAt (w : World) (l : Value) (n : Nat) (os : Nat → Int) (ks : Nat → Nat) (ds : Nat → Int) : Prop :=
  ∃ (ao : Option Addr) (cap : Nat), l = .slice ao n cap ∧ n ≤ maxLen ∧ (∀ i, i < n → In64 (ds i) ∧ ks i < 18446744073709551616) ∧
    (0 < n → ∃ b off, ao = some ⟨b, off, none⟩ ∧ b < w.heap.size ∧ ∀ i, i < n → w.cell? ⟨b, off + i * 3, none⟩ = some (.int .i64 (os i)) ∧ w.cell? ⟨b, off + i * 3 + 1, none⟩ = some (.int .u64 (ks i : Int)) ∧ w.cell? ⟨b, off + i * 3 + 2, none⟩ = some (.int .i64 (ds i)))
def shOp : Sh := .agg (.cons (.int .i64) (.cons (.int .u64) (.cons (.int .i64) .unit)))
def shOps : Sh := .slice shOp
theorem ops_of_val {w : World} {v : Value} (h : (Sh.slice shOp).Val w v) : ∃ n os ks ds, OpsAt w v n os ks ds := by
  obtain ⟨ao, len, cap, h1, hl, hm, hx⟩ := h
  have h1 : v = .slice ao len cap := by simpa using h1
  subst h1
  by_cases h0 : 0 < len
  · obtain ⟨b, off, rfl, hb, hc⟩ := hx h0
    have key : ∀ i, i < len → ∃ (o : Int) (k : Nat) (z : Int), (In64 z ∧ k < 18446744073709551616) ∧ w.cell? ⟨b, off + i * 3, none⟩ = some (.int .i64 o) ∧ w.cell? ⟨b, off + i * 3 + 1, none⟩ = some (.int .u64 (k : Int)) ∧ w.cell? ⟨b, off + i * 3 + 2, none⟩ = some (.int .i64 z) := by
      intro i hi
      obtain ⟨c0, hcl, hcell, hr⟩ := hc i hi
      obtain ⟨o, d0, rfl, ho, hr⟩ := Sh.reads_int hr
      obtain ⟨k, d1, rfl, hk, hr⟩ := Sh.reads_int hr
      obtain ⟨z, d3, rfl, hz, hr⟩ := Sh.reads_int hr
      have e : shOp.size = 3 := rfl
      have a0 := hcell 0 (by decide)
      have a1 := hcell 1 (by decide)
      have a2 := hcell 2 (by decide)
      rw [e] at a0 a1 a2
      simp [Lit.wf, IntKind.min, IntKind.max, IntKind.signed, IntKind.bits] at hz hk
      refine ⟨o, k.toNat, z, ⟨⟨by omega, by omega⟩, by omega⟩, by simpa using a0, ?_, by simpa [Nat.add_assoc] using a2⟩
      rw [Int.toNat_of_nonneg (by omega)]
      simpa [Nat.add_assoc] using a1
    refine ⟨len, fun i => if h : i < len then (key i h).choose else 0, fun i => if h : i < len then (key i h).choose_spec.choose else 0, fun i => if h : i < len then (key i h).choose_spec.choose_spec.choose else 0, some ⟨b, off, none⟩, cap, rfl, by omega, fun i hi => ?_, fun _ => ⟨b, off, rfl, hb, fun i hi => ?_⟩⟩
    · simp only [dif_pos hi]; exact (key i hi).choose_spec.choose_spec.choose_spec.1
    · simp only [dif_pos hi]; exact (key i hi).choose_spec.choose_spec.choose_spec.2
  · obtain rfl : len = 0 := by omega
    exact ⟨0, fun _ => 0, fun _ => 0, fun _ => 0, ao, cap, rfl, by omega, fun i hi => by omega, fun h => by omega⟩
end Go.Proofs.Ytcfmipgdhhogcaa
