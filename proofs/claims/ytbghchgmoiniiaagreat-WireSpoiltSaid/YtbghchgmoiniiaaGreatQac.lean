import Derived.Test.YtbghchgmoiniiaaGreatQab
import Derived.StillTailTactics
import Derived.Test.YtbghchgmoiniiaaGreatQaa
import Derived.Shelf.Bits.Mul64
import Derived.Test.YtbghchgmoiniiaaGreatProg
import Derived.WalkKit
import Derived.ProofKit
import Derived.Lib.Hide
import Derived.Outline
import Derived.Below
import Derived.WalkSmall
import Derived.Deep.QuietTactic
import Derived.BigQuiet
import Derived.LoopN
import Derived.Deep.OwnRows
import Derived.OwnWalk
import Derived.Deep.RegionHeld3
/-
  Stacks in memory; the walk of stack.New. Conditions: none beyond those stated at each theorem.
-/
namespace Go.Proofs.YtbghchgmoiniiaaGreat
open Go.RowKit
set_option linter.unusedVariables false
set_option linter.unusedSimpArgs false

theorem LevIs.own {w w' : World} {x v : Value} {A G C base k : Nat} {b r d m s l : Int} {zs : List Int} {xs : List Value} (h : LevIs w x A G C b r d m s l zs) (ho : w.ownsRow base 87 1 v k xs) (hg : w.grownBy w' v.ownBlock) : LevIs w' x A G C b r d m s l zs := by
  rcases h with ⟨h1, h2, h3⟩ | ⟨h1, h2, h3⟩
  · obtain ⟨cap, hG, -⟩ := h3.2.fields
    obtain ⟨cur, hc, -⟩ := h3.2.cells
    exact .inl ⟨h1, h2, h3.grown hg (Ne.symm (own_ne ho h3.1 (by decide))) (Ne.symm (own_ne ho hG (by decide))) (Ne.symm (own_ne ho hc (by decide)))⟩
  · obtain ⟨cap, hG, -⟩ := h3.grid.fields
    obtain ⟨cur, hc, -⟩ := h3.grid.cells
    exact .inr ⟨h1, h2, h3.grown hg (Ne.symm (own_ne ho h3.box (by decide))) (Ne.symm (own_ne ho hG (by decide))) (Ne.symm (own_ne ho hc (by decide)))⟩
theorem LevIs.far {w w' : World} {x : Value} {A G C g : Nat} {t : TypeId} {cs : Array Value} {b r d m s l : Int} {zs : List Int} (h : LevIs w x A G C b r d m s l zs) (hb : Blk w g t cs) (ht : 2 ≠ t ∧ 155 ≠ t ∧ 142 ≠ t ∧ 146 ≠ t) (hg : w.grownBy w' (some g)) : LevIs w' x A G C b r d m s l zs := by
  rcases h with ⟨h1, h2, h3⟩ | ⟨h1, h2, h3⟩
  · obtain ⟨cap, hG, -⟩ := h3.2.fields
    obtain ⟨cur, hc, -⟩ := h3.2.cells
    exact .inl ⟨h1, h2, h3.grown hg (by simpa using h3.1.ne_ hb ht.2.2.1) (by simpa using hG.ne_ hb ht.2.1) (by simpa using hc.ne_ hb ht.1)⟩
  · obtain ⟨cap, hG, -⟩ := h3.grid.fields
    obtain ⟨cur, hc, -⟩ := h3.grid.cells
    exact .inr ⟨h1, h2, h3.grown hg (by simpa using h3.box.ne_ hb ht.2.2.2) (by simpa using hG.ne_ hb ht.2.1) (by simpa using hc.ne_ hb ht.1)⟩
theorem LevIs.open_ {w : World} {x : Value} {A G C : Nat} {b r d m s l : Int} {zs : List Int} (h : LevIs w x A G C b r d m s l zs) : ∃ t, x = .iface t (.pointer (some ⟨A, 0, none⟩)) := by
  rcases h with ⟨h1, h2, h3⟩ | ⟨h1, h2, h3⟩
  · exact ⟨_, h2⟩
  · exact ⟨_, h2⟩
theorem LevIs.ltC {w : World} {x : Value} {A G C : Nat} {b r d m s l : Int} {zs : List Int} (h : LevIs w x A G C b r d m s l zs) : C < w.heap.size := by
  obtain ⟨cur, hc⟩ := h.cells
  exact hc.lt
def upN {α : Type} (f : Nat → α) (j : Nat) (x : α) : Nat → α := fun k => if k = j then x else f k
theorem upN_same {α : Type} (f : Nat → α) (j : Nat) (x : α) : upN f j x j = x := if_pos rfl
theorem upN_other {α : Type} (f : Nat → α) {j k : Nat} (x : α) (h : k ≠ j) : upN f j x k = f k := if_neg h
/-- j levels are laid in a row -/
structure LevsB (w : World) (base : Nat) (v : Value) (b r d m s : Int) (X : Nat → Value) (A G C : Nat → Nat) (Z : Nat → List Int) (j : Nat) : Prop where
  own : w.ownsRow base 87 1 v j ((List.range j).map X)
  lev : ∀ n, n < j → LevIs w (X n) (A n) (G n) (C n) b r d m s n (Z n)
  apart : ∀ n k, n < j → k < j → n ≠ k → C n ≠ C k
  low : ∀ n, n < j → base ≤ C n
theorem LevsB.kept {w w' : World} {base : Nat} {v : Value} {b r d m s : Int} {X : Nat → Value} {A G C : Nat → Nat} {Z : Nat → List Int} {j : Nat} (h : LevsB w base v b r d m s X A G C Z j) (hb : Below w.heap.size w w') : LevsB w' base v b r d m s X A G C Z j :=
  ⟨World.ownsRow.kept h.own (below_gr (row := none) hb) (by cases v.ownBlock <;> simp), fun n hn => (h.lev n hn).kept hb, h.apart, h.low⟩
theorem LevsB.zero (w : World) (base : Nat) (b r d m s : Int) (X : Nat → Value) (A G C : Nat → Nat) (Z : Nat → List Int) : LevsB w base (.slice none 0 0) b r d m s X A G C Z 0 :=
  ⟨World.ownsRow_nil _ _ _ _, fun n hn => by omega, fun n k hn => by omega, fun n hn => by omega⟩
theorem LevsB.push {w w' : World} {base : Nat} {v v' x : Value} {b r d m s : Int} {X : Nat → Value} {A G C : Nat → Nat} {Z : Nat → List Int} {j a g c : Nat} {zs : List Int} (h : LevsB w base v b r d m s X A G C Z j)
    (hl : LevIs w x a g c b r d m s j zs) (hc : base ≤ c) (hne : ∀ n, n < j → C n ≠ c) (hg : w.grownBy w' v.ownBlock) (ho : w'.ownsRow base 87 1 v' (j + 1) ((List.range j).map X ++ [x])) :
    LevsB w' base v' b r d m s (upN X j x) (upN A j a) (upN G j g) (upN C j c) (upN Z j zs) (j + 1) := by
  refine ⟨?_, fun n hn => ?_, fun n k hn hk e => ?_, fun n hn => ?_⟩
  · have e : (List.range (j + 1)).map (upN X j x) = (List.range j).map X ++ [x] := by
      rw [List.range_succ, List.map_append]
      congr 1
      · exact List.map_congr_left fun k hk => upN_other _ _ (by have := List.mem_range.1 hk; omega)
      · simp [upN]
    rw [e]; exact ho
  · by_cases e : n = j
    · subst e; rw [upN_same, upN_same, upN_same, upN_same, upN_same]; exact hl.own h.own hg
    · rw [upN_other _ _ e, upN_other _ _ e, upN_other _ _ e, upN_other _ _ e, upN_other _ _ e]; exact (h.lev n (by omega)).own h.own hg
  · by_cases e1 : n = j
    · subst e1; rw [upN_same, upN_other _ _ (Ne.symm e)]; exact Ne.symm (hne k (by omega))
    · by_cases e2 : k = j
      · subst e2; rw [upN_same, upN_other _ _ e1]; exact hne n (by omega)
      · rw [upN_other _ _ e1, upN_other _ _ e2]; exact h.apart n k (by omega) (by omega) e
  · by_cases e : n = j
    · subst e; rw [upN_same]; exact hc
    · rw [upN_other _ _ e]; exact h.low n (by omega)
/-- block S is a stack of a config, its levels read as Z -/
structure StIs (w : World) (base S L : Nat) (b r d m s : Int) (X : Nat → Value) (A G C : Nat → Nat) (Z : Nat → List Int) : Prop where
  box : ∃ cap : Nat, Blk w S 73 #[.int .i64 b, .int .i64 r, .int .i64 d, .int .i64 m, .int .u64 s, .slice (some ⟨L, 0, none⟩) (b.toNat + 1) cap] ∧ b.toNat + 1 ≤ cap
  right : rightB b r d m = true
  row : ∃ cur : Array Value, Blk w L 87 cur ∧ ∀ n, n ≤ b.toNat → cur[n]? = some (X n)
  lev : ∀ n, n ≤ b.toNat → LevIs w (X n) (A n) (G n) (C n) b r d m s n (Z n)
  apart : ∀ n k, n ≤ b.toNat → k ≤ b.toNat → n ≠ k → C n ≠ C k
  low : ∀ n, n ≤ b.toNat → base ≤ C n
theorem StIs.kept {w w' : World} {base S L : Nat} {b r d m s : Int} {X : Nat → Value} {A G C : Nat → Nat} {Z : Nat → List Int} (h : StIs w base S L b r d m s X A G C Z) (hb : Below w.heap.size w w') : StIs w' base S L b r d m s X A G C Z := by
  obtain ⟨cap, h1, h2⟩ := h.box
  obtain ⟨cur, h3, h4⟩ := h.row
  exact ⟨⟨cap, h1.kept hb, h2⟩, h.right, ⟨cur, h3.kept hb, h4⟩, fun n hn => (h.lev n hn).kept hb, h.apart, h.low⟩
theorem StIs.ltS {w : World} {base S L : Nat} {b r d m s : Int} {X : Nat → Value} {A G C : Nat → Nat} {Z : Nat → List Int} (h : StIs w base S L b r d m s X A G C Z) : S < w.heap.size := by
  obtain ⟨cap, h1, h2⟩ := h.box
  exact h1.lt
/-- a level's cells are laid anew -/
theorem StIs.put {w w' : World} {base S L : Nat} {b r d m s : Int} {X : Nat → Value} {A G C : Nat → Nat} {Z : Nat → List Int} (h : StIs w base S L b r d m s X A G C Z) {n : Nat} (hn : n ≤ b.toNat) (hg : w.grownBy w' (some (C n))) {zs : List Int}
    (hl : LevIs w' (X n) (A n) (G n) (C n) b r d m s n zs) : StIs w' base S L b r d m s X A G C (upN Z n zs) := by
  obtain ⟨cap, h1, h2⟩ := h.box
  obtain ⟨cur, h3, h4⟩ := h.row
  obtain ⟨cn, hc⟩ := (h.lev n hn).cells
  refine ⟨⟨cap, h1.grown hg (by simpa using h1.ne_ hc (by decide)), h2⟩, h.right, ⟨cur, h3.grown hg (by simpa using h3.ne_ hc (by decide)), h4⟩, fun k hk => ?_, h.apart, h.low⟩
  by_cases e : k = n
  · subst e; rw [upN_same]; exact hl
  · rw [upN_other _ _ e]; exact (h.lev k hk).other hg hc (h.apart k n hk hn e)
theorem StIs.setC {w : World} {base S L : Nat} {b r d m s : Int} {X : Nat → Value} {A G C : Nat → Nat} {Z Z' : Nat → List Int} (h : StIs w base S L b r d m s X A G C Z) (e : ∀ n, n ≤ b.toNat → Z n = Z' n) : StIs w base S L b r d m s X A G C Z' :=
  ⟨h.box, h.right, h.row, fun n hn => by rw [← e n hn]; exact h.lev n hn, h.apart, h.low⟩
theorem LevsB.row {w : World} {base : Nat} {v : Value} {b r d m s : Int} {X : Nat → Value} {A G C : Nat → Nat} {Z : Nat → List Int} {j : Nat} (h : LevsB w base v b r d m s X A G C Z j) (hj : 0 < j) : ∃ (L cap : Nat) (cur : Array Value), v = .slice (some ⟨L, 0, none⟩) j cap ∧ j ≤ cap ∧ base ≤ L ∧ Blk w L 87 cur ∧ ∀ n, n < j → cur[n]? = some (X n) := by
  rcases h.own.2 with ⟨rfl, h0⟩ | ⟨g, cap, cur, rfl, hb, hg, hnc, hcm, hsz, htake⟩
  · omega
  · refine ⟨g, cap, cur, rfl, hnc, hb, hg, fun n hn => ?_⟩
    have h2 : (cur.toList.take (j * 1))[n]? = ((List.range j).map X)[n]? := by rw [htake]
    rw [List.getElem?_take, if_pos (by omega)] at h2
    simpa [hn] using h2
theorem LevsB.stack {w : World} {base S : Nat} {v : Value} {r d m s : Int} {X : Nat → Value} {A G C : Nat → Nat} {Z : Nat → List Int} {n : Nat} (h : LevsB w base v (n : Int) r d m s X A G C Z (n + 1)) (hr : rightB (n : Int) r d m = true)
    (hs : Blk w S 73 #[.int .i64 (n : Int), .int .i64 r, .int .i64 d, .int .i64 m, .int .u64 s, .slice none 0 0]) : ∃ L, StIs (w.setCell ⟨S, 5, none⟩ v) base S L (n : Int) r d m s X A G C Z := by
  obtain ⟨L, cap, cur, rfl, hcap, hL, hrow, hcur⟩ := h.row (by omega)
  have hg := grown_set w S 5 (.slice (some ⟨L, 0, none⟩) (n + 1) cap)
  refine ⟨L, ⟨cap, by simpa using hs.set_ 5 (.slice (some ⟨L, 0, none⟩) (n + 1) cap), by simpa using hcap⟩, hr, ⟨cur, hrow.grown hg (by simpa using hrow.ne_ hs (by decide)), fun k hk => hcur k (by simp at hk; omega)⟩, fun k hk => (h.lev k (by simp at hk; omega)).far hs (by decide) hg, fun k q hk hq e => h.apart k q (by simp at hk; omega) (by simp at hq; omega) e, fun k hk => h.low k (by simp at hk; omega)⟩
def zeroZ (b r d m : Int) (n : Nat) : List Int := List.replicate (cellsN b r d m (n : Int)) 0
def StNewPost (w : World) (b r d m s : Int) (e : Ending) (w' : World) : Prop :=
  ∃ S L X A G C, e = .returned (.tuple #[.pointer (some ⟨S, 0, none⟩), .int .i64 0]) ∧ w.heap.size ≤ S ∧ StIs w' w.heap.size S L b r d m s X A G C (zeroZ b r d m) ∧ Below w.heap.size w w'
theorem Tryz.infoLv : (Tryz.prog.info? 87).map (fun i => (i.zero, i.size, i.bytes)) = some (some .nilIface, 1, 16) := by kernel_rfl
set_option maxRecDepth 100000 in
set_option maxHeartbeats 4000000 in
theorem stnew_no (b r d m s : Int) (hr : rightB b r d m = false) (w : World) :
    Calls Tryz.prog 17 #[.agg #[.int .i64 b, .int .i64 r, .int .i64 d, .int .i64 m, .int .u64 s]] w fun e w' => e = .returned (.tuple #[.pointer none, .int .i64 1]) ∧ Below w.heap.size w w' := by
  have PR := fun w => right_any b r d m s w
  rw [hr] at PR
  have PR := Lib.hid PR
  obtain ⟨g1, hb1, hsz1⟩ := news1 w (.cells #[.int .i64 b, .int .i64 r, .int .i64 d, .int .i64 m, .int .u64 s] 24)
  have hx1 : Blk _ w.heap.size 24 #[.int .i64 b, .int .i64 r, .int .i64 d, .int .i64 m, .int .u64 s] := g1
  have HB1 := Lib.hid hb1
  clear g1 hb1 hsz1 hr
  go_enter Tryz.func17, Tryz.ntmps17
  go_wp2_with (refine wpList_load_row rfl 24 _ rfl w.heap.size rfl 24 _ (0, 0) _ hx1 Tryz.underlying24 rfl (by kernel_rfl) ?_)
  with_reducible refine (PR.out _).mono ?_
  rintro e w2 ⟨rfl, hb⟩
  have HB2 := Lib.hid (btr HB1.out hb)
  clear hb
  go_wp2
  go_ret2
  exact ⟨rfl, HB2.out⟩
set_option maxRecDepth 100000 in
set_option maxHeartbeats 4000000 in
theorem stnew_yes (b r d m s : Int) (hr : rightB b r d m = true) (w : World) :
    Calls Tryz.prog 17 #[.agg #[.int .i64 b, .int .i64 r, .int .i64 d, .int .i64 m, .int .u64 s]] w (StNewPost w b r d m s) := by
  obtain ⟨i0', hi, hz0, hz1, hz2⟩ := info_parts Tryz.infoLv
  have PR := fun w => right_any b r d m s w
  rw [hr] at PR
  have PR := Lib.hid PR
  have HR := Lib.hid hr
  have hb59 := right_of hr
  obtain ⟨n, hn⟩ : ∃ n : Nat, b = (n : Int) := ⟨b.toNat, by omega⟩
  subst hn
  have hn59 : n ≤ 59 := by omega
  have PN := Lib.hid (fun (j : Nat) (hj : j ≤ n) w => lvnew_yes (n : Int) r d m s (j : Int) hr (by omega) (by omega) w)
  clear hb59 hr
  obtain ⟨g1, hb1, hsz1⟩ := news1 w (.cells #[.int .i64 (n : Int), .int .i64 r, .int .i64 d, .int .i64 m, .int .u64 s] 24)
  have hx1 : Blk _ w.heap.size 24 #[.int .i64 (n : Int), .int .i64 r, .int .i64 d, .int .i64 m, .int .u64 s] := g1
  have HB1 := Lib.hid hb1
  have HX1 := Lib.hid hx1
  clear g1 hb1 hsz1
  go_enter Tryz.func17, Tryz.ntmps17
  go_wp2_with (refine wpList_load_row rfl 24 _ rfl w.heap.size rfl 24 _ (0, 0) _ hx1 Tryz.underlying24 rfl (by kernel_rfl) ?_)
  with_reducible refine (PR.out _).mono ?_
  rintro e w2 ⟨rfl, hb⟩
  have HB2 := Lib.hid (btr HB1.out hb)
  have HX2 := Lib.hid (HX1.out.kept hb)
  clear hb hx1
  have q0 := HX2.out.cell 0
  simp at q0
  go_upto_region 5 with (refine wpList_load_row rfl 24 _ rfl w.heap.size rfl 24 _ (0, 0) _ HX2.out Tryz.underlying24 rfl (by kernel_rfl) ?_)
  have HSB := Lib.hid (Blk.new w2 73 #[.int .i64 (n : Int), .int .i64 r, .int .i64 d, .int .i64 m, .int .u64 s, .slice none 0 0])
  have HX3 := Lib.hid (HX2.out.alloc (.cells #[.int .i64 (n : Int), .int .i64 r, .int .i64 d, .int .i64 m, .int .u64 s, .slice none 0 0] 73))
  have HB3 := Lib.hid (HB2.out.alloc HB2.out.size (.cells #[.int .i64 (n : Int), .int .i64 r, .int .i64 d, .int .i64 m, .int .u64 s, .slice none 0 0] 73))
  have HSL : Hid (w.heap.size ≤ w2.heap.size) := Lib.hid HB2.out.size
  clear HX2 HB2 q0 HX1 HB1
  generalize w2.alloc (.cells #[.int .i64 (n : Int), .int .i64 r, .int .i64 d, .int .i64 m, .int .u64 s, .slice none 0 0] 73) = w3 at *
  generalize w2.heap.size = SB at *
  have q0 := HX3.out.cell 0
  simp at q0
  go_wp2_with fail
  clear q0
  go_loopw [5, 18] (fun v i wr => ∃ (j : Nat) (X : Nat → Value) (A G C : Nat → Nat), j ≤ n + 1 ∧ i = .int .i64 (j : Int) ∧ LevsB wr w.heap.size v (n : Int) r d m s X A G C (zeroZ (n : Int) r d m) j ∧ Blk wr w.heap.size 24 #[.int .i64 (n : Int), .int .i64 r, .int .i64 d, .int .i64 m, .int .u64 s] ∧ Blk wr SB 73 #[.int .i64 (n : Int), .int .i64 r, .int .i64 d, .int .i64 m, .int .u64 s, .slice none 0 0] ∧ Below w.heap.size w wr) (fun _ i _ => n + 1 - (intOf i).toNat)
  case atStart => exact ⟨0, fun _ => .nilIface, fun _ => 0, fun _ => 0, fun _ => 0, by omega, rfl, LevsB.zero _ _ _ _ _ _ _ _ _ _ _ _, HX3.out, HSB.out, HB3.out⟩
  case round =>
    obtain ⟨j, X, A, G, C, hj, rfl, hlv, hx, hs, hbel⟩ := hrel
    have HLV := Lib.hid hlv
    have HX := Lib.hid hx
    have HS := Lib.hid hs
    have HBL := Lib.hid hbel
    clear hlv hx hs hbel HX3 HSB HB3
    by_cases hlt : j < n + 1
    · have i0 : (0 : Int) ≤ (j : Int) := by omega
      have i1 : (j : Int) < (n : Int) + 1 := by omega
      have PL := Lib.hid (PN.out j (by omega))
      go_wp2_with (refine wpList_load_row rfl 24 _ rfl w.heap.size rfl 24 _ (0, 0) _ HX.out Tryz.underlying24 rfl (by kernel_rfl) ?_)
      with_reducible refine (PL.out _).mono ?_
      rintro e w4 ⟨x, A4, G4, C4, rfl, hC4, hl4, hb4⟩
      obtain ⟨tx, rfl⟩ := hl4.open_
      have HL4 := Lib.hid hl4
      have HC4 := Lib.hid hC4
      have HLV4 := Lib.hid (HLV.out.kept hb4)
      have HX4 := Lib.hid (HX.out.kept hb4)
      have HS4 := Lib.hid (HS.out.kept hb4)
      have HB4 := Lib.hid (btr HBL.out hb4)
      have hs4 := HB4.out.size
      have HLN : Hid (((List.range j).map X).length = j) := Lib.hid (by simp)
      have HCN : Hid (∀ k, k < j → C k ≠ C4) := Lib.hid (fun k hk => by have := (HLV.out.lev k hk).ltC; omega)
      have hc1 : j + 1 ≤ maxLen := by unfold maxLen; omega
      have hc4 : (j + 1) * 16 ≤ 140737488355328 := by omega
      clear hl4 hC4 hb4 PL
      go_wp2_with (at_builtin; refine wpList_append_own_at _ rfl _ _ 71 rfl w.heap.size 87 i0' .nilIface 1 16 Tryz.underlying71 hi hz0 hz1 hz2 rfl (by decide) _ j _ rfl (World.ownsRow.alloc HLV4.out.own _) ⟨w4.heap.size, 0, none⟩ 1 1 [.iface tx (.pointer (some ⟨A4, 0, none⟩))] rfl rfl (cell_one_new _ _ _) ?c2 hc1 hc4 ?c5 ?_)
      case c2 => simp [Value.oneCell']
      case c5 => simp; omega
      intro v8 w8 hown' hgrow hnil' hq9
      have HAL : Hid (Below w4.heap.size w4 (w4.alloc (.cells #[.iface tx (.pointer (some ⟨A4, 0, none⟩))] 87))) := Lib.hid ((Below.refl _ _).alloc (Nat.le_refl _) _)
      have HLV8 := Lib.hid ((HLV4.out.kept HAL.out).push (HL4.out.kept HAL.out) (Nat.le_trans HBL.out.size HC4.out) HCN.out hgrow hown')
      have HX8 : Hid (Blk w8 w.heap.size 24 #[.int .i64 (n : Int), .int .i64 r, .int .i64 d, .int .i64 m, .int .u64 s]) := Lib.hid ((HX4.out.kept HAL.out).grown hgrow (Ne.symm (own_ne (HLV4.out.kept HAL.out).own (HX4.out.kept HAL.out) (by decide))))
      have HS8 : Hid (Blk w8 SB 73 #[.int .i64 (n : Int), .int .i64 r, .int .i64 d, .int .i64 m, .int .u64 s, .slice none 0 0]) := Lib.hid ((HS4.out.kept HAL.out).grown hgrow (Ne.symm (own_ne (HLV4.out.kept HAL.out).own (HS4.out.kept HAL.out) (by decide))))
      have HB8 : Hid (Below w.heap.size w w8) := Lib.hid ((HB4.out.alloc HB4.out.size _).grown hgrow (by simp; omega) (fun k e => (HLV4.out.own.lt k e).1))
      have HZ8 : Hid (upN (zeroZ (n : Int) r d m) j (List.replicate (cellsN (n : Int) r d m (j : Int)) 0) = zeroZ (n : Int) r d m) := Lib.hid (by
        funext k
        by_cases e : k = j
        · subst e; exact upN_same _ _ _
        · exact upN_other _ _ e)
      rw [HZ8.out] at HLV8
      clear hown' hgrow hnil' hq9 HAL HL4 HZ8
      go_wp2
      go_roundw
      case rel => exact ⟨j + 1, _, _, _, _, by omega, by go_num, HLV8.out, HX8.out, HS8.out, HB8.out⟩
      case measure => simp [intOf]; omega
    · obtain rfl : j = n + 1 := by omega
      obtain ⟨L, hst⟩ := HLV.out.stack HR.out HS.out
      obtain ⟨L2, cap, cur, rfl, -⟩ := HLV.out.row (by omega)
      have HST := Lib.hid hst
      have HBS : Hid (Below w.heap.size w (wr.setCell ⟨SB, 5, none⟩ (.slice (some ⟨L2, 0, none⟩) (n + 1) cap))) := Lib.hid (HBL.out.setCell HSL.out _)
      have f5 := HS.out.frozen 5
      have c5 := HS.out.cell 5
      simp at c5
      have i1 : ¬ (((n + 1 : Nat) : Int) < (n : Int) + 1) := by omega
      clear hst hlt HLV
      go_wp2_with fail
      go_ret2
      exact ⟨SB, L, X, A, G, C, rfl, HSL.out, HST.out, HBS.out⟩
theorem StIs.low_ {w : World} {base base' S L : Nat} {b r d m s : Int} {X : Nat → Value} {A G C : Nat → Nat} {Z : Nat → List Int} (h : StIs w base S L b r d m s X A G C Z) (hb : base' ≤ base) : StIs w base' S L b r d m s X A G C Z :=
  ⟨h.box, h.right, h.row, h.lev, h.apart, fun n hn => Nat.le_trans hb (h.low n hn)⟩
theorem StIs.far {w w' : World} {base S L g : Nat} {t : TypeId} {cs : Array Value} {b r d m s : Int} {X : Nat → Value} {A G C : Nat → Nat} {Z : Nat → List Int} (h : StIs w base S L b r d m s X A G C Z) (hb : Blk w g t cs) (ht : 2 ≠ t ∧ 155 ≠ t ∧ 142 ≠ t ∧ 146 ≠ t)
    (ht2 : 73 ≠ t ∧ 87 ≠ t) (hg : w.grownBy w' (some g)) : StIs w' base S L b r d m s X A G C Z := by
  obtain ⟨cap, h1, h2⟩ := h.box
  obtain ⟨cur, h3, h4⟩ := h.row
  exact ⟨⟨cap, h1.grown hg (by simpa using h1.ne_ hb ht2.1), h2⟩, h.right, ⟨cur, h3.grown hg (by simpa using h3.ne_ hb ht2.2), h4⟩, fun n hn => (h.lev n hn).far hb ht hg, h.apart, h.low⟩
end Go.Proofs.YtbghchgmoiniiaaGreat

/-
  The walks of a stack's methods: Config, level, Cells, Load. Conditions: none beyond those stated at each theorem.
-/
namespace Go.Proofs.YtbghchgmoiniiaaGreat
open Go.RowKit
set_option linter.unusedVariables false
set_option linter.unusedSimpArgs false

theorem Tryz.mExCells (k : Nat) (a : Addr) (w : World) : (method (k + 1) 122 (.pointer (some a)) "Cells").run Tryz.prog w = .ok (119, .pointer (some a)) w := by kernel_rfl
theorem Tryz.mSkCells (k : Nat) (a : Addr) (w : World) : (method (k + 1) 125 (.pointer (some a)) "Cells").run Tryz.prog w = .ok (138, .pointer (some a)) w := by kernel_rfl
theorem Tryz.mExLoad (k : Nat) (a : Addr) (w : World) : (method (k + 1) 122 (.pointer (some a)) "Load").run Tryz.prog w = .ok (123, .pointer (some a)) w := by kernel_rfl
theorem Tryz.mSkLoad (k : Nat) (a : Addr) (w : World) : (method (k + 1) 125 (.pointer (some a)) "Load").run Tryz.prog w = .ok (142, .pointer (some a)) w := by kernel_rfl
theorem stlevel (w : World) (base S L : Nat) (b r d m s : Int) (X : Nat → Value) (A G C : Nat → Nat) (Z : Nat → List Int) (h : StIs w base S L b r d m s X A G C Z) (n : Nat) (hn : n ≤ b.toNat) :
    Calls Tryz.prog 52 #[.pointer (some ⟨S, 0, none⟩), .int .i64 (n : Int)] w fun e w' => e = .returned (.tuple #[X n, .bool true]) ∧ w = w' := by
  obtain ⟨cap, h1, h2⟩ := h.box
  obtain ⟨cur, h3, h4⟩ := h.row
  have hR := right_of h.right
  have c5 := h1.cell 5
  have cn := (h3.cell n).trans (h4 n hn)
  simp at c5
  obtain ⟨q, hq⟩ : ∃ q : Nat, b.toNat = q := ⟨_, rfl⟩
  rw [hq] at c5 hn h2
  have d1 : decide ((n : Int) < 0) = false := decide_eq_false (by omega)
  have d2 : decide ((q : Int) + 1 ≤ (n : Int)) = false := decide_eq_false (by omega)
  have d3 : decide (q + 1 ≤ n) = false := decide_eq_false (by omega)
  have i0 : (0 : Int) ≤ (n : Int) := by omega
  have i1 : (n : Int) < (q : Int) + 1 := by omega
  have i2 : n < q + 1 := by omega
  obtain ⟨t, hx⟩ := (h.lev n (by omega)).open_
  rw [hx] at cn ⊢
  clear h h1 h3 h4 hR hq hx
  go_enter Tryz.func52, Tryz.ntmps52
  go_wp2
  go_ret2
  exact ⟨rfl, rfl⟩
set_option maxRecDepth 100000 in
set_option maxHeartbeats 4000000 in
theorem stcells (w : World) (base S L : Nat) (b r d m s : Int) (X : Nat → Value) (A G C : Nat → Nat) (Z : Nat → List Int) (h : StIs w base S L b r d m s X A G C Z) (n : Nat) (hn : n ≤ b.toNat) :
    Calls Tryz.prog 24 #[.pointer (some ⟨S, 0, none⟩), .int .i64 (n : Int)] w (CellsPost w (Z n)) := by
  have PL := Lib.hid (stlevel w base S L b r d m s X A G C Z h n hn)
  have hl := h.lev n hn
  rcases hl with ⟨h1, h2, h3⟩ | ⟨h1, h2, h3⟩
  · rw [h2] at PL
    have PC := Lib.hid (excells w _ _ _ _ _ _ _ _ _ _ _ h3)
    clear h h1 h2 h3
    have hm := Tryz.mExCells
    go_enter Tryz.func24, Tryz.ntmps24
    go_wp2_with fail
    with_reducible refine PL.out.mono ?_
    rintro e w2 ⟨rfl, hw2⟩
    subst hw2
    go_wp2_with fail
    with_reducible refine PC.out.mono ?_
    rintro e w2 ⟨v, rfl, hrest⟩
    have HR := Lib.hid hrest
    clear hrest
    go_wp2
    go_ret
    exact ⟨v, rfl, HR.out⟩
  · rw [h2] at PL
    have PC := Lib.hid (skcells w _ _ _ _ _ _ _ _ _ _ h3)
    clear h h1 h2 h3
    have hm := Tryz.mSkCells
    go_enter Tryz.func24, Tryz.ntmps24
    go_wp2_with fail
    with_reducible refine PL.out.mono ?_
    rintro e w2 ⟨rfl, hw2⟩
    subst hw2
    go_wp2_with fail
    with_reducible refine PC.out.mono ?_
    rintro e w2 ⟨v, rfl, hrest⟩
    have HR := Lib.hid hrest
    clear hrest
    go_wp2
    go_ret
    exact ⟨v, rfl, HR.out⟩
theorem natR {w : World} {base S L : Nat} {b r d m s : Int} {X : Nat → Value} {A G C : Nat → Nat} {Z : Nat → List Int} (h : StIs w base S L b r d m s X A G C Z) : ∃ R W : Nat, r = (R : Int) ∧ d = (W : Int) ∧ 0 < W := by
  have := right_of h.right
  exact ⟨r.toNat, d.toNat, by omega, by omega, by omega⟩
set_option maxRecDepth 100000 in
set_option maxHeartbeats 4000000 in
theorem stload (w : World) (base S L : Nat) (b r d m s : Int) (X : Nat → Value) (A G C : Nat → Nat) (Z : Nat → List Int) (h : StIs w base S L b r d m s X A G C Z) (n : Nat) (hn : n ≤ b.toNat)
    (v : Value) (cs : List Int) (hv : IntsAt w v cs) (hl : cs.length = cellsN b r d m (n : Int)) (hfit : Fit cs) (hvc : v.ownBlock ≠ some (C n)) :
    Calls Tryz.prog 38 #[.pointer (some ⟨S, 0, none⟩), .int .i64 (n : Int), v] w fun e w' => e = .returned (.bool true) ∧ StIs w' base S L b r d m s X A G C (upN Z n cs) ∧ w.grownBy w' (some (C n)) := by
  have PL := Lib.hid (stlevel w base S L b r d m s X A G C Z h n hn)
  have HS := Lib.hid h
  have HN := Lib.hid hn
  have hlv := h.lev n hn
  rcases hlv with ⟨h1, h2, h3⟩ | ⟨h1, h2, h3⟩
  · rw [h2] at PL
    have PC := Lib.hid (exload_yes w _ _ _ _ _ _ _ _ _ _ _ cs v h3 hv (by rw [hl]; unfold cellsN; rw [if_pos h1]) hfit hvc)
    have H1 := Lib.hid h1
    have H2 := Lib.hid h2
    obtain ⟨vo, vc, rfl, -⟩ := hv
    clear h h1 h2 h3 hl hfit hvc hn
    have hm := Tryz.mExLoad
    go_enter Tryz.func38, Tryz.ntmps38
    go_wp2_with fail
    with_reducible refine PL.out.mono ?_
    rintro e w2 ⟨rfl, hw2⟩
    subst hw2
    go_wp2_with fail
    with_reducible refine PC.out.mono ?_
    rintro e w2 ⟨rfl, ha, hg⟩
    have HA := Lib.hid (HS.out.put HN.out hg (.inl ⟨H1.out, H2.out, ha⟩))
    have HG := Lib.hid hg
    clear ha hg
    go_wp2
    go_ret
    exact ⟨rfl, HA.out, HG.out⟩
  · rw [h2] at PL
    obtain ⟨R, W, rfl, rfl, hW⟩ := natR h
    have PC := Lib.hid (skload_yes w _ _ _ _ R W _ _ _ _ cs v h3 hW hv (by rw [hl]; unfold cellsN; rw [h1]; simp) hfit hvc)
    have H1 := Lib.hid h1
    have H2 := Lib.hid h2
    obtain ⟨vo, vc, rfl, -⟩ := hv
    clear h h1 h2 h3 hl hfit hvc hn
    have hm := Tryz.mSkLoad
    go_enter Tryz.func38, Tryz.ntmps38
    go_wp2_with fail
    with_reducible refine PL.out.mono ?_
    rintro e w2 ⟨rfl, hw2⟩
    subst hw2
    go_wp2_with fail
    with_reducible refine PC.out.mono ?_
    rintro e w2 ⟨rfl, ha, hg⟩
    have HA := Lib.hid (HS.out.put HN.out hg (.inr ⟨H1.out, H2.out, ha⟩))
    have HG := Lib.hid hg
    clear ha hg
    go_wp2
    go_ret
    exact ⟨rfl, HA.out, HG.out⟩
theorem stconfig (w : World) (base S L : Nat) (b r d m s : Int) (X : Nat → Value) (A G C : Nat → Nat) (Z : Nat → List Int) (h : StIs w base S L b r d m s X A G C Z) :
    Calls Tryz.prog 11 #[.pointer (some ⟨S, 0, none⟩)] w fun e w' => e = .returned (.agg #[.int .i64 b, .int .i64 r, .int .i64 d, .int .i64 m, .int .u64 s]) ∧ Below w.heap.size w w' := by
  obtain ⟨g1, hb1, hsz1⟩ := news1 w (.cells #[.int .i64 0, .int .i64 0, .int .i64 0, .int .i64 0, .int .u64 0] 24)
  have hx1 : Blk _ w.heap.size 24 #[.int .i64 0, .int .i64 0, .int .i64 0, .int .i64 0, .int .u64 0] := g1
  obtain ⟨cap, hbx, -⟩ := h.box
  have hA := hbx.kept hb1
  have c0 := hA.cell 0
  have c1 := hA.cell 1
  have c2 := hA.cell 2
  have c3 := hA.cell 3
  have c4 := hA.cell 4
  simp at c0 c1 c2 c3 c4
  have HX1 := Lib.hid hx1
  have HB1 := Lib.hid hb1
  have n0 := hx1.cell 0
  have n1 := hx1.cell 1
  have n2 := hx1.cell 2
  have n3 := hx1.cell 3
  have n4 := hx1.cell 4
  simp at n0 n1 n2 n3 n4
  have f0 := hx1.frozen 0
  have f1 := hx1.frozen 1
  have f2 := hx1.frozen 2
  have f3 := hx1.frozen 3
  have f4 := hx1.frozen 4
  clear hA hx1 hb1 g1 hsz1 h hbx
  go_enter Tryz.func11, Tryz.ntmps11
  go_wp2_with fail
  refine bodyPost_ret (v := .agg #[.int .i64 b, .int .i64 r, .int .i64 d, .int .i64 m, .int .u64 s]) (results_cell_row rfl _ _ w.heap.size 24 _ (0, 0) _ rfl (heap_alloc_new w _) Tryz.underlying24 rfl (by kernel_rfl)) rfl ⟨rfl, ?_⟩
  exact (Below.refl _ _).alloc (Nat.le_refl _) _
end Go.Proofs.YtbghchgmoiniiaaGreat

/-
  The document's levels in memory; the walks of gaugerref10.New and gaugerref13.New. Conditions: none beyond those stated at each theorem.
-/
namespace Go.Proofs.YtbghchgmoiniiaaGreat
open Go.RowKit
set_option linter.unusedVariables false
set_option linter.unusedSimpArgs false

theorem own_frame {w w' : World} {base n : Nat} {e : TypeId} {v : Value} {xs : List Value} (h : w.ownsRow base e 1 v n xs) (hk : ∀ k, v.ownBlock = some k → w'.heap[k]? = w.heap[k]?) : w'.ownsRow base e 1 v n xs := by
  refine ⟨h.1, ?_⟩
  rcases h.2 with h2 | ⟨g, cap, cur, rfl, hb, hg, rest⟩
  · exact .inl h2
  · exact .inr ⟨g, cap, cur, rfl, hb, (hk g rfl).trans hg, rest⟩
theorem RefIs.frame {w w' : World} {N G : Nat} {v : Value} {B K : Nat → Nat} {R W : Nat} {zs : List Int} (h : RefIs w N G v B K R W zs) (hG : w'.heap[G]? = w.heap[G]?) (hv : ∀ k, v.ownBlock = some k → w'.heap[k]? = w.heap[k]?) (hB : ∀ i, i < R → w'.heap[B i]? = w.heap[B i]?) : RefIs w' N G v B K R W zs :=
  ⟨hG.trans h.box, own_frame h.own hv, h.cap, fun r hr => by obtain ⟨cur, hc, hcur⟩ := h.cells r hr; exact ⟨cur, (hB r hr).trans hc, hcur⟩, h.inj, h.lo, h.len, h.rows, h.width⟩
/-- block P is the document's level, all its blocks are F's -/
def RLevIs (w : World) (F : Nat → Prop) (P : Nat) (b r d m s l : Int) (zs : List Int) : Prop :=
  (exactB b r d m l = true ∧ ∃ RA LA, Blk w P 104 #[.pointer (some ⟨RA, 0, none⟩), .pointer none] ∧ RArr w RA LA b r d m s l zs ∧ zs.length = (keysI b r d m l).toNat ∧ F P ∧ F RA ∧ F LA) ∨
  (exactB b r d m l = false ∧ ∃ SA G v B K N, Blk w P 104 #[.pointer none, .pointer (some ⟨SA, 0, none⟩)] ∧ Blk w SA 109 #[.int .i64 b, .int .i64 r, .int .i64 d, .int .i64 m, .int .u64 s, .int .i64 l, .pointer (some ⟨G, 0, none⟩)] ∧
    RefIs w N G v B K r.toNat d.toNat zs ∧ F P ∧ F SA ∧ F G ∧ (∀ k, v.ownBlock = some k → F k) ∧ ∀ i, i < r.toNat → F (B i))
theorem RLevIs.frame {w w' : World} {F : Nat → Prop} {P : Nat} {b r d m s l : Int} {zs : List Int} (h : RLevIs w F P b r d m s l zs) (hk : ∀ k, F k → w'.heap[k]? = w.heap[k]?) : RLevIs w' F P b r d m s l zs := by
  rcases h with ⟨h1, RA, LA, h2, ⟨cap, cur, h3, h4, h5, h6⟩, h7, f1, f2, f3⟩ | ⟨h1, SA, G, v, B, K, N, h2, h3, h4, f1, f2, f3, f4, f5⟩
  · exact .inl ⟨h1, RA, LA, (hk _ f1).trans h2, ⟨cap, cur, h3, (hk _ f2).trans h4, (hk _ f3).trans h5, h6⟩, h7, f1, f2, f3⟩
  · exact .inr ⟨h1, SA, G, v, B, K, N, (hk _ f1).trans h2, (hk _ f2).trans h3, h4.frame (hk _ f3) (fun k e => hk _ (f4 k e)) (fun i hi => hk _ (f5 i hi)), f1, f2, f3, f4, f5⟩
theorem RLevIs.len {w : World} {F : Nat → Prop} {P : Nat} {b r d m s l : Int} {zs : List Int} (h : RLevIs w F P b r d m s l zs) : zs.length = cellsN b r d m l := by
  unfold cellsN
  rcases h with ⟨h1, RA, LA, h2, h3, h7, -⟩ | ⟨h1, SA, G, v, B, K, N, h2, h3, h4, -⟩
  · rw [if_pos h1, h7]
  · rw [h1]; simpa using h4.len
theorem RLevIs.more {w : World} {F F' : Nat → Prop} {P : Nat} {b r d m s l : Int} {zs : List Int} (h : RLevIs w F P b r d m s l zs) (hf : ∀ k, F k → F' k) : RLevIs w F' P b r d m s l zs := by
  rcases h with ⟨h1, RA, LA, h2, h3, h7, f1, f2, f3⟩ | ⟨h1, SA, G, v, B, K, N, h2, h3, h4, f1, f2, f3, f4, f5⟩
  · exact .inl ⟨h1, RA, LA, h2, h3, h7, hf _ f1, hf _ f2, hf _ f3⟩
  · exact .inr ⟨h1, SA, G, v, B, K, N, h2, h3, h4, hf _ f1, hf _ f2, hf _ f3, fun k e => hf _ (f4 k e), fun i hi => hf _ (f5 i hi)⟩
def RSkPost (w : World) (b r d m s l : Int) (e : Ending) (w' : World) : Prop :=
  ∃ SA G v B K, e = .returned (.pointer (some ⟨SA, 0, none⟩)) ∧ w.heap.size ≤ SA ∧ Blk w' SA 109 #[.int .i64 b, .int .i64 r, .int .i64 d, .int .i64 m, .int .u64 s, .int .i64 l, .pointer (some ⟨G, 0, none⟩)] ∧ RefIs w' w.heap.size G v B K r.toNat d.toNat (List.replicate (r.toNat * d.toNat) 0) ∧ Below w.heap.size w w'
theorem RefIs.base {w : World} {N N' G : Nat} {v : Value} {B K : Nat → Nat} {R W : Nat} {zs : List Int} (h : RefIs w N G v B K R W zs) (hn : N' ≤ N) : RefIs w N' G v B K R W zs := by
  refine ⟨h.box, ⟨h.own.1, ?_⟩, h.cap, h.cells, h.inj, ⟨Nat.le_trans hn h.lo.1, fun r hr => Nat.le_trans hn (h.lo.2 r hr)⟩, h.len, h.rows, h.width⟩
  rcases h.own.2 with h2 | ⟨g, cap, cur, e, hb, rest⟩
  · exact .inl h2
  · exact .inr ⟨g, cap, cur, e, Nat.le_trans hn hb, rest⟩
set_option maxRecDepth 100000 in
set_option maxHeartbeats 4000000 in
theorem rsknew (b r d m s l : Int) (hr : rightB b r d m = true) (w : World) :
    Calls Tryz.prog 66 #[.agg #[.int .i64 b, .int .i64 r, .int .i64 d, .int .i64 m, .int .u64 s], .int .i64 l] w (RSkPost w b r d m s l) := by
  have hR := right_of hr
  have PN := Lib.hid (fun w => rnew_any r d w)
  rw [clampN_of (by omega), clampN_of (by omega)] at PN
  clear hr hR
  obtain ⟨g1, hb1, hsz1⟩ := news1 w (.cells #[.int .i64 b, .int .i64 r, .int .i64 d, .int .i64 m, .int .u64 s] 24)
  have HX1 : Hid (Blk _ w.heap.size 24 #[.int .i64 b, .int .i64 r, .int .i64 d, .int .i64 m, .int .u64 s]) := Lib.hid g1
  have HB1 := Lib.hid hb1
  clear g1 hb1 hsz1
  go_enter Tryz.func66, Tryz.ntmps66
  go_wp2_with fail
  refine wp_region_held_drew (S := fun w' => Blk w' w.heap.size 24 #[.int .i64 b, .int .i64 r, .int .i64 d, .int .i64 m, .int .u64 s] ∧ Below w.heap.size w w') (by kernel_rfl) (by exact ⟨HX1.out.drewN 1, below_drewN HB1.out 1⟩) (fun hHeld => ?_)
  refine wpAnyH_take (i := 0) (v := ?_) rfl (by kernel_rfl) (by kernel_rfl) (by kernel_rfl) (fun _ _ _ h => h) (Or.inl ⟨by rfl, ?_⟩) (by assumption) ?_
  rotate_left
  · intro w hSw
    have q0 := hSw.1.cell 0
    have q1 := hSw.1.cell 1
    have q2 := hSw.1.cell 2
    simp at q0 q1 q2
    try refine (exec_load_row 24 _ rfl _ rfl 24 _ (0, 0) _ hSw.1 Tryz.underlying24 rfl (by kernel_rfl)).trans ?_
    go_simp
    try with_reducible rfl
  simp only [Act.put, List.setIfInBounds_toArray, List.set_cons_zero, List.set_cons_succ, List.getElem_toArray, List.getElem_cons_zero, List.getElem_cons_succ]
  refine wpAnyH_take (i := 1) (v := ?_) rfl (by kernel_rfl) (by kernel_rfl) (by kernel_rfl) (fun _ _ _ h => h) (Or.inl ⟨by rfl, ?_⟩) (by assumption) ?_
  rotate_left
  · intro w hSw
    try dsimp only at hSw
    go_simp
    try with_reducible rfl
  simp only [Act.put, List.setIfInBounds_toArray, List.set_cons_zero, List.set_cons_succ, List.getElem_toArray, List.getElem_cons_zero, List.getElem_cons_succ]
  refine wpAnyH_take (i := 2) (v := ?_) rfl (by kernel_rfl) (by kernel_rfl) (by kernel_rfl) (fun _ _ _ h => h) (Or.inl ⟨by rfl, ?_⟩) (by assumption) ?_
  rotate_left
  · intro w hSw
    try dsimp only at hSw
    go_simp
    try with_reducible rfl
  simp only [Act.put, List.setIfInBounds_toArray, List.set_cons_zero, List.set_cons_succ, List.getElem_toArray, List.getElem_cons_zero, List.getElem_cons_succ]
  refine wpAnyH_take (i := 3) (v := ?_) rfl (by kernel_rfl) (by kernel_rfl) (by kernel_rfl) (fun _ _ _ h => h) (Or.inl ⟨by rfl, ?_⟩) (by assumption) ?_
  rotate_left
  · intro w hSw
    have q0 := hSw.1.cell 0
    have q1 := hSw.1.cell 1
    have q2 := hSw.1.cell 2
    simp at q0 q1 q2
    try refine (exec_load_row 24 _ rfl _ rfl 24 _ (0, 0) _ hSw.1 Tryz.underlying24 rfl (by kernel_rfl)).trans ?_
    go_simp
    try with_reducible rfl
  simp only [Act.put, List.setIfInBounds_toArray, List.set_cons_zero, List.set_cons_succ, List.getElem_toArray, List.getElem_cons_zero, List.getElem_cons_succ]
  refine wpAnyH_take (i := 4) (v := ?_) rfl (by kernel_rfl) (by kernel_rfl) (by kernel_rfl) (fun _ _ _ h => h) (Or.inl ⟨by rfl, ?_⟩) (by assumption) ?_
  rotate_left
  · intro w hSw
    try dsimp only at hSw
    go_simp
    try with_reducible rfl
  simp only [Act.put, List.setIfInBounds_toArray, List.set_cons_zero, List.set_cons_succ, List.getElem_toArray, List.getElem_cons_zero, List.getElem_cons_succ]
  refine wpAnyH_take (i := 5) (v := ?_) rfl (by kernel_rfl) (by kernel_rfl) (by kernel_rfl) (fun _ _ _ h => h) (Or.inl ⟨by rfl, ?_⟩) (by assumption) ?_
  rotate_left
  · intro w hSw
    have q0 := hSw.1.cell 0
    have q1 := hSw.1.cell 1
    have q2 := hSw.1.cell 2
    simp at q0 q1 q2
    try refine (exec_load_row 24 _ rfl _ rfl 24 _ (0, 0) _ hSw.1 Tryz.underlying24 rfl (by kernel_rfl)).trans ?_
    go_simp
    try with_reducible rfl
  simp only [Act.put, List.setIfInBounds_toArray, List.set_cons_zero, List.set_cons_succ, List.getElem_toArray, List.getElem_cons_zero, List.getElem_cons_succ]
  refine wpAnyH_ready (rs := [6]) (by kernel_rfl) (by simp) ?_
  refine AllReadyH.cons rfl (fun Kc hKc => ?_) AllReadyH.nil
  go_simp
  go_wp2_with (go_at_call 74; refine (PN.out _).mono ?_; rintro e w4 ⟨G, v, B, K, rfl, hg, hb'⟩; have HG4 := Lib.hid hg; have HB4 := Lib.hid (btr hHeld.2 hb'); have HN4 : Hid (w.heap.size ≤ _) := Lib.hid hHeld.2.size; clear hg)
  refine hKc.out _ _ ?_ (fun hHeld => ?_)
  · first | assumption | exact ⟨hHeld.1.kept hb', btr hHeld.2 hb'⟩ | exact ⟨hHeld.1.alloc _, hHeld.2.alloc hHeld.2.size _⟩
  clear hKc Kc
  refine wpAnyH_take (i := 7) (v := ?_) rfl (by kernel_rfl) (by kernel_rfl) (by kernel_rfl) (fun _ _ _ h => h) (Or.inl ⟨by rfl, ?_⟩) (by assumption) ?_
  rotate_left
  · intro w hSw
    try dsimp only at hSw
    go_simp
    try with_reducible rfl
  simp only [Act.put, List.setIfInBounds_toArray, List.set_cons_zero, List.set_cons_succ, List.getElem_toArray, List.getElem_cons_zero, List.getElem_cons_succ]
  refine wpAnyH_ready (rs := [8]) (by kernel_rfl) (by simp) ?_
  refine AllReadyH.cons rfl (fun Kc hKc => ?_) AllReadyH.nil
  go_simp
  refine hKc.out _ _ ?_ (fun hHeld => ?_)
  · first | assumption | exact ⟨hHeld.1.kept hb', btr hHeld.2 hb'⟩ | exact ⟨hHeld.1.alloc _, hHeld.2.alloc hHeld.2.size _⟩
  clear hKc Kc
  refine wpAnyH_take (i := 9) (v := ?_) rfl (by kernel_rfl) (by kernel_rfl) (by kernel_rfl) (fun _ _ _ h => h) (Or.inl ⟨by rfl, ?_⟩) (by assumption) ?_
  rotate_left
  · intro w hSw
    try dsimp only at hSw
    go_simp
    try with_reducible rfl
  simp only [Act.put, List.setIfInBounds_toArray, List.set_cons_zero, List.set_cons_succ, List.getElem_toArray, List.getElem_cons_zero, List.getElem_cons_succ]
  refine wpAnyH_done (by kernel_rfl) ?_ _
  have HNEW := Lib.hid (Blk.new w4 109 #[.int .i64 b, .int .i64 r, .int .i64 d, .int .i64 m, .int .u64 s, .int .i64 l, .pointer (some ⟨G, 0, none⟩)])
  have HAL : Hid (Below w4.heap.size w4 (w4.alloc (.cells #[.int .i64 b, .int .i64 r, .int .i64 d, .int .i64 m, .int .u64 s, .int .i64 l, .pointer (some ⟨G, 0, none⟩)] 109))) := Lib.hid ((Below.refl _ _).alloc (Nat.le_refl _) _)
  have HG5 := Lib.hid ((HG4.out.kept HAL.out).base HN4.out)
  have HB5 := Lib.hid (btr HB4.out HAL.out)
  clear hHeld
  go_wp2_with fail
  go_ret
  exact ⟨w4.heap.size, G, v, B, K, rfl, HB4.out.size, HNEW.out, HG5.out, HB5.out⟩
/-- the blocks that lie between two places -/
def Btw (a c : Nat) : Nat → Prop := fun k => a ≤ k ∧ k < c
def RLvPost (w : World) (b r d m s l : Int) (e : Ending) (w' : World) : Prop :=
  ∃ P, e = .returned (.pointer (some ⟨P, 0, none⟩)) ∧ RLevIs w' (Btw w.heap.size w'.heap.size) P b r d m s l (List.replicate (cellsN b r d m l) 0) ∧ Below w.heap.size w w'
theorem RefIs.inside {w : World} {N G : Nat} {v : Value} {B K : Nat → Nat} {R W : Nat} {zs : List Int} (h : RefIs w N G v B K R W zs) : Btw N w.heap.size G ∧ (∀ k, v.ownBlock = some k → Btw N w.heap.size k) ∧ ∀ i, i < R → Btw N w.heap.size (B i) :=
  ⟨⟨h.lo.1, h.box.lt⟩, fun k e => h.own.lt k e, fun i hi => ⟨h.lo.2 i hi, by obtain ⟨cur, hc, -⟩ := h.cells i hi; exact (show Blk w (B i) _ _ from hc).lt⟩⟩
set_option maxRecDepth 100000 in
set_option maxHeartbeats 4000000 in
theorem rlnew (b r d m s l : Int) (hr : rightB b r d m = true) (w : World) :
    Calls Tryz.prog 46 #[.agg #[.int .i64 b, .int .i64 r, .int .i64 d, .int .i64 m, .int .u64 s], .int .i64 l] w (RLvPost w b r d m s l) := by
  have PE := fun w => rexact_any b r d m s l w
  have hR := right_of hr
  obtain ⟨g1, hb1, hsz1⟩ := news1 w (.cells #[.int .i64 b, .int .i64 r, .int .i64 d, .int .i64 m, .int .u64 s] 24)
  have hx1 : Blk _ w.heap.size 24 #[.int .i64 b, .int .i64 r, .int .i64 d, .int .i64 m, .int .u64 s] := g1
  have HB1 := Lib.hid hb1
  have HX1 := Lib.hid hx1
  clear g1 hb1 hsz1
  cases he : exactB b r d m l
  · rw [he] at PE
    have PE := Lib.hid PE
    have PS := Lib.hid (fun w => rsknew b r d m s l hr w)
    have HEX := Lib.hid he
    have HCN : Hid (cellsN b r d m l = r.toNat * d.toNat) := Lib.hid (by unfold cellsN; rw [he]; simp)
    clear he hr hR
    go_enter Tryz.func46, Tryz.ntmps46
    go_wp2_with (refine wpList_load_row rfl 24 _ rfl w.heap.size rfl 24 _ (0, 0) _ hx1 Tryz.underlying24 rfl (by kernel_rfl) ?_)
    with_reducible refine (PE.out _).mono ?_
    rintro e w2 ⟨rfl, hb⟩
    have HB2 := Lib.hid (btr HB1.out hb)
    have HX2 := Lib.hid (HX1.out.kept hb)
    clear hb hx1
    go_wp2_with (refine wpList_load_row rfl 24 _ rfl w.heap.size rfl 24 _ (0, 0) _ HX2.out Tryz.underlying24 rfl (by kernel_rfl) ?_)
    with_reducible refine (PS.out _).mono ?_
    rintro e w3 ⟨SA, G, v, B, K, rfl, hSA, hsk, hrf, hb⟩
    have HB3 := Lib.hid (btr HB2.out hb)
    have HSK := Lib.hid hsk
    have HRF := Lib.hid (hrf.base HB2.out.size)
    have HSA : Hid (w.heap.size ≤ SA) := Lib.hid (Nat.le_trans HB2.out.size hSA)
    clear hb hsk hrf hSA
    have HNEW := Lib.hid (Blk.new w3 104 #[.pointer none, .pointer (some ⟨SA, 0, none⟩)])
    have HAL : Hid (Below w3.heap.size w3 (w3.alloc (.cells #[.pointer none, .pointer (some ⟨SA, 0, none⟩)] 104))) := Lib.hid ((Below.refl _ _).alloc (Nat.le_refl _) _)
    have HSK4 := Lib.hid (HSK.out.kept HAL.out)
    have HRF4 := Lib.hid (HRF.out.kept HAL.out)
    have HB4 := Lib.hid (btr HB3.out HAL.out)
    have hsz3 := HB3.out.size
    go_wp2
    go_ret
    exact ⟨w3.heap.size, rfl, .inr ⟨HEX.out, SA, G, v, B, K, _, HNEW.out, HSK4.out, by rw [HCN.out]; exact HRF4.out, ⟨hsz3, HNEW.out.lt⟩, ⟨HSA.out, HSK4.out.lt⟩, HRF4.out.inside.1, HRF4.out.inside.2.1, HRF4.out.inside.2.2⟩, HB4.out⟩
  · rw [he] at PE
    have PE := Lib.hid PE
    have hkd := of_decide_eq_true he
    obtain ⟨K, hK⟩ : ∃ K : Nat, keysI b r d m l = (K : Int) := ⟨(keysI b r d m l).toNat, by omega⟩
    have hK128 : K ≤ 128 := by omega
    have PK := Lib.hid (fun w => rkeys_any b r d m s l w)
    rw [hK] at PK
    have PX := Lib.hid (fun w => rxnew b r d m s l K hK128 w)
    have HEX := Lib.hid he
    have HKK := Lib.hid hK
    have HCN : Hid (cellsN b r d m l = K) := Lib.hid (by unfold cellsN; rw [he, hK]; simp)
    clear he hr hR hkd hK
    go_enter Tryz.func46, Tryz.ntmps46
    go_wp2_with (refine wpList_load_row rfl 24 _ rfl w.heap.size rfl 24 _ (0, 0) _ hx1 Tryz.underlying24 rfl (by kernel_rfl) ?_)
    with_reducible refine (PE.out _).mono ?_
    rintro e w2 ⟨rfl, hb⟩
    have HB2 := Lib.hid (btr HB1.out hb)
    have HX2 := Lib.hid (HX1.out.kept hb)
    clear hb hx1
    go_wp2_with fail
    refine wp_region_held_drew (S := fun w' => Blk w' w.heap.size 24 #[.int .i64 b, .int .i64 r, .int .i64 d, .int .i64 m, .int .u64 s] ∧ Below w.heap.size w w') (by kernel_rfl) (by exact ⟨HX2.out.drewN 1, below_drewN HB2.out 1⟩) (fun hHeld => ?_)
    refine wpAnyH_take (i := 0) (v := ?_) rfl (by kernel_rfl) (by kernel_rfl) (by kernel_rfl) (fun _ _ _ h => h) (Or.inl ⟨by rfl, ?_⟩) (by assumption) ?_
    rotate_left
    · intro w hSw
      try refine (exec_load_row 24 _ rfl _ rfl 24 _ (0, 0) _ hSw.1 Tryz.underlying24 rfl (by kernel_rfl)).trans ?_
      go_simp
      try with_reducible rfl
    simp only [Act.put, List.setIfInBounds_toArray, List.set_cons_zero, List.set_cons_succ, List.getElem_toArray, List.getElem_cons_zero, List.getElem_cons_succ]
    refine wpAnyH_take (i := 1) (v := ?_) rfl (by kernel_rfl) (by kernel_rfl) (by kernel_rfl) (fun _ _ _ h => h) (Or.inl ⟨by rfl, ?_⟩) (by assumption) ?_
    rotate_left
    · intro w hSw
      try dsimp only at hSw
      go_simp
      try with_reducible rfl
    simp only [Act.put, List.setIfInBounds_toArray, List.set_cons_zero, List.set_cons_succ, List.getElem_toArray, List.getElem_cons_zero, List.getElem_cons_succ]
    refine wpAnyH_take (i := 2) (v := ?_) rfl (by kernel_rfl) (by kernel_rfl) (by kernel_rfl) (fun _ _ _ h => h) (Or.inl ⟨by rfl, ?_⟩) (by assumption) ?_
    rotate_left
    · intro w hSw
      try refine (exec_load_row 24 _ rfl _ rfl 24 _ (0, 0) _ hSw.1 Tryz.underlying24 rfl (by kernel_rfl)).trans ?_
      go_simp
      try with_reducible rfl
    simp only [Act.put, List.setIfInBounds_toArray, List.set_cons_zero, List.set_cons_succ, List.getElem_toArray, List.getElem_cons_zero, List.getElem_cons_succ]
    refine wpAnyH_take (i := 3) (v := ?_) rfl (by kernel_rfl) (by kernel_rfl) (by kernel_rfl) (fun _ _ _ h => h) (Or.inl ⟨by rfl, ?_⟩) (by assumption) ?_
    rotate_left
    · intro w hSw
      try dsimp only at hSw
      go_simp
      try with_reducible rfl
    simp only [Act.put, List.setIfInBounds_toArray, List.set_cons_zero, List.set_cons_succ, List.getElem_toArray, List.getElem_cons_zero, List.getElem_cons_succ]
    refine wpAnyH_ready (rs := [4]) (by kernel_rfl) (by simp) ?_
    refine AllReadyH.cons rfl (fun Kc hKc => ?_) AllReadyH.nil
    go_simp
    go_wp2_with (first | (go_at_call 33; refine (PK.out _).mono ?_; rintro e w3 ⟨rfl, hb'⟩) | (go_at_call 65; refine (PX.out _).mono ?_; rintro e w4 ⟨RA, LA, rfl, hRA, hLA, hra, hb'⟩; have HRA := Lib.hid hra; have HB4 := Lib.hid (btr hHeld.2 hb'); have HLO : Hid (w.heap.size ≤ RA ∧ w.heap.size ≤ LA) := Lib.hid ⟨Nat.le_trans hHeld.2.size hRA, Nat.le_trans hHeld.2.size hLA⟩; clear hra hRA hLA))
    refine hKc.out _ _ ?_ (fun hHeld => ?_)
    · first | assumption | exact ⟨hHeld.1.kept hb', btr hHeld.2 hb'⟩ | exact ⟨hHeld.1.alloc _, hHeld.2.alloc hHeld.2.size _⟩
    clear hKc Kc
    refine wpAnyH_ready (rs := [5]) (by kernel_rfl) (by simp) ?_
    refine AllReadyH.cons rfl (fun Kc hKc => ?_) AllReadyH.nil
    go_simp
    go_wp2_with (first | (go_at_call 33; refine (PK.out _).mono ?_; rintro e w3 ⟨rfl, hb'⟩) | (go_at_call 65; refine (PX.out _).mono ?_; rintro e w4 ⟨RA, LA, rfl, hRA, hLA, hra, hb'⟩; have HRA := Lib.hid hra; have HB4 := Lib.hid (btr hHeld.2 hb'); have HLO : Hid (w.heap.size ≤ RA ∧ w.heap.size ≤ LA) := Lib.hid ⟨Nat.le_trans hHeld.2.size hRA, Nat.le_trans hHeld.2.size hLA⟩; clear hra hRA hLA))
    refine hKc.out _ _ ?_ (fun hHeld => ?_)
    · first | assumption | exact ⟨hHeld.1.kept hb', btr hHeld.2 hb'⟩ | exact ⟨hHeld.1.alloc _, hHeld.2.alloc hHeld.2.size _⟩
    clear hKc Kc
    refine wpAnyH_take (i := 6) (v := ?_) rfl (by kernel_rfl) (by kernel_rfl) (by kernel_rfl) (fun _ _ _ h => h) (Or.inl ⟨by rfl, ?_⟩) (by assumption) ?_
    rotate_left
    · intro w hSw
      try dsimp only at hSw
      go_simp
      try with_reducible rfl
    simp only [Act.put, List.setIfInBounds_toArray, List.set_cons_zero, List.set_cons_succ, List.getElem_toArray, List.getElem_cons_zero, List.getElem_cons_succ]
    refine wpAnyH_ready (rs := [7]) (by kernel_rfl) (by simp) ?_
    refine AllReadyH.cons rfl (fun Kc hKc => ?_) AllReadyH.nil
    go_simp
    refine hKc.out _ _ ?_ (fun hHeld => ?_)
    · first | assumption | exact ⟨hHeld.1.kept hb', btr hHeld.2 hb'⟩ | exact ⟨hHeld.1.alloc _, hHeld.2.alloc hHeld.2.size _⟩
    clear hKc Kc
    refine wpAnyH_take (i := 8) (v := ?_) rfl (by kernel_rfl) (by kernel_rfl) (by kernel_rfl) (fun _ _ _ h => h) (Or.inl ⟨by rfl, ?_⟩) (by assumption) ?_
    rotate_left
    · intro w hSw
      try dsimp only at hSw
      go_simp
      try with_reducible rfl
    simp only [Act.put, List.setIfInBounds_toArray, List.set_cons_zero, List.set_cons_succ, List.getElem_toArray, List.getElem_cons_zero, List.getElem_cons_succ]
    refine wpAnyH_done (by kernel_rfl) ?_ _
    have HNEW := Lib.hid (Blk.new w4 104 #[.pointer (some ⟨RA, 0, none⟩), .pointer none])
    have HAL : Hid (Below w4.heap.size w4 (w4.alloc (.cells #[.pointer (some ⟨RA, 0, none⟩), .pointer none] 104))) := Lib.hid ((Below.refl _ _).alloc (Nat.le_refl _) _)
    have HRA5 := Lib.hid (HRA.out.kept HAL.out)
    have HB5 := Lib.hid (btr HB4.out HAL.out)
    have hsz4 := HB4.out.size
    clear hHeld
    go_wp2
    go_ret
    exact ⟨w4.heap.size, rfl, .inl ⟨HEX.out, RA, LA, HNEW.out, by rw [HCN.out]; exact HRA5.out, by rw [HCN.out, HKK.out]; simp, ⟨hsz4, HNEW.out.lt⟩, ⟨HLO.out.1, HRA5.out.ltR⟩, ⟨HLO.out.2, HRA5.out.ltL⟩⟩, HB5.out⟩
end Go.Proofs.YtbghchgmoiniiaaGreat

/-
  The walk of the document's level's Cells. Conditions: none beyond those stated at each theorem.
-/
namespace Go.Proofs.YtbghchgmoiniiaaGreat
open Go.RowKit
set_option linter.unusedVariables false
set_option linter.unusedSimpArgs false

/-- a new slice that holds the numbers -/
def IntsNew (w : World) (zs : List Int) (e : Ending) (w' : World) : Prop :=
  ∃ g cap, e = .returned (.slice (some ⟨g, 0, none⟩) zs.length cap) ∧ zs.length ≤ cap ∧ w.heap.size ≤ g ∧ IntsAt w' (.slice (some ⟨g, 0, none⟩) zs.length cap) zs ∧ Below w.heap.size w w'
theorem RArr.ints {w : World} {R L : Nat} {b r d m s l : Int} {zs : List Int} (h : RArr w R L b r d m s l zs) : ∃ cap, w.cell? ⟨R, 6, none⟩ = some (.slice (some ⟨L, 0, none⟩) zs.length cap) ∧ zs.length ≤ cap ∧ ∀ j u, (zs.map (Value.int .i64))[j]? = some u → w.cell? ((Addr.mk L 0 none).add j) = some u := by
  obtain ⟨cap, cur, h1, h2, h3, h4⟩ := h
  refine ⟨cap, h2.cell 6, h1, fun j u hu => ?_⟩
  rw [List.getElem?_map] at hu
  cases hz : zs[j]? with
  | none => rw [hz] at hu; simp at hu
  | some z =>
    rw [hz] at hu
    simp at hu
    subst hu
    rw [addr_add, Nat.zero_add]
    exact (h3.cell j).trans (h4 j z hz)
set_option maxRecDepth 100000 in
set_option maxHeartbeats 4000000 in
theorem rlcells (w : World) (F : Nat → Prop) (P : Nat) (b r d m s l : Int) (zs : List Int) (h : RLevIs w F P b r d m s l zs) (hl : zs.length ≤ 1024) :
    Calls Tryz.prog 28 #[.pointer (some ⟨P, 0, none⟩)] w (IntsNew w zs) := by
  obtain ⟨i0', hi, hz0, hz1, hz2⟩ := info_parts Tryz.info64
  rcases h with ⟨h1, RA, LA, h2, h3, h7, f1, f2, f3⟩ | ⟨h1, SA, G, v, B, K, N, h2, h3, h4, f1, f2, f3, f4, f5⟩
  · have HP1 := h2.alloc (.cells #[] 2)
    have c0 := h2.cell 0
    have k0 := HP1.cell 0
    simp at c0 k0
    have h3' := h3.kept ((Below.refl _ _).alloc (Nat.le_refl _) (.cells #[] 2))
    obtain ⟨cap, k6, hcap, hnw⟩ := h3'.ints
    have HNW := Lib.hid hnw
    obtain ⟨n, hn⟩ : ∃ n, n = zs.length := ⟨_, rfl⟩
    have HN := Lib.hid hn
    rw [← hn] at k6 hcap hl
    have hown0 := World.ownsRow_lit (base := w.heap.size) (e := 2) (size := 1) w #[] 0 (by exact Nat.le_refl _) (by unfold maxLen; omega) (by simp)
    have HO1 := Lib.hid hown0
    have HB1 : Hid (Below w.heap.size w (w.alloc (.cells #[] 2))) := Lib.hid ((Below.refl _ _).alloc (Nat.le_refl _) _)
    clear h1 h2 h3 h7 f1 f2 f3 HP1 h3' hnw hn hown0
    go_enter Tryz.func28, Tryz.ntmps28
    go_wp2_with (at_builtin; go_loud (refine wpList_append_lit rfl _ _ 62 rfl w.heap.size 2 i0' (.int .i64 0) 8 Tryz.underlying62 hi hz0 hz1 hz2 rfl w.heap.size 0 rfl HO1.out (some ⟨LA, 0, none⟩) n cap (zs.map (Value.int .i64)) rfl (by rw [List.length_map]; exact HN.out.symm) (fun _ => ⟨_, rfl, HNW.out⟩) (fun u hu => by obtain ⟨z, -, rfl⟩ := List.mem_map.1 hu; rfl) (by unfold maxLen; omega) (by omega) (by simp) ?_))
    intro v5 w5 o5 g5 n5 q5
    rw [HN.out] at o5
    obtain ⟨g, cp, rfl, hg0, hgc, cur, hcur, hcc⟩ := own_row o5 n5
    have HI : Hid (IntsAt w5 (.slice (some ⟨g, 0, none⟩) zs.length cp) zs) := Lib.hid (IntsAt.of_own o5 rfl)
    have HB5 : Hid (Below w.heap.size w w5) := Lib.hid (HB1.out.grown g5 (by simp) (fun k e => by have := Option.some.inj e; omega))
    have HG := Lib.hid (And.intro hgc hg0)
    clear o5 g5 n5 q5 hcur hcc hgc hg0
    go_wp2
    go_ret
    exact ⟨g, cp, rfl, HG.out.1, HG.out.2, HI.out, HB5.out⟩
  · have c0 := h2.cell 0
    have c1 := h2.cell 1
    have c6 := h3.cell 6
    simp at c0 c1 c6
    have PC := Lib.hid (rcells_any w N G v B K _ _ zs h4)
    clear h1 h2 h3 h4 f1 f2 f3 f4 f5
    go_enter Tryz.func28, Tryz.ntmps28
    go_wp2_with fail
    with_reducible refine PC.out.mono ?_
    rintro e w2 ⟨g, cp, rfl, hgc, hg0, hi, hb⟩
    have HH := Lib.hid (And.intro hgc (And.intro hg0 (And.intro hi hb)))
    clear hgc hg0 hi hb
    go_wp2
    go_ret
    exact ⟨g, cp, rfl, HH.out.1, HH.out.2.1, HH.out.2.2.1, HH.out.2.2.2⟩
end Go.Proofs.YtbghchgmoiniiaaGreat

/-
  The walk of the document's level's Load. Conditions: none beyond those stated at each theorem.
-/
namespace Go.Proofs.YtbghchgmoiniiaaGreat
open Go.RowKit
set_option linter.unusedVariables false
set_option linter.unusedSimpArgs false

/-- a slice of numbers, anywhere in a block of numbers -/
def ZAt (w : World) (v : Value) (zs : List Int) : Prop :=
  ∃ g off cap cur, v = .slice (some ⟨g, off, none⟩) zs.length cap ∧ zs.length ≤ cap ∧ Blk w g 2 cur ∧ ∀ (i : Nat) (u : Int), zs[i]? = some u → w.cell? ⟨g, off + i, none⟩ = some (.int .i64 u)
/-- only blocks of F have changed; new ones may be there -/
def Only (F : Nat → Prop) (w w' : World) : Prop := w'.os = w.os ∧ w'.tape = w.tape ∧ w'.output = w.output ∧ w.heap.size ≤ w'.heap.size ∧ ∀ k, k < w.heap.size → ¬ F k → w'.heap[k]? = w.heap[k]?
theorem Only.of_gr {w w' : World} {F : Nat → Prop} {g : Nat} (h : w.grownBy w' (some g)) (hg : F g) : Only F w w' :=
  ⟨h.os, h.tape, h.output, h.size, fun k hk hn => h.block k hk (fun e => hn (by rw [Option.some.inj e]; exact hg))⟩
theorem Only.trans {w w1 w2 : World} {F F1 : Nat → Prop} (h : Only F w w1) (k : Only F1 w1 w2) (hf : ∀ x, F1 x → F x ∨ w.heap.size ≤ x) : Only F w w2 :=
  ⟨k.1.trans h.1, k.2.1.trans h.2.1, k.2.2.1.trans h.2.2.1, Nat.le_trans h.2.2.2.1 k.2.2.2.1, fun x hx hn => (k.2.2.2.2 x (Nat.lt_of_lt_of_le hx h.2.2.2.1) (fun h1 => by rcases hf x h1 with h2 | h2; exact hn h2; omega)).trans (h.2.2.2.2 x hx hn)⟩
theorem Only.below {w w' : World} {F : Nat → Prop} {B : Nat} (h : Only F w w') (hf : ∀ x, F x → B ≤ x) (hB : B ≤ w.heap.size) : Below B w w' :=
  ⟨h.1, h.2.1, h.2.2.1, h.2.2.2.1, fun k hk => h.2.2.2.2 k (by omega) (fun hn => by have := hf k hn; omega)⟩
theorem grownBy_drew (w : World) (row : Option Nat) : w.grownBy (w.drewN 1) row := below_gr (below_drewN (Below.refl _ _) 1)
def RLoadPost (w : World) (F : Nat → Prop) (P : Nat) (b r d m s l : Int) (cs : List Int) (e : Ending) (w' : World) : Prop :=
  (∃ v, e = .returned v) ∧ ∃ F', RLevIs w' F' P b r d m s l cs ∧ (∀ k, F' k → F k ∨ (w.heap.size ≤ k ∧ k < w'.heap.size)) ∧ Only F w w'
set_option maxRecDepth 100000 in
set_option maxHeartbeats 8000000 in
theorem rlload_ex (w : World) (F : Nat → Prop) (P RA LA : Nat) (b r d m s l : Int) (zs cs : List Int) (v : Value) (hex : exactB b r d m l = true) (hP : Blk w P 104 #[.pointer (some ⟨RA, 0, none⟩), .pointer none]) (hA : RArr w RA LA b r d m s l zs)
    (f1 : F P) (f2 : F RA) (hv : ZAt w v cs) (hl : cs.length = (keysI b r d m l).toNat) (hl2 : cs.length ≤ 1024) :
    Calls Tryz.prog 115 #[.pointer (some ⟨P, 0, none⟩), v] w (RLoadPost w F P b r d m s l cs) := by
  obtain ⟨i0, hi, hz0, hz1, hz2⟩ := info_parts Tryz.info64
  obtain ⟨g, off, cap, cur, rfl, hcap, hbk, hcc⟩ := hv
  obtain ⟨cp, ca, -, hRA, -, -⟩ := hA
  have HPB := Lib.hid hP
  have HRB := Lib.hid hRA
  have hPR := hP.ne_ hRA (by decide)
  have hgR := hbk.ne_ hRA (by decide)
  have hgl := hbk.lt
  have c0 := hP.cell 0
  simp at c0
  have HF := Lib.hid (And.intro f1 f2)
  have HEX := Lib.hid hex
  have HCL := Lib.hid hl
  obtain ⟨n, hn⟩ : ∃ n, n = cs.length := ⟨_, rfl⟩
  have HN := Lib.hid hn
  rw [← hn] at hl2 hcap ⊢
  have hown0 := World.ownsRow_lit (base := w.heap.size) (e := 2) (size := 1) (w.drewN 1) #[] 0 (by exact Nat.le_refl _) (by unfold maxLen; omega) (by simp)
  have HO := Lib.hid hown0
  have HNEWS : Hid (∀ w', w.grownBy w' (some RA) → (0 < n → ∃ ad, (some ⟨g, off, none⟩ : Option Addr) = some ad ∧ ∀ j u, (cs.map (Value.int .i64))[j]? = some u → w'.cell? (ad.add j) = some u)) := Lib.hid (fun w' hb _ => ⟨_, rfl, fun j u hu => by
    rw [addr_add]
    rw [List.getElem?_map] at hu
    cases hz : cs[j]? with
    | none => rw [hz] at hu; simp at hu
    | some z =>
      rw [hz] at hu
      simp at hu
      subst hu
      exact hb.cell (hcc j z hz) (by simpa using hgR)⟩)
  have HPC : Hid (∀ w', w.grownBy w' (some RA) → w'.cell? ⟨P, 0, none⟩ = some (.pointer (some ⟨RA, 0, none⟩))) := Lib.hid (fun w' hb => hb.cell c0 (by simpa using hPR))
  have HGD := Lib.hid (grownBy_drew w (some RA))
  clear hex hP hRA hbk hcc f1 f2 hn hl hown0
  go_enter Tryz.func115, Tryz.ntmps115
  go_wp2_with fail
  refine wp_region_held_drew (S := fun w' => (∃ x, Blk w' RA 106 #[.int .i64 b, .int .i64 r, .int .i64 d, .int .i64 m, .int .u64 s, .int .i64 l, x]) ∧ w.grownBy w' (some RA)) (by kernel_rfl) (by exact ⟨⟨_, HRB.out.drewN 1⟩, HGD.out⟩) (fun hHeld => ?_)
  refine wpAnyH_take (i := 0) (v := ?_) rfl (by kernel_rfl) (by kernel_rfl) (by kernel_rfl) (fun _ _ _ h => h) (Or.inl ⟨by rfl, ?_⟩) (by assumption) ?_
  rotate_left
  · intro w hSw
    try dsimp only at hSw
    go_simp
    try with_reducible rfl
  simp only [Act.put, List.setIfInBounds_toArray, List.set_cons_zero, List.set_cons_succ, List.getElem_toArray, List.getElem_cons_zero, List.getElem_cons_succ]
  refine wpAnyH_take (i := 1) (v := ?_) rfl (by kernel_rfl) (by kernel_rfl) (by kernel_rfl) (fun _ _ _ h => h) (Or.inl ⟨by rfl, ?_⟩) (by assumption) ?_
  rotate_left
  · intro w hSw
    try dsimp only at hSw
    go_simp
    try with_reducible rfl
  simp only [Act.put, List.setIfInBounds_toArray, List.set_cons_zero, List.set_cons_succ, List.getElem_toArray, List.getElem_cons_zero, List.getElem_cons_succ]
  refine wpAnyH_take (i := 2) (v := ?_) rfl (by kernel_rfl) (by kernel_rfl) (by kernel_rfl) (fun _ _ _ h => h) (Or.inl ⟨by rfl, ?_⟩) (by assumption) ?_
  rotate_left
  · intro w hSw
    try dsimp only at hSw
    go_simp
    try with_reducible rfl
  simp only [Act.put, List.setIfInBounds_toArray, List.set_cons_zero, List.set_cons_succ, List.getElem_toArray, List.getElem_cons_zero, List.getElem_cons_succ]
  refine wpAnyH_take (i := 3) (v := ?_) rfl (by kernel_rfl) (by kernel_rfl) (by kernel_rfl) (fun _ _ _ h => h) (Or.inl ⟨by rfl, ?_⟩) (by assumption) ?_
  rotate_left
  · intro w hSw
    have q0 := HPC.out _ hSw.2
    go_simp
    try with_reducible rfl
  simp only [Act.put, List.setIfInBounds_toArray, List.set_cons_zero, List.set_cons_succ, List.getElem_toArray, List.getElem_cons_zero, List.getElem_cons_succ]
  refine wpAnyH_take (i := 5) (v := ?_) rfl (by kernel_rfl) (by kernel_rfl) (by kernel_rfl) (fun _ _ _ h => h) (Or.inl ⟨by rfl, ?_⟩) (by assumption) ?_
  rotate_left
  · intro w hSw
    try dsimp only at hSw
    go_simp
    try with_reducible rfl
  simp only [Act.put, List.setIfInBounds_toArray, List.set_cons_zero, List.set_cons_succ, List.getElem_toArray, List.getElem_cons_zero, List.getElem_cons_succ]
  refine wpAnyH_ready (rs := [4]) (by kernel_rfl) (by simp) ?_
  refine AllReadyH.cons rfl (fun Kc hKc => ?_) AllReadyH.nil
  go_simp
  refine hKc.out _ _ ?_ (fun hHeld => ?_)
  · first | exact ⟨by obtain ⟨x, hx⟩ := hHeld.1; exact ⟨x, hx.alloc _⟩, gr_trans hHeld.2 (below_gr ((Below.refl _ _).alloc (Nat.le_refl _) _))⟩ | exact ⟨by obtain ⟨x, hx⟩ := hHeld.1; exact ⟨x, hx.grown hgrow (by have := HRB.out.lt; simp; omega)⟩, gr_new hHeld.2 hgrow (.inr ⟨_, rfl, Nat.le_refl _⟩)⟩ | exact ⟨⟨_, hxs⟩, gr_trans hHeld.2 (grown_set _ RA 6 _)⟩
  clear hKc Kc
  refine wpAnyH_ready (rs := [6]) (by kernel_rfl) (by simp) ?_
  refine AllReadyH.cons rfl (fun Kc hKc => ?_) AllReadyH.nil
  refine wp_append_lit _ _ 62 rfl w.heap.size 2 i0 (.int .i64 0) 8 Tryz.underlying62 hi hz0 hz1 hz2 rfl w.heap.size 0 rfl HO.out (some ⟨g, off, none⟩) n cap (cs.map (Value.int .i64)) rfl (by rw [List.length_map]; exact HN.out.symm) (HNEWS.out _ hHeld.2) (fun u hu => by obtain ⟨z, -, rfl⟩ := List.mem_map.1 hu; rfl) (by unfold maxLen; omega) (by omega) (by simp) ?_; intro v' w5 hown' hgrow hnil' hq9; rw [HN.out] at hown'; obtain ⟨LB, cpB, rfl, hLB, hcpB, curL, hcurL, hccL⟩ := own_row hown' hnil'; have HLL := Lib.hid (And.intro hLB (And.intro hcpB (And.intro hcurL hccL))); clear hown' hnil' hq9 hLB hcpB hcurL hccL
  refine hKc.out _ _ ?_ (fun hHeld => ?_)
  · first | exact ⟨by obtain ⟨x, hx⟩ := hHeld.1; exact ⟨x, hx.alloc _⟩, gr_trans hHeld.2 (below_gr ((Below.refl _ _).alloc (Nat.le_refl _) _))⟩ | exact ⟨by obtain ⟨x, hx⟩ := hHeld.1; exact ⟨x, hx.grown hgrow (by have := HRB.out.lt; simp; omega)⟩, gr_new hHeld.2 hgrow (.inr ⟨_, rfl, Nat.le_refl _⟩)⟩ | exact ⟨⟨_, hxs⟩, gr_trans hHeld.2 (grown_set _ RA 6 _)⟩
  clear hKc Kc
  refine wpAnyH_take (i := 7) (v := ?_) rfl (by kernel_rfl) (by kernel_rfl) (by kernel_rfl) (fun _ _ _ h => h) (Or.inl ⟨by rfl, ?_⟩) (by assumption) ?_
  rotate_left
  · intro w hSw
    try dsimp only at hSw
    go_simp
    try with_reducible rfl
  simp only [Act.put, List.setIfInBounds_toArray, List.set_cons_zero, List.set_cons_succ, List.getElem_toArray, List.getElem_cons_zero, List.getElem_cons_succ]
  refine wpAnyH_take (i := 8) (v := ?_) rfl (by kernel_rfl) (by kernel_rfl) (by kernel_rfl) (fun _ _ _ h => h) (Or.inl ⟨by rfl, ?_⟩) (by assumption) ?_
  rotate_left
  · intro w hSw
    try dsimp only at hSw
    go_simp
    try with_reducible rfl
  simp only [Act.put, List.setIfInBounds_toArray, List.set_cons_zero, List.set_cons_succ, List.getElem_toArray, List.getElem_cons_zero, List.getElem_cons_succ]
  refine wpAnyH_ready (rs := [9]) (by kernel_rfl) (by simp) ?_
  refine AllReadyH.cons rfl (fun Kc hKc => ?_) AllReadyH.nil
  obtain ⟨x, hx⟩ := hHeld.1; have k6 := hx.cell 6; have fz6 := hx.frozen 6; simp at k6; go_simp; have hxs := hx.set_ 6 (.slice (some ⟨LB, 0, none⟩) cs.length cpB); simp at hxs
  refine hKc.out _ _ ?_ (fun hHeld => ?_)
  · first | exact ⟨by obtain ⟨x, hx⟩ := hHeld.1; exact ⟨x, hx.alloc _⟩, gr_trans hHeld.2 (below_gr ((Below.refl _ _).alloc (Nat.le_refl _) _))⟩ | exact ⟨by obtain ⟨x, hx⟩ := hHeld.1; exact ⟨x, hx.grown hgrow (by have := HRB.out.lt; simp; omega)⟩, gr_new hHeld.2 hgrow (.inr ⟨_, rfl, Nat.le_refl _⟩)⟩ | exact ⟨⟨_, hxs⟩, gr_trans hHeld.2 (grown_set _ RA 6 _)⟩
  clear hKc Kc
  refine wpAnyH_done (by kernel_rfl) ?_ _
  have HXS := Lib.hid hxs
  have HLB : Hid (Blk (w5.setCell ⟨RA, 6, none⟩ (.slice (some ⟨LB, 0, none⟩) cs.length cpB)) LB 2 curL) := Lib.hid (HLL.out.2.2.1.far (HLL.out.2.2.1.ne_ hx (by decide)) _)
  have HPF := Lib.hid (HPB.out.grown hHeld.2 (by simpa using hPR))
  have HGF := Lib.hid hHeld.2
  have hLl : w.heap.size ≤ LB ∧ LB < w5.heap.size := ⟨HLL.out.1, HLL.out.2.2.1.lt⟩
  clear hHeld hx hxs k6 fz6
  go_wp2
  refine bodyPost_ret (results_none rfl _ _ _) rfl ?_
  refine ⟨⟨_, rfl⟩, fun k => F k ∨ k = LB, .inl ⟨HEX.out, RA, LB, HPF.out, ⟨cpB, curL, HLL.out.2.1, HXS.out, HLB.out, HLL.out.2.2.2⟩, HCL.out, .inl HF.out.1, .inl HF.out.2, .inr rfl⟩, fun k hk => ?_, Only.of_gr HGF.out HF.out.2⟩
  rcases hk with hk | rfl
  · exact .inl hk
  · exact .inr ⟨hLl.1, by simpa using hLl.2⟩
/-- while a sketch is laid anew: so many of its cells are new -/
def RLd (w0 w : World) (F : Nat → Prop) (P SA G L vcap N : Nat) (B K : Nat → Nat) (R W : Nat) (b r d m s l : Int) (cs zs : List Int) (a : Nat) : Prop :=
  Blk w P 104 #[.pointer none, .pointer (some ⟨SA, 0, none⟩)] ∧ Blk w SA 109 #[.int .i64 b, .int .i64 r, .int .i64 d, .int .i64 m, .int .u64 s, .int .i64 l, .pointer (some ⟨G, 0, none⟩)] ∧
  RefIs w N G (.slice (some ⟨L, 0, none⟩) R vcap) B K R W (cs.take a ++ zs.drop a) ∧ Only F w0 w
theorem Only.refl (F : Nat → Prop) (w : World) : Only F w w := ⟨rfl, rfl, rfl, Nat.le_refl _, fun _ _ _ => rfl⟩
theorem Only.drew {F : Nat → Prop} {w w' : World} (h : Only F w w') : Only F w (w'.drewN 1) := h
theorem Only.cell {F : Nat → Prop} {w w' : World} (h : Only F w w') {g i : Nat} {u : Value} (hg : ¬ F g) (hc : w.cell? ⟨g, i, none⟩ = some u) : w'.cell? ⟨g, i, none⟩ = some u := by
  have hlt : g < w.heap.size := cell_block hc
  have := h.2.2.2.2 g hlt hg
  unfold World.cell? at hc ⊢
  simp only at hc ⊢
  rw [this]; exact hc
theorem RLd.step {w0 w : World} {F : Nat → Prop} {P SA G L vcap N : Nat} {B K : Nat → Nat} {R W : Nat} {b r d m s l : Int} {cs zs : List Int} {i c : Nat} (h : RLd w0 w F P SA G L vcap N B K R W b r d m s l cs zs (i * W + c)) (hi : i < R) (hc : c < W) (hl : cs.length = zs.length) (hf : F (B i)) {u : Int} (hu : cs[i * W + c]? = some u) :
    RLd w0 (w.setCell ⟨B i, c, none⟩ (.int .i64 u)) F P SA G L vcap N B K R W b r d m s l cs zs (i * W + c + 1) := by
  obtain ⟨h1, h2, h3, h4⟩ := h
  obtain ⟨cur, hB, -⟩ := h3.cells i hi
  refine ⟨h1.far ((show Blk w P _ _ from h1).ne_ (show Blk w (B i) _ _ from hB) (by decide)) _, h2.far ((show Blk w SA _ _ from h2).ne_ (show Blk w (B i) _ _ from hB) (by decide)) _, ?_, h4.trans (Only.of_gr (F := F) (grown_set w (B i) c _) hf) (fun x hx => .inl hx)⟩
  have := h3.set i c u hi hc
  rw [take_drop_set hu hl] at this
  exact this
set_option maxRecDepth 100000 in
set_option maxHeartbeats 8000000 in
theorem rlload_sk (w : World) (F : Nat → Prop) (P SA G L vcap N : Nat) (B K : Nat → Nat) (R W : Nat) (b r d m s l : Int) (zs cs : List Int) (v : Value) (h0 : RLd w w F P SA G L vcap N B K R W b r d m s l cs zs 0) (hR : 0 < R) (hW : 0 < W)
    (fB : ∀ i, i < R → F (B i)) (hv : ZAt w v cs) (hvf : ∀ g off c, v = .slice (some ⟨g, off, none⟩) cs.length c → ¬ F g) (hl : cs.length = R * W) (hlz : zs.length = R * W) :
    Calls Tryz.prog 115 #[.pointer (some ⟨P, 0, none⟩), v] w fun e w' => (∃ x, e = .returned x) ∧ RLd w w' F P SA G L vcap N B K R W b r d m s l cs zs (R * W) := by
  obtain ⟨g, off, cap, cur, rfl, hcap, hbk, hcc⟩ := hv
  have hgF := hvf g off cap rfl
  have hR8 := h0.2.2.1.rows
  have hW8 := h0.2.2.1.width
  have H0 := Lib.hid h0
  have HFB := Lib.hid fB
  have HCC := Lib.hid hcc
  have HCL := Lib.hid hl
  have HLL := Lib.hid (show cs.length = zs.length by omega)
  obtain ⟨n, hn⟩ : ∃ n, n = cs.length := ⟨_, rfl⟩
  have HN := Lib.hid hn
  have hn1 : n ≤ 1024 := by rw [hn, hl]; exact Nat.mul_le_mul hR8 hW8
  rw [← hn] at hcap ⊢
  have p0 := h0.1.cell 0
  simp at p0
  clear h0 fB hbk hcc hl hlz hn hvf
  go_enter Tryz.func115, Tryz.ntmps115
  go_wp2_with fail
  clear p0
  go_loopw [4, 5] (fun x y wr => ∃ i : Nat, i ≤ R ∧ y = .int .i64 (i : Int) ∧ x = .int .i64 ((i * W : Nat) : Int) ∧ RLd w wr F P SA G L vcap N B K R W b r d m s l cs zs (i * W)) (fun _ y _ => R - (intOf y).toNat)
  case atStart => exact ⟨0, by omega, rfl, by simp, by simpa using H0.out⟩
  case round =>
    obtain ⟨i, hi, rfl, rfl, hst⟩ := hrel
    have HST := Lib.hid hst
    have p1 := hst.1.cell 1
    have s6 := hst.2.1.cell 6
    have g0 := hst.2.2.1.box.cell 0
    simp at p1 s6 g0
    clear hst H0
    by_cases hlt : i < R
    · have i0 : (0 : Int) ≤ (i : Int) := by omega
      have i1 : (i : Int) < (R : Int) := by omega
      generalize hwo : wr = wo at *
      clear hwo
      go_wp2_with fail
      go_loopw [4, 6] (fun x y wr => ∃ c : Nat, c ≤ W ∧ y = .int .i64 (c : Int) ∧ x = .int .i64 ((i * W + c : Nat) : Int) ∧ RLd w wr F P SA G L vcap N B K R W b r d m s l cs zs (i * W + c)) (fun _ y _ => W - (intOf y).toNat)
      case atStart => exact ⟨0, by omega, rfl, by simp, by simpa using HST.out⟩
      case round =>
        obtain ⟨c, hc, rfl, rfl, hst⟩ := hrel
        have HS2 := Lib.hid hst
        have hlook := hst.2.2.1.lookR hlt
        have p1 := hst.1.cell 1
        have s6 := hst.2.1.cell 6
        simp at p1 s6
        obtain ⟨g0, g1⟩ := hlook
        obtain ⟨b1, -, -⟩ : i * W ≤ R * W ∧ True ∧ True := ⟨Nat.mul_le_mul_right _ hi, trivial, trivial⟩
        clear hst HST
        by_cases hlc : c < W
        · have hal : i * W + c < R * W := (placeBd hlt hlc hR8 hW8).1
          have hac : i * W + c < n := by have := HN.out; have := HCL.out; omega
          have hu : cs[i * W + c]? = some (cellD cs (i * W + c)) := by
            have : i * W + c < cs.length := by have := HN.out; omega
            simp [cellD, this]
          have HNX := Lib.hid (fun wd (h : RLd w wd F P SA G L vcap N B K R W b r d m s l cs zs (i * W + c)) => h.step hlt hlc HLL.out (HFB.out i hlt) hu)
          have HSC := Lib.hid (HCC.out _ _ hu)
          have HLK := Lib.hid (fun wd (h : RLd w wd F P SA G L vcap N B K R W b r d m s l cs zs (i * W + c)) => h.2.2.1.look hlt hlc)
          have c0 : (0 : Int) ≤ (c : Int) := by omega
          have c1 : (c : Int) < (W : Int) := by omega
          have c2 : decide ((c : Int) < (W : Int)) = true := decide_eq_true c1
          have c3 : decide (c < W) = true := decide_eq_true hlc
          generalize cellD cs (i * W + c) = u at *
          have HA1 : Hid (i * W + (c + 1) = i * W + c + 1) := Lib.hid (by omega)
          generalize i * W + c = a at *
          have a0 : (0 : Int) ≤ (a : Int) := by omega
          have a1 : (a : Int) < (n : Int) := by omega
          have a2 : decide ((a : Int) < (n : Int)) = true := decide_eq_true a1
          have a3 : decide (a < n) = true := decide_eq_true hac
          clear hu hal
          go_wp2_with fail
          refine wp_region_still_tail 19 (by kernel_rfl) (by kernel_rfl) ?_
          simp only [List.take_succ_cons, List.take_zero, List.drop_succ_cons, List.drop_zero]
          have HS3 : Hid (RLd w { heap := wr.heap, tape := wr.tape, drawn := wr.drawn + 1, os := wr.os, output := wr.output } F P SA G L vcap N B K R W b r d m s l cs zs a) := Lib.hid ⟨HS2.out.1.drewN 1, HS2.out.2.1.drewN 1, HS2.out.2.2.1.drewN 1, HS2.out.2.2.2⟩
          clear p1 s6 g0 g1 HS2
          generalize ({ heap := wr.heap, tape := wr.tape, drawn := wr.drawn + 1, os := wr.os, output := wr.output } : World) = wd at *
          have p1 := HS3.out.1.cell 1
          have s6 := HS3.out.2.1.cell 6
          simp at p1 s6
          obtain ⟨k0, k1, k2, k3⟩ := HLK.out wd HS3.out
          have cx := HS3.out.2.2.2.cell hgF HSC.out
          repeat still_step
          refine wpStill_nil ?_
          have HS4 := Lib.hid (HNX.out wd HS3.out)
          clear HS3 HNX HLK HSC
          go_wp2
          go_roundw
          case rel => exact ⟨c + 1, by omega, by go_num, by rw [HA1.out]; go_num, by rw [HA1.out]; exact HS4.out⟩
          case measure => simp [intOf]; omega
        · obtain rfl : c = W := by omega
          have HAW : Hid (i * c + c = (i + 1) * c) := Lib.hid (by rw [Nat.add_mul, Nat.one_mul])
          have HS3 : Hid (RLd w wr F P SA G L vcap N B K R c b r d m s l cs zs ((i + 1) * c)) := Lib.hid (by rw [← HAW.out]; exact HS2.out)
          have c2 : decide ((c : Int) < (c : Int)) = false := by simp
          clear hlc
          go_wp2
          go_roundw
          case rel => exact ⟨i + 1, by omega, by go_num, by rw [← HAW.out], HS3.out⟩
          case measure => simp [intOf]; omega
    · obtain rfl : i = R := by omega
      have i1 : ¬ (i : Int) < (i : Int) := by omega
      clear hlt
      go_wp2
      go_end0
      exact ⟨⟨_, rfl⟩, HST.out⟩
end Go.Proofs.YtbghchgmoiniiaaGreat

/-
  The document's stacks in memory; the walk of gaugerref15.New. Conditions: none beyond those stated at each theorem.
-/
namespace Go.Proofs.YtbghchgmoiniiaaGreat
open Go.RowKit
set_option linter.unusedVariables false
set_option linter.unusedSimpArgs false

theorem rlload (w : World) (F : Nat → Prop) (P : Nat) (b r d m s l : Int) (zs cs : List Int) (v : Value) (h : RLevIs w F P b r d m s l zs) (hr : rightB b r d m = true) (hv : ZAt w v cs) (hvf : ∀ g off c, v = .slice (some ⟨g, off, none⟩) cs.length c → ¬ F g) (hl : cs.length = cellsN b r d m l) :
    Calls Tryz.prog 115 #[.pointer (some ⟨P, 0, none⟩), v] w (RLoadPost w F P b r d m s l cs) := by
  have hle : cs.length ≤ 1024 := by rw [hl]; exact cellsN_le hr
  have hlen := h.len
  rcases h with ⟨h1, RA, LA, h2, h3, h7, f1, f2, f3⟩ | ⟨h1, SA, G, x, B, K, N, h2, h3, h4, f1, f2, f3, f4, f5⟩
  · exact rlload_ex w F P RA LA b r d m s l zs cs v h1 h2 h3 f1 f2 hv (by rw [hl, ← hlen, h7]) hle
  · have hR := right_of hr
    obtain ⟨L, vcap, rfl⟩ := h4.openL (by omega)
    have hc : cellsN b r d m l = r.toNat * d.toNat := by unfold cellsN; rw [h1]; simp
    have h0 : RLd w w F P SA G L vcap N B K r.toNat d.toNat b r d m s l cs zs 0 := ⟨h2, h3, by simpa using h4, Only.refl _ _⟩
    refine (rlload_sk w F P SA G L vcap N B K r.toNat d.toNat b r d m s l zs cs v h0 (by omega) (by omega) f5 hv hvf (by rw [hl, hc]) (by rw [hlen, hc])).mono ?_
    rintro e w' ⟨he, k1, k2, k3, k4⟩
    have e1 : cs.take (r.toNat * d.toNat) = cs := List.take_of_length_le (by rw [hl, hc]; exact Nat.le_refl _)
    have e2 : zs.drop (r.toNat * d.toNat) = [] := List.drop_eq_nil_of_le (by rw [hlen, hc]; exact Nat.le_refl _)
    rw [e1, e2, List.append_nil] at k3
    exact ⟨he, F, .inr ⟨h1, SA, G, _, B, K, N, k1, k2, k3, f1, f2, f3, f4, f5⟩, fun k hk => .inl hk, k4⟩
theorem cellsL_small {b r d m l : Int} : (List.replicate (cellsN b r d m l) (0 : Int)).length = cellsN b r d m l := by simp
/-- j of the document's levels are laid in a row -/
structure RLevsB (w : World) (base RS : Nat) (v : Value) (b r d m s : Int) (P : Nat → Nat) (F : Nat → Nat → Prop) (Z : Nat → List Int) (j : Nat) : Prop where
  own : w.ownsRow base 67 1 v j ((List.range j).map fun n => .pointer (some ⟨P n, 0, none⟩))
  lev : ∀ n, n < j → RLevIs w (F n) (P n) b r d m s n (Z n)
  fin : ∀ n k, n < j → F n k → base ≤ k ∧ k < w.heap.size
  apart : ∀ n q k, n < j → q < j → n ≠ q → F n k → ¬ F q k
  out : ∀ n, n < j → ¬ F n RS ∧ ∀ k, v.ownBlock = some k → ¬ F n k
theorem RLevsB.kept {w w' : World} {base RS : Nat} {v : Value} {b r d m s : Int} {P : Nat → Nat} {F : Nat → Nat → Prop} {Z : Nat → List Int} {j : Nat} (h : RLevsB w base RS v b r d m s P F Z j) (hb : Below w.heap.size w w') : RLevsB w' base RS v b r d m s P F Z j :=
  ⟨World.ownsRow.kept h.own (below_gr (row := none) hb) (by cases v.ownBlock <;> simp), fun n hn => (h.lev n hn).frame (fun k hk => hb.block k (h.fin n k hn hk).2), fun n k hn hk => ⟨(h.fin n k hn hk).1, Nat.lt_of_lt_of_le (h.fin n k hn hk).2 hb.size⟩, h.apart, h.out⟩
theorem RLevsB.far {w : World} {base RS : Nat} {v : Value} {b r d m s : Int} {P : Nat → Nat} {F : Nat → Nat → Prop} {Z : Nat → List Int} {j : Nat} (h : RLevsB w base RS v b r d m s P F Z j) {cs : Array Value} (hs : Blk w RS 40 cs) (i : Nat) (u : Value) : RLevsB (w.setCell ⟨RS, i, none⟩ u) base RS v b r d m s P F Z j := by
  have hg := grown_set w RS i u
  have hne := own_ne h.own hs (by decide)
  exact ⟨World.ownsRow.kept h.own hg (.inr hne), fun n hn => (h.lev n hn).frame (fun k hk => hg.block k (h.fin n k hn hk).2 (fun e => (h.out n hn).1 (by rw [← Option.some.inj e]; exact hk))), fun n k hn hk => ⟨(h.fin n k hn hk).1, by simpa using (h.fin n k hn hk).2⟩, h.apart, h.out⟩
theorem RLevsB.zero (w : World) (base RS : Nat) (b r d m s : Int) (P : Nat → Nat) (F : Nat → Nat → Prop) (Z : Nat → List Int) : RLevsB w base RS (.slice none 0 0) b r d m s P F Z 0 :=
  ⟨World.ownsRow_nil _ _ _ _, fun n hn => by omega, fun n k hn => by omega, fun n q k hn => by omega, fun n hn => by omega⟩
theorem RLevsB.push {w w' : World} {base RS lo : Nat} {v v' : Value} {b r d m s : Int} {P : Nat → Nat} {F : Nat → Nat → Prop} {Z : Nat → List Int} {j p : Nat} {f : Nat → Prop} {zs : List Int} (h : RLevsB w base RS v b r d m s P F Z j)
    (hl : RLevIs w f p b r d m s j zs) (hf : ∀ k, f k → lo ≤ k ∧ k < w.heap.size) (hlo : base ≤ lo) (hF : ∀ n k, n < j → F n k → k < lo) (hRS : RS < lo) (hv : ∀ k, v.ownBlock = some k → k < lo)
    (hg : w.grownBy w' v.ownBlock) (ho : w'.ownsRow base 67 1 v' (j + 1) ((List.range j).map (fun n => Value.pointer (some ⟨P n, 0, none⟩)) ++ [.pointer (some ⟨p, 0, none⟩)])) (hq : v'.ownBlock = v.ownBlock ∨ v'.ownBlock = some w.heap.size) :
    RLevsB w' base RS v' b r d m s (upN P j p) (upN F j f) (upN Z j zs) (j + 1) := by
  have hnf : ∀ k, f k → some k ≠ v.ownBlock := fun k hk e => by have := hv k e.symm; have := hf k hk; omega
  refine ⟨?_, fun n hn => ?_, fun n k hn hk => ?_, fun n q k hn hq2 e hk => ?_, fun n hn => ?_⟩
  · have e : (List.range (j + 1)).map (fun n => Value.pointer (some ⟨upN P j p n, 0, none⟩)) = (List.range j).map (fun n => Value.pointer (some ⟨P n, 0, none⟩)) ++ [.pointer (some ⟨p, 0, none⟩)] := by
      rw [List.range_succ, List.map_append]
      congr 1
      · exact List.map_congr_left fun k hk => by rw [upN_other _ _ (by have := List.mem_range.1 hk; omega)]
      · simp [upN]
    rw [e]; exact ho
  · by_cases e : n = j
    · subst e; rw [upN_same, upN_same, upN_same]
      exact hl.frame (fun k hk => hg.block k (hf k hk).2 (hnf k hk))
    · rw [upN_other _ _ e, upN_other _ _ e, upN_other _ _ e]
      exact (h.lev n (by omega)).frame (fun k hk => hg.block k (h.fin n k (by omega) hk).2 (fun e2 => (h.out n (by omega)).2 k e2.symm hk))
  · by_cases e : n = j
    · subst e; rw [upN_same] at hk
      have := hf k hk
      have := hg.size
      omega
    · rw [upN_other _ _ e] at hk
      have := h.fin n k (by omega) hk
      have := hg.size
      omega
  · by_cases e1 : n = j
    · subst e1
      rw [upN_same] at hk
      rw [upN_other _ _ (Ne.symm e)]
      intro hk2
      have := hF q k (by omega) hk2
      have := hf k hk
      omega
    · rw [upN_other _ _ e1] at hk
      by_cases e2 : q = j
      · subst e2
        rw [upN_same]
        intro hk2
        have := hF n k (by omega) hk
        have := hf k hk2
        omega
      · rw [upN_other _ _ e2]
        exact h.apart n q k (by omega) (by omega) e hk
  · have hnew : ∀ k, v'.ownBlock = some k → v.ownBlock = some k ∨ k = w.heap.size := fun k hk => by
      rcases hq with e | e
      · exact .inl (e ▸ hk)
      · rw [e] at hk; exact .inr (Option.some.inj hk).symm
    by_cases e : n = j
    · subst e; rw [upN_same]
      refine ⟨fun hk => by have := hf RS hk; omega, fun k hk hf2 => ?_⟩
      rcases hnew k hk with h1 | h1
      · exact hnf k hf2 h1.symm
      · have := hf k hf2; omega
    · rw [upN_other _ _ e]
      refine ⟨(h.out n (by omega)).1, fun k hk hf2 => ?_⟩
      rcases hnew k hk with h1 | h1
      · exact (h.out n (by omega)).2 k h1 hf2
      · have := h.fin n k (by omega) hf2; omega
/-- block RS is the document's stack of a config, its levels read as Z -/
structure RStIs (w : World) (base RS RL : Nat) (b r d m s : Int) (P : Nat → Nat) (F : Nat → Nat → Prop) (Z : Nat → List Int) : Prop where
  box : ∃ cap : Nat, Blk w RS 40 #[.int .i64 b, .int .i64 r, .int .i64 d, .int .i64 m, .int .u64 s, .slice (some ⟨RL, 0, none⟩) (b.toNat + 1) cap] ∧ b.toNat + 1 ≤ cap
  right : rightB b r d m = true
  row : ∃ cur : Array Value, Blk w RL 67 cur ∧ ∀ n, n ≤ b.toNat → cur[n]? = some (.pointer (some ⟨P n, 0, none⟩))
  lev : ∀ n, n ≤ b.toNat → RLevIs w (F n) (P n) b r d m s n (Z n)
  fin : ∀ n k, n ≤ b.toNat → F n k → base ≤ k ∧ k < w.heap.size
  apart : ∀ n q k, n ≤ b.toNat → q ≤ b.toNat → n ≠ q → F n k → ¬ F q k
  out : ∀ n, n ≤ b.toNat → ¬ F n RS ∧ ¬ F n RL
theorem RStIs.kept {w w' : World} {base RS RL : Nat} {b r d m s : Int} {P : Nat → Nat} {F : Nat → Nat → Prop} {Z : Nat → List Int} (h : RStIs w base RS RL b r d m s P F Z) (hb : Below w.heap.size w w') : RStIs w' base RS RL b r d m s P F Z := by
  obtain ⟨cap, h1, h2⟩ := h.box
  obtain ⟨cur, h3, h4⟩ := h.row
  exact ⟨⟨cap, h1.kept hb, h2⟩, h.right, ⟨cur, h3.kept hb, h4⟩, fun n hn => (h.lev n hn).frame (fun k hk => hb.block k (h.fin n k hn hk).2), fun n k hn hk => ⟨(h.fin n k hn hk).1, Nat.lt_of_lt_of_le (h.fin n k hn hk).2 hb.size⟩, h.apart, h.out⟩
theorem RStIs.low_ {w : World} {base base' RS RL : Nat} {b r d m s : Int} {P : Nat → Nat} {F : Nat → Nat → Prop} {Z : Nat → List Int} (h : RStIs w base RS RL b r d m s P F Z) (hb : base' ≤ base) : RStIs w base' RS RL b r d m s P F Z :=
  ⟨h.box, h.right, h.row, h.lev, fun n k hn hk => ⟨Nat.le_trans hb (h.fin n k hn hk).1, (h.fin n k hn hk).2⟩, h.apart, h.out⟩
theorem RLevsB.stack {w : World} {base RS : Nat} {v : Value} {r d m s : Int} {P : Nat → Nat} {F : Nat → Nat → Prop} {Z : Nat → List Int} {n : Nat} (h : RLevsB w base RS v (n : Int) r d m s P F Z (n + 1)) (hr : rightB (n : Int) r d m = true)
    (hs : Blk w RS 40 #[.int .i64 (n : Int), .int .i64 r, .int .i64 d, .int .i64 m, .int .u64 s, v]) : ∃ RL, RStIs w base RS RL (n : Int) r d m s P F Z := by
  rcases h.own.2 with ⟨rfl, h0⟩ | ⟨g, cap, cur, rfl, hb, hg, hnc, hcm, hsz, htake⟩
  · omega
  · refine ⟨g, ⟨cap, by simpa using hs, by simpa using hnc⟩, hr, ⟨cur, hg, fun k hk => ?_⟩, fun k hk => h.lev k (by simp at hk; omega), fun k q hk => h.fin k q (by simp at hk; omega), fun k q x hk hq e => h.apart k q x (by simp at hk; omega) (by simp at hq; omega) e, fun k hk => ⟨(h.out k (by simp at hk; omega)).1, (h.out k (by simp at hk; omega)).2 g rfl⟩⟩
    have hk : k < n + 1 := by simp at hk; omega
    have h2 : (cur.toList.take ((n + 1) * 1))[k]? = ((List.range (n + 1)).map fun n => Value.pointer (some ⟨P n, 0, none⟩))[k]? := by rw [htake]
    rw [List.getElem?_take, if_pos (by omega)] at h2
    simpa [hk] using h2
end Go.Proofs.YtbghchgmoiniiaaGreat

/-
  The walk of gaugerref15.New. Conditions: none beyond those stated at each theorem.
-/
namespace Go.Proofs.YtbghchgmoiniiaaGreat
open Go.RowKit
set_option linter.unusedVariables false
set_option linter.unusedSimpArgs false

def RStNewPost (w : World) (b r d m s : Int) (e : Ending) (w' : World) : Prop :=
  ∃ RS RL P F, e = .returned (.pointer (some ⟨RS, 0, none⟩)) ∧ w.heap.size ≤ RS ∧ RStIs w' w.heap.size RS RL b r d m s P F (zeroZ b r d m) ∧ Below w.heap.size w w'
theorem Tryz.infoRL : (Tryz.prog.info? 67).map (fun i => (i.zero, i.size, i.bytes)) = some (some (.pointer none), 1, 8) := by kernel_rfl
theorem RLevsB.open2 {w : World} {base RS : Nat} {v : Value} {b r d m s : Int} {P : Nat → Nat} {F : Nat → Nat → Prop} {Z : Nat → List Int} {j : Nat} (h : RLevsB w base RS v b r d m s P F Z j) : ∃ ao n cap, v = .slice ao n cap := by
  rcases h.own.2 with ⟨rfl, h0⟩ | ⟨g, cap, cur, rfl, -⟩
  · exact ⟨_, _, _, rfl⟩
  · exact ⟨_, _, _, rfl⟩
set_option maxRecDepth 100000 in
set_option maxHeartbeats 8000000 in
theorem rstnew (b r d m s : Int) (hr : rightB b r d m = true) (w : World) :
    Calls Tryz.prog 19 #[.agg #[.int .i64 b, .int .i64 r, .int .i64 d, .int .i64 m, .int .u64 s]] w (RStNewPost w b r d m s) := by
  obtain ⟨i0, hi, hz0, hz1, hz2⟩ := info_parts Tryz.infoRL
  have HR := Lib.hid hr
  have hb59 := right_of hr
  obtain ⟨n, hn⟩ : ∃ n : Nat, b = (n : Int) := ⟨b.toNat, by omega⟩
  subst hn
  have hn59 : n ≤ 59 := by omega
  have PN := Lib.hid (fun (j : Nat) w => rlnew (n : Int) r d m s (j : Int) hr w)
  clear hb59 hr
  obtain ⟨g1, hb1, hsz1⟩ := news1 w (.cells #[.int .i64 (n : Int), .int .i64 r, .int .i64 d, .int .i64 m, .int .u64 s] 24)
  have hx1 : Blk _ w.heap.size 24 #[.int .i64 (n : Int), .int .i64 r, .int .i64 d, .int .i64 m, .int .u64 s] := g1
  have HB1 := Lib.hid hb1
  have HX1 := Lib.hid hx1
  have hs1 : (w.alloc (.cells #[.int .i64 (n : Int), .int .i64 r, .int .i64 d, .int .i64 m, .int .u64 s] 24)).heap.size = w.heap.size + 1 := by simp
  clear g1 hb1 hsz1
  have HSB := Lib.hid (Blk.new (w.alloc (.cells #[.int .i64 (n : Int), .int .i64 r, .int .i64 d, .int .i64 m, .int .u64 s] 24)) 40 #[.int .i64 (n : Int), .int .i64 r, .int .i64 d, .int .i64 m, .int .u64 s, .slice none 0 0])
  have HX2 := Lib.hid (HX1.out.alloc (.cells #[.int .i64 (n : Int), .int .i64 r, .int .i64 d, .int .i64 m, .int .u64 s, .slice none 0 0] 40))
  have HB2 := Lib.hid (HB1.out.alloc HB1.out.size (.cells #[.int .i64 (n : Int), .int .i64 r, .int .i64 d, .int .i64 m, .int .u64 s, .slice none 0 0] 40))
  rw [hs1] at HSB
  clear hs1
  go_enter Tryz.func19, Tryz.ntmps19
  go_wp2_with (refine wpList_load_row rfl 24 _ rfl w.heap.size rfl 24 _ (0, 0) _ hx1 Tryz.underlying24 rfl (by kernel_rfl) ?_)
  clear hx1
  generalize (w.alloc (.cells #[.int .i64 (n : Int), .int .i64 r, .int .i64 d, .int .i64 m, .int .u64 s] 24)).alloc (.cells #[.int .i64 (n : Int), .int .i64 r, .int .i64 d, .int .i64 m, .int .u64 s, .slice none 0 0] 40) = w2 at *
  obtain ⟨RS, hRS⟩ : ∃ RS, RS = w.heap.size + 1 := ⟨_, rfl⟩
  rw [← hRS] at HSB ⊢
  have hRS1 : w.heap.size < RS := by omega
  clear hRS HX1 HB1
  go_loopw [4] (fun i wr => ∃ (j : Nat) (P : Nat → Nat) (F : Nat → Nat → Prop) (v : Value), j ≤ n + 1 ∧ i = .int .i64 (j : Int) ∧ Blk wr w.heap.size 24 #[.int .i64 (n : Int), .int .i64 r, .int .i64 d, .int .i64 m, .int .u64 s] ∧ Blk wr RS 40 #[.int .i64 (n : Int), .int .i64 r, .int .i64 d, .int .i64 m, .int .u64 s, v] ∧ RLevsB wr w.heap.size RS v (n : Int) r d m s P F (zeroZ (n : Int) r d m) j ∧ Below w.heap.size w wr) (fun i _ => n + 1 - (intOf i).toNat)
  case atStart => exact ⟨0, fun _ => 0, fun _ _ => False, _, by omega, rfl, HX2.out, HSB.out, RLevsB.zero _ _ _ _ _ _ _ _ _ _ _, HB2.out⟩
  case round =>
    obtain ⟨j, P, F, v, hj, rfl, hx, hs, hlv, hbel⟩ := hrel
    obtain ⟨vo, vl, vc, rfl⟩ := hlv.open2
    have q0 := hx.cell 0
    simp at q0
    have HX := Lib.hid (hx.drewN 1)
    have HS := Lib.hid (hs.drewN 1)
    have HLV := Lib.hid (hlv.kept (below_drewN (Below.refl _ _) 1))
    have HB := Lib.hid (below_drewN hbel 1)
    have HX0 := Lib.hid hx
    have HS0 := Lib.hid hs
    have HLV0 := Lib.hid hlv
    have HB0 := Lib.hid hbel
    have hRSl := hs.lt
    clear hx hs hlv hbel HX2 HSB HB2
    by_cases hlt : j < n + 1
    · have i1 : (j : Int) ≤ (n : Int) := by omega
      have i2 : decide ((j : Int) ≤ (n : Int)) = true := decide_eq_true i1
      have i3 : decide (j ≤ n) = true := decide_eq_true (by omega)
      have PN2 := Lib.hid (PN.out j)
      have HZZ : Hid (upN (zeroZ (n : Int) r d m) j (List.replicate (cellsN (n : Int) r d m (j : Int)) 0) = zeroZ (n : Int) r d m) := Lib.hid (by
        funext k
        by_cases e : k = j
        · subst e; exact upN_same _ _ _
        · exact upN_other _ _ e)
      go_wp2_with fail
      clear q0
      have k5 := HS.out.cell 5
      simp at k5
      refine wp_region_held_drew (S := fun w' => Blk w' w.heap.size 24 #[.int .i64 (n : Int), .int .i64 r, .int .i64 d, .int .i64 m, .int .u64 s] ∧ (∃ x, Blk w' RS 40 #[.int .i64 (n : Int), .int .i64 r, .int .i64 d, .int .i64 m, .int .u64 s, x]) ∧ Below w.heap.size w w') (by kernel_rfl) (by exact ⟨HX.out, ⟨_, HS.out⟩, HB.out⟩) (fun hHeld => ?_)
      refine wpAnyH_take (i := 0) (v := ?_) rfl (by kernel_rfl) (by kernel_rfl) (by kernel_rfl) (fun _ _ _ h => h) (Or.inl ⟨by rfl, ?_⟩) (by assumption) ?_
      rotate_left
      · intro w hSw
        try dsimp only at hSw
        go_simp
        try with_reducible rfl
      simp only [Act.put, List.setIfInBounds_toArray, List.set_cons_zero, List.set_cons_succ, List.getElem_toArray, List.getElem_cons_zero, List.getElem_cons_succ]
      refine wpAnyH_take (i := 1) (v := ?_) rfl (by kernel_rfl) (by kernel_rfl) (by kernel_rfl) (fun _ _ _ h => h) (Or.inl ⟨by rfl, ?_⟩) (by assumption) ?_
      rotate_left
      · intro w hSw
        try dsimp only at hSw
        go_simp
        try with_reducible rfl
      simp only [Act.put, List.setIfInBounds_toArray, List.set_cons_zero, List.set_cons_succ, List.getElem_toArray, List.getElem_cons_zero, List.getElem_cons_succ]
      refine wpAnyH_take (i := 2) (v := ?_) rfl (by kernel_rfl) (by kernel_rfl) (by kernel_rfl) (fun _ _ _ h => h) (Or.inl ⟨by rfl, ?_⟩) (by assumption) ?_
      rotate_left
      · intro w hSw
        try dsimp only at hSw
        go_simp
        try with_reducible rfl
      simp only [Act.put, List.setIfInBounds_toArray, List.set_cons_zero, List.set_cons_succ, List.getElem_toArray, List.getElem_cons_zero, List.getElem_cons_succ]
      refine wpAnyH_take (i := 3) (v := ?_) rfl (by kernel_rfl) (by kernel_rfl) (by kernel_rfl) (fun _ _ _ h => h) (Or.inl ⟨by rfl, ?_⟩) (by assumption) ?_
      rotate_left
      · intro w hSw
        try dsimp only at hSw
        go_simp
        try with_reducible rfl
      simp only [Act.put, List.setIfInBounds_toArray, List.set_cons_zero, List.set_cons_succ, List.getElem_toArray, List.getElem_cons_zero, List.getElem_cons_succ]
      refine wpAnyH_take (i := 5) (v := ?_) rfl (by kernel_rfl) (by kernel_rfl) (by kernel_rfl) (fun _ _ _ h => h) (Or.inl ⟨by rfl, ?_⟩) (by assumption) ?_
      rotate_left
      · intro w hSw
        try refine (exec_load_row 24 _ rfl _ rfl 24 _ (0, 0) _ hSw.1 Tryz.underlying24 rfl (by kernel_rfl)).trans ?_
        go_simp
        try with_reducible rfl
      simp only [Act.put, List.setIfInBounds_toArray, List.set_cons_zero, List.set_cons_succ, List.getElem_toArray, List.getElem_cons_zero, List.getElem_cons_succ]
      refine wpAnyH_take (i := 6) (v := ?_) rfl (by kernel_rfl) (by kernel_rfl) (by kernel_rfl) (fun _ _ _ h => h) (Or.inl ⟨by rfl, ?_⟩) (by assumption) ?_
      rotate_left
      · intro w hSw
        try dsimp only at hSw
        go_simp
        try with_reducible rfl
      simp only [Act.put, List.setIfInBounds_toArray, List.set_cons_zero, List.set_cons_succ, List.getElem_toArray, List.getElem_cons_zero, List.getElem_cons_succ]
      refine wpAnyH_ready (rs := [4, 7]) (by kernel_rfl) (by simp) ?_
      refine AllReadyH.cons rfl (fun Kc hKc => ?_) (AllReadyH.cons rfl (fun Kc hKc => ?_) AllReadyH.nil)
      · go_simp
        refine hKc.out _ _ ?_ (fun hHeld => ?_)
        · first | exact hHeld | exact ⟨HX4.out, ⟨_, HS4.out⟩, HB4.out⟩ | exact ⟨HX4.out.far (p := ⟨RS, 5, none⟩) (by simp; omega) _, ⟨_, HS4.out.set_ 5 _⟩, HB4.out.setCell (p := ⟨RS, 5, none⟩) (by simp; omega) _⟩ | exact ⟨hHeld.1.kept hb', ⟨_, HS.out.kept hb'⟩, btr hHeld.2.2 hb'⟩ | exact ⟨hHeld.1.alloc _, by obtain ⟨x, hx⟩ := hHeld.2.1; exact ⟨x, hx.alloc _⟩, hHeld.2.2.alloc hHeld.2.2.size _⟩
        clear hKc Kc
        refine wpAnyH_ready (rs := [7]) (by kernel_rfl) (by simp) ?_
        refine AllReadyH.cons rfl (fun Kc hKc => ?_) AllReadyH.nil
        go_simp
        go_wp2_with (go_at_call 46; refine (PN2.out _).mono ?_; rintro e w3 ⟨p, rfl, hlv3, hb'⟩; have HL3 := Lib.hid hlv3; have HBK := Lib.hid hb'; have k5' := (HS.out.kept hb').cell 5; simp at k5'; have k6' := ((HS.out.kept hb').alloc (.cells #[.pointer (some ⟨p, 0, none⟩)] 67)).cell 5; simp at k6'; clear hlv3)
        refine hKc.out _ _ ?_ (fun hHeld => ?_)
        · first | exact hHeld | exact ⟨HX4.out, ⟨_, HS4.out⟩, HB4.out⟩ | exact ⟨HX4.out.far (p := ⟨RS, 5, none⟩) (by simp; omega) _, ⟨_, HS4.out.set_ 5 _⟩, HB4.out.setCell (p := ⟨RS, 5, none⟩) (by simp; omega) _⟩ | exact ⟨hHeld.1.kept hb', ⟨_, HS.out.kept hb'⟩, btr hHeld.2.2 hb'⟩ | exact ⟨hHeld.1.alloc _, by obtain ⟨x, hx⟩ := hHeld.2.1; exact ⟨x, hx.alloc _⟩, hHeld.2.2.alloc hHeld.2.2.size _⟩
        clear hKc Kc
        refine wpAnyH_ready (rs := [8]) (by kernel_rfl) (by simp) ?_
        refine AllReadyH.cons rfl (fun Kc hKc => ?_) AllReadyH.nil
        go_simp
        refine hKc.out _ _ ?_ (fun hHeld => ?_)
        · first | exact hHeld | exact ⟨HX4.out, ⟨_, HS4.out⟩, HB4.out⟩ | exact ⟨HX4.out.far (p := ⟨RS, 5, none⟩) (by simp; omega) _, ⟨_, HS4.out.set_ 5 _⟩, HB4.out.setCell (p := ⟨RS, 5, none⟩) (by simp; omega) _⟩ | exact ⟨hHeld.1.kept hb', ⟨_, HS.out.kept hb'⟩, btr hHeld.2.2 hb'⟩ | exact ⟨hHeld.1.alloc _, by obtain ⟨x, hx⟩ := hHeld.2.1; exact ⟨x, hx.alloc _⟩, hHeld.2.2.alloc hHeld.2.2.size _⟩
        clear hKc Kc
        refine wpAnyH_ready (rs := [9]) (by kernel_rfl) (by simp) ?_
        refine AllReadyH.cons rfl (fun Kc hKc => ?_) AllReadyH.nil
        refine wp_append_own_at _ _ 38 rfl w.heap.size 67 i0 (.pointer none) 1 8 Tryz.underlying38 hi hz0 hz1 hz2 rfl (by decide) _ j _ rfl ((HLV.out.kept HBK.out).own.alloc _) ⟨w3.heap.size, 0, none⟩ 1 1 [.pointer (some ⟨p, 0, none⟩)] rfl rfl (cell_one_new _ _ _) (by simp [Value.oneCell']) (by unfold maxLen; omega) (by omega) (by have := (btr HB.out HBK.out).size; simp; omega) ?_; intro v' w4 hown' hgrow hnil' hq9; have HAL : Hid (Below w3.heap.size w3 (w3.alloc (.cells #[.pointer (some ⟨p, 0, none⟩)] 67))) := Lib.hid ((Below.refl _ _).alloc (Nat.le_refl _) _); have hpush := RLevsB.push ((HLV.out.kept HBK.out).kept HAL.out) (HL3.out.frame (fun k hk => HAL.out.block k hk.2)) (fun k hk => ⟨hk.1, Nat.lt_of_lt_of_le hk.2 HAL.out.size⟩) HB.out.size (fun q k hq hk => (HLV.out.fin q k hq hk).2) HS.out.lt (fun k hk => (HLV.out.own.lt k hk).2) hgrow hown' hq9; rw [HZZ.out] at hpush; have HX4 := Lib.hid (((HX.out.kept HBK.out).kept HAL.out).grown hgrow (Ne.symm (own_ne ((HLV.out.kept HBK.out).kept HAL.out).own ((HX.out.kept HBK.out).kept HAL.out) (by decide)))); have HS4 := Lib.hid (((HS.out.kept HBK.out).kept HAL.out).grown hgrow (Ne.symm (own_ne ((HLV.out.kept HBK.out).kept HAL.out).own ((HS.out.kept HBK.out).kept HAL.out) (by decide)))); have HB4 : Hid (Below w.heap.size w w4) := Lib.hid ((btr (btr HB.out HBK.out) HAL.out).grown hgrow (btr (btr HB.out HBK.out) HAL.out).size (fun k e => (HLV.out.own.lt k e).1)); obtain ⟨xo, xl, xc, rfl⟩ := hpush.open2; have HP := Lib.hid hpush; clear hpush hown' hgrow hnil' hq9 k5 k5' k6'
        refine hKc.out _ _ ?_ (fun hHeld => ?_)
        · first | exact hHeld | exact ⟨HX4.out, ⟨_, HS4.out⟩, HB4.out⟩ | exact ⟨HX4.out.far (p := ⟨RS, 5, none⟩) (by simp; omega) _, ⟨_, HS4.out.set_ 5 _⟩, HB4.out.setCell (p := ⟨RS, 5, none⟩) (by simp; omega) _⟩ | exact ⟨hHeld.1.kept hb', ⟨_, HS.out.kept hb'⟩, btr hHeld.2.2 hb'⟩ | exact ⟨hHeld.1.alloc _, by obtain ⟨x, hx⟩ := hHeld.2.1; exact ⟨x, hx.alloc _⟩, hHeld.2.2.alloc hHeld.2.2.size _⟩
        clear hKc Kc
        refine wpAnyH_take (i := 10) (v := ?_) rfl (by kernel_rfl) (by kernel_rfl) (by kernel_rfl) (fun _ _ _ h => h) (Or.inl ⟨by rfl, ?_⟩) (by assumption) ?_
        rotate_left
        · intro w hSw
          try dsimp only at hSw
          go_simp
          try with_reducible rfl
        simp only [Act.put, List.setIfInBounds_toArray, List.set_cons_zero, List.set_cons_succ, List.getElem_toArray, List.getElem_cons_zero, List.getElem_cons_succ]
        refine wpAnyH_take (i := 11) (v := ?_) rfl (by kernel_rfl) (by kernel_rfl) (by kernel_rfl) (fun _ _ _ h => h) (Or.inl ⟨by rfl, ?_⟩) (by assumption) ?_
        rotate_left
        · intro w hSw
          try dsimp only at hSw
          go_simp
          try with_reducible rfl
        simp only [Act.put, List.setIfInBounds_toArray, List.set_cons_zero, List.set_cons_succ, List.getElem_toArray, List.getElem_cons_zero, List.getElem_cons_succ]
        refine wpAnyH_ready (rs := [12]) (by kernel_rfl) (by simp) ?_
        refine AllReadyH.cons rfl (fun Kc hKc => ?_) AllReadyH.nil
        have k7 := HS4.out.cell 5; have fz7 := HS4.out.frozen 5; simp at k7; go_simp
        refine hKc.out _ _ ?_ (fun hHeld => ?_)
        · first | exact hHeld | exact ⟨HX4.out, ⟨_, HS4.out⟩, HB4.out⟩ | exact ⟨HX4.out.far (p := ⟨RS, 5, none⟩) (by simp; omega) _, ⟨_, HS4.out.set_ 5 _⟩, HB4.out.setCell (p := ⟨RS, 5, none⟩) (by simp; omega) _⟩ | exact ⟨hHeld.1.kept hb', ⟨_, HS.out.kept hb'⟩, btr hHeld.2.2 hb'⟩ | exact ⟨hHeld.1.alloc _, by obtain ⟨x, hx⟩ := hHeld.2.1; exact ⟨x, hx.alloc _⟩, hHeld.2.2.alloc hHeld.2.2.size _⟩
        clear hKc Kc
        refine wpAnyH_done (by kernel_rfl) ?_ _
        clear hHeld
        go_wp2
        go_roundw
        case rel => exact ⟨j + 1, _, _, _, by omega, by go_num, HX4.out.far (p := ⟨RS, 5, none⟩) (by simp; omega) _, by simpa using HS4.out.set_ 5 (.slice xo xl xc), HP.out.far HS4.out 5 _, HB4.out.setCell (p := ⟨RS, 5, none⟩) (by simp; omega) _⟩
        case measure => simp [intOf]; omega
      · go_simp
        go_wp2_with (go_at_call 46; refine (PN2.out _).mono ?_; rintro e w3 ⟨p, rfl, hlv3, hb'⟩; have HL3 := Lib.hid hlv3; have HBK := Lib.hid hb'; have k5' := (HS.out.kept hb').cell 5; simp at k5'; have k6' := ((HS.out.kept hb').alloc (.cells #[.pointer (some ⟨p, 0, none⟩)] 67)).cell 5; simp at k6'; clear hlv3)
        refine hKc.out _ _ ?_ (fun hHeld => ?_)
        · first | exact hHeld | exact ⟨HX4.out, ⟨_, HS4.out⟩, HB4.out⟩ | exact ⟨HX4.out.far (p := ⟨RS, 5, none⟩) (by simp; omega) _, ⟨_, HS4.out.set_ 5 _⟩, HB4.out.setCell (p := ⟨RS, 5, none⟩) (by simp; omega) _⟩ | exact ⟨hHeld.1.kept hb', ⟨_, HS.out.kept hb'⟩, btr hHeld.2.2 hb'⟩ | exact ⟨hHeld.1.alloc _, by obtain ⟨x, hx⟩ := hHeld.2.1; exact ⟨x, hx.alloc _⟩, hHeld.2.2.alloc hHeld.2.2.size _⟩
        clear hKc Kc
        refine wpAnyH_ready (rs := [4, 8]) (by kernel_rfl) (by simp) ?_
        refine AllReadyH.cons rfl (fun Kc hKc => ?_) (AllReadyH.cons rfl (fun Kc hKc => ?_) AllReadyH.nil)
        · go_simp
          refine hKc.out _ _ ?_ (fun hHeld => ?_)
          · first | exact hHeld | exact ⟨HX4.out, ⟨_, HS4.out⟩, HB4.out⟩ | exact ⟨HX4.out.far (p := ⟨RS, 5, none⟩) (by simp; omega) _, ⟨_, HS4.out.set_ 5 _⟩, HB4.out.setCell (p := ⟨RS, 5, none⟩) (by simp; omega) _⟩ | exact ⟨hHeld.1.kept hb', ⟨_, HS.out.kept hb'⟩, btr hHeld.2.2 hb'⟩ | exact ⟨hHeld.1.alloc _, by obtain ⟨x, hx⟩ := hHeld.2.1; exact ⟨x, hx.alloc _⟩, hHeld.2.2.alloc hHeld.2.2.size _⟩
          clear hKc Kc
          refine wpAnyH_ready (rs := [8]) (by kernel_rfl) (by simp) ?_
          refine AllReadyH.cons rfl (fun Kc hKc => ?_) AllReadyH.nil
          go_simp
          refine hKc.out _ _ ?_ (fun hHeld => ?_)
          · first | exact hHeld | exact ⟨HX4.out, ⟨_, HS4.out⟩, HB4.out⟩ | exact ⟨HX4.out.far (p := ⟨RS, 5, none⟩) (by simp; omega) _, ⟨_, HS4.out.set_ 5 _⟩, HB4.out.setCell (p := ⟨RS, 5, none⟩) (by simp; omega) _⟩ | exact ⟨hHeld.1.kept hb', ⟨_, HS.out.kept hb'⟩, btr hHeld.2.2 hb'⟩ | exact ⟨hHeld.1.alloc _, by obtain ⟨x, hx⟩ := hHeld.2.1; exact ⟨x, hx.alloc _⟩, hHeld.2.2.alloc hHeld.2.2.size _⟩
          clear hKc Kc
          refine wpAnyH_ready (rs := [9]) (by kernel_rfl) (by simp) ?_
          refine AllReadyH.cons rfl (fun Kc hKc => ?_) AllReadyH.nil
          refine wp_append_own_at _ _ 38 rfl w.heap.size 67 i0 (.pointer none) 1 8 Tryz.underlying38 hi hz0 hz1 hz2 rfl (by decide) _ j _ rfl ((HLV.out.kept HBK.out).own.alloc _) ⟨w3.heap.size, 0, none⟩ 1 1 [.pointer (some ⟨p, 0, none⟩)] rfl rfl (cell_one_new _ _ _) (by simp [Value.oneCell']) (by unfold maxLen; omega) (by omega) (by have := (btr HB.out HBK.out).size; simp; omega) ?_; intro v' w4 hown' hgrow hnil' hq9; have HAL : Hid (Below w3.heap.size w3 (w3.alloc (.cells #[.pointer (some ⟨p, 0, none⟩)] 67))) := Lib.hid ((Below.refl _ _).alloc (Nat.le_refl _) _); have hpush := RLevsB.push ((HLV.out.kept HBK.out).kept HAL.out) (HL3.out.frame (fun k hk => HAL.out.block k hk.2)) (fun k hk => ⟨hk.1, Nat.lt_of_lt_of_le hk.2 HAL.out.size⟩) HB.out.size (fun q k hq hk => (HLV.out.fin q k hq hk).2) HS.out.lt (fun k hk => (HLV.out.own.lt k hk).2) hgrow hown' hq9; rw [HZZ.out] at hpush; have HX4 := Lib.hid (((HX.out.kept HBK.out).kept HAL.out).grown hgrow (Ne.symm (own_ne ((HLV.out.kept HBK.out).kept HAL.out).own ((HX.out.kept HBK.out).kept HAL.out) (by decide)))); have HS4 := Lib.hid (((HS.out.kept HBK.out).kept HAL.out).grown hgrow (Ne.symm (own_ne ((HLV.out.kept HBK.out).kept HAL.out).own ((HS.out.kept HBK.out).kept HAL.out) (by decide)))); have HB4 : Hid (Below w.heap.size w w4) := Lib.hid ((btr (btr HB.out HBK.out) HAL.out).grown hgrow (btr (btr HB.out HBK.out) HAL.out).size (fun k e => (HLV.out.own.lt k e).1)); obtain ⟨xo, xl, xc, rfl⟩ := hpush.open2; have HP := Lib.hid hpush; clear hpush hown' hgrow hnil' hq9 k5 k5' k6'
          refine hKc.out _ _ ?_ (fun hHeld => ?_)
          · first | exact hHeld | exact ⟨HX4.out, ⟨_, HS4.out⟩, HB4.out⟩ | exact ⟨HX4.out.far (p := ⟨RS, 5, none⟩) (by simp; omega) _, ⟨_, HS4.out.set_ 5 _⟩, HB4.out.setCell (p := ⟨RS, 5, none⟩) (by simp; omega) _⟩ | exact ⟨hHeld.1.kept hb', ⟨_, HS.out.kept hb'⟩, btr hHeld.2.2 hb'⟩ | exact ⟨hHeld.1.alloc _, by obtain ⟨x, hx⟩ := hHeld.2.1; exact ⟨x, hx.alloc _⟩, hHeld.2.2.alloc hHeld.2.2.size _⟩
          clear hKc Kc
          refine wpAnyH_take (i := 10) (v := ?_) rfl (by kernel_rfl) (by kernel_rfl) (by kernel_rfl) (fun _ _ _ h => h) (Or.inl ⟨by rfl, ?_⟩) (by assumption) ?_
          rotate_left
          · intro w hSw
            try dsimp only at hSw
            go_simp
            try with_reducible rfl
          simp only [Act.put, List.setIfInBounds_toArray, List.set_cons_zero, List.set_cons_succ, List.getElem_toArray, List.getElem_cons_zero, List.getElem_cons_succ]
          refine wpAnyH_take (i := 11) (v := ?_) rfl (by kernel_rfl) (by kernel_rfl) (by kernel_rfl) (fun _ _ _ h => h) (Or.inl ⟨by rfl, ?_⟩) (by assumption) ?_
          rotate_left
          · intro w hSw
            try dsimp only at hSw
            go_simp
            try with_reducible rfl
          simp only [Act.put, List.setIfInBounds_toArray, List.set_cons_zero, List.set_cons_succ, List.getElem_toArray, List.getElem_cons_zero, List.getElem_cons_succ]
          refine wpAnyH_ready (rs := [12]) (by kernel_rfl) (by simp) ?_
          refine AllReadyH.cons rfl (fun Kc hKc => ?_) AllReadyH.nil
          have k7 := HS4.out.cell 5; have fz7 := HS4.out.frozen 5; simp at k7; go_simp
          refine hKc.out _ _ ?_ (fun hHeld => ?_)
          · first | exact hHeld | exact ⟨HX4.out, ⟨_, HS4.out⟩, HB4.out⟩ | exact ⟨HX4.out.far (p := ⟨RS, 5, none⟩) (by simp; omega) _, ⟨_, HS4.out.set_ 5 _⟩, HB4.out.setCell (p := ⟨RS, 5, none⟩) (by simp; omega) _⟩ | exact ⟨hHeld.1.kept hb', ⟨_, HS.out.kept hb'⟩, btr hHeld.2.2 hb'⟩ | exact ⟨hHeld.1.alloc _, by obtain ⟨x, hx⟩ := hHeld.2.1; exact ⟨x, hx.alloc _⟩, hHeld.2.2.alloc hHeld.2.2.size _⟩
          clear hKc Kc
          refine wpAnyH_done (by kernel_rfl) ?_ _
          clear hHeld
          go_wp2
          go_roundw
          case rel => exact ⟨j + 1, _, _, _, by omega, by go_num, HX4.out.far (p := ⟨RS, 5, none⟩) (by simp; omega) _, by simpa using HS4.out.set_ 5 (.slice xo xl xc), HP.out.far HS4.out 5 _, HB4.out.setCell (p := ⟨RS, 5, none⟩) (by simp; omega) _⟩
          case measure => simp [intOf]; omega
        · go_simp
          refine hKc.out _ _ ?_ (fun hHeld => ?_)
          · first | exact hHeld | exact ⟨HX4.out, ⟨_, HS4.out⟩, HB4.out⟩ | exact ⟨HX4.out.far (p := ⟨RS, 5, none⟩) (by simp; omega) _, ⟨_, HS4.out.set_ 5 _⟩, HB4.out.setCell (p := ⟨RS, 5, none⟩) (by simp; omega) _⟩ | exact ⟨hHeld.1.kept hb', ⟨_, HS.out.kept hb'⟩, btr hHeld.2.2 hb'⟩ | exact ⟨hHeld.1.alloc _, by obtain ⟨x, hx⟩ := hHeld.2.1; exact ⟨x, hx.alloc _⟩, hHeld.2.2.alloc hHeld.2.2.size _⟩
          clear hKc Kc
          refine wpAnyH_ready (rs := [4]) (by kernel_rfl) (by simp) ?_
          refine AllReadyH.cons rfl (fun Kc hKc => ?_) AllReadyH.nil
          go_simp
          refine hKc.out _ _ ?_ (fun hHeld => ?_)
          · first | exact hHeld | exact ⟨HX4.out, ⟨_, HS4.out⟩, HB4.out⟩ | exact ⟨HX4.out.far (p := ⟨RS, 5, none⟩) (by simp; omega) _, ⟨_, HS4.out.set_ 5 _⟩, HB4.out.setCell (p := ⟨RS, 5, none⟩) (by simp; omega) _⟩ | exact ⟨hHeld.1.kept hb', ⟨_, HS.out.kept hb'⟩, btr hHeld.2.2 hb'⟩ | exact ⟨hHeld.1.alloc _, by obtain ⟨x, hx⟩ := hHeld.2.1; exact ⟨x, hx.alloc _⟩, hHeld.2.2.alloc hHeld.2.2.size _⟩
          clear hKc Kc
          refine wpAnyH_ready (rs := [9]) (by kernel_rfl) (by simp) ?_
          refine AllReadyH.cons rfl (fun Kc hKc => ?_) AllReadyH.nil
          refine wp_append_own_at _ _ 38 rfl w.heap.size 67 i0 (.pointer none) 1 8 Tryz.underlying38 hi hz0 hz1 hz2 rfl (by decide) _ j _ rfl ((HLV.out.kept HBK.out).own.alloc _) ⟨w3.heap.size, 0, none⟩ 1 1 [.pointer (some ⟨p, 0, none⟩)] rfl rfl (cell_one_new _ _ _) (by simp [Value.oneCell']) (by unfold maxLen; omega) (by omega) (by have := (btr HB.out HBK.out).size; simp; omega) ?_; intro v' w4 hown' hgrow hnil' hq9; have HAL : Hid (Below w3.heap.size w3 (w3.alloc (.cells #[.pointer (some ⟨p, 0, none⟩)] 67))) := Lib.hid ((Below.refl _ _).alloc (Nat.le_refl _) _); have hpush := RLevsB.push ((HLV.out.kept HBK.out).kept HAL.out) (HL3.out.frame (fun k hk => HAL.out.block k hk.2)) (fun k hk => ⟨hk.1, Nat.lt_of_lt_of_le hk.2 HAL.out.size⟩) HB.out.size (fun q k hq hk => (HLV.out.fin q k hq hk).2) HS.out.lt (fun k hk => (HLV.out.own.lt k hk).2) hgrow hown' hq9; rw [HZZ.out] at hpush; have HX4 := Lib.hid (((HX.out.kept HBK.out).kept HAL.out).grown hgrow (Ne.symm (own_ne ((HLV.out.kept HBK.out).kept HAL.out).own ((HX.out.kept HBK.out).kept HAL.out) (by decide)))); have HS4 := Lib.hid (((HS.out.kept HBK.out).kept HAL.out).grown hgrow (Ne.symm (own_ne ((HLV.out.kept HBK.out).kept HAL.out).own ((HS.out.kept HBK.out).kept HAL.out) (by decide)))); have HB4 : Hid (Below w.heap.size w w4) := Lib.hid ((btr (btr HB.out HBK.out) HAL.out).grown hgrow (btr (btr HB.out HBK.out) HAL.out).size (fun k e => (HLV.out.own.lt k e).1)); obtain ⟨xo, xl, xc, rfl⟩ := hpush.open2; have HP := Lib.hid hpush; clear hpush hown' hgrow hnil' hq9 k5 k5' k6'
          refine hKc.out _ _ ?_ (fun hHeld => ?_)
          · first | exact hHeld | exact ⟨HX4.out, ⟨_, HS4.out⟩, HB4.out⟩ | exact ⟨HX4.out.far (p := ⟨RS, 5, none⟩) (by simp; omega) _, ⟨_, HS4.out.set_ 5 _⟩, HB4.out.setCell (p := ⟨RS, 5, none⟩) (by simp; omega) _⟩ | exact ⟨hHeld.1.kept hb', ⟨_, HS.out.kept hb'⟩, btr hHeld.2.2 hb'⟩ | exact ⟨hHeld.1.alloc _, by obtain ⟨x, hx⟩ := hHeld.2.1; exact ⟨x, hx.alloc _⟩, hHeld.2.2.alloc hHeld.2.2.size _⟩
          clear hKc Kc
          refine wpAnyH_take (i := 10) (v := ?_) rfl (by kernel_rfl) (by kernel_rfl) (by kernel_rfl) (fun _ _ _ h => h) (Or.inl ⟨by rfl, ?_⟩) (by assumption) ?_
          rotate_left
          · intro w hSw
            try dsimp only at hSw
            go_simp
            try with_reducible rfl
          simp only [Act.put, List.setIfInBounds_toArray, List.set_cons_zero, List.set_cons_succ, List.getElem_toArray, List.getElem_cons_zero, List.getElem_cons_succ]
          refine wpAnyH_take (i := 11) (v := ?_) rfl (by kernel_rfl) (by kernel_rfl) (by kernel_rfl) (fun _ _ _ h => h) (Or.inl ⟨by rfl, ?_⟩) (by assumption) ?_
          rotate_left
          · intro w hSw
            try dsimp only at hSw
            go_simp
            try with_reducible rfl
          simp only [Act.put, List.setIfInBounds_toArray, List.set_cons_zero, List.set_cons_succ, List.getElem_toArray, List.getElem_cons_zero, List.getElem_cons_succ]
          refine wpAnyH_ready (rs := [12]) (by kernel_rfl) (by simp) ?_
          refine AllReadyH.cons rfl (fun Kc hKc => ?_) AllReadyH.nil
          have k7 := HS4.out.cell 5; have fz7 := HS4.out.frozen 5; simp at k7; go_simp
          refine hKc.out _ _ ?_ (fun hHeld => ?_)
          · first | exact hHeld | exact ⟨HX4.out, ⟨_, HS4.out⟩, HB4.out⟩ | exact ⟨HX4.out.far (p := ⟨RS, 5, none⟩) (by simp; omega) _, ⟨_, HS4.out.set_ 5 _⟩, HB4.out.setCell (p := ⟨RS, 5, none⟩) (by simp; omega) _⟩ | exact ⟨hHeld.1.kept hb', ⟨_, HS.out.kept hb'⟩, btr hHeld.2.2 hb'⟩ | exact ⟨hHeld.1.alloc _, by obtain ⟨x, hx⟩ := hHeld.2.1; exact ⟨x, hx.alloc _⟩, hHeld.2.2.alloc hHeld.2.2.size _⟩
          clear hKc Kc
          refine wpAnyH_done (by kernel_rfl) ?_ _
          clear hHeld
          go_wp2
          go_roundw
          case rel => exact ⟨j + 1, _, _, _, by omega, by go_num, HX4.out.far (p := ⟨RS, 5, none⟩) (by simp; omega) _, by simpa using HS4.out.set_ 5 (.slice xo xl xc), HP.out.far HS4.out 5 _, HB4.out.setCell (p := ⟨RS, 5, none⟩) (by simp; omega) _⟩
          case measure => simp [intOf]; omega
    · obtain rfl : j = n + 1 := by omega
      have i1 : ¬ (((n + 1 : Nat) : Int) ≤ (n : Int)) := by omega
      have i3 : decide (n + 1 ≤ n) = false := decide_eq_false (by omega)
      obtain ⟨RL, hst⟩ := HLV0.out.stack HR.out HS0.out
      have HST := Lib.hid hst
      clear hst hlt
      go_wp2
      go_ret
      exact ⟨RS, RL, P, F, rfl, by omega, HST.out, HB0.out⟩
theorem Only.blk {w w' : World} {F : Nat → Prop} {g : Nat} {t : TypeId} {cs : Array Value} (h : Only F w w') (hb : Blk w g t cs) (hg : ¬ F g) : Blk w' g t cs := (h.2.2.2.2 g hb.lt hg).trans hb
/-- a level of the document's stack is loaded -/
theorem RStIs.load {w w' : World} {base RS RL : Nat} {b r d m s : Int} {P : Nat → Nat} {F : Nat → Nat → Prop} {Z : Nat → List Int} {j : Nat} {F' : Nat → Prop} {cs : List Int} (h : RStIs w base RS RL b r d m s P F Z) (hj : j ≤ b.toNat) (hbase : base ≤ w.heap.size)
    (hl : RLevIs w' F' (P j) b r d m s j cs) (hf : ∀ k, F' k → F j k ∨ (w.heap.size ≤ k ∧ k < w'.heap.size)) (ho : Only (F j) w w') : RStIs w' base RS RL b r d m s P (upN F j F') (upN Z j cs) := by
  obtain ⟨cap, h1, h2⟩ := h.box
  obtain ⟨cur, h3, h4⟩ := h.row
  have hRS := h1.lt
  have hRL := h3.lt
  refine ⟨⟨cap, ho.blk h1 (h.out j hj).1, h2⟩, h.right, ⟨cur, ho.blk h3 (h.out j hj).2, h4⟩, fun n hn => ?_, fun n k hn hk => ?_, fun n q k hn hq e hk hk2 => ?_, fun n hn => ?_⟩
  · by_cases e : n = j
    · subst e; rw [upN_same, upN_same]; exact hl
    · rw [upN_other _ _ e, upN_other _ _ e]
      exact (h.lev n hn).frame (fun k hk => ho.2.2.2.2 k (h.fin n k hn hk).2 (fun hk2 => h.apart n j k hn hj e hk hk2))
  · by_cases e : n = j
    · subst e
      rw [upN_same] at hk
      rcases hf k hk with h5 | h5
      · have := h.fin n k hn h5; have := ho.2.2.2.1; omega
      · omega
    · rw [upN_other _ _ e] at hk
      have := h.fin n k hn hk; have := ho.2.2.2.1; omega
  · by_cases e1 : n = j
    · subst e1
      rw [upN_same] at hk
      rw [upN_other _ _ (Ne.symm e)] at hk2
      rcases hf k hk with h5 | h5
      · exact h.apart n q k hn hq e h5 hk2
      · have := h.fin q k hq hk2; omega
    · rw [upN_other _ _ e1] at hk
      by_cases e2 : q = j
      · subst e2
        rw [upN_same] at hk2
        rcases hf k hk2 with h5 | h5
        · exact h.apart n q k hn hq e hk h5
        · have := h.fin n k hn hk; omega
      · rw [upN_other _ _ e2] at hk2
        exact h.apart n q k hn hq e hk hk2
  · by_cases e : n = j
    · subst e
      rw [upN_same]
      exact ⟨fun hk => by rcases hf _ hk with h5 | h5; exact (h.out n hn).1 h5; omega, fun hk => by rcases hf _ hk with h5 | h5; exact (h.out n hn).2 h5; omega⟩
    · rw [upN_other _ _ e]; exact h.out n hn
end Go.Proofs.YtbghchgmoiniiaaGreat

/-
  The walks of gaugerref08.Read, Least, gaugerref05.Min. Conditions: none beyond those stated at each theorem.
-/
namespace Go.Proofs.YtbghchgmoiniiaaGreat
open Go.RowKit
set_option linter.unusedVariables false
set_option linter.unusedSimpArgs false


def RReadPost (w : World) (W : Nat) (zs cs : List Int) (e : Ending) (w' : World) : Prop :=
  ∃ g cap, e = .returned (.tuple #[.slice (some ⟨g, 0, none⟩) cs.length cap, .int .i64 0]) ∧ w.heap.size ≤ g ∧ IntsAt w' (.slice (some ⟨g, 0, none⟩) cs.length cap) (readZ W zs cs) ∧ Below w.heap.size w w'
set_option maxRecDepth 100000 in
set_option maxHeartbeats 4000000 in
theorem rread_yes (w : World) (N G : Nat) (v : Value) (B K : Nat → Nat) (R W : Nat) (zs cs : List Int) (vc : Value) (h : RefIs w N G v B K R W zs) (hv : IntsAt w vc cs) (hm : meetB R W cs = true) :
    Calls Tryz.prog 90 #[.pointer (some ⟨G, 0, none⟩), vc] w (RReadPost w W zs cs) := by
  obtain ⟨h0R, hlR, hcol⟩ := meetB_of hm
  have hR8 := h.rows
  obtain ⟨L, vcap, rfl⟩ := h.openL h0R
  have hal : Below w.heap.size w (w.alloc (.cells #[] 2)) := (Below.refl _ _).alloc (Nat.le_refl _) _
  have P1 := rmeet_any _ N G _ B K R W zs cs vc (h.kept hal) (hv.kept hal) (by omega)
  rw [hm] at P1
  have HG0 := Lib.hid h
  have HV1 := Lib.hid (hv.kept hal)
  have HCOL := Lib.hid hcol
  obtain ⟨ao, cap, rfl, hcap, hcells⟩ := hv
  obtain ⟨g, rfl, hg, hc⟩ := hcells (by omega)
  have HC := Lib.hid hc
  clear hcells hc hcol hm h
  obtain ⟨n, hlen⟩ : ∃ n, n = cs.length := ⟨_, rfl⟩
  unfold RReadPost readZ
  rw [← hlen] at hcap P1 HV1
  simp only [← hlen]
  have hn8 : n ≤ 8 := by omega
  have HNR : Hid (n = R) := Lib.hid (by omega)
  clear hlen hlR
  obtain ⟨f, hf⟩ : ∃ f : Nat → Int, f = fun r => cellD zs (r * W + colN cs r) := ⟨_, rfl⟩
  rw [← hf]
  have HF := Lib.hid hf
  have hown0 := World.ownsRow_lit (base := w.heap.size) (e := 2) (size := 1) w #[] 0 (by simp) (by unfold maxLen; omega) (by simp)
  have HO1 := Lib.hid hown0
  have HB1 := Lib.hid hal
  have P1 := Lib.hid P1
  obtain ⟨i0, hi, hz0, hz1, hz2⟩ := info_parts Tryz.info64
  clear hf hown0 hal
  go_enter Tryz.func90, Tryz.ntmps90
  go_wp2_with fail
  with_reducible refine P1.out.mono ?_
  rintro e w2 ⟨rfl, hb⟩
  have HO2 := Lib.hid (HO1.out.kept (below_grown (row := none) hb) (by simp [Value.ownBlock]))
  have HB2 := Lib.hid (btr HB1.out hb)
  have hs2 : w.heap.size ≤ w2.heap.size := HB2.out.size
  clear hb P1 HV1 HO1 HB1
  go_wp2_with fail
  go_loopw [6, 7] (fun x i wr => ∃ j : Nat, j ≤ n ∧ i = .int .i64 (j : Int) ∧ x ≠ .slice none 0 0 ∧ wr.ownsRow w.heap.size 2 1 x j (((List.range j).map f).map (Value.int .i64)) ∧ Below w.heap.size w wr) (fun _ i _ => n - (intOf i).toNat)
  case atStart => exact ⟨0, by omega, rfl, by simp, by simpa using HO2.out, HB2.out⟩
  case round =>
    obtain ⟨j, hj, rfl, hnil, hown, hbel⟩ := hrel
    clear HO2 HB2
    have HB := Lib.hid hbel
    have HO := Lib.hid hown
    have HNIL := Lib.hid hnil
    have hszr : w.heap.size ≤ wr.heap.size := hbel.size
    by_cases hlt : j < n
    · have hjR : j < R := by have := HNR.out; omega
      obtain ⟨hcj, hcw⟩ := HCOL.out j hjR
      obtain ⟨l0, l1, l2, -⟩ := HG0.out.look hjR hcw
      have cx := HC.out j _ hcj
      have HN : Hid (((List.range (j + 1)).map f).map (Value.int .i64) = ((List.range j).map f).map (Value.int .i64) ++ [.int .i64 (f j)]) := Lib.hid (by rw [List.range_succ]; simp)
      have HFJ : Hid (cellD zs (j * W + colN cs j) = f j) := Lib.hid (by rw [HF.out])
      rw [HFJ.out] at l2
      have hmx1 : j + 1 ≤ maxLen := by unfold maxLen; omega
      clear hown hnil hbel hcj
      generalize hy : colN cs j = y at *
      have HY := Lib.hid hy
      clear hy
      generalize B j = Bj at *
      generalize K j = Kj at *
      generalize hfj : f j = fj at *
      have d1 : (0 : Int) ≤ (j : Int) := by omega
      have d2 : (j : Int) < (n : Int) := by omega
      have d3 : (j : Int) < (R : Int) := by omega
      have d4 : (0 : Int) ≤ (y : Int) := by omega
      have d5 : (y : Int) < (W : Int) := by omega
      have L0 := Lib.hid l0
      have L1 := Lib.hid l1
      have L2 := Lib.hid l2
      have CX := Lib.hid cx
      clear l0 l1 l2 cx hfj
      go_wp2_with fail
      refine wp_region_held_drew (S := fun w' => Below w.heap.size w w') (by kernel_rfl) (by exact below_drewN HB.out 1) (fun hHeld => ?_)
      refine wpAnyH_take (i := 0) (v := ?_) rfl (by kernel_rfl) (by kernel_rfl) (by kernel_rfl) (fun _ _ _ h => h) (Or.inl ⟨by rfl, ?_⟩) (by assumption) ?_
      rotate_left
      · intro w hSw
        try dsimp only at hSw
        go_simp
        try with_reducible rfl
      simp only [Act.put, List.setIfInBounds_toArray, List.set_cons_zero, List.set_cons_succ, List.getElem_toArray, List.getElem_cons_zero, List.getElem_cons_succ]
      refine wpAnyH_take (i := 1) (v := ?_) rfl (by kernel_rfl) (by kernel_rfl) (by kernel_rfl) (fun _ _ _ h => h) (Or.inl ⟨by rfl, ?_⟩) (by assumption) ?_
      rotate_left
      · intro w hSw
        try dsimp only at hSw
        go_simp
        try with_reducible rfl
      simp only [Act.put, List.setIfInBounds_toArray, List.set_cons_zero, List.set_cons_succ, List.getElem_toArray, List.getElem_cons_zero, List.getElem_cons_succ]
      refine wpAnyH_take (i := 2) (v := ?_) rfl (by kernel_rfl) (by kernel_rfl) (by kernel_rfl) (fun _ _ _ h => h) (Or.inl ⟨by rfl, ?_⟩) (by assumption) ?_
      rotate_left
      · intro w hSw
        try dsimp only at hSw
        go_simp
        try with_reducible rfl
      simp only [Act.put, List.setIfInBounds_toArray, List.set_cons_zero, List.set_cons_succ, List.getElem_toArray, List.getElem_cons_zero, List.getElem_cons_succ]
      refine wpAnyH_take (i := 3) (v := ?_) rfl (by kernel_rfl) (by kernel_rfl) (by kernel_rfl) (fun _ _ _ h => h) (Or.inl ⟨by rfl, ?_⟩) (by assumption) ?_
      rotate_left
      · intro w hSw
        try dsimp only at hSw
        go_simp
        try with_reducible rfl
      simp only [Act.put, List.setIfInBounds_toArray, List.set_cons_zero, List.set_cons_succ, List.getElem_toArray, List.getElem_cons_zero, List.getElem_cons_succ]
      refine wpAnyH_take (i := 4) (v := ?_) rfl (by kernel_rfl) (by kernel_rfl) (by kernel_rfl) (fun _ _ _ h => h) (Or.inl ⟨by rfl, ?_⟩) (by assumption) ?_
      rotate_left
      · intro w hSw
        have q0 := (hSw.cell (p := ⟨G, 0, none⟩) (cell_block L0.out)).trans L0.out
        have q1 := (hSw.cell (p := ⟨L, j, none⟩) (cell_block L1.out)).trans L1.out
        have q2 := (hSw.cell (p := ⟨Bj, y, none⟩) (cell_block L2.out)).trans L2.out
        have q3 := (hSw.cell (p := ⟨g, j, none⟩) (cell_block CX.out)).trans CX.out
        go_simp
        try with_reducible rfl
      simp only [Act.put, List.setIfInBounds_toArray, List.set_cons_zero, List.set_cons_succ, List.getElem_toArray, List.getElem_cons_zero, List.getElem_cons_succ]
      refine wpAnyH_take (i := 5) (v := ?_) rfl (by kernel_rfl) (by kernel_rfl) (by kernel_rfl) (fun _ _ _ h => h) (Or.inl ⟨by rfl, ?_⟩) (by assumption) ?_
      rotate_left
      · intro w hSw
        try dsimp only at hSw
        go_simp
        try with_reducible rfl
      simp only [Act.put, List.setIfInBounds_toArray, List.set_cons_zero, List.set_cons_succ, List.getElem_toArray, List.getElem_cons_zero, List.getElem_cons_succ]
      refine wpAnyH_take (i := 6) (v := ?_) rfl (by kernel_rfl) (by kernel_rfl) (by kernel_rfl) (fun _ _ _ h => h) (Or.inl ⟨by rfl, ?_⟩) (by assumption) ?_
      rotate_left
      · intro w hSw
        try dsimp only at hSw
        go_simp
        try with_reducible rfl
      simp only [Act.put, List.setIfInBounds_toArray, List.set_cons_zero, List.set_cons_succ, List.getElem_toArray, List.getElem_cons_zero, List.getElem_cons_succ]
      refine wpAnyH_take (i := 7) (v := ?_) rfl (by kernel_rfl) (by kernel_rfl) (by kernel_rfl) (fun _ _ _ h => h) (Or.inl ⟨by rfl, ?_⟩) (by assumption) ?_
      rotate_left
      · intro w hSw
        have q0 := (hSw.cell (p := ⟨G, 0, none⟩) (cell_block L0.out)).trans L0.out
        have q1 := (hSw.cell (p := ⟨L, j, none⟩) (cell_block L1.out)).trans L1.out
        have q2 := (hSw.cell (p := ⟨Bj, y, none⟩) (cell_block L2.out)).trans L2.out
        have q3 := (hSw.cell (p := ⟨g, j, none⟩) (cell_block CX.out)).trans CX.out
        go_simp
        try with_reducible rfl
      simp only [Act.put, List.setIfInBounds_toArray, List.set_cons_zero, List.set_cons_succ, List.getElem_toArray, List.getElem_cons_zero, List.getElem_cons_succ]
      refine wpAnyH_take (i := 8) (v := ?_) rfl (by kernel_rfl) (by kernel_rfl) (by kernel_rfl) (fun _ _ _ h => h) (Or.inl ⟨by rfl, ?_⟩) (by assumption) ?_
      rotate_left
      · intro w hSw
        try dsimp only at hSw
        go_simp
        try with_reducible rfl
      simp only [Act.put, List.setIfInBounds_toArray, List.set_cons_zero, List.set_cons_succ, List.getElem_toArray, List.getElem_cons_zero, List.getElem_cons_succ]
      refine wpAnyH_take (i := 9) (v := ?_) rfl (by kernel_rfl) (by kernel_rfl) (by kernel_rfl) (fun _ _ _ h => h) (Or.inl ⟨by rfl, ?_⟩) (by assumption) ?_
      rotate_left
      · intro w hSw
        try dsimp only at hSw
        go_simp
        try with_reducible rfl
      simp only [Act.put, List.setIfInBounds_toArray, List.set_cons_zero, List.set_cons_succ, List.getElem_toArray, List.getElem_cons_zero, List.getElem_cons_succ]
      refine wpAnyH_take (i := 10) (v := ?_) rfl (by kernel_rfl) (by kernel_rfl) (by kernel_rfl) (fun _ _ _ h => h) (Or.inl ⟨by rfl, ?_⟩) (by assumption) ?_
      rotate_left
      · intro w hSw
        try dsimp only at hSw
        go_simp
        try with_reducible rfl
      simp only [Act.put, List.setIfInBounds_toArray, List.set_cons_zero, List.set_cons_succ, List.getElem_toArray, List.getElem_cons_zero, List.getElem_cons_succ]
      refine wpAnyH_take (i := 11) (v := ?_) rfl (by kernel_rfl) (by kernel_rfl) (by kernel_rfl) (fun _ _ _ h => h) (Or.inl ⟨by rfl, ?_⟩) (by assumption) ?_
      rotate_left
      · intro w hSw
        have q0 := (hSw.cell (p := ⟨G, 0, none⟩) (cell_block L0.out)).trans L0.out
        have q1 := (hSw.cell (p := ⟨L, j, none⟩) (cell_block L1.out)).trans L1.out
        have q2 := (hSw.cell (p := ⟨Bj, y, none⟩) (cell_block L2.out)).trans L2.out
        have q3 := (hSw.cell (p := ⟨g, j, none⟩) (cell_block CX.out)).trans CX.out
        go_simp
        try with_reducible rfl
      simp only [Act.put, List.setIfInBounds_toArray, List.set_cons_zero, List.set_cons_succ, List.getElem_toArray, List.getElem_cons_zero, List.getElem_cons_succ]
      refine wpAnyH_take (i := 12) (v := ?_) rfl (by kernel_rfl) (by kernel_rfl) (by kernel_rfl) (fun _ _ _ h => h) (Or.inl ⟨by rfl, ?_⟩) (by assumption) ?_
      rotate_left
      · intro w hSw
        try dsimp only at hSw
        go_simp
        try with_reducible rfl
      simp only [Act.put, List.setIfInBounds_toArray, List.set_cons_zero, List.set_cons_succ, List.getElem_toArray, List.getElem_cons_zero, List.getElem_cons_succ]
      refine wpAnyH_take (i := 13) (v := ?_) rfl (by kernel_rfl) (by kernel_rfl) (by kernel_rfl) (fun _ _ _ h => h) (Or.inl ⟨by rfl, ?_⟩) (by assumption) ?_
      rotate_left
      · intro w hSw
        have q0 := (hSw.cell (p := ⟨G, 0, none⟩) (cell_block L0.out)).trans L0.out
        have q1 := (hSw.cell (p := ⟨L, j, none⟩) (cell_block L1.out)).trans L1.out
        have q2 := (hSw.cell (p := ⟨Bj, y, none⟩) (cell_block L2.out)).trans L2.out
        have q3 := (hSw.cell (p := ⟨g, j, none⟩) (cell_block CX.out)).trans CX.out
        go_simp
        try with_reducible rfl
      simp only [Act.put, List.setIfInBounds_toArray, List.set_cons_zero, List.set_cons_succ, List.getElem_toArray, List.getElem_cons_zero, List.getElem_cons_succ]
      refine wpAnyH_ready (rs := [14]) (by kernel_rfl) (by simp) ?_
      refine AllReadyH.cons rfl (fun Kc hKc => ?_) AllReadyH.nil
      go_simp
      refine hKc.out _ _ ?_ (fun hHeld => ?_)
      · first | exact hHeld.alloc hHeld.size _ | exact hHeld.grown hgrow hHeld.size (fun k e => (HO.out.lt k e).1)
      clear hKc Kc
      refine wpAnyH_ready (rs := [15]) (by kernel_rfl) (by simp) ?_
      refine AllReadyH.cons rfl (fun Kc hKc => ?_) AllReadyH.nil
      refine wp_append_own_at _ _ 62 rfl w.heap.size 2 i0 (.int .i64 0) 1 8 Tryz.underlying62 hi hz0 hz1 hz2 rfl (by decide) _ j _ rfl ((show World.ownsRow (wr.drewN 1) w.heap.size 2 1 u6 j (((List.range j).map f).map (Value.int .i64)) from HO.out).alloc _) ⟨wr.heap.size, 0, none⟩ 1 1 [.int .i64 fj] rfl rfl (cell_one_new _ _ _) (by simp [Value.oneCell']) hmx1 (by omega) (by simp; omega) ?_; intro v' w3 hown' hgrow hnil' hq9
      refine hKc.out _ _ ?_ (fun hHeld => ?_)
      · first | exact hHeld.alloc hHeld.size _ | exact hHeld.grown hgrow hHeld.size (fun k e => (HO.out.lt k e).1)
      clear hKc Kc
      refine wpAnyH_take (i := 16) (v := ?_) rfl (by kernel_rfl) (by kernel_rfl) (by kernel_rfl) (fun _ _ _ h => h) (Or.inl ⟨by rfl, ?_⟩) (by assumption) ?_
      rotate_left
      · intro w hSw
        try dsimp only at hSw
        go_simp
        try with_reducible rfl
      simp only [Act.put, List.setIfInBounds_toArray, List.set_cons_zero, List.set_cons_succ, List.getElem_toArray, List.getElem_cons_zero, List.getElem_cons_succ]
      refine wpAnyH_done (by kernel_rfl) ?_ _
      have HNIL' : Hid (v' ≠ .slice none 0 0) := Lib.hid (fun h => HNIL.out (hnil'.1 h).1)
      have HO4 : Hid (w3.ownsRow w.heap.size 2 1 v' (j + 1) (((List.range (j + 1)).map f).map (Value.int .i64))) := Lib.hid (by rw [HN.out]; exact hown')
      have HB4 := Lib.hid hHeld
      clear hown' hgrow hnil' hq9 hHeld
      go_wp2
      go_roundw
      case rel => exact ⟨j + 1, by omega, by go_num, HNIL'.out, HO4.out, HB4.out⟩
      case measure => simp [intOf]; omega
    · obtain rfl : j = n := by omega
      have hown2 : wr.ownsRow w.heap.size 2 1 u6 ((List.range j).map f).length (((List.range j).map f).map (Value.int .i64)) := by simpa using hown
      have hi := IntsAt.of_own hown2 rfl
      obtain ⟨gr, cpr, rfl, hgr2, hcpr, _⟩ := own_row hown2 hnil
      have hl : ((List.range j).map f).length = j := by simp
      rw [hl] at hi ⊢
      have HI := Lib.hid hi
      clear hi hown hown2 hnil hbel hl
      go_wp2
      go_ret2
      exact ⟨gr, cpr, rfl, hgr2, HI.out, HB.out⟩
end Go.Proofs.YtbghchgmoiniiaaGreat

/-
  The walks of gaugerref08.Read where nothing is met, gaugerref05.Min, gaugerref08.Least, gaugerref09.Raise. Conditions: none beyond those stated at each theorem.
-/
namespace Go.Proofs.YtbghchgmoiniiaaGreat
open Go.RowKit
set_option linter.unusedVariables false
set_option linter.unusedSimpArgs false

theorem rread_no (w : World) (N G : Nat) (v : Value) (B K : Nat → Nat) (R W : Nat) (zs cs : List Int) (vc : Value) (h : RefIs w N G v B K R W zs) (hv : IntsAt w vc cs) (hl : cs.length ≤ 100000) (hm : meetB R W cs = false) :
    Calls Tryz.prog 90 #[.pointer (some ⟨G, 0, none⟩), vc] w fun e w' => ∃ g, e = .returned (.tuple #[.slice (some ⟨g, 0, none⟩) 0 0, .int .i64 1]) ∧ Below w.heap.size w w' := by
  have hal : Below w.heap.size w (w.alloc (.cells #[] 2)) := (Below.refl _ _).alloc (Nat.le_refl _) _
  have P1 := rmeet_any _ N G _ B K R W zs cs vc (h.kept hal) (hv.kept hal) hl
  rw [hm] at P1
  obtain ⟨ao, cap, rfl, hcap, hcells⟩ := hv
  clear hcells h hcap hl
  generalize cs.length = n at *
  have P1 := Lib.hid P1
  have HB1 := Lib.hid hal
  clear hal hm
  go_enter Tryz.func90, Tryz.ntmps90
  go_wp2_with fail
  with_reducible refine P1.out.mono ?_
  rintro e w2 ⟨rfl, hb⟩
  have HB2 := Lib.hid (btr HB1.out hb)
  clear hb
  go_wp2
  go_ret2
  exact ⟨_, rfl, HB2.out⟩

theorem rmin_none (ao : Option Addr) (c : Nat) (w : World) :
    Calls Tryz.prog 91 #[.slice ao 0 c] w fun e w' => e = .returned (.tuple #[.int .i64 0, .bool false]) ∧ w = w' := by
  go_enter Tryz.func91, Tryz.ntmps91
  go_wp2
  go_ret2
  exact ⟨rfl, rfl⟩
set_option maxRecDepth 100000 in
set_option maxHeartbeats 4000000 in
theorem rmin_any (v : Value) (zs : List Int) (w : World) (hv : IntsAt w v zs) (hk : 0 < zs.length) (hn : zs.length ≤ 100000) :
    Calls Tryz.prog 91 #[v] w fun e w' => ∃ u, e = .returned (.tuple #[.int .i64 u, .bool true]) ∧ IsKth zs 0 u ∧ w = w' := by
  obtain ⟨ao, cap, rfl, hcap, hcells⟩ := hv
  obtain ⟨g, rfl, hg, hc⟩ := hcells hk
  have HC := Lib.hid hc
  have h0 : zs[0]? = some (cellD zs 0) := by simp [cellD, hk]
  have c0 := hc 0 _ h0
  have HM0 := Lib.hid (List.mem_of_getElem? h0)
  clear hc hcells h0
  obtain ⟨n, hlen⟩ : ∃ n, n = zs.length := ⟨_, rfl⟩
  rw [← hlen] at hcap hk hn ⊢
  have HLEN := Lib.hid hlen
  clear hlen
  have d0 : ((n : Int) == 0) = false := by simp; omega
  have d1 : (n == 0) = false := by simp; omega
  have d2 : decide ((n : Int) = 0) = false := by simp; omega
  have d3 : decide (n = 0) = false := by simp; omega
  have d4 : (0 : Int) < (n : Int) := by omega
  generalize hz0 : cellD zs 0 = z0 at *
  clear hz0
  go_enter Tryz.func91, Tryz.ntmps91
  go_wp2_with fail
  go_loop [4, 5] (fun b i => ∃ (j : Nat) (u : Int), j ≤ n ∧ i = .int .i64 (j : Int) ∧ b = .int .i64 u ∧ u ∈ zs ∧ ∀ k x, k < j → zs[k]? = some x → u ≤ x) (fun _ i => n - (intOf i).toNat)
  case atStart => exact ⟨0, z0, by omega, rfl, rfl, HM0.out, fun k x hk => by omega⟩
  case round =>
    obtain ⟨j, u, hj, rfl, rfl, hm, hle⟩ := hrel
    have HM := Lib.hid hm
    have HLE := Lib.hid hle
    clear hm hle c0
    by_cases hlt : j < n
    · have hzj : zs[j]? = some (cellD zs j) := by
        have : j < zs.length := by have := HLEN.out; omega
        simp [cellD, this]
      have cx := HC.out j _ hzj
      have HZJ := Lib.hid hzj
      clear hzj
      generalize cellD zs j = x at *
      have i0 : (0 : Int) ≤ (j : Int) := by omega
      have i1 : (j : Int) < (n : Int) := by omega
      obtain ⟨y, hy⟩ : ∃ y, y = if x < u then x else u := ⟨_, rfl⟩
      have HY : Hid (y ∈ zs ∧ ∀ k z, k < j + 1 → zs[k]? = some z → y ≤ z) := Lib.hid (by
        refine ⟨by rw [hy]; split; exact List.mem_of_getElem? HZJ.out; exact HM.out, fun k z hk hz => ?_⟩
        by_cases e : k = j
        · subst e
          rw [HZJ.out] at hz
          have := Option.some.inj hz
          rw [hy]; split <;> omega
        · have := HLE.out k z (by omega) hz
          rw [hy]; split <;> omega)
      have ey : (if x < u then x else u) = y := hy.symm
      clear hy
      go_wp2
      go_round
      case rel => exact ⟨j + 1, y, by omega, by go_num, rfl, HY.out.1, HY.out.2⟩
      case measure => simp [intOf]; omega
    · obtain rfl : j = n := by omega
      have HK : Hid (IsKth zs 0 u) := Lib.hid (kth_zero_of HM.out (fun x hx => by
        obtain ⟨k, hk⟩ := List.getElem?_of_mem hx
        have hk2 : k < zs.length := (List.getElem?_eq_some_iff.1 hk).1
        exact HLE.out k x (by have := HLEN.out; omega) hk))
      go_wp2
      go_ret2
      exact ⟨u, rfl, HK.out, rfl⟩

theorem rleast_yes (w : World) (N G : Nat) (v : Value) (B K : Nat → Nat) (R W : Nat) (zs cs : List Int) (vc : Value) (h : RefIs w N G v B K R W zs) (hv : IntsAt w vc cs) (hm : meetB R W cs = true) :
    Calls Tryz.prog 86 #[.pointer (some ⟨G, 0, none⟩), vc] w (TellPost w W zs cs 0) := by
  obtain ⟨h0R, hlR, hcol⟩ := meetB_of hm
  have hR8 := h.rows
  have P1 := rread_yes w N G v B K R W zs cs vc h hv hm
  have hrl : (readZ W zs cs).length = cs.length := by rw [readZ, List.length_map, List.length_range]
  obtain ⟨ao, cap, rfl, hcap, hcells⟩ := hv
  clear hcells hcol h
  unfold RReadPost at P1
  obtain ⟨n, hlen⟩ : ∃ n, n = cs.length := ⟨_, rfl⟩
  rw [← hlen] at hcap hlR hrl P1 ⊢
  have hn0 : 0 < n := by omega
  have hn8 : n ≤ 8 := by omega
  have HRL := Lib.hid hrl
  have P1 := Lib.hid P1
  clear hlen hlR hrl
  go_enter Tryz.func86, Tryz.ntmps86
  go_wp2_with fail
  with_reducible refine P1.out.mono ?_
  rintro e w2 ⟨g, cp, rfl, hg, hi, hb⟩
  have HB := Lib.hid hb
  have P2 := Lib.hid (rmin_any _ _ w2 hi (by have := HRL.out; omega) (by have := HRL.out; omega))
  clear hb hi
  go_wp2_with fail
  with_reducible refine P2.out.mono ?_
  rintro e w3 ⟨u, rfl, hu, hw3⟩
  subst hw3
  have HU := Lib.hid hu
  clear hu
  go_wp2
  go_ret2
  exact ⟨u, rfl, HU.out, HB.out⟩
theorem rleast_no (w : World) (N G : Nat) (v : Value) (B K : Nat → Nat) (R W : Nat) (zs cs : List Int) (vc : Value) (h : RefIs w N G v B K R W zs) (hv : IntsAt w vc cs) (hl : cs.length ≤ 100000) (hm : meetB R W cs = false) :
    Calls Tryz.prog 86 #[.pointer (some ⟨G, 0, none⟩), vc] w fun e w' => e = .returned (.tuple #[.int .i64 0, .int .i64 1]) ∧ Below w.heap.size w w' := by
  have P1 := Lib.hid (rread_no w N G v B K R W zs cs vc h hv hl hm)
  obtain ⟨ao, cap, rfl, hcap, hcells⟩ := hv
  clear hcells h hcap hl
  generalize cs.length = n at *
  go_enter Tryz.func86, Tryz.ntmps86
  go_wp2_with fail
  with_reducible refine P1.out.mono ?_
  rintro e w2 ⟨g, rfl, hb⟩
  have HB := Lib.hid hb
  have P2 := Lib.hid (rmin_none (some ⟨g, 0, none⟩) 0 w2)
  clear hb
  go_wp2_with fail
  with_reducible refine P2.out.mono ?_
  rintro e w3 ⟨rfl, hw3⟩
  subst hw3
  go_wp2
  go_ret2
  exact ⟨rfl, HB.out⟩

/-- of what was there, at most the rows' blocks have changed -/
structure RGr (w w' : World) (B : Nat → Nat) (R : Nat) : Prop where
  os : w'.os = w.os
  tape : w'.tape = w.tape
  output : w'.output = w.output
  size : w.heap.size ≤ w'.heap.size
  block : ∀ k, k < w.heap.size → (∀ r, r < R → k ≠ B r) → w'.heap[k]? = w.heap[k]?
theorem RGr.of_below {w w' : World} {B : Nat → Nat} {R : Nat} (h : Below w.heap.size w w') : RGr w w' B R := ⟨h.os, h.tape, h.output, h.size, fun k hk _ => h.block k hk⟩
theorem RGr.trans {w w1 w2 : World} {B : Nat → Nat} {R : Nat} (h : RGr w w1 B R) (k : RGr w1 w2 B R) : RGr w w2 B R :=
  ⟨k.os.trans h.os, k.tape.trans h.tape, k.output.trans h.output, Nat.le_trans h.size k.size, fun j hj hne => (k.block j (Nat.lt_of_lt_of_le hj h.size) hne).trans (h.block j hj hne)⟩
theorem RGr.set {w : World} {B : Nat → Nat} {R r c : Nat} (hr : r < R) (u : Value) : RGr w (w.setCell ⟨B r, c, none⟩ u) B R :=
  ⟨rfl, rfl, rfl, by simp [World.setCell], fun k hk hne => Below.heap_setCell _ _ _ _ (by simpa using hne r hr)⟩
theorem RGr.below {w w' : World} {N G : Nat} {v : Value} {B K : Nat → Nat} {R W : Nat} {zs : List Int} (h : RGr w w' B R) (hr : RefIs w N G v B K R W zs) : Below N w w' :=
  ⟨h.os, h.tape, h.output, h.size, fun k hk => h.block k (by have := hr.lo.1; have := hr.ltG; omega) (fun r hr' e => by have := hr.lo.2 r hr'; omega)⟩
theorem RGr.row {w w' : World} {N G : Nat} {v : Value} {B K : Nat → Nat} {R W : Nat} {zs cs : List Int} {vc : Value} (h : RGr w w' B R) (hr : RefIs w N G v B K R W zs) (hv : RowI w vc cs) : RowI w' vc cs := by
  obtain ⟨g, cap, cur, rfl, hc, hg, hx⟩ := hv
  refine ⟨g, cap, cur, rfl, hc, (h.block g hg.lt (fun r hr' => ?_)).trans hg, hx⟩
  obtain ⟨cB, hB, -⟩ := hr.cells r hr'
  exact hg.ne_ hB (by decide)

def RRaisePost (w : World) (N G : Nat) (v : Value) (B K : Nat → Nat) (R W : Nat) (zs cs : List Int) (d : Int) (e : Ending) (w' : World) : Prop :=
  ∃ u, IsKth (readZ W zs cs) 0 u ∧ ((d < 0 ∧ e = .returned (.int .i64 3) ∧ Below w.heap.size w w') ∨ (0 ≤ d ∧ ¬ In64 (u + d) ∧ e = .returned (.int .i64 4) ∧ Below w.heap.size w w') ∨
    (0 ≤ d ∧ In64 (u + d) ∧ e = .returned (.int .i64 0) ∧ RefIs w' N G v B K R W (raiseZ W zs cs (u + d)) ∧ RGr w w' B R))

theorem rraise_no (w : World) (N G : Nat) (v : Value) (B K : Nat → Nat) (R W : Nat) (zs cs : List Int) (d : Int) (vc : Value) (h : RefIs w N G v B K R W zs) (hv : IntsAt w vc cs) (hl : cs.length ≤ 100000) (hm : meetB R W cs = false) :
    Calls Tryz.prog 79 #[.pointer (some ⟨G, 0, none⟩), vc, .int .i64 d] w fun e w' => e = .returned (.int .i64 1) ∧ Below w.heap.size w w' := by
  have P1 := Lib.hid (rleast_no w N G v B K R W zs cs vc h hv hl hm)
  obtain ⟨ao, cap, rfl, hcap, hcells⟩ := hv
  clear hcells h hcap hl
  generalize cs.length = n at *
  go_enter Tryz.func79, Tryz.ntmps79
  go_wp2_with fail
  with_reducible refine P1.out.mono ?_
  rintro e w2 ⟨rfl, hb⟩
  have HB := Lib.hid hb
  clear hb
  go_wp2
  go_ret
  exact ⟨rfl, HB.out⟩
set_option maxRecDepth 100000 in
set_option maxHeartbeats 8000000 in
theorem rraise_yes (w : World) (N G : Nat) (v : Value) (B K : Nat → Nat) (R W : Nat) (zs cs : List Int) (d : Int) (vc : Value) (h : RefIs w N G v B K R W zs) (hv : RowI w vc cs) (hm : meetB R W cs = true) (hd : In64 d) (hfit : Fit zs) :
    Calls Tryz.prog 79 #[.pointer (some ⟨G, 0, none⟩), vc, .int .i64 d] w (RRaisePost w N G v B K R W zs cs d) := by
  obtain ⟨h0R, hlR, hcol⟩ := meetB_of hm
  have hR8 := h.rows
  have hzl := h.len
  have P1 := Lib.hid (rleast_yes w N G v B K R W zs cs vc h hv.ints hm)
  obtain ⟨L, vcap, rfl⟩ := h.openL h0R
  have HG := Lib.hid h
  have HV := Lib.hid hv
  have HCOL := Lib.hid hcol
  have HFIT := Lib.hid hfit
  have HZL := Lib.hid hzl
  obtain ⟨g, cap, cur, rfl, hcap, hgb, hcur⟩ := hv
  have HC := Lib.hid (show ∀ i u, cs[i]? = some u → w.cell? ⟨g, i, none⟩ = some (.int .i64 u) from fun i u hu => (hgb.cell i).trans (hcur i u hu))
  have HGL := Lib.hid hgb.lt
  have HGB := Lib.hid (show ∀ r, r < R → g ≠ B r from fun r hr' => by
    obtain ⟨cB, hB, -⟩ := h.cells r hr'
    exact hgb.ne_ hB (by decide))
  clear h hgb hcur hfit hcol hzl
  obtain ⟨n, hlen⟩ : ∃ n, n = cs.length := ⟨_, rfl⟩
  have HLEN := Lib.hid hlen
  rw [← hlen] at hcap hlR P1 ⊢
  have HNR : Hid (n = R) := Lib.hid hlR
  have hn8 : n ≤ 8 := by omega
  clear hlen hlR
  go_enter Tryz.func79, Tryz.ntmps79
  go_wp2_with fail
  with_reducible refine P1.out.mono ?_
  rintro e w2 ⟨u, rfl, hu, hb⟩
  have HU := Lib.hid hu
  have HB2 := Lib.hid hb
  have hu64 : In64 u := by
    have := hu.1
    simp [readZ] at this
    obtain ⟨r, hr, rfl⟩ := this
    exact cell_fit HFIT.out _
  clear hu hb P1
  by_cases hd0 : d < 0
  · have e1 : decide (d < 0) = true := decide_eq_true hd0
    have HD0 := Lib.hid hd0
    clear hd0
    go_wp2
    go_ret
    exact ⟨u, HU.out, .inl ⟨HD0.out, rfl, HB2.out⟩⟩
  have e1 : decide (d < 0) = false := decide_eq_false hd0
  have HD0 : Hid (0 ≤ d) := Lib.hid (by omega)
  by_cases h64 : In64 (u + d)
  · have PA := Lib.hid (ladd_yes u d hu64 hd h64 w2)
    have H64 := Lib.hid h64
    clear hu64 hd h64 hd0
    unfold TwoPost at PA
    obtain ⟨nn, hnn⟩ : ∃ nn, nn = u + d := ⟨_, rfl⟩
    rw [← hnn] at PA H64
    have HNN := Lib.hid hnn
    clear hnn
    go_wp2_with fail
    with_reducible refine PA.out.mono ?_
    rintro e w3 ⟨rfl, hb⟩
    have HB3 := Lib.hid (btr HB2.out hb)
    clear hb PA
    go_wp2_with fail
    go_loopw [11] (fun i wr => ∃ k : Nat, k ≤ n ∧ i = .int .i64 (k : Int) ∧ RefIs wr N G (.slice (some ⟨L, 0, none⟩) R vcap) B K R W (setsZ W zs (colN cs) (riseV W zs cs nn) k) ∧ RGr w wr B R) (fun i _ => n - (intOf i).toNat)
    case atStart => exact ⟨0, by omega, rfl, HG.out.kept HB3.out, RGr.of_below HB3.out⟩
    case round =>
      obtain ⟨k, hk, rfl, hg, hgr⟩ := hrel
      have HG2 := Lib.hid hg
      have HGR := Lib.hid hgr
      by_cases hlk : k < n
      · have hkR : k < R := by have := HNR.out; omega
        obtain ⟨hck, hcw⟩ := HCOL.out k hkR
        obtain ⟨l0, l1, l2, l3⟩ := hg.look hkR hcw
        have hsame : cellD (setsZ W zs (colN cs) (riseV W zs cs nn) k) (k * W + colN cs k) = cellD zs (k * W + colN cs k) := by
          rw [setsZ_get HZL.out (fun r hr => (HCOL.out r hr).2) k (by omega) k (colN cs k) hkR hcw, if_neg (by omega)]
        rw [hsame] at l2
        have cx : wr.cell? ⟨g, k, none⟩ = some (.int .i64 (colN cs k : Int)) := by
          have := hgr.block g HGL.out HGB.out
          have h2 := HC.out k _ hck
          simp only [World.cell?] at h2 ⊢
          rw [this]
          exact h2
        have HSET : Hid (setsZ W zs (colN cs) (riseV W zs cs nn) (k + 1) = (setsZ W zs (colN cs) (riseV W zs cs nn) k).set (k * W + colN cs k) (if cellD zs (k * W + colN cs k) < nn then nn else cellD zs (k * W + colN cs k))) := rfl
        clear hg hgr hck hsame
        generalize hx : cellD zs (k * W + colN cs k) = x at *
        generalize hy : colN cs k = y at *
        have HY := Lib.hid hy
        clear hx hy
        obtain ⟨zz, hzz⟩ : ∃ zz, zz = if x < nn then nn else x := ⟨_, rfl⟩
        have ez : (if x < nn then nn else x) = zz := hzz.symm
        rw [← hzz] at HSET
        clear hzz
        have d1 : (0 : Int) ≤ (k : Int) := by omega
        have d2 : (k : Int) < (n : Int) := by omega
        have d3 : (k : Int) < (R : Int) := by omega
        have d4 : (0 : Int) ≤ (y : Int) := by omega
        have d5 : (y : Int) < (W : Int) := by omega
        go_wp2_with fail
        refine wp_region_still_tail 27 (by kernel_rfl) (by kernel_rfl) ?_
        simp only [List.take_succ_cons, List.take_zero, List.drop_succ_cons, List.drop_zero]
        have HG3 : Hid (RefIs { heap := wr.heap, tape := wr.tape, drawn := wr.drawn + 1, os := wr.os, output := wr.output } N G (.slice (some ⟨L, 0, none⟩) R vcap) B K R W (setsZ W zs (colN cs) (riseV W zs cs nn) k)) := Lib.hid (HG2.out.drewN 1)
        have HGR3 : Hid (RGr w { heap := wr.heap, tape := wr.tape, drawn := wr.drawn + 1, os := wr.os, output := wr.output } B R) := Lib.hid (HGR.out.trans (RGr.of_below (below_drewN (Below.refl _ _) 1)))
        change World.cell? { heap := wr.heap, tape := wr.tape, drawn := wr.drawn + 1, os := wr.os, output := wr.output } _ = _ at l0 l1 l2 cx
        change World.frozen? { heap := wr.heap, tape := wr.tape, drawn := wr.drawn + 1, os := wr.os, output := wr.output } _ = _ at l3
        generalize ({ heap := wr.heap, tape := wr.tape, drawn := wr.drawn + 1, os := wr.os, output := wr.output } : World) = wd at *
        generalize hBk : B k = Bk at *
        have HBK := Lib.hid hBk
        clear hBk
        generalize K k = Kk at *
        repeat still_step
        refine wpStill_nil ?_
        go_wp2
        go_roundw
        case rel => exact ⟨k + 1, by omega, by go_num, by rw [HSET.out, ← HBK.out]; exact HG3.out.set k y zz hkR hcw, by rw [← HBK.out]; exact HGR3.out.trans (RGr.set hkR _)⟩
        case measure => simp [intOf]; omega
      · obtain rfl : k = n := by omega
        have HP : Hid (RRaisePost w N G (.slice (some ⟨L, 0, none⟩) R vcap) B K R W zs cs d (.returned (.int .i64 0)) wr) := ⟨u, HU.out, .inr (.inr ⟨HD0.out, by rw [← HNN.out]; exact H64.out, rfl, by
          have := HG2.out
          unfold raiseZ
          rw [← HLEN.out, ← HNN.out]
          exact this, HGR.out⟩)⟩
        clear hg hgr
        go_wp2
        go_ret
        exact HP.out
  · have PA := Lib.hid (ladd_no u d hu64 hd h64 w2)
    have H64 := Lib.hid h64
    clear hu64 hd h64 hd0
    unfold TwoPost at PA
    go_wp2_with fail
    with_reducible refine PA.out.mono ?_
    rintro e w3 ⟨rfl, hb⟩
    have HB3 := Lib.hid (btr HB2.out hb)
    clear hb PA
    go_wp2
    go_ret
    exact ⟨u, HU.out, .inr (.inl ⟨HD0.out, H64.out, rfl, HB3.out⟩)⟩
end Go.Proofs.YtbghchgmoiniiaaGreat

/-
  The walk of ConservePlays: it returns true. Conditions: the arguments are of their types.
-/
namespace Go.Proofs.YtbghchgmoiniiaaGreat
open Go.RowKit
set_option linter.unusedVariables false
set_option linter.unusedSimpArgs false

/-- what a raise answers, and what the cells are behind it -/
def RSpec (R W : Nat) (zs cs : List Int) (d : Int) (err : Int) (zs' : List Int) : Prop :=
  (meetB R W cs = false ∧ err = 1 ∧ zs' = zs) ∨ (meetB R W cs = true ∧ ∃ u, IsKth (readZ W zs cs) 0 u ∧ ((d < 0 ∧ err = 3 ∧ zs' = zs) ∨ (0 ≤ d ∧ ¬ In64 (u + d) ∧ err = 4 ∧ zs' = zs) ∨ (0 ≤ d ∧ In64 (u + d) ∧ err = 0 ∧ zs' = raiseZ W zs cs (u + d))))
theorem RSpec.unique {R W : Nat} {zs cs : List Int} {d e1 e2 : Int} {z1 z2 : List Int} (h1 : RSpec R W zs cs d e1 z1) (h2 : RSpec R W zs cs d e2 z2) : e2 = e1 ∧ z2 = z1 := by
  rcases h1 with ⟨m1, rfl, rfl⟩ | ⟨m1, u1, k1, h1⟩
  · rcases h2 with ⟨m2, rfl, rfl⟩ | ⟨m2, u2, k2, h2⟩
    · exact ⟨rfl, rfl⟩
    · rw [m1] at m2; cases m2
  · rcases h2 with ⟨m2, rfl, rfl⟩ | ⟨m2, u2, k2, h2⟩
    · rw [m1] at m2; cases m2
    · obtain rfl := k1.unique k2
      rcases h1 with ⟨a1, rfl, rfl⟩ | ⟨a1, b1, rfl, rfl⟩ | ⟨a1, b1, rfl, rfl⟩ <;> rcases h2 with ⟨a2, rfl, rfl⟩ | ⟨a2, b2, rfl, rfl⟩ | ⟨a2, b2, rfl, rfl⟩ <;> first | exact ⟨rfl, rfl⟩ | (exfalso; omega) | exact absurd b1 b2 | exact absurd b2 b1
theorem raise_no (w : World) (G C R W : Nat) (zs cs : List Int) (d : Int) (v : Value) (h : GridIs w G C R W zs) (hv : IntsAt w v cs) (hl : cs.length ≤ 100000) (hm : meetB R W cs = false) :
    Calls Tryz.prog 148 #[.pointer (some ⟨G, 0, none⟩), v, .int .i64 d] w fun e w' => e = .returned (.int .i64 1) ∧ Below w.heap.size w w' := by
  have HK := Lib.hid (box_kept (w := w) (cs := #[.pointer (some ⟨G, 0, none⟩)]) (t := 139) (Below.refl _ _))
  have P1 := Lib.hid (least_no _ G C R W zs cs v (h.kept HK.out.2) (hv.kept HK.out.2) hl hm)
  obtain ⟨ao, cap, rfl, hcap, hcells⟩ := hv
  clear hcells h hcap hl
  generalize cs.length = n at *
  have q0 := HK.out.1.cell 0
  simp at q0
  go_enter Tryz.func148, Tryz.ntmps148
  go_wp2_with fail
  with_reducible refine P1.out.mono ?_
  rintro e w2 ⟨rfl, hb⟩
  have HB := Lib.hid (HK.out.2.trans (hb.mono HK.out.2.size))
  clear hb
  go_wp2
  go_ret
  exact ⟨rfl, HB.out⟩
theorem raise_all (w : World) (G C R W : Nat) (zs cs : List Int) (d : Int) (v : Value) (h : GridIs w G C R W zs) (hv : RowI w v cs) (hl : cs.length ≤ 100000) (hd : In64 d) :
    Calls Tryz.prog 148 #[.pointer (some ⟨G, 0, none⟩), v, .int .i64 d] w fun e w' => ∃ err zs', e = .returned (.int .i64 err) ∧ RSpec R W zs cs d err zs' ∧ GridIs w' G C R W zs' ∧ w.grownBy w' (some C) := by
  cases hm : meetB R W cs with
  | false =>
    refine (raise_no w G C R W zs cs d v h hv.ints hl hm).mono ?_
    rintro e w' ⟨rfl, hb⟩
    exact ⟨1, zs, rfl, .inl ⟨hm, rfl, rfl⟩, h.kept hb, below_grown hb⟩
  | true =>
    obtain ⟨curC, hC, -⟩ := h.cells
    refine (raise_yes w G C R W zs cs d v h hv.ints hm hd (hv.neC hC (by decide))).mono ?_
    rintro e w' ⟨u, hu, (⟨h1, rfl, hb⟩ | ⟨h1, h2, rfl, hb⟩ | ⟨h1, h2, rfl, hg, hgr⟩)⟩
    · exact ⟨3, zs, rfl, .inr ⟨hm, u, hu, .inl ⟨h1, rfl, rfl⟩⟩, h.kept hb, below_grown hb⟩
    · exact ⟨4, zs, rfl, .inr ⟨hm, u, hu, .inr (.inl ⟨h1, h2, rfl, rfl⟩)⟩, h.kept hb, below_grown hb⟩
    · exact ⟨0, _, rfl, .inr ⟨hm, u, hu, .inr (.inr ⟨h1, h2, rfl, rfl⟩)⟩, hg, hgr⟩
theorem rraise_all (w : World) (N G : Nat) (v : Value) (B K : Nat → Nat) (R W : Nat) (zs cs : List Int) (d : Int) (vc : Value) (h : RefIs w N G v B K R W zs) (hv : RowI w vc cs) (hl : cs.length ≤ 100000) (hd : In64 d) (hfit : Fit zs) :
    Calls Tryz.prog 79 #[.pointer (some ⟨G, 0, none⟩), vc, .int .i64 d] w fun e w' => ∃ err zs', e = .returned (.int .i64 err) ∧ RSpec R W zs cs d err zs' ∧ RefIs w' N G v B K R W zs' ∧ Below N w w' := by
  have hNG : N ≤ w.heap.size := by have := h.lo.1; have := h.ltG; omega
  cases hm : meetB R W cs with
  | false =>
    refine (rraise_no w N G v B K R W zs cs d vc h hv.ints hl hm).mono ?_
    rintro e w' ⟨rfl, hb⟩
    exact ⟨1, zs, rfl, .inl ⟨hm, rfl, rfl⟩, h.kept hb, hb.mono hNG⟩
  | true =>
    refine (rraise_yes w N G v B K R W zs cs d vc h hv hm hd hfit).mono ?_
    rintro e w' ⟨u, hu, (⟨h1, rfl, hb⟩ | ⟨h1, h2, rfl, hb⟩ | ⟨h1, h2, rfl, hg, hgr⟩)⟩
    · exact ⟨3, zs, rfl, .inr ⟨hm, u, hu, .inl ⟨h1, rfl, rfl⟩⟩, h.kept hb, hb.mono hNG⟩
    · exact ⟨4, zs, rfl, .inr ⟨hm, u, hu, .inr (.inl ⟨h1, h2, rfl, rfl⟩)⟩, h.kept hb, hb.mono hNG⟩
    · exact ⟨0, _, rfl, .inr ⟨hm, u, hu, .inr (.inr ⟨h1, h2, rfl, rfl⟩)⟩, hg, hgr.below h⟩

/-- the first q numbers of an argument's slice, laid into a row of its own -/
theorem cols_news {w w' : World} {ao : Option Addr} {cs ls : List Int} {n cap q : Nat} (h : ColsAt w (.slice ao n cap) cs) (hn : n = cs.length) (hq : q ≤ n) (hls : ls = cs.take q) (hb : Below w.heap.size w w') :
    0 < q → ∃ ad, ao = some ad ∧ ∀ j u, (ls.map (Value.int .i64))[j]? = some u → w'.cell? (ad.add j) = some u := by
  intro h0
  obtain ⟨ao', cap', e, -, -, hx⟩ := h
  simp only [Value.slice.injEq] at e
  obtain ⟨rfl, -, rfl⟩ := e
  obtain ⟨bb, off, rfl, hbb, hcc⟩ := hx (by omega)
  refine ⟨_, rfl, fun j u hu => ?_⟩
  rw [List.getElem?_map, hls, List.getElem?_take] at hu
  split at hu
  · cases hz : cs[j]? with
    | none => rw [hz] at hu; simp at hu
    | some z =>
      rw [hz] at hu
      simp at hu
      subst hu
      rw [addr_add, ← hcc j z hz]
      exact hb.cell (p := ⟨bb, off + j, none⟩) hbb
  · simp at hu

end Go.Proofs.YtbghchgmoiniiaaGreat

/-
  The walk of gaugerref08.Change. Conditions: none beyond those stated at each theorem.
-/
namespace Go.Proofs.YtbghchgmoiniiaaGreat
open Go.RowKit
set_option linter.unusedVariables false
set_option linter.unusedSimpArgs false

def RChangePost (w : World) (N G : Nat) (v : Value) (B K : Nat → Nat) (R W : Nat) (zs cs : List Int) (d : Int) (e : Ending) (w' : World) : Prop :=
  (changeFits W zs cs d ∧ e = .returned (.int .i64 0) ∧ RefIs w' N G v B K R W (changeZ W zs cs d) ∧ RGr w w' B R) ∨ (¬ changeFits W zs cs d ∧ e = .returned (.int .i64 4) ∧ Below w.heap.size w w')
theorem RGr.cell {w w' : World} {B : Nat → Nat} {R g i : Nat} {x : Value} (h : RGr w w' B R) (hc : w.cell? ⟨g, i, none⟩ = some x) (hne : ∀ r, r < R → g ≠ B r) : w'.cell? ⟨g, i, none⟩ = some x := by
  have h1 := cell_block hc
  have h2 := h.block g h1 hne
  simp only [World.cell?] at hc ⊢
  rw [h2]
  exact hc
theorem rchange_no (w : World) (N G : Nat) (v : Value) (B K : Nat → Nat) (R W : Nat) (zs cs : List Int) (d : Int) (vc : Value) (h : RefIs w N G v B K R W zs) (hv : IntsAt w vc cs) (hl : cs.length ≤ 100000) (hm : meetB R W cs = false) :
    Calls Tryz.prog 80 #[.pointer (some ⟨G, 0, none⟩), vc, .int .i64 d] w fun e w' => e = .returned (.int .i64 1) ∧ Below w.heap.size w w' := by
  have P1 := rmeet_any w N G v B K R W zs cs vc h hv hl
  rw [hm] at P1
  have P1 := Lib.hid P1
  obtain ⟨ao, cap, rfl, hcap, hcells⟩ := hv
  clear hcells h hcap hl
  generalize cs.length = n at *
  go_enter Tryz.func80, Tryz.ntmps80
  go_wp2_with fail
  with_reducible refine P1.out.mono ?_
  rintro e w2 ⟨rfl, hb⟩
  have HB := Lib.hid hb
  clear hb
  go_wp2
  go_ret
  exact ⟨rfl, HB.out⟩
set_option maxRecDepth 100000 in
set_option maxHeartbeats 8000000 in
theorem rchange_yes (w : World) (N G : Nat) (v : Value) (B K : Nat → Nat) (R W : Nat) (zs cs : List Int) (d : Int) (vc : Value) (h : RefIs w N G v B K R W zs) (hv : RowI w vc cs) (hm : meetB R W cs = true) (hd : In64 d) (hfit : Fit zs) :
    Calls Tryz.prog 80 #[.pointer (some ⟨G, 0, none⟩), vc, .int .i64 d] w (RChangePost w N G v B K R W zs cs d) := by
  obtain ⟨h0R, hlR, hcol⟩ := meetB_of hm
  have hR8 := h.rows
  have P1 := rmeet_any w N G v B K R W zs cs vc h hv.ints (by omega)
  rw [hm] at P1
  have P1 := Lib.hid P1
  have HZL := Lib.hid h.len
  obtain ⟨L, vcap, rfl⟩ := h.openL h0R
  have HG := Lib.hid h
  have HCOL := Lib.hid hcol
  have HFIT := Lib.hid hfit
  obtain ⟨g, cap, cur, rfl, hcap, hgb, hcur⟩ := hv
  have HC := Lib.hid (show ∀ i u, cs[i]? = some u → w.cell? ⟨g, i, none⟩ = some (.int .i64 u) from fun i u hu => (hgb.cell i).trans (hcur i u hu))
  have HGL := Lib.hid hgb.lt
  have HGB := Lib.hid (show ∀ r, r < R → g ≠ B r from fun r hr' => by
    obtain ⟨cB, hB, -⟩ := h.cells r hr'
    exact hgb.ne_ hB (by decide))
  have HBL := Lib.hid (show ∀ r, r < R → B r < w.heap.size from fun r hr' => by
    obtain ⟨cB, hB, -⟩ := h.cells r hr'
    exact hB.lt)
  clear h hgb hcur hfit hcol
  obtain ⟨n, hlen⟩ : ∃ n, n = cs.length := ⟨_, rfl⟩
  have HLEN := Lib.hid hlen
  rw [← hlen] at hcap hlR P1 ⊢
  have HNR : Hid (n = R) := Lib.hid hlR
  have hn8 : n ≤ 8 := by omega
  obtain ⟨f, hf⟩ : ∃ f : Nat → Int, f = fun r => cellD zs (r * W + colN cs r) := ⟨_, rfl⟩
  have HF64 : Hid (∀ r, In64 (f r)) := Lib.hid (fun r => by rw [hf]; exact cell_fit HFIT.out _)
  have HFITS : Hid (changeFits W zs cs d ↔ ∀ r, r < n → In64 (f r + d)) := Lib.hid (by rw [hf, hlen]; exact Iff.rfl)
  have HCZ : Hid (changeZ W zs cs d = setsZ W zs (colN cs) (fun r => f r + d) n) := Lib.hid (by rw [hf, hlen]; rfl)
  have HF := Lib.hid hf
  obtain ⟨i0, hi, hz0, hz1, hz2⟩ := info_parts Tryz.info64
  clear hlen hlR hf
  go_enter Tryz.func80, Tryz.ntmps80
  go_wp2_with fail
  with_reducible refine P1.out.mono ?_
  rintro e w2 ⟨rfl, hb⟩
  have hown0 := World.ownsRow_lit (base := w.heap.size) (e := 2) (size := 1) w2 #[] 0 (by have := hb.size; omega) (by unfold maxLen; omega) (by simp)
  have HO2 := Lib.hid hown0
  have HB2 := Lib.hid (hb.alloc hb.size (.cells #[] 2))
  clear hb P1 hown0
  go_wp2_with fail
  go_loopw [7, 8] (fun x i wr => ∃ j : Nat, j ≤ n ∧ i = .int .i64 (j : Int) ∧ x ≠ .slice none 0 0 ∧ wr.ownsRow w.heap.size 2 1 x j (((List.range j).map fun r => f r + d).map (Value.int .i64)) ∧ (∀ k, k < j → In64 (f k + d)) ∧ Below w.heap.size w wr) (fun _ i _ => n - (intOf i).toNat)
  case atStart => exact ⟨0, by omega, rfl, by simp, by simpa using HO2.out, fun k hk => by omega, HB2.out⟩
  case round =>
    obtain ⟨j, hj, rfl, hnil, hown, hok, hbel⟩ := hrel
    clear HO2 HB2
    have HB := Lib.hid hbel
    have HO := Lib.hid hown
    have HNIL := Lib.hid hnil
    have HOK := Lib.hid hok
    have hszr : w.heap.size ≤ wr.heap.size := hbel.size
    by_cases hlt : j < n
    · have hjR : j < R := by have := HNR.out; omega
      obtain ⟨hcj, hcw⟩ := HCOL.out j hjR
      obtain ⟨l0, l1, l2, -⟩ := HG.out.look hjR hcw
      have cx := HC.out j _ hcj
      have HN : Hid (((List.range (j + 1)).map fun r => f r + d).map (Value.int .i64) = ((List.range j).map fun r => f r + d).map (Value.int .i64) ++ [.int .i64 (f j + d)]) := Lib.hid (by rw [List.range_succ]; simp)
      have HFJ : Hid (cellD zs (j * W + colN cs j) = f j) := Lib.hid (by rw [HF.out])
      rw [HFJ.out] at l2
      have hmx1 : j + 1 ≤ maxLen := by unfold maxLen; omega
      have h64f := HF64.out j
      have HNF : Hid (¬ In64 (f j + d) → ¬ changeFits W zs cs d) := Lib.hid (fun h1 h2 => h1 (HFITS.out.1 h2 j hlt))
      have HOK2 : Hid (In64 (f j + d) → ∀ k, k < j + 1 → In64 (f k + d)) := Lib.hid (fun h1 k hk => by
        by_cases e : k = j
        · subst e; exact h1
        · exact HOK.out k (by omega))
      clear hown hnil hbel hcj hok
      generalize hy : colN cs j = y at *
      have HY := Lib.hid hy
      clear hy
      generalize B j = Bj at *
      generalize K j = Kj at *
      generalize f j = fj at *
      have d1 : (0 : Int) ≤ (j : Int) := by omega
      have d2 : (j : Int) < (n : Int) := by omega
      have d3 : (j : Int) < (R : Int) := by omega
      have d4 : (0 : Int) ≤ (y : Int) := by omega
      have d5 : (y : Int) < (W : Int) := by omega
      have L0 := Lib.hid l0
      have L1 := Lib.hid l1
      have L2 := Lib.hid l2
      have CX := Lib.hid cx
      clear l0 l1 l2 cx
      by_cases h64 : In64 (fj + d)
      · have PA := Lib.hid (ladd_yes fj d h64f hd h64)
        unfold TwoPost at PA
        have HOK3 := Lib.hid (HOK2.out h64)
        clear h64 h64f
        generalize fj + d = x at *
        go_wp2_with fail
        refine wp_region_held_drew (S := fun w' => Below w.heap.size w w') (by kernel_rfl) (by exact below_drewN HB.out 1) (fun hHeld => ?_)
        refine wpAnyH_take (i := 0) (v := ?_) rfl (by kernel_rfl) (by kernel_rfl) (by kernel_rfl) (fun _ _ _ h => h) (Or.inl ⟨by rfl, ?_⟩) (by assumption) ?_
        rotate_left
        · intro w hSw
          try dsimp only at hSw
          go_simp
          try with_reducible rfl
        simp only [Act.put, List.setIfInBounds_toArray, List.set_cons_zero, List.set_cons_succ, List.getElem_toArray, List.getElem_cons_zero, List.getElem_cons_succ]
        refine wpAnyH_take (i := 1) (v := ?_) rfl (by kernel_rfl) (by kernel_rfl) (by kernel_rfl) (fun _ _ _ h => h) (Or.inl ⟨by rfl, ?_⟩) (by assumption) ?_
        rotate_left
        · intro w hSw
          try dsimp only at hSw
          go_simp
          try with_reducible rfl
        simp only [Act.put, List.setIfInBounds_toArray, List.set_cons_zero, List.set_cons_succ, List.getElem_toArray, List.getElem_cons_zero, List.getElem_cons_succ]
        refine wpAnyH_take (i := 2) (v := ?_) rfl (by kernel_rfl) (by kernel_rfl) (by kernel_rfl) (fun _ _ _ h => h) (Or.inl ⟨by rfl, ?_⟩) (by assumption) ?_
        rotate_left
        · intro w hSw
          try dsimp only at hSw
          go_simp
          try with_reducible rfl
        simp only [Act.put, List.setIfInBounds_toArray, List.set_cons_zero, List.set_cons_succ, List.getElem_toArray, List.getElem_cons_zero, List.getElem_cons_succ]
        refine wpAnyH_take (i := 3) (v := ?_) rfl (by kernel_rfl) (by kernel_rfl) (by kernel_rfl) (fun _ _ _ h => h) (Or.inl ⟨by rfl, ?_⟩) (by assumption) ?_
        rotate_left
        · intro w hSw
          have q0 := (hSw.cell (p := ⟨G, 0, none⟩) (cell_block L0.out)).trans L0.out
          have q1 := (hSw.cell (p := ⟨L, j, none⟩) (cell_block L1.out)).trans L1.out
          have q2 := (hSw.cell (p := ⟨Bj, y, none⟩) (cell_block L2.out)).trans L2.out
          have q3 := (hSw.cell (p := ⟨g, j, none⟩) (cell_block CX.out)).trans CX.out
          go_simp
          try with_reducible rfl
        simp only [Act.put, List.setIfInBounds_toArray, List.set_cons_zero, List.set_cons_succ, List.getElem_toArray, List.getElem_cons_zero, List.getElem_cons_succ]
        refine wpAnyH_take (i := 4) (v := ?_) rfl (by kernel_rfl) (by kernel_rfl) (by kernel_rfl) (fun _ _ _ h => h) (Or.inl ⟨by rfl, ?_⟩) (by assumption) ?_
        rotate_left
        · intro w hSw
          try dsimp only at hSw
          go_simp
          try with_reducible rfl
        simp only [Act.put, List.setIfInBounds_toArray, List.set_cons_zero, List.set_cons_succ, List.getElem_toArray, List.getElem_cons_zero, List.getElem_cons_succ]
        refine wpAnyH_take (i := 5) (v := ?_) rfl (by kernel_rfl) (by kernel_rfl) (by kernel_rfl) (fun _ _ _ h => h) (Or.inl ⟨by rfl, ?_⟩) (by assumption) ?_
        rotate_left
        · intro w hSw
          try dsimp only at hSw
          go_simp
          try with_reducible rfl
        simp only [Act.put, List.setIfInBounds_toArray, List.set_cons_zero, List.set_cons_succ, List.getElem_toArray, List.getElem_cons_zero, List.getElem_cons_succ]
        refine wpAnyH_take (i := 6) (v := ?_) rfl (by kernel_rfl) (by kernel_rfl) (by kernel_rfl) (fun _ _ _ h => h) (Or.inl ⟨by rfl, ?_⟩) (by assumption) ?_
        rotate_left
        · intro w hSw
          have q0 := (hSw.cell (p := ⟨G, 0, none⟩) (cell_block L0.out)).trans L0.out
          have q1 := (hSw.cell (p := ⟨L, j, none⟩) (cell_block L1.out)).trans L1.out
          have q2 := (hSw.cell (p := ⟨Bj, y, none⟩) (cell_block L2.out)).trans L2.out
          have q3 := (hSw.cell (p := ⟨g, j, none⟩) (cell_block CX.out)).trans CX.out
          go_simp
          try with_reducible rfl
        simp only [Act.put, List.setIfInBounds_toArray, List.set_cons_zero, List.set_cons_succ, List.getElem_toArray, List.getElem_cons_zero, List.getElem_cons_succ]
        refine wpAnyH_take (i := 7) (v := ?_) rfl (by kernel_rfl) (by kernel_rfl) (by kernel_rfl) (fun _ _ _ h => h) (Or.inl ⟨by rfl, ?_⟩) (by assumption) ?_
        rotate_left
        · intro w hSw
          try dsimp only at hSw
          go_simp
          try with_reducible rfl
        simp only [Act.put, List.setIfInBounds_toArray, List.set_cons_zero, List.set_cons_succ, List.getElem_toArray, List.getElem_cons_zero, List.getElem_cons_succ]
        refine wpAnyH_take (i := 8) (v := ?_) rfl (by kernel_rfl) (by kernel_rfl) (by kernel_rfl) (fun _ _ _ h => h) (Or.inl ⟨by rfl, ?_⟩) (by assumption) ?_
        rotate_left
        · intro w hSw
          try dsimp only at hSw
          go_simp
          try with_reducible rfl
        simp only [Act.put, List.setIfInBounds_toArray, List.set_cons_zero, List.set_cons_succ, List.getElem_toArray, List.getElem_cons_zero, List.getElem_cons_succ]
        refine wpAnyH_take (i := 9) (v := ?_) rfl (by kernel_rfl) (by kernel_rfl) (by kernel_rfl) (fun _ _ _ h => h) (Or.inl ⟨by rfl, ?_⟩) (by assumption) ?_
        rotate_left
        · intro w hSw
          try dsimp only at hSw
          go_simp
          try with_reducible rfl
        simp only [Act.put, List.setIfInBounds_toArray, List.set_cons_zero, List.set_cons_succ, List.getElem_toArray, List.getElem_cons_zero, List.getElem_cons_succ]
        refine wpAnyH_take (i := 10) (v := ?_) rfl (by kernel_rfl) (by kernel_rfl) (by kernel_rfl) (fun _ _ _ h => h) (Or.inl ⟨by rfl, ?_⟩) (by assumption) ?_
        rotate_left
        · intro w hSw
          have q0 := (hSw.cell (p := ⟨G, 0, none⟩) (cell_block L0.out)).trans L0.out
          have q1 := (hSw.cell (p := ⟨L, j, none⟩) (cell_block L1.out)).trans L1.out
          have q2 := (hSw.cell (p := ⟨Bj, y, none⟩) (cell_block L2.out)).trans L2.out
          have q3 := (hSw.cell (p := ⟨g, j, none⟩) (cell_block CX.out)).trans CX.out
          go_simp
          try with_reducible rfl
        simp only [Act.put, List.setIfInBounds_toArray, List.set_cons_zero, List.set_cons_succ, List.getElem_toArray, List.getElem_cons_zero, List.getElem_cons_succ]
        refine wpAnyH_take (i := 11) (v := ?_) rfl (by kernel_rfl) (by kernel_rfl) (by kernel_rfl) (fun _ _ _ h => h) (Or.inl ⟨by rfl, ?_⟩) (by assumption) ?_
        rotate_left
        · intro w hSw
          try dsimp only at hSw
          go_simp
          try with_reducible rfl
        simp only [Act.put, List.setIfInBounds_toArray, List.set_cons_zero, List.set_cons_succ, List.getElem_toArray, List.getElem_cons_zero, List.getElem_cons_succ]
        refine wpAnyH_take (i := 12) (v := ?_) rfl (by kernel_rfl) (by kernel_rfl) (by kernel_rfl) (fun _ _ _ h => h) (Or.inl ⟨by rfl, ?_⟩) (by assumption) ?_
        rotate_left
        · intro w hSw
          have q0 := (hSw.cell (p := ⟨G, 0, none⟩) (cell_block L0.out)).trans L0.out
          have q1 := (hSw.cell (p := ⟨L, j, none⟩) (cell_block L1.out)).trans L1.out
          have q2 := (hSw.cell (p := ⟨Bj, y, none⟩) (cell_block L2.out)).trans L2.out
          have q3 := (hSw.cell (p := ⟨g, j, none⟩) (cell_block CX.out)).trans CX.out
          go_simp
          try with_reducible rfl
        simp only [Act.put, List.setIfInBounds_toArray, List.set_cons_zero, List.set_cons_succ, List.getElem_toArray, List.getElem_cons_zero, List.getElem_cons_succ]
        refine wpAnyH_take (i := 13) (v := ?_) rfl (by kernel_rfl) (by kernel_rfl) (by kernel_rfl) (fun _ _ _ h => h) (Or.inl ⟨by rfl, ?_⟩) (by assumption) ?_
        rotate_left
        · intro w hSw
          try dsimp only at hSw
          go_simp
          try with_reducible rfl
        simp only [Act.put, List.setIfInBounds_toArray, List.set_cons_zero, List.set_cons_succ, List.getElem_toArray, List.getElem_cons_zero, List.getElem_cons_succ]
        refine wpAnyH_ready (rs := [14]) (by kernel_rfl) (by simp) ?_
        refine AllReadyH.cons rfl (fun Kc hKc => ?_) AllReadyH.nil
        go_simp
        go_wp2_with ((go_at_call 77; refine (PA.out _).mono ?_; rintro e w5 ⟨rfl, hb5⟩; have HB5 := Lib.hid hb5; clear hb5))
        refine hKc.out _ _ ?_ (fun hHeld => ?_)
        · exact btr hHeld HB5.out
        clear hKc Kc
        refine wpAnyH_take (i := 15) (v := ?_) rfl (by kernel_rfl) (by kernel_rfl) (by kernel_rfl) (fun _ _ _ h => h) (Or.inl ⟨by rfl, ?_⟩) (by assumption) ?_
        rotate_left
        · intro w hSw
          try dsimp only at hSw
          go_simp
          try with_reducible rfl
        simp only [Act.put, List.setIfInBounds_toArray, List.set_cons_zero, List.set_cons_succ, List.getElem_toArray, List.getElem_cons_zero, List.getElem_cons_succ]
        refine wpAnyH_take (i := 16) (v := ?_) rfl (by kernel_rfl) (by kernel_rfl) (by kernel_rfl) (fun _ _ _ h => h) (Or.inl ⟨by rfl, ?_⟩) (by assumption) ?_
        rotate_left
        · intro w hSw
          try dsimp only at hSw
          go_simp
          try with_reducible rfl
        simp only [Act.put, List.setIfInBounds_toArray, List.set_cons_zero, List.set_cons_succ, List.getElem_toArray, List.getElem_cons_zero, List.getElem_cons_succ]
        refine wpAnyH_take (i := 17) (v := ?_) rfl (by kernel_rfl) (by kernel_rfl) (by kernel_rfl) (fun _ _ _ h => h) (Or.inl ⟨by rfl, ?_⟩) (by assumption) ?_
        rotate_left
        · intro w hSw
          try dsimp only at hSw
          go_simp
          try with_reducible rfl
        simp only [Act.put, List.setIfInBounds_toArray, List.set_cons_zero, List.set_cons_succ, List.getElem_toArray, List.getElem_cons_zero, List.getElem_cons_succ]
        refine wpAnyH_take (i := 18) (v := ?_) rfl (by kernel_rfl) (by kernel_rfl) (by kernel_rfl) (fun _ _ _ h => h) (Or.inl ⟨by rfl, ?_⟩) (by assumption) ?_
        rotate_left
        · intro w hSw
          try dsimp only at hSw
          go_simp
          try with_reducible rfl
        simp only [Act.put, List.setIfInBounds_toArray, List.set_cons_zero, List.set_cons_succ, List.getElem_toArray, List.getElem_cons_zero, List.getElem_cons_succ]
        refine wpAnyH_take (i := 19) (v := ?_) rfl (by kernel_rfl) (by kernel_rfl) (by kernel_rfl) (fun _ _ _ h => h) (Or.inl ⟨by rfl, ?_⟩) (by assumption) ?_
        rotate_left
        · intro w hSw
          try dsimp only at hSw
          go_simp
          try with_reducible rfl
        simp only [Act.put, List.setIfInBounds_toArray, List.set_cons_zero, List.set_cons_succ, List.getElem_toArray, List.getElem_cons_zero, List.getElem_cons_succ]
        refine wpAnyH_done (by kernel_rfl) ?_ _
        have HB3 := Lib.hid hHeld
        have HO3 := Lib.hid (HO.out.kept (below_grown (row := none) ((below_drewN (Below.refl wr.heap.size wr) 1).trans HB5.out)) (by cases u7.ownBlock <;> simp))
        have hsz3 : w.heap.size ≤ w5.heap.size := hHeld.size
        clear hHeld
        go_wp2_with (at_builtin; refine wpList_append_own_at _ rfl _ _ 62 rfl w.heap.size 2 i0 (.int .i64 0) 1 8 Tryz.underlying62 hi hz0 hz1 hz2 rfl (by decide) _ j _ rfl (HO3.out.alloc _) ⟨w5.heap.size, 0, none⟩ 1 1 [.int .i64 x] rfl rfl (cell_one_new _ _ _) ?c2 hmx1 ?c4 ?c5 ?_)
        case c2 => simp [Value.oneCell']
        case c4 => omega
        case c5 => simp; omega
        intro v' w6 hown' hgrow hnil' hq9
        have HNIL' : Hid (v' ≠ .slice none 0 0) := Lib.hid hnil'
        have HO4 : Hid (w6.ownsRow w.heap.size 2 1 v' (j + 1) (((List.range (j + 1)).map fun r => f r + d).map (Value.int .i64))) := Lib.hid (by rw [HN.out, List.map_map]; exact hown')
        have hMk := fun k hk => (HO3.out.lt k hk).1
        have HB4 : Hid (Below w.heap.size w w6) := Lib.hid ((HB3.out.alloc hsz3 _).grown hgrow (by first | omega | (simp; done) | (simp; omega)) (fun k e => hMk k e))
        clear hown' hgrow hnil' hq9 hMk
        go_wp2
        go_roundw
        case rel => exact ⟨j + 1, by omega, by go_num, HNIL'.out, HO4.out, HOK3.out, HB4.out⟩
        case measure => simp [intOf]; omega
      · have PA := Lib.hid (ladd_no fj d h64f hd h64)
        unfold TwoPost at PA
        have HNF2 := Lib.hid (HNF.out h64)
        clear h64 h64f
        go_wp2_with fail
        refine wp_region_held_drew (S := fun w' => Below w.heap.size w w') (by kernel_rfl) (by exact below_drewN HB.out 1) (fun hHeld => ?_)
        refine wpAnyH_take (i := 0) (v := ?_) rfl (by kernel_rfl) (by kernel_rfl) (by kernel_rfl) (fun _ _ _ h => h) (Or.inl ⟨by rfl, ?_⟩) (by assumption) ?_
        rotate_left
        · intro w hSw
          try dsimp only at hSw
          go_simp
          try with_reducible rfl
        simp only [Act.put, List.setIfInBounds_toArray, List.set_cons_zero, List.set_cons_succ, List.getElem_toArray, List.getElem_cons_zero, List.getElem_cons_succ]
        refine wpAnyH_take (i := 1) (v := ?_) rfl (by kernel_rfl) (by kernel_rfl) (by kernel_rfl) (fun _ _ _ h => h) (Or.inl ⟨by rfl, ?_⟩) (by assumption) ?_
        rotate_left
        · intro w hSw
          try dsimp only at hSw
          go_simp
          try with_reducible rfl
        simp only [Act.put, List.setIfInBounds_toArray, List.set_cons_zero, List.set_cons_succ, List.getElem_toArray, List.getElem_cons_zero, List.getElem_cons_succ]
        refine wpAnyH_take (i := 2) (v := ?_) rfl (by kernel_rfl) (by kernel_rfl) (by kernel_rfl) (fun _ _ _ h => h) (Or.inl ⟨by rfl, ?_⟩) (by assumption) ?_
        rotate_left
        · intro w hSw
          try dsimp only at hSw
          go_simp
          try with_reducible rfl
        simp only [Act.put, List.setIfInBounds_toArray, List.set_cons_zero, List.set_cons_succ, List.getElem_toArray, List.getElem_cons_zero, List.getElem_cons_succ]
        refine wpAnyH_take (i := 3) (v := ?_) rfl (by kernel_rfl) (by kernel_rfl) (by kernel_rfl) (fun _ _ _ h => h) (Or.inl ⟨by rfl, ?_⟩) (by assumption) ?_
        rotate_left
        · intro w hSw
          have q0 := (hSw.cell (p := ⟨G, 0, none⟩) (cell_block L0.out)).trans L0.out
          have q1 := (hSw.cell (p := ⟨L, j, none⟩) (cell_block L1.out)).trans L1.out
          have q2 := (hSw.cell (p := ⟨Bj, y, none⟩) (cell_block L2.out)).trans L2.out
          have q3 := (hSw.cell (p := ⟨g, j, none⟩) (cell_block CX.out)).trans CX.out
          go_simp
          try with_reducible rfl
        simp only [Act.put, List.setIfInBounds_toArray, List.set_cons_zero, List.set_cons_succ, List.getElem_toArray, List.getElem_cons_zero, List.getElem_cons_succ]
        refine wpAnyH_take (i := 4) (v := ?_) rfl (by kernel_rfl) (by kernel_rfl) (by kernel_rfl) (fun _ _ _ h => h) (Or.inl ⟨by rfl, ?_⟩) (by assumption) ?_
        rotate_left
        · intro w hSw
          try dsimp only at hSw
          go_simp
          try with_reducible rfl
        simp only [Act.put, List.setIfInBounds_toArray, List.set_cons_zero, List.set_cons_succ, List.getElem_toArray, List.getElem_cons_zero, List.getElem_cons_succ]
        refine wpAnyH_take (i := 5) (v := ?_) rfl (by kernel_rfl) (by kernel_rfl) (by kernel_rfl) (fun _ _ _ h => h) (Or.inl ⟨by rfl, ?_⟩) (by assumption) ?_
        rotate_left
        · intro w hSw
          try dsimp only at hSw
          go_simp
          try with_reducible rfl
        simp only [Act.put, List.setIfInBounds_toArray, List.set_cons_zero, List.set_cons_succ, List.getElem_toArray, List.getElem_cons_zero, List.getElem_cons_succ]
        refine wpAnyH_take (i := 6) (v := ?_) rfl (by kernel_rfl) (by kernel_rfl) (by kernel_rfl) (fun _ _ _ h => h) (Or.inl ⟨by rfl, ?_⟩) (by assumption) ?_
        rotate_left
        · intro w hSw
          have q0 := (hSw.cell (p := ⟨G, 0, none⟩) (cell_block L0.out)).trans L0.out
          have q1 := (hSw.cell (p := ⟨L, j, none⟩) (cell_block L1.out)).trans L1.out
          have q2 := (hSw.cell (p := ⟨Bj, y, none⟩) (cell_block L2.out)).trans L2.out
          have q3 := (hSw.cell (p := ⟨g, j, none⟩) (cell_block CX.out)).trans CX.out
          go_simp
          try with_reducible rfl
        simp only [Act.put, List.setIfInBounds_toArray, List.set_cons_zero, List.set_cons_succ, List.getElem_toArray, List.getElem_cons_zero, List.getElem_cons_succ]
        refine wpAnyH_take (i := 7) (v := ?_) rfl (by kernel_rfl) (by kernel_rfl) (by kernel_rfl) (fun _ _ _ h => h) (Or.inl ⟨by rfl, ?_⟩) (by assumption) ?_
        rotate_left
        · intro w hSw
          try dsimp only at hSw
          go_simp
          try with_reducible rfl
        simp only [Act.put, List.setIfInBounds_toArray, List.set_cons_zero, List.set_cons_succ, List.getElem_toArray, List.getElem_cons_zero, List.getElem_cons_succ]
        refine wpAnyH_take (i := 8) (v := ?_) rfl (by kernel_rfl) (by kernel_rfl) (by kernel_rfl) (fun _ _ _ h => h) (Or.inl ⟨by rfl, ?_⟩) (by assumption) ?_
        rotate_left
        · intro w hSw
          try dsimp only at hSw
          go_simp
          try with_reducible rfl
        simp only [Act.put, List.setIfInBounds_toArray, List.set_cons_zero, List.set_cons_succ, List.getElem_toArray, List.getElem_cons_zero, List.getElem_cons_succ]
        refine wpAnyH_take (i := 9) (v := ?_) rfl (by kernel_rfl) (by kernel_rfl) (by kernel_rfl) (fun _ _ _ h => h) (Or.inl ⟨by rfl, ?_⟩) (by assumption) ?_
        rotate_left
        · intro w hSw
          try dsimp only at hSw
          go_simp
          try with_reducible rfl
        simp only [Act.put, List.setIfInBounds_toArray, List.set_cons_zero, List.set_cons_succ, List.getElem_toArray, List.getElem_cons_zero, List.getElem_cons_succ]
        refine wpAnyH_take (i := 10) (v := ?_) rfl (by kernel_rfl) (by kernel_rfl) (by kernel_rfl) (fun _ _ _ h => h) (Or.inl ⟨by rfl, ?_⟩) (by assumption) ?_
        rotate_left
        · intro w hSw
          have q0 := (hSw.cell (p := ⟨G, 0, none⟩) (cell_block L0.out)).trans L0.out
          have q1 := (hSw.cell (p := ⟨L, j, none⟩) (cell_block L1.out)).trans L1.out
          have q2 := (hSw.cell (p := ⟨Bj, y, none⟩) (cell_block L2.out)).trans L2.out
          have q3 := (hSw.cell (p := ⟨g, j, none⟩) (cell_block CX.out)).trans CX.out
          go_simp
          try with_reducible rfl
        simp only [Act.put, List.setIfInBounds_toArray, List.set_cons_zero, List.set_cons_succ, List.getElem_toArray, List.getElem_cons_zero, List.getElem_cons_succ]
        refine wpAnyH_take (i := 11) (v := ?_) rfl (by kernel_rfl) (by kernel_rfl) (by kernel_rfl) (fun _ _ _ h => h) (Or.inl ⟨by rfl, ?_⟩) (by assumption) ?_
        rotate_left
        · intro w hSw
          try dsimp only at hSw
          go_simp
          try with_reducible rfl
        simp only [Act.put, List.setIfInBounds_toArray, List.set_cons_zero, List.set_cons_succ, List.getElem_toArray, List.getElem_cons_zero, List.getElem_cons_succ]
        refine wpAnyH_take (i := 12) (v := ?_) rfl (by kernel_rfl) (by kernel_rfl) (by kernel_rfl) (fun _ _ _ h => h) (Or.inl ⟨by rfl, ?_⟩) (by assumption) ?_
        rotate_left
        · intro w hSw
          have q0 := (hSw.cell (p := ⟨G, 0, none⟩) (cell_block L0.out)).trans L0.out
          have q1 := (hSw.cell (p := ⟨L, j, none⟩) (cell_block L1.out)).trans L1.out
          have q2 := (hSw.cell (p := ⟨Bj, y, none⟩) (cell_block L2.out)).trans L2.out
          have q3 := (hSw.cell (p := ⟨g, j, none⟩) (cell_block CX.out)).trans CX.out
          go_simp
          try with_reducible rfl
        simp only [Act.put, List.setIfInBounds_toArray, List.set_cons_zero, List.set_cons_succ, List.getElem_toArray, List.getElem_cons_zero, List.getElem_cons_succ]
        refine wpAnyH_take (i := 13) (v := ?_) rfl (by kernel_rfl) (by kernel_rfl) (by kernel_rfl) (fun _ _ _ h => h) (Or.inl ⟨by rfl, ?_⟩) (by assumption) ?_
        rotate_left
        · intro w hSw
          try dsimp only at hSw
          go_simp
          try with_reducible rfl
        simp only [Act.put, List.setIfInBounds_toArray, List.set_cons_zero, List.set_cons_succ, List.getElem_toArray, List.getElem_cons_zero, List.getElem_cons_succ]
        refine wpAnyH_ready (rs := [14]) (by kernel_rfl) (by simp) ?_
        refine AllReadyH.cons rfl (fun Kc hKc => ?_) AllReadyH.nil
        go_simp
        go_wp2_with ((go_at_call 77; refine (PA.out _).mono ?_; rintro e w5 ⟨rfl, hb5⟩; have HB5 := Lib.hid hb5; clear hb5))
        refine hKc.out _ _ ?_ (fun hHeld => ?_)
        · exact btr hHeld HB5.out
        clear hKc Kc
        refine wpAnyH_take (i := 15) (v := ?_) rfl (by kernel_rfl) (by kernel_rfl) (by kernel_rfl) (fun _ _ _ h => h) (Or.inl ⟨by rfl, ?_⟩) (by assumption) ?_
        rotate_left
        · intro w hSw
          try dsimp only at hSw
          go_simp
          try with_reducible rfl
        simp only [Act.put, List.setIfInBounds_toArray, List.set_cons_zero, List.set_cons_succ, List.getElem_toArray, List.getElem_cons_zero, List.getElem_cons_succ]
        refine wpAnyH_take (i := 16) (v := ?_) rfl (by kernel_rfl) (by kernel_rfl) (by kernel_rfl) (fun _ _ _ h => h) (Or.inl ⟨by rfl, ?_⟩) (by assumption) ?_
        rotate_left
        · intro w hSw
          try dsimp only at hSw
          go_simp
          try with_reducible rfl
        simp only [Act.put, List.setIfInBounds_toArray, List.set_cons_zero, List.set_cons_succ, List.getElem_toArray, List.getElem_cons_zero, List.getElem_cons_succ]
        refine wpAnyH_take (i := 17) (v := ?_) rfl (by kernel_rfl) (by kernel_rfl) (by kernel_rfl) (fun _ _ _ h => h) (Or.inl ⟨by rfl, ?_⟩) (by assumption) ?_
        rotate_left
        · intro w hSw
          try dsimp only at hSw
          go_simp
          try with_reducible rfl
        simp only [Act.put, List.setIfInBounds_toArray, List.set_cons_zero, List.set_cons_succ, List.getElem_toArray, List.getElem_cons_zero, List.getElem_cons_succ]
        refine wpAnyH_take (i := 18) (v := ?_) rfl (by kernel_rfl) (by kernel_rfl) (by kernel_rfl) (fun _ _ _ h => h) (Or.inl ⟨by rfl, ?_⟩) (by assumption) ?_
        rotate_left
        · intro w hSw
          try dsimp only at hSw
          go_simp
          try with_reducible rfl
        simp only [Act.put, List.setIfInBounds_toArray, List.set_cons_zero, List.set_cons_succ, List.getElem_toArray, List.getElem_cons_zero, List.getElem_cons_succ]
        refine wpAnyH_take (i := 19) (v := ?_) rfl (by kernel_rfl) (by kernel_rfl) (by kernel_rfl) (fun _ _ _ h => h) (Or.inl ⟨by rfl, ?_⟩) (by assumption) ?_
        rotate_left
        · intro w hSw
          try dsimp only at hSw
          go_simp
          try with_reducible rfl
        simp only [Act.put, List.setIfInBounds_toArray, List.set_cons_zero, List.set_cons_succ, List.getElem_toArray, List.getElem_cons_zero, List.getElem_cons_succ]
        refine wpAnyH_done (by kernel_rfl) ?_ _
        have HB3 := Lib.hid hHeld
        clear hHeld
        go_wp2
        go_ret
        exact .inr ⟨HNF2.out, rfl, HB3.out⟩
    · obtain rfl : j = n := by omega
      have hown2 : wr.ownsRow w.heap.size 2 1 u7 ((List.range j).map fun r => f r + d).length (((List.range j).map fun r => f r + d).map (Value.int .i64)) := by simpa using hown
      obtain ⟨go, cpo, rfl, hgo, hcpo, curo, hco, hcoz⟩ := own_row hown2 hnil
      have hl : ((List.range j).map fun r => f r + d).length = j := by simp
      rw [hl] at hcpo ⊢
      have HOC := Lib.hid (show ∀ k, k < j → wr.cell? ⟨go, k, none⟩ = some (.int .i64 (f k + d)) from fun k hk => (hco.cell k).trans (hcoz k _ (by simp [hk])))
      have HGOB := Lib.hid (show ∀ r, r < R → go ≠ B r from fun r hr' => by have := HBL.out r hr'; omega)
      have HGW := Lib.hid (HG.out.kept hbel)
      have HFT := Lib.hid (HFITS.out.2 hok)
      have HRG : Hid (RGr w wr B R) := Lib.hid (RGr.of_below hbel)
      clear hown hown2 hnil hok hl hco hcoz hbel HO HB HNIL HOK hszr
      generalize wr = wo at *
      go_wp2_with fail
      go_loopw [11] (fun i ws => ∃ k : Nat, k ≤ j ∧ i = .int .i64 (k : Int) ∧ RefIs ws N G (.slice (some ⟨L, 0, none⟩) R vcap) B K R W (setsZ W zs (colN cs) (fun r => f r + d) k) ∧ RGr w ws B R ∧ RGr wo ws B R) (fun i _ => j - (intOf i).toNat)
      case atStart => exact ⟨0, by omega, rfl, HGW.out, HRG.out, RGr.of_below (Below.refl _ _)⟩
      case round =>
        obtain ⟨k, hk, rfl, hg, hgr, hgr2⟩ := hrel
        have HG2 := Lib.hid hg
        have HGR := Lib.hid hgr
        have HGR2 := Lib.hid hgr2
        by_cases hlk : k < j
        · have hkR : k < R := by have := HNR.out; omega
          obtain ⟨hck, hcw⟩ := HCOL.out k hkR
          obtain ⟨l0, l1, l2, l3⟩ := hg.look hkR hcw
          have cx := hgr.cell (HC.out k _ hck) HGB.out
          have co := hgr2.cell (HOC.out k hlk) HGOB.out
          have HSET : Hid (setsZ W zs (colN cs) (fun r => f r + d) (k + 1) = (setsZ W zs (colN cs) (fun r => f r + d) k).set (k * W + colN cs k) (f k + d)) := rfl
          clear hg hgr hgr2 hck
          generalize hxx : cellD (setsZ W zs (colN cs) (fun r => f r + d) k) (k * W + colN cs k) = xx at *
          generalize hy : colN cs k = y at *
          generalize f k + d = zz at *
          have HY := Lib.hid hy
          clear hxx hy
          have d1 : (0 : Int) ≤ (k : Int) := by omega
          have d2 : (k : Int) < (j : Int) := by omega
          have d3 : (k : Int) < (R : Int) := by omega
          have d4 : (0 : Int) ≤ (y : Int) := by omega
          have d5 : (y : Int) < (W : Int) := by omega
          go_wp2_with fail
          refine wp_region_still_tail 16 (by kernel_rfl) (by kernel_rfl) ?_
          simp only [List.take_succ_cons, List.take_zero, List.drop_succ_cons, List.drop_zero]
          have HG3 : Hid (RefIs { heap := wr.heap, tape := wr.tape, drawn := wr.drawn + 1, os := wr.os, output := wr.output } N G (.slice (some ⟨L, 0, none⟩) R vcap) B K R W (setsZ W zs (colN cs) (fun r => f r + d) k)) := Lib.hid (HG2.out.drewN 1)
          have HGR3 : Hid (RGr w { heap := wr.heap, tape := wr.tape, drawn := wr.drawn + 1, os := wr.os, output := wr.output } B R) := Lib.hid (HGR.out.trans (RGr.of_below (below_drewN (Below.refl _ _) 1)))
          have HGR4 : Hid (RGr wo { heap := wr.heap, tape := wr.tape, drawn := wr.drawn + 1, os := wr.os, output := wr.output } B R) := Lib.hid (HGR2.out.trans (RGr.of_below (below_drewN (Below.refl _ _) 1)))
          change World.cell? { heap := wr.heap, tape := wr.tape, drawn := wr.drawn + 1, os := wr.os, output := wr.output } _ = _ at l0 l1 l2 cx co
          change World.frozen? { heap := wr.heap, tape := wr.tape, drawn := wr.drawn + 1, os := wr.os, output := wr.output } _ = _ at l3
          generalize ({ heap := wr.heap, tape := wr.tape, drawn := wr.drawn + 1, os := wr.os, output := wr.output } : World) = wd at *
          generalize hBk : B k = Bk at *
          have HBK := Lib.hid hBk
          clear hBk
          generalize K k = Kk at *
          repeat still_step
          refine wpStill_nil ?_
          go_wp2
          go_roundw
          case rel => exact ⟨k + 1, by omega, by go_num, by rw [HSET.out, ← HBK.out]; exact HG3.out.set k y zz hkR hcw, by rw [← HBK.out]; exact HGR3.out.trans (RGr.set hkR _), by rw [← HBK.out]; exact HGR4.out.trans (RGr.set hkR _)⟩
          case measure => simp [intOf]; omega
        · obtain rfl : k = j := by omega
          clear hg hgr hgr2
          go_wp2
          go_ret
          exact .inl ⟨HFT.out, rfl, by rw [HCZ.out]; exact HG2.out, HGR.out⟩

def CSpec (R W : Nat) (zs cs : List Int) (d : Int) (err : Int) (zs' : List Int) : Prop :=
  (meetB R W cs = false ∧ err = 1 ∧ zs' = zs) ∨ (meetB R W cs = true ∧ ((changeFits W zs cs d ∧ err = 0 ∧ zs' = changeZ W zs cs d) ∨ (¬ changeFits W zs cs d ∧ err = 4 ∧ zs' = zs)))
theorem CSpec.unique {R W : Nat} {zs cs : List Int} {d e1 e2 : Int} {z1 z2 : List Int} (h1 : CSpec R W zs cs d e1 z1) (h2 : CSpec R W zs cs d e2 z2) : e2 = e1 ∧ z2 = z1 := by
  rcases h1 with ⟨m1, rfl, rfl⟩ | ⟨m1, h1⟩
  · rcases h2 with ⟨m2, rfl, rfl⟩ | ⟨m2, h2⟩
    · exact ⟨rfl, rfl⟩
    · rw [m1] at m2; cases m2
  · rcases h2 with ⟨m2, rfl, rfl⟩ | ⟨m2, h2⟩
    · rw [m1] at m2; cases m2
    · rcases h1 with ⟨a1, rfl, rfl⟩ | ⟨a1, rfl, rfl⟩ <;> rcases h2 with ⟨a2, rfl, rfl⟩ | ⟨a2, rfl, rfl⟩ <;> first | exact ⟨rfl, rfl⟩ | exact absurd a1 a2 | exact absurd a2 a1
theorem change_all (w : World) (G C R W : Nat) (zs cs : List Int) (d : Int) (v : Value) (h : GridIs w G C R W zs) (hv : RowI w v cs) (hl : cs.length ≤ 100000) (hd : In64 d) :
    Calls Tryz.prog 149 #[.pointer (some ⟨G, 0, none⟩), v, .int .i64 d] w fun e w' => ∃ err zs', e = .returned (.int .i64 err) ∧ CSpec R W zs cs d err zs' ∧ GridIs w' G C R W zs' ∧ w.grownBy w' (some C) := by
  cases hm : meetB R W cs with
  | false =>
    refine (change_no w G C R W zs cs d v h hv.ints hl hm).mono ?_
    rintro e w' ⟨rfl, hb⟩
    subst hb
    exact ⟨1, zs, rfl, .inl ⟨hm, rfl, rfl⟩, h, below_grown (Below.refl _ _)⟩
  | true =>
    obtain ⟨curC, hC, -⟩ := h.cells
    refine (change_yes w G C R W zs cs d v h hv.ints hm hd (hv.neC hC (by decide))).mono ?_
    rintro e w' (⟨h1, rfl, hg, hgr⟩ | ⟨h1, rfl, hb⟩)
    · exact ⟨0, _, rfl, .inr ⟨hm, .inl ⟨h1, rfl, rfl⟩⟩, hg, hgr⟩
    · exact ⟨4, zs, rfl, .inr ⟨hm, .inr ⟨h1, rfl, rfl⟩⟩, h.kept hb, below_grown hb⟩
theorem rchange_all (w : World) (N G : Nat) (v : Value) (B K : Nat → Nat) (R W : Nat) (zs cs : List Int) (d : Int) (vc : Value) (h : RefIs w N G v B K R W zs) (hv : RowI w vc cs) (hl : cs.length ≤ 100000) (hd : In64 d) (hfit : Fit zs) :
    Calls Tryz.prog 80 #[.pointer (some ⟨G, 0, none⟩), vc, .int .i64 d] w fun e w' => ∃ err zs', e = .returned (.int .i64 err) ∧ CSpec R W zs cs d err zs' ∧ RefIs w' N G v B K R W zs' ∧ RGr w w' B R := by
  cases hm : meetB R W cs with
  | false =>
    refine (rchange_no w N G v B K R W zs cs d vc h hv.ints hl hm).mono ?_
    rintro e w' ⟨rfl, hb⟩
    exact ⟨1, zs, rfl, .inl ⟨hm, rfl, rfl⟩, h.kept hb, RGr.of_below hb⟩
  | true =>
    refine (rchange_yes w N G v B K R W zs cs d vc h hv hm hd hfit).mono ?_
    rintro e w' (⟨h1, rfl, hg, hgr⟩ | ⟨h1, rfl, hb⟩)
    · exact ⟨0, _, rfl, .inr ⟨hm, .inl ⟨h1, rfl, rfl⟩⟩, hg, hgr⟩
    · exact ⟨4, zs, rfl, .inr ⟨hm, .inr ⟨h1, rfl, rfl⟩⟩, h.kept hb, RGr.of_below hb⟩
end Go.Proofs.YtbghchgmoiniiaaGreat

/-
  The walks of package field (program) and gaugerref01 (reference): each function returns what FldB's plain functions say, and leaves the world as it was. Conditions: the arguments fit 64 bits.
-/
namespace Go.Proofs
open Go.Shelf
def Tryz.lays264_ren : Go.Shelf.Ren := ⟨fun | 264 => 167 | n => n, fun | 53 => 22 | 46 => 52 | n => n, fun | n => n⟩
theorem Tryz.lays264 : Go.Proofs.Lays.n264 Tryz.prog Tryz.lays264_ren := {
  mixed := by kernel_rfl
  f264 := Tryz.func167.trans (congrArg some (by kernel_rfl))
  t46 := Tryz.underlying52
  a46 := Tryz.isAgg52
  z46 := Tryz.sizeOf52
  v46 := Tryz.zeroValue52
  t53 := Tryz.underlying22
  a53 := Tryz.isAgg22
  z53 := Tryz.sizeOf22
  v53 := Tryz.zeroValue22 }
open Go.RowKit Go.Lib in
theorem Tryz.bits_Mul64 (x y : Nat) (hx : x < 18446744073709551616) (hy : y < 18446744073709551616) (w : World) :
    Calls Tryz.prog 167 #[.int .u64 x, .int .u64 y] w fun e w' => e = .returned (.tuple #[.int .u64 ((x * y / 18446744073709551616 : Nat) : Int), .int .u64 ((x * y % 18446744073709551616 : Nat) : Int)]) ∧ w' = w := Any.bits_Mul64 Tryz.lays264 x y hx hy w
end Go.Proofs
namespace Go.Proofs.YtbghchgmoiniiaaGreat
open Go.RowKit

theorem ret_u64 {a b : Int} (h : a = b) : Ending.returned (.int .u64 a) = .returned (.int .u64 b) := by rw [h]

theorem fold_any (a : Int) (h0 : 0 ≤ a) (h1 : a ≤ 18446744073709551615) (w : World) :
    Calls Tryz.prog 166 #[.int .u64 a] w fun e w' => e = .returned (.int .u64 (ffold a)) ∧ w = w' := by
  obtain ⟨hs1, hs2⟩ := fold_step a h0 h1
  have e1 := and_P a h0 h1
  by_cases c : 2305843009213693951 ≤ a % 2305843009213693952 + a / 2305843009213693952
  · have H := Lib.hid (hs1 c)
    clear hs1 hs2
    go_enter Tryz.func166, Tryz.ntmps166
    go_wp2
    go_ret
    exact ⟨ret_u64 H.out, rfl⟩
  · have H := Lib.hid (hs2 (by omega))
    clear hs1 hs2
    go_enter Tryz.func166, Tryz.ntmps166
    go_wp2
    go_ret
    exact ⟨ret_u64 H.out, rfl⟩

theorem add_any (a b : Int) (h0 : 0 ≤ a) (h1 : a ≤ 18446744073709551615) (g0 : 0 ≤ b) (g1 : b ≤ 18446744073709551615) (w : World) :
    Calls Tryz.prog 162 #[.int .u64 a, .int .u64 b] w fun e w' => e = .returned (.int .u64 (fadd a b)) ∧ w = w' := by
  obtain ⟨b1, b2⟩ := ffold_bd a
  obtain ⟨b3, b4⟩ := ffold_bd b
  go_enter Tryz.func162, Tryz.ntmps162
  go_wp2_with (go_at_call 166; refine (fold_any _ (by omega) (by omega) _).mono ?_; rintro e w' ⟨rfl, rfl⟩)
  go_ret
  exact ⟨ret_u64 (fadd_of a b), rfl⟩

theorem radd_any (a b : Int) (h0 : 0 ≤ a) (h1 : a ≤ 18446744073709551615) (g0 : 0 ≤ b) (g1 : b ≤ 18446744073709551615) (w : World) :
    Calls Tryz.prog 94 #[.int .u64 a, .int .u64 b] w fun e w' => e = .returned (.int .u64 (fadd a b)) ∧ w = w' := by
  have H : Hid ((a % 2305843009213693951 + b % 2305843009213693951) % 2305843009213693951 = fadd a b) := Lib.hid (by rw [← P_eq, add_l, add_r]; rfl)
  go_enter Tryz.func94, Tryz.ntmps94
  go_wp2
  go_ret
  exact ⟨ret_u64 H.out, rfl⟩

theorem mul_any (a b : Int) (h0 : 0 ≤ a) (h1 : a ≤ 18446744073709551615) (g0 : 0 ≤ b) (g1 : b ≤ 18446744073709551615) (w : World) :
    Calls Tryz.prog 163 #[.int .u64 a, .int .u64 b] w fun e w' => e = .returned (.int .u64 (fmul a b)) ∧ w = w' := by
  obtain ⟨b1, b2⟩ := ffold_bd a
  obtain ⟨b3, b4⟩ := ffold_bd b
  obtain ⟨x, hx⟩ := Int.eq_ofNat_of_zero_le b1
  obtain ⟨y, hy⟩ := Int.eq_ofNat_of_zero_le b3
  have hh := hi_bd x y a b hx.symm hy.symm
  have hl : x * y % 18446744073709551616 < 18446744073709551616 := Nat.mod_lt _ (by omega)
  have H := Lib.hid (fmul_of x y a b hx.symm hy.symm)
  have Ho := or_shift (x * y / 18446744073709551616) (x * y % 18446744073709551616) hh hl
  have Ha := and_P ((x * y % 18446744073709551616 : Nat) : Int) (by omega) (by omega)
  have HX := Lib.hid hx
  have HY := Lib.hid hy
  clear hx hy
  go_enter Tryz.func163, Tryz.ntmps163
  go_wp2_with fail
  refine (fold_any a h0 h1 _).mono ?_; rintro e w' ⟨rfl, rfl⟩
  go_wp2_with fail
  refine (fold_any b g0 g1 _).mono ?_; rintro e w' ⟨rfl, rfl⟩
  go_wp2_with fail
  rw [HX.out, HY.out]
  refine (Tryz.bits_Mul64 x y (by have := HX.out; omega) (by have := HY.out; omega) _).mono ?_
  rintro e w' ⟨rfl, rfl⟩
  generalize x * y / 18446744073709551616 = h at *
  generalize x * y % 18446744073709551616 = l at *
  go_wp2_with fail
  refine (add_any _ _ (by omega) (by omega) (by omega) (by omega) _).mono ?_; rintro e w' ⟨rfl, rfl⟩
  go_wp2_with fail
  go_ret
  exact ⟨ret_u64 H.out, rfl⟩
end Go.Proofs.YtbghchgmoiniiaaGreat

/-
  The walks of the loops of package field and of gaugerref01: products by doubling, powers, inverses by Euclid's steps. Conditions: the arguments fit 64 bits.
-/
namespace Go.Proofs.YtbghchgmoiniiaaGreat
open Go.RowKit
set_option linter.unusedVariables false

theorem rmul_step (O X Y : Int) (h : 0 ≤ Y) :
    (Y % 2 = 1 → ((O + X) % P + (X + X) % P * (Y / 2)) % P = (O + X * Y) % P) ∧ (Y % 2 = 0 → (O + (X + X) % P * (Y / 2)) % P = (O + X * Y) % P) := by
  have key : ∀ Z : Int, (Z + (X + X) % P * (Y / 2)) % P = (Z + X * (2 * (Y / 2))) % P := by
    intro Z
    rw [← add_r Z ((X + X) % P * (Y / 2)), mul_l, add_r]
    congr 2
    rw [← Int.mul_assoc, show X + X = X * 2 by omega]
  constructor
  · intro e
    rw [key, add_l, Int.add_assoc]
    congr 2
    rw [show X * Y = X * (1 + 2 * (Y / 2)) by congr 1; omega, Int.mul_add, Int.mul_one]
  · intro e
    rw [key]
    congr 3
    omega

def RMulRel (a b O X Y : Int) : Prop := 0 ≤ O ∧ O ≤ 2305843009213693950 ∧ 0 ≤ X ∧ X ≤ 2305843009213693950 ∧ 0 ≤ Y ∧ Y ≤ 2305843009213693950 ∧ (O + X * Y) % P = fmul a b

theorem rmul_any (a b : Int) (h0 : 0 ≤ a) (h1 : a ≤ 18446744073709551615) (g0 : 0 ≤ b) (g1 : b ≤ 18446744073709551615) (w : World) :
    Calls Tryz.prog 95 #[.int .u64 a, .int .u64 b] w fun e w' => e = .returned (.int .u64 (fmul a b)) ∧ w = w' := by
  have start : RMulRel a b 0 (a % 2305843009213693951) (b % 2305843009213693951) := by
    refine ⟨by omega, by omega, by omega, by omega, by omega, by omega, ?_⟩
    rw [← P_eq, Int.zero_add, mul_l, mul_r]; rfl
  go_enter Tryz.func95, Tryz.ntmps95
  go_wp2
  go_loop [5, 6, 7] (fun x y o => ∃ O X Y : Int, RMulRel a b O X Y ∧ x = .int .u64 X ∧ y = .int .u64 Y ∧ o = .int .u64 O) (fun _ y _ => (intOf y).toNat)
  case atStart => exact ⟨_, _, _, start, rfl, rfl, rfl⟩
  case round =>
    obtain ⟨O, X, Y, hR, rfl, rfl, rfl⟩ := hrel
    have HR := Lib.hid hR
    obtain ⟨o0, o1, x0, x1, y0, y1, hmid⟩ := hR
    have HM := Lib.hid hmid
    clear hmid start
    by_cases hy : 0 < Y
    · by_cases ho : Y % 2 = 1
      · have hob : (Y % 2 == 1) = true := by simp [ho]
        have HS := Lib.hid ((rmul_step O X Y y0).1 ho)
        go_wp2
        go_round
        case rel => exact ⟨_, _, _, ⟨by omega, by omega, by omega, by omega, by omega, by omega, by have := HS.out; rw [P_eq] at *; rw [this, ← P_eq]; exact HM.out⟩, rfl, rfl, rfl⟩
        case measure => simp [intOf]; omega
      · have hob : (Y % 2 == 1) = false := by simp [ho]
        have HS := Lib.hid ((rmul_step O X Y y0).2 (by omega))
        go_wp2
        go_round
        case rel => exact ⟨_, _, _, ⟨by omega, by omega, by omega, by omega, by omega, by omega, by have := HS.out; rw [P_eq] at *; rw [this, ← P_eq]; exact HM.out⟩, rfl, rfl, rfl⟩
        case measure => simp [intOf]; omega
    · obtain rfl : Y = 0 := by omega
      go_wp2
      go_ret
      refine ⟨ret_u64 ?_, rfl⟩
      have := HM.out
      rw [Int.mul_zero, Int.add_zero] at this
      rw [← this]; unfold P; omega

def PowRel (a n O A N : Int) : Prop := 0 ≤ O ∧ O ≤ 2305843009213693950 ∧ 0 ≤ A ∧ A ≤ 18446744073709551615 ∧ 0 ≤ N ∧ N ≤ 18446744073709551615 ∧ fmul O (fpow' A N.toNat) = fpw a n

theorem pow_step (O A : Int) (N : Int) (h : 0 ≤ N) :
    (N % 2 = 1 → fmul (fmul O A) (fpow' (fmul A A) (N / 2).toNat) = fmul O (fpow' A N.toNat)) ∧ (N % 2 = 0 → fmul O (fpow' (fmul A A) (N / 2).toNat) = fmul O (fpow' A N.toNat)) := by
  constructor
  · intro e
    rw [fpow'_sq, fmul_assoc, fmul_comm A, ← fpow'_succ]
    congr 2; omega
  · intro e
    rw [fpow'_sq]
    congr 2; omega

/-! ### The reference's inverse: by Euclid's steps -/
def InvRel (a R0 R1 S0 S1 : Int) : Prop :=
  0 ≤ R0 ∧ R0 ≤ 2305843009213693951 ∧ 0 ≤ R1 ∧ R1 ≤ 2305843009213693951 ∧ 0 ≤ S0 ∧ S0 ≤ 2305843009213693950 ∧ 0 ≤ S1 ∧ S1 ≤ 2305843009213693950 ∧
  ffold R0 = fmul S0 a ∧ ffold R1 = fmul S1 a ∧ (ffold a ≠ 0 → Nat.gcd R0.toNat R1.toNat = 1)

theorem inv_start (a : Int) : InvRel a 2305843009213693951 (a % 2305843009213693951) 0 1 := by
  refine ⟨by omega, by omega, by omega, by omega, by omega, by omega, by omega, by omega, ?_, ?_, ?_⟩
  · rw [fmul_comm, fmul_zero]; rfl
  · rw [one_fmul, ← P_eq]; exact mod_idem a
  · intro ha
    have h1 := inv_mul (ffold a) (by rw [ffold_fold]; exact ha)
    have hb := ffold_bd a
    have hc := finv_bd (ffold a)
    have e : a % 2305843009213693951 = ffold a := rfl
    rw [e]
    generalize ffold a = x at *
    generalize finv x = y at *
    obtain ⟨x, rfl⟩ := Int.eq_ofNat_of_zero_le hb.1
    obtain ⟨y, rfl⟩ := Int.eq_ofNat_of_zero_le hc.1
    unfold fmul at h1
    have h2 : (x * y) % PN = 1 := by
      have : ((x * y % PN : Nat) : Int) = 1 := by rw [Int.natCast_emod, Int.natCast_mul, ← P_nat]; exact h1
      omega
    rw [Int.toNat_natCast, show (2305843009213693951 : Int).toNat = PN from rfl]
    refine Nat.dvd_one.1 ?_
    have d1 : Nat.gcd PN x ∣ x * y := Nat.dvd_trans (Nat.gcd_dvd_right _ _) (Nat.dvd_mul_right _ _)
    have d2 : Nat.gcd PN x ∣ PN := Nat.gcd_dvd_left _ _
    have := (Nat.dvd_mod_iff d2).2 d1
    rw [h2] at this
    exact this

theorem inv_step (a R0 R1 S0 S1 : Int) (h : InvRel a R0 R1 S0 S1) (hp : 0 < R1) :
    InvRel a R1 (R0 - R0 / R1 * R1) S1 (fsub S0 (fmul (R0 / R1) S1)) := by
  obtain ⟨a0, a1, b0, b1, c0, c1, d0, d1, e1, e2, e3⟩ := h
  have hm : R0 - R0 / R1 * R1 = R0 % R1 := by rw [Int.emod_def, Int.mul_comm]
  have m0 : 0 ≤ R0 % R1 := Int.emod_nonneg _ (by omega)
  have m1 : R0 % R1 < R1 := Int.emod_lt_of_pos _ hp
  have fb := fsub_bd S0 (fmul (R0 / R1) S1)
  refine ⟨b0, b1, by omega, by omega, d0, d1, fb.1, fb.2, e2, ?_, ?_⟩
  · have : ffold (R0 - R0 / R1 * R1) = fsub (ffold R0) (fmul (R0 / R1) (ffold R1)) := by
      rw [fsub_fold_l, fmul_fold_r]
      unfold ffold fsub fmul; rw [sub_r]
    rw [this, e1, e2, fmul_comm S0, fmul_comm S1, fmul_comm _ a, fmul_sub, fmul_comm a S1, ← fmul_assoc, fmul_comm (fmul _ _) a]
  · intro ha
    have g := e3 ha
    rw [hm]
    obtain ⟨x, rfl⟩ := Int.eq_ofNat_of_zero_le a0
    obtain ⟨y, rfl⟩ := Int.eq_ofNat_of_zero_le b0
    have : ((x : Int) % (y : Int)).toNat = x % y := by rw [← Int.natCast_emod]; rfl
    rw [this]
    rw [Int.toNat_natCast, Int.toNat_natCast] at *
    rw [Nat.gcd_comm, Nat.gcd_rec, Nat.gcd_comm] at g
    exact g

theorem inv_end (a R0 S0 S1 : Int) (h : InvRel a R0 0 S0 S1) (ha : ffold a ≠ 0) : S0 = finv a := by
  obtain ⟨a0, a1, b0, b1, c0, c1, d0, d1, e1, e2, e3⟩ := h
  have g := e3 ha
  rw [show (0 : Int).toNat = 0 from rfl, Nat.gcd_zero_right] at g
  have : R0 = 1 := by omega
  subst this
  rw [inv_unique a S0 (by rw [fmul_comm, ← e1]; rfl), ffold_of _ c0 (by omega)]

end Go.Proofs.YtbghchgmoiniiaaGreat

/-
  The walks of package hash (program) and gaugerref04 (reference). Conditions: the arguments fit their kinds.
-/
namespace Go.Proofs.YtbghchgmoiniiaaGreat
open Go.RowKit
set_option linter.unusedVariables false
set_option linter.unusedSimpArgs false

theorem bel_trans' {w w1 w2 : World} (h : Below w.heap.size w w1) (k : Below w1.heap.size w1 w2) : Below w.heap.size w w2 := h.trans (k.mono h.size)
theorem ret_i64 {a b : Int} (h : a = b) : Ending.returned (.int .i64 a) = .returned (.int .i64 b) := by rw [h]

theorem at_any (a b x : Int) (h0 : 0 ≤ a) (h1 : a ≤ 18446744073709551615) (g0 : 0 ≤ b) (g1 : b ≤ 18446744073709551615) (k0 : 0 ≤ x) (k1 : x ≤ 18446744073709551615) (w : World) :
    Calls Tryz.prog 158 #[.agg #[.int .u64 a, .int .u64 b], .int .u64 x] w fun e w' => e = .returned (.int .u64 (lineI a b x)) ∧ Below w.heap.size w w' := by
  have b1 := fmul_bd a x
  go_enter Tryz.func158, Tryz.ntmps158
  go_wp2_with fail
  go_quiet ((first
    | (go_at_call 163; exact Calls.quiet_of_same ((mul_any _ _ (by omega) (by omega) (by omega) (by omega) _).mono fun e w' ⟨p, q⟩ => ⟨p, q.symm⟩))
    | (go_at_call 162; exact Calls.quiet_of_same ((add_any _ _ (by omega) (by omega) (by omega) (by omega) _).mono fun e w' ⟨p, q⟩ => ⟨p, q.symm⟩))))
  go_wp2
  go_ret
  exact ⟨ret_u64 rfl, below_drewN ((Below.refl _ _).alloc (Nat.le_refl _) _) _⟩


theorem bucket_any (a b x n : Int) (h0 : 0 ≤ a) (h1 : a ≤ 18446744073709551615) (g0 : 0 ≤ b) (g1 : b ≤ 18446744073709551615) (k0 : 0 ≤ x) (k1 : x ≤ 18446744073709551615) (n0 : 1 ≤ n) (n1 : n ≤ 9223372036854775807) (w : World) :
    Calls Tryz.prog 152 #[.int .u64 a, .int .u64 b, .int .u64 x, .int .i64 n] w fun e w' => e = .returned (.int .i64 (lineI a b x % n)) ∧ Below w.heap.size w w' := by
  have b1 := lineI_bd a b x
  have m0 : 0 ≤ lineI a b x % n := Int.emod_nonneg _ (by omega)
  have m1 : lineI a b x % n < n := Int.emod_lt_of_pos _ (by omega)
  go_enter Tryz.func152, Tryz.ntmps152
  go_wp2_with (go_at_call 158; refine (at_any a b x h0 h1 g0 g1 k0 k1 _).mono ?_; rintro e w' ⟨rfl, hb⟩)
  go_ret
  exact ⟨ret_i64 rfl, hb⟩
theorem bucket_none (a b x n : Int) (n0 : n < 1) (w : World) :
    Calls Tryz.prog 152 #[.int .u64 a, .int .u64 b, .int .u64 x, .int .i64 n] w fun e w' => e = .returned (.int .i64 (-1)) ∧ w = w' := by
  go_enter Tryz.func152, Tryz.ntmps152
  go_wp2
  go_ret
  exact ⟨rfl, rfl⟩


theorem rline_any (a b x : Int) (h0 : 0 ≤ a) (h1 : a ≤ 18446744073709551615) (g0 : 0 ≤ b) (g1 : b ≤ 18446744073709551615) (k0 : 0 ≤ x) (k1 : x ≤ 18446744073709551615) (w : World) :
    Calls Tryz.prog 89 #[.int .u64 a, .int .u64 b, .int .u64 x] w fun e w' => e = .returned (.int .u64 (lineI a b x)) ∧ w = w' := by
  have b1 := fmul_bd x a
  have H : Hid (fadd (fmul x a) b = lineI a b x) := Lib.hid (by unfold lineI; rw [fmul_comm])
  go_enter Tryz.func89, Tryz.ntmps89
  go_wp2_with (first
    | (go_at_call 166; refine (fold_any _ (by omega) (by omega) _).mono ?_; rintro e w' ⟨rfl, rfl⟩)
    | (go_at_call 162; refine (add_any _ _ (by omega) (by omega) (by omega) (by omega) _).mono ?_; rintro e w' ⟨rfl, rfl⟩)
    | (go_at_call 94; refine (radd_any _ _ (by omega) (by omega) (by omega) (by omega) _).mono ?_; rintro e w' ⟨rfl, rfl⟩)
    | (go_at_call 163; refine (mul_any _ _ (by omega) (by omega) (by omega) (by omega) _).mono ?_; rintro e w' ⟨rfl, rfl⟩)
    | (go_at_call 95; refine (rmul_any _ _ (by omega) (by omega) (by omega) (by omega) _).mono ?_; rintro e w' ⟨rfl, rfl⟩)
  )
  go_ret
  exact ⟨ret_u64 H.out, rfl⟩
theorem rbucket_any (a b x n : Int) (h0 : 0 ≤ a) (h1 : a ≤ 18446744073709551615) (g0 : 0 ≤ b) (g1 : b ≤ 18446744073709551615) (k0 : 0 ≤ x) (k1 : x ≤ 18446744073709551615) (n0 : 1 ≤ n) (n1 : n ≤ 9223372036854775807) (w : World) :
    Calls Tryz.prog 85 #[.int .u64 a, .int .u64 b, .int .u64 x, .int .i64 n] w fun e w' => e = .returned (.int .i64 (lineI a b x % n)) ∧ w = w' := by
  have b1 := lineI_bd a b x
  have m0 : 0 ≤ lineI a b x % n := Int.emod_nonneg _ (by omega)
  have m1 : lineI a b x % n < n := Int.emod_lt_of_pos _ (by omega)
  go_enter Tryz.func85, Tryz.ntmps85
  go_wp2_with (go_at_call 89; refine (rline_any a b x h0 h1 g0 g1 k0 k1 _).mono ?_; rintro e w' ⟨rfl, rfl⟩)
  go_ret
  exact ⟨ret_i64 rfl, rfl⟩
theorem rbucket_none (a b x n : Int) (n0 : n < 1) (w : World) :
    Calls Tryz.prog 85 #[.int .u64 a, .int .u64 b, .int .u64 x, .int .i64 n] w fun e w' => e = .returned (.int .i64 (-1)) ∧ w = w' := by
  go_enter Tryz.func85, Tryz.ntmps85
  go_wp2
  go_ret
  exact ⟨rfl, rfl⟩

end Go.Proofs.YtbghchgmoiniiaaGreat

/-
  The walks of package seeds: Mix, Draw and Pair (the program). Conditions: the arguments fit their kinds.
-/
namespace Go.Proofs.YtbghchgmoiniiaaGreat
open Go.RowKit
set_option linter.unusedVariables false
set_option linter.unusedSimpArgs false

theorem ret_u64s {a b : Int} (h : a = b) : Ending.returned (.int .u64 a) = .returned (.int .u64 b) := by rw [h]
theorem bel_trans {w w1 w2 : World} (h : Below w.heap.size w w1) (k : Below w1.heap.size w1 w2) : Below w.heap.size w w2 := h.trans (k.mono h.size)

theorem steps_any (w : World) :
    Calls Tryz.prog 165 #[] w fun e w' => e = .returned (.agg #[.int .u64 30, .int .u64 13787848793156543929, .int .u64 27, .int .u64 10723151780598845931, .int .u64 31, .int .u64 1]) ∧ Below w.heap.size w w' := by
  go_enter Tryz.func165, Tryz.ntmps165
  go_wp2
  exact bodyPost_ret (v := .agg #[.int .u64 30, .int .u64 13787848793156543929, .int .u64 27, .int .u64 10723151780598845931, .int .u64 31, .int .u64 1]) (by simp [results, Tryz.results165, go_sem]) rfl ⟨rfl, (Below.refl _ _).alloc (Nat.le_refl _) _⟩
theorem idx0 : ∀ w, (Instr.index 219 (.agg #[.int .u64 30, .int .u64 13787848793156543929, .int .u64 27, .int .u64 10723151780598845931, .int .u64 31, .int .u64 1]) (.int .i64 0)).run Tryz.prog w = .ok (.agg #[.int .u64 30, .int .u64 13787848793156543929]) w := fun _ => by kernel_rfl
theorem idx1 : ∀ w, (Instr.index 219 (.agg #[.int .u64 30, .int .u64 13787848793156543929, .int .u64 27, .int .u64 10723151780598845931, .int .u64 31, .int .u64 1]) (.int .i64 1)).run Tryz.prog w = .ok (.agg #[.int .u64 27, .int .u64 10723151780598845931]) w := fun _ => by kernel_rfl
theorem idx2 : ∀ w, (Instr.index 219 (.agg #[.int .u64 30, .int .u64 13787848793156543929, .int .u64 27, .int .u64 10723151780598845931, .int .u64 31, .int .u64 1]) (.int .i64 2)).run Tryz.prog w = .ok (.agg #[.int .u64 31, .int .u64 1]) w := fun _ => by kernel_rfl

theorem mix_any (a : Int) (h0 : 0 ≤ a) (h1 : a ≤ 18446744073709551615) (w : World) :
    Calls Tryz.prog 161 #[.int .u64 a] w fun e w' => e = .returned (.int .u64 (mixI a)) ∧ Below w.heap.size w w' := by
  have H := Lib.hid (mix_walk a h0 h1)
  have i0 := idx0
  have i1 := idx1
  have i2 := idx2
  go_enter Tryz.func161, Tryz.ntmps161
  go_wp2_with (go_at_call 165; refine (steps_any _).mono ?_; rintro e w' ⟨rfl, hb⟩)
  refine wp_loop_rounds 4 ?_
  rw [rounds_succ]
  go_wp2
  rw [rounds_succ]
  go_wp2
  rw [rounds_succ]
  go_wp2
  rw [rounds_succ]
  go_wp2
  go_ret
  refine ⟨ret_u64s H.out, ?_⟩
  have hs := hb.size
  exact ((hb.alloc (by omega) _).alloc (by simp; omega) _).alloc (by simp; omega) _

theorem draw_any (s i : Int) (h0 : 0 ≤ s) (h1 : s ≤ 18446744073709551615) (g0 : 0 ≤ i) (g1 : i ≤ 18446744073709551615) (w : World) :
    Calls Tryz.prog 157 #[.int .u64 s, .int .u64 i] w fun e w' => e = .returned (.int .u64 (drawI s i)) ∧ Below w.heap.size w w' := by
  have HE : Hid (mixI (IntKind.u64.wrap (s + IntKind.u64.wrap (IntKind.u64.wrap (i + 1) * 11400714819323198485))) = drawI s i) := Lib.hid (by
    unfold mixI drawI drawB; rw [bv_wrap, bv_add, bv_wrap, bv_mul, bv_wrap, bv_add]; rfl)
  have hw : 0 ≤ IntKind.u64.wrap (s + IntKind.u64.wrap (IntKind.u64.wrap (i + 1) * 11400714819323198485)) ∧ IntKind.u64.wrap (s + IntKind.u64.wrap (IntKind.u64.wrap (i + 1) * 11400714819323198485)) ≤ 18446744073709551615 := by rw [wrap_bv]; exact nv_bd _
  have HW := Lib.hid hw
  clear hw
  go_enter Tryz.func157, Tryz.ntmps157
  go_wp2_with fail
  refine (mix_any _ HW.out.1 HW.out.2 _).mono ?_
  rintro e w' ⟨rfl, hb⟩
  go_wp2_with fail
  go_ret
  exact ⟨ret_u64s HE.out, hb⟩

theorem ret_u64s2 {a b c d : Int} (h : a = b) (k : c = d) : Ending.returned (.tuple #[.int .u64 a, .int .u64 c]) = .returned (.tuple #[.int .u64 b, .int .u64 d]) := by rw [h, k]

theorem pair_any (s l r : Int) (h0 : 0 ≤ s) (h1 : s ≤ 18446744073709551615) (l0 : 0 ≤ l) (l1 : l ≤ 59) (r0 : 0 ≤ r) (r1 : r ≤ 7) (w : World) :
    Calls Tryz.prog 151 #[.int .u64 s, .int .i64 l, .int .i64 r] w fun e w' => e = .returned (.tuple #[.int .u64 (pairA s l r), .int .u64 (pairB s l r)]) ∧ Below w.heap.size w w' := by
  have b1 := drawI_bd s (2 * (l * 8 + r))
  have b2 := drawI_bd s (2 * (l * 8 + r) + 1)
  have e1 : Hid (2 * (l * 8 + r) = pairN l r) := Lib.hid (by unfold pairN; omega)
  go_enter Tryz.func151, Tryz.ntmps151
  go_wp2_with fail
  refine (draw_any _ _ h0 h1 (by omega) (by omega) _).mono ?_
  rintro e w' ⟨rfl, hb⟩
  go_wp2_with fail
  refine (draw_any _ _ h0 h1 (by omega) (by omega) _).mono ?_
  rintro e w2 ⟨rfl, hb2⟩
  go_wp2_with fail
  go_ret2
  refine ⟨ret_u64s2 ?_ ?_, bel_trans hb hb2⟩
  · rw [e1.out]; rfl
  · rw [e1.out]; rfl

theorem pair_none (s l r : Int) (h : l < 0 ∨ 59 < l ∨ r < 0 ∨ 7 < r) (w : World) :
    Calls Tryz.prog 151 #[.int .u64 s, .int .i64 l, .int .i64 r] w fun e w' => e = .returned (.tuple #[.int .u64 0, .int .u64 0]) ∧ w = w' := by
  by_cases c1 : l < 0
  · clear h
    go_enter Tryz.func151, Tryz.ntmps151
    go_wp2
    go_ret2
    exact ⟨rfl, rfl⟩
  · by_cases c2 : 59 < l
    · clear h
      go_enter Tryz.func151, Tryz.ntmps151
      go_wp2
      go_ret2
      exact ⟨rfl, rfl⟩
    · by_cases c3 : r < 0
      · clear h
        go_enter Tryz.func151, Tryz.ntmps151
        go_wp2
        go_ret2
        exact ⟨rfl, rfl⟩
      · have c4 : 7 < r := by omega
        clear h
        go_enter Tryz.func151, Tryz.ntmps151
        go_wp2
        go_ret2
        exact ⟨rfl, rfl⟩
end Go.Proofs.YtbghchgmoiniiaaGreat

/-
  The walks of shape.Columns with its closure. Conditions: the arguments fit their kinds.
-/
namespace Go.Proofs.YtbghchgmoiniiaaGreat
open Go.RowKit
set_option linter.unusedVariables false
set_option linter.unusedSimpArgs false

theorem rowKept {w w' : World} {b : Nat} {t : TypeId} {n : Nat} {f : Nat → Value} (h : w.rowIs b t n f) (hb : Below w.heap.size w w') : w'.rowIs b t n f := h.of_block (hb.block b h.lt)
theorem ret_i64c {a b : Int} (h : a = b) : Ending.returned (.int .i64 a) = .returned (.int .i64 b) := by rw [h]

/-- the three boxes that the closure of Columns has captured: the config, the level, the key -/
structure Caps (w : World) (A B C : Nat) (b r d m s l k : Int) : Prop where
  cfg : Blk w A 24 #[.int .i64 b, .int .i64 r, .int .i64 d, .int .i64 m, .int .u64 s]
  lev : Blk w B 3 #[.int .i64 l]
  key : Blk w C 22 #[.int .u64 k]
theorem Caps.kept {w w' : World} {A B C : Nat} {b r d m s l k : Int} (h : Caps w A B C b r d m s l k) (hb : Below w.heap.size w w') : Caps w' A B C b r d m s l k :=
  ⟨h.cfg.kept hb, h.lev.kept hb, h.key.kept hb⟩

theorem Caps.cells {w : World} {A B C : Nat} {b r d m s l k : Int} (h : Caps w A B C b r d m s l k) :
    (w.cell? ⟨A, 0, none⟩ = some (.int .i64 b) ∧ w.cell? ⟨A, 1, none⟩ = some (.int .i64 r) ∧ w.cell? ⟨A, 2, none⟩ = some (.int .i64 d) ∧ w.cell? ⟨A, 3, none⟩ = some (.int .i64 m) ∧ w.cell? ⟨A, 4, none⟩ = some (.int .u64 s)) ∧
    w.cell? ⟨B, 0, none⟩ = some (.int .i64 l) ∧ w.cell? ⟨C, 0, none⟩ = some (.int .u64 k) := ⟨box_cells h.cfg, h.lev.cell 0, h.key.cell 0⟩
theorem Caps.drew {w : World} {A B C : Nat} {b r d m s l k : Int} (h : Caps w A B C b r d m s l k) : Caps w.drew A B C b r d m s l k := ⟨h.cfg, h.lev, h.key⟩
theorem col1_any (A B C : Nat) (b r d m s l k i : Int) (s0 : 0 ≤ s) (s1 : s ≤ 18446744073709551615) (k0 : 0 ≤ k) (k1 : k ≤ 18446744073709551615) (l0 : 0 ≤ l) (l1 : l ≤ 59) (i0 : 0 ≤ i) (i1 : i ≤ 7) (d0 : 1 ≤ d) (d1 : d ≤ 9223372036854775807) (w : World)
    (hC : Caps w A B C b r d m s l k) :
    Calls Tryz.prog 150 #[.int .i64 i, .pointer (some ⟨A, 0, none⟩), .pointer (some ⟨B, 0, none⟩), .pointer (some ⟨C, 0, none⟩)] w fun e w' => e = .returned (.int .i64 (colI d s l k i)) ∧ Below w.heap.size w w' := by
  have a2 := hC.cfg.cell 2
  have a4 := hC.cfg.cell 4
  have bl := hC.lev.cell 0
  have ck := hC.key.cell 0
  simp at a2 a4 bl ck
  have HC := Lib.hid hC
  clear hC
  obtain ⟨p0, p1⟩ := pairA_bd s l i
  obtain ⟨q0, q1⟩ := pairB_bd s l i
  go_enter Tryz.func150, Tryz.ntmps150
  go_wp2_with fail
  refine (pair_any s l i s0 s1 l0 l1 i0 i1 _).mono ?_; rintro e w1 ⟨rfl, hb⟩
  have hC1 := HC.out.kept hb
  have c2 := hC1.cfg.cell 2
  have ck1 := hC1.key.cell 0
  simp at c2 ck1
  go_wp2_with fail
  refine (bucket_any _ _ k d (by omega) (by omega) (by omega) (by omega) k0 k1 d0 d1 _).mono ?_; rintro e w2 ⟨rfl, hb2⟩
  go_wp2
  go_ret
  exact ⟨ret_i64c rfl, btr hb hb2⟩

def ColsPost (w : World) (R : Nat) (d s l k : Int) (e : Ending) (w' : World) : Prop :=
  ∃ g, e = .returned (.slice (some ⟨g, 0, none⟩) R R) ∧ w.heap.size ≤ g ∧ w'.rowIs g 3 R (fun i => .int .i64 (colI d s l k (i : Int))) ∧ Below w.heap.size w w'

theorem Tryz.infoInt : (Tryz.prog.info? 3).map (fun i => (i.zero, i.size, i.bytes)) = some (some (.int .i64 0), 1, 8) := by kernel_rfl

theorem cols_any (b d m s l k : Int) (R : Nat) (s0 : 0 ≤ s) (s1 : s ≤ 18446744073709551615) (k0 : 0 ≤ k) (k1 : k ≤ 18446744073709551615) (hk : k < keysI b (R : Int) d m l) (w : World) :
    Calls Tryz.prog 145 #[.agg #[.int .i64 b, .int .i64 (R : Int), .int .i64 d, .int .i64 m, .int .u64 s], .int .i64 l, .int .u64 k] w (ColsPost w R d s l k) := by
  obtain ⟨j0, j1⟩ := keysI_bd b (R : Int) d m l
  have HR := keys_right (b := b) (r := (R : Int)) (d := d) (m := m) (l := l) (by omega)
  obtain ⟨d0, d1, b0, b1, l0, l1, r0, r1, _⟩ := HR
  have e1 : decide (keysI b (R : Int) d m l ≤ k) = false := decide_eq_false (by omega)
  have hnew0 := Blk.new w 24 #[.int .i64 b, .int .i64 (R : Int), .int .i64 d, .int .i64 m, .int .u64 s]
  go_enter Tryz.func145, Tryz.ntmps145
  go_wp2_with fail
  have hcap : Caps (((w.alloc (.cells #[.int .i64 b, .int .i64 (R : Int), .int .i64 d, .int .i64 m, .int .u64 s] 24)).alloc (.cells #[.int .i64 l] 3)).alloc (.cells #[.int .u64 k] 22)) w.heap.size (w.heap.size + 1) (w.heap.size + 1 + 1) b (R : Int) d m s l k := by
    refine ⟨((Blk.new _ _ _).alloc _).alloc _, Blk.alloc (by have := Blk.new (w.alloc (.cells #[.int .i64 b, .int .i64 (R : Int), .int .i64 d, .int .i64 m, .int .u64 s] 24)) 3 #[.int .i64 l]; simpa using this) _, ?_⟩
    have := Blk.new ((w.alloc (.cells #[.int .i64 b, .int .i64 (R : Int), .int .i64 d, .int .i64 m, .int .u64 s] 24)).alloc (.cells #[.int .i64 l] 3)) 22 #[.int .u64 k]
    simpa using this
  have hbel : Below w.heap.size w (((w.alloc (.cells #[.int .i64 b, .int .i64 (R : Int), .int .i64 d, .int .i64 m, .int .u64 s] 24)).alloc (.cells #[.int .i64 l] 3)).alloc (.cells #[.int .u64 k] 22)) :=
    (((Below.refl _ _).alloc (Nat.le_refl _) _).alloc (by simp) _).alloc (by simp; omega) _
  generalize (((w.alloc (.cells #[.int .i64 b, .int .i64 (R : Int), .int .i64 d, .int .i64 m, .int .u64 s] 24)).alloc (.cells #[.int .i64 l] 3)).alloc (.cells #[.int .u64 k] 22)) = wz at *
  have hsz := hbel.size
  generalize hA : w.heap.size = A at *
  generalize hB : A + 1 = B at *
  generalize hC : B + 1 = C at *
  obtain ⟨n, hn⟩ : ∃ n, n = A := ⟨_, rfl⟩
  have hbel : Below n w wz := by rw [hn]; exact hbel
  have HN := Lib.hid (hn.trans hA.symm)
  have hnw : n ≤ w.heap.size := by omega
  clear hA hB hC hn
  have HE := Lib.hid e1
  refine wp_region_held_drew (S := fun w' => Caps w' A B C b (R : Int) d m s l k ∧ Below n w w') (by kernel_rfl) (by exact ⟨hcap.drew, hbel.drew⟩) (fun hHeld => ?_)
  refine wpAnyH_take (i := 0) (v := ?_) rfl (by kernel_rfl) (by kernel_rfl) (by kernel_rfl) (fun _ _ _ h => h) (Or.inl ⟨by rfl, ?_⟩) (by assumption) ?_
  rotate_left
  · intro w hSw
    obtain ⟨⟨q0, q1, q2, q3, q4⟩, qb, qk⟩ := Caps.cells hSw.1
    go_simp
    try with_reducible rfl
  simp only [Act.put, List.setIfInBounds_toArray, List.set_cons_zero, List.set_cons_succ, List.getElem_toArray, List.getElem_cons_zero, List.getElem_cons_succ]
  refine wpAnyH_take (i := 1) (v := ?_) rfl (by kernel_rfl) (by kernel_rfl) (by kernel_rfl) (fun _ _ _ h => h) (Or.inl ⟨by rfl, ?_⟩) (by assumption) ?_
  rotate_left
  · intro w hSw
    obtain ⟨⟨q0, q1, q2, q3, q4⟩, qb, qk⟩ := Caps.cells hSw.1
    go_simp
    try with_reducible rfl
  simp only [Act.put, List.setIfInBounds_toArray, List.set_cons_zero, List.set_cons_succ, List.getElem_toArray, List.getElem_cons_zero, List.getElem_cons_succ]
  refine wpAnyH_take (i := 2) (v := ?_) rfl (by kernel_rfl) (by kernel_rfl) (by kernel_rfl) (fun _ _ _ h => h) (Or.inl ⟨by rfl, ?_⟩) (by assumption) ?_
  rotate_left
  · intro w hSw
    obtain ⟨⟨q0, q1, q2, q3, q4⟩, qb, qk⟩ := Caps.cells hSw.1
    go_simp
    try with_reducible rfl
  simp only [Act.put, List.setIfInBounds_toArray, List.set_cons_zero, List.set_cons_succ, List.getElem_toArray, List.getElem_cons_zero, List.getElem_cons_succ]
  refine wpAnyH_ready (rs := [3]) (by kernel_rfl) (by simp) ?_
  refine AllReadyH.cons rfl (fun K hK => ?_) AllReadyH.nil
  go_simp
  go_wp2_with ((go_at_call 40; refine (keys_any _ _ _ _ _ _ _).mono ?_; rintro e w' ⟨rfl, hb'⟩))
  refine hK.out _ _ ?_ (fun hHeld => ?_)
  · first | assumption | exact ⟨hHeld.1.kept hb', hHeld.2.trans (hb'.mono (by have := hHeld.2.size; omega))⟩
  clear hK K
  refine wpAnyH_take (i := 4) (v := ?_) rfl (by kernel_rfl) (by kernel_rfl) (by kernel_rfl) (fun _ _ _ h => h) (Or.inl ⟨by rfl, ?_⟩) (by assumption) ?_
  rotate_left
  · intro w hSw
    skip
    go_simp
    try with_reducible rfl
  simp only [Act.put, List.setIfInBounds_toArray, List.set_cons_zero, List.set_cons_succ, List.getElem_toArray, List.getElem_cons_zero, List.getElem_cons_succ]
  refine wpAnyH_done (by kernel_rfl) ?_ _
  clear hnew0 hbel hsz hcap hb'
  obtain ⟨hcap, hbel⟩ := hHeld
  obtain ⟨⟨q0, q1, q2, q3, q4⟩, qb, qk⟩ := hcap.cells
  have hmk := fun W => run_make_row' (P := Tryz.prog) 58 3 (.int .i64 0) 8 Tryz.underlying58 Tryz.infoInt rfl .i64 .i64 R (by omega) (by omega) W
  go_wp2_with fail
  have hrow := World.rowIs_made w' (.int .i64 0) R 3
  have hcap2 : Caps (w'.alloc (.cells (madeCells #[.int .i64 0] R) 3)) A B C b (R : Int) d m s l k := ⟨hcap.cfg.alloc _, hcap.lev.alloc _, hcap.key.alloc _⟩
  have hbel2 : Below n w (w'.alloc (.cells (madeCells #[.int .i64 0] R) 3)) := hbel.alloc (by have := hbel.size; omega) _
  have hGA : A ≠ w'.heap.size := Nat.ne_of_lt hcap.cfg.lt
  have hGB : B ≠ w'.heap.size := Nat.ne_of_lt hcap.lev.lt
  have hGC : C ≠ w'.heap.size := Nat.ne_of_lt hcap.key.lt
  have hGn : n ≤ w'.heap.size := by have := hbel.size; omega
  clear hmk q0 q1 q2 q3 q4 qb qk
  clear hcap hbel
  generalize (w'.alloc (.cells (madeCells #[.int .i64 0] R) 3)) = wq at *
  generalize w'.heap.size = G at *
  go_loopw [21] (fun i wr => ∃ j : Nat, j ≤ R ∧ i = .int .i64 (j : Int) ∧ wr.rowIs G 3 R (fun x => .int .i64 (if x < j then colI d s l k (x : Int) else 0)) ∧ Caps wr A B C b (R : Int) d m s l k ∧ Below n w wr) (fun i _ => R - (intOf i).toNat)
  case atStart => exact ⟨0, by omega, rfl, hrow.congr (fun x _ => by simp), hcap2, hbel2⟩
  case round =>
    obtain ⟨j, hj, rfl, hrow, hcap, hbel⟩ := hrel
    clear hcap2 hbel2
    have HR := Lib.hid hrow
    have HC := Lib.hid hcap
    have HB := Lib.hid hbel
    clear hrow hcap hbel
    by_cases hlt : j < R
    · go_wp2_with fail
      refine (col1_any A B C b (R : Int) d m s l k (j : Int) s0 s1 k0 k1 l0 (by omega) (by omega) (by omega) d0 (by omega) _ HC.out).mono ?_
      rintro e w2 ⟨rfl, hb2⟩
      have hr2 := rowKept HR.out hb2
      have hcell := hr2.cell hlt
      have hfrz := hr2.frozen j
      have HR2 := Lib.hid (hr2.set j (.int .i64 (colI d s l k (j : Int))))
      have HC2 := Lib.hid (HC.out.kept hb2)
      have HB2 : Hid (Below n w w2) := Lib.hid (HB.out.trans (hb2.mono (by have := HB.out.size; omega)))
      clear hr2 hb2
      go_wp2
      go_roundw
      case rel =>
        refine ⟨j + 1, by omega, by go_num, HR2.out.congr (fun x _ => ?_), ⟨HC2.out.cfg.far hGA _, HC2.out.lev.far hGB _, HC2.out.key.far hGC _⟩, HB2.out.setCell hGn _⟩
        by_cases e : x = j
        · subst e; simp
        · rw [if_neg e]
          by_cases e2 : x < j
          · rw [if_pos e2, if_pos (by omega)]
          · rw [if_neg e2, if_neg (by omega)]
      case measure => simp [intOf]; omega
    · obtain rfl : j = R := by omega
      go_wp2
      go_ret
      exact ⟨G, rfl, by have := HN.out; omega, HR.out.congr (fun x hx => by rw [if_pos hx]), by rw [← HN.out]; exact HB.out⟩

theorem cols_none (b r d m s l k : Int) (hk : ¬ k < keysI b r d m l) (w : World) :
    Calls Tryz.prog 145 #[.agg #[.int .i64 b, .int .i64 r, .int .i64 d, .int .i64 m, .int .u64 s], .int .i64 l, .int .u64 k] w fun e w' => e = .returned (.slice none 0 0) ∧ Below w.heap.size w w' := by
  have e1 : decide (keysI b r d m l ≤ k) = true := decide_eq_true (by omega)
  go_enter Tryz.func145, Tryz.ntmps145
  go_wp2_with fail
  have hcap : Caps (((w.alloc (.cells #[.int .i64 b, .int .i64 r, .int .i64 d, .int .i64 m, .int .u64 s] 24)).alloc (.cells #[.int .i64 l] 3)).alloc (.cells #[.int .u64 k] 22)) w.heap.size (w.heap.size + 1) (w.heap.size + 1 + 1) b r d m s l k := by
    refine ⟨((Blk.new _ _ _).alloc _).alloc _, Blk.alloc (by have := Blk.new (w.alloc (.cells #[.int .i64 b, .int .i64 r, .int .i64 d, .int .i64 m, .int .u64 s] 24)) 3 #[.int .i64 l]; simpa using this) _, ?_⟩
    have := Blk.new ((w.alloc (.cells #[.int .i64 b, .int .i64 r, .int .i64 d, .int .i64 m, .int .u64 s] 24)).alloc (.cells #[.int .i64 l] 3)) 22 #[.int .u64 k]
    simpa using this
  have hbel : Below w.heap.size w (((w.alloc (.cells #[.int .i64 b, .int .i64 r, .int .i64 d, .int .i64 m, .int .u64 s] 24)).alloc (.cells #[.int .i64 l] 3)).alloc (.cells #[.int .u64 k] 22)) :=
    (((Below.refl _ _).alloc (Nat.le_refl _) _).alloc (by simp) _).alloc (by simp; omega) _
  generalize (((w.alloc (.cells #[.int .i64 b, .int .i64 r, .int .i64 d, .int .i64 m, .int .u64 s] 24)).alloc (.cells #[.int .i64 l] 3)).alloc (.cells #[.int .u64 k] 22)) = wz at *
  have hsz := hbel.size
  generalize hA : w.heap.size = A at *
  generalize hB : A + 1 = B at *
  generalize hC : B + 1 = C at *
  obtain ⟨n, hn⟩ : ∃ n, n = A := ⟨_, rfl⟩
  have hbel : Below n w wz := by rw [hn]; exact hbel
  have HN := Lib.hid (hn.trans hA.symm)
  have hnw : n ≤ w.heap.size := by omega
  clear hA hB hC hn
  refine wp_region_held_drew (S := fun w' => Caps w' A B C b r d m s l k ∧ Below n w w') (by kernel_rfl) (by exact ⟨hcap.drew, hbel.drew⟩) (fun hHeld => ?_)
  refine wpAnyH_take (i := 0) (v := ?_) rfl (by kernel_rfl) (by kernel_rfl) (by kernel_rfl) (fun _ _ _ h => h) (Or.inl ⟨by rfl, ?_⟩) (by assumption) ?_
  rotate_left
  · intro w hSw
    obtain ⟨⟨q0, q1, q2, q3, q4⟩, qb, qk⟩ := Caps.cells hSw.1
    go_simp
    try with_reducible rfl
  simp only [Act.put, List.setIfInBounds_toArray, List.set_cons_zero, List.set_cons_succ, List.getElem_toArray, List.getElem_cons_zero, List.getElem_cons_succ]
  refine wpAnyH_take (i := 1) (v := ?_) rfl (by kernel_rfl) (by kernel_rfl) (by kernel_rfl) (fun _ _ _ h => h) (Or.inl ⟨by rfl, ?_⟩) (by assumption) ?_
  rotate_left
  · intro w hSw
    obtain ⟨⟨q0, q1, q2, q3, q4⟩, qb, qk⟩ := Caps.cells hSw.1
    go_simp
    try with_reducible rfl
  simp only [Act.put, List.setIfInBounds_toArray, List.set_cons_zero, List.set_cons_succ, List.getElem_toArray, List.getElem_cons_zero, List.getElem_cons_succ]
  refine wpAnyH_take (i := 2) (v := ?_) rfl (by kernel_rfl) (by kernel_rfl) (by kernel_rfl) (fun _ _ _ h => h) (Or.inl ⟨by rfl, ?_⟩) (by assumption) ?_
  rotate_left
  · intro w hSw
    obtain ⟨⟨q0, q1, q2, q3, q4⟩, qb, qk⟩ := Caps.cells hSw.1
    go_simp
    try with_reducible rfl
  simp only [Act.put, List.setIfInBounds_toArray, List.set_cons_zero, List.set_cons_succ, List.getElem_toArray, List.getElem_cons_zero, List.getElem_cons_succ]
  refine wpAnyH_ready (rs := [3]) (by kernel_rfl) (by simp) ?_
  refine AllReadyH.cons rfl (fun K hK => ?_) AllReadyH.nil
  go_simp
  go_wp2_with ((go_at_call 40; refine (keys_any _ _ _ _ _ _ _).mono ?_; rintro e w' ⟨rfl, hb'⟩))
  refine hK.out _ _ ?_ (fun hHeld => ?_)
  · first | assumption | exact ⟨hHeld.1.kept hb', hHeld.2.trans (hb'.mono (by have := hHeld.2.size; omega))⟩
  clear hK K
  refine wpAnyH_take (i := 4) (v := ?_) rfl (by kernel_rfl) (by kernel_rfl) (by kernel_rfl) (fun _ _ _ h => h) (Or.inl ⟨by rfl, ?_⟩) (by assumption) ?_
  rotate_left
  · intro w hSw
    skip
    go_simp
    try with_reducible rfl
  simp only [Act.put, List.setIfInBounds_toArray, List.set_cons_zero, List.set_cons_succ, List.getElem_toArray, List.getElem_cons_zero, List.getElem_cons_succ]
  refine wpAnyH_done (by kernel_rfl) ?_ _
  have HB := Lib.hid hHeld.2
  clear hbel hcap hHeld
  go_wp2
  go_ret
  exact ⟨rfl, by rw [← HN.out]; exact HB.out⟩
end Go.Proofs.YtbghchgmoiniiaaGreat

/-
  Plain: what an update of a level, and of a stack, answers and leaves; what a level tells of a key. Conditions: none beyond those stated at each theorem.
-/
namespace Go.Proofs.YtbghchgmoiniiaaGreat
open Go.RowKit
set_option linter.unusedVariables false
set_option linter.unusedSimpArgs false

open Classical in
/-- the number at place k of l in order -/
noncomputable def kthL (l : List Int) (k : Nat) : Int := if h : ∃ v, IsKth l k v then h.choose else 0
theorem kthL_of {l : List Int} {k : Nat} {v : Int} (h : IsKth l k v) : kthL l k = v := by
  have hx : ∃ v, IsKth l k v := ⟨v, h⟩
  unfold kthL
  rw [dif_pos hx]
  exact hx.choose_spec.unique h
/-- a key's columns -/
def colsZ (d s l k : Int) (R : Nat) : List Int := (List.range R).map fun (i : Nat) => colI d s l k (i : Int)
theorem colsZ_len (d s l k : Int) (R : Nat) : (colsZ d s l k R).length = R := by simp [colsZ]
theorem colsZ_meet {d s l k : Int} {R : Nat} (hR : 0 < R) (hd : 1 ≤ d) : meetB R d.toNat (colsZ d s l k R) = true := by
  refine meetB_all hR (colsZ_len ..) (fun j c hc => ?_)
  unfold colsZ at hc
  rw [List.getElem?_map] at hc
  cases hj : (List.range R)[j]? with
  | none => rw [hj] at hc; simp at hc
  | some i =>
    rw [hj] at hc
    simp at hc
    subst hc
    unfold colI
    have h1 := Int.emod_nonneg (lineI (pairA s l (i : Int)) (pairB s l (i : Int)) k) (show d ≠ 0 by omega)
    have h2 := Int.emod_lt_of_pos (lineI (pairA s l (i : Int)) (pairB s l (i : Int)) k) (show 0 < d by omega)
    omega
open Classical in
/-- what a sketch's update answers -/
noncomputable def skErr (b r d m s l : Int) (zs : List Int) (k : Int) (x : Int) : Int :=
  if keysI b r d m l ≤ k then 2
  else if m = 2 then (if x < 0 then 3 else if In64 (kthL (readZ d.toNat zs (colsZ d s l k r.toNat)) 0 + x) then 0 else 4)
  else if changeFits d.toNat zs (colsZ d s l k r.toNat) x then 0 else 4
open Classical in
/-- and what it leaves -/
noncomputable def skUpd (b r d m s l : Int) (zs : List Int) (k : Int) (x : Int) : List Int :=
  if skErr b r d m s l zs k x = 0 then
    (if m = 2 then raiseZ d.toNat zs (colsZ d s l k r.toNat) (kthL (readZ d.toNat zs (colsZ d s l k r.toNat)) 0 + x) else changeZ d.toNat zs (colsZ d s l k r.toNat) x)
  else zs
noncomputable def lvErr (b r d m s l : Int) (zs : List Int) (k : Nat) (x : Int) : Int :=
  if exactB b r d m l = true then chkI (keysI b r d m l).toNat m zs k x else skErr b r d m s l zs (k : Int) x
noncomputable def lvUpd (b r d m s l : Int) (zs : List Int) (k : Nat) (x : Int) : List Int :=
  if exactB b r d m l = true then updZ (keysI b r d m l).toNat m zs k x else skUpd b r d m s l zs (k : Int) x
theorem lvUpd_same {b r d m s l : Int} {zs : List Int} {k : Nat} {x : Int} (h : lvErr b r d m s l zs k x ≠ 0) : lvUpd b r d m s l zs k x = zs := by
  unfold lvErr at h
  unfold lvUpd
  split
  · rename_i e
    rw [if_pos e] at h
    unfold updZ
    rw [if_neg h]
  · rename_i e
    rw [if_neg e] at h
    unfold skUpd
    rw [if_neg h]
/-- a key of the stack is one of each level -/
theorem key_down {b r d m : Int} (hr : rightB b r d m = true) {k : Nat} (hk : (k : Int) < keysI b r d m 0) {n : Nat} (hn : n ≤ b.toNat) : ((k / 2 ^ n : Nat) : Int) < keysI b r d m (n : Int) := by
  have hR := right_of hr
  rw [keysI_yes hr (by omega) (by omega)] at hk ⊢
  obtain ⟨q, hq⟩ : ∃ q : Nat, b = (q : Int) := ⟨b.toNat, by omega⟩
  subst hq
  have e0 : ((q : Int) - 0).toNat = q := by omega
  have e1 : ((q : Int) - (n : Int)).toNat = q - n := by omega
  rw [e0] at hk
  rw [e1]
  have h2 : (k : Int) < ((2 ^ q : Nat) : Int) := by rw [Int.natCast_pow]; exact hk
  have h3 : k < 2 ^ q := by exact_mod_cast h2
  have h4 : k / 2 ^ n < 2 ^ (q - n) := by
    apply Nat.div_lt_of_lt_mul
    rw [← Nat.pow_add]
    have : n + (q - n) = q := by simp at hn; omega
    rw [this]
    exact h3
  have h5 : ((k / 2 ^ n : Nat) : Int) < ((2 ^ (q - n) : Nat) : Int) := by exact_mod_cast h4
  rw [Int.natCast_pow] at h5
  exact h5
/-- the answer of a level to a key that it has -/
theorem lvErr_in {b r d m s l : Int} {zs : List Int} {k : Nat} {x : Int} (hk : (k : Int) < keysI b r d m l) : (m = 2 ∧ x < 0 → lvErr b r d m s l zs k x = 3) ∧ (¬ (m = 2 ∧ x < 0) → lvErr b r d m s l zs k x = 0 ∨ lvErr b r d m s l zs k x = 4) := by
  unfold lvErr
  have hb := keysI_bd b r d m l
  split
  · unfold chkI
    rw [if_neg (by omega)]
    refine ⟨fun h => by rw [if_pos h], fun h => ?_⟩
    rw [if_neg h]
    split
    · exact .inl rfl
    · exact .inr rfl
  · unfold skErr
    rw [if_neg (by omega)]
    refine ⟨fun h => by rw [if_pos h.1, if_pos h.2], fun h => ?_⟩
    by_cases hm : m = 2
    · rw [if_pos hm, if_neg (by omega)]
      split
      · exact .inl rfl
      · exact .inr rfl
    · rw [if_neg hm]
      split
      · exact .inl rfl
      · exact .inr rfl
open Classical in
/-- what an update of a stack answers -/
noncomputable def stErr (b r d m s : Int) (Z : Nat → List Int) (k : Nat) (x : Int) : Int :=
  if keysI b r d m 0 ≤ (k : Int) then 2 else if m = 2 ∧ x < 0 then 3 else if ∀ n : Nat, n ≤ b.toNat → lvErr b r d m s (n : Int) (Z n) (k / 2 ^ n) x = 0 then 0 else 4
noncomputable def stUpd (b r d m s : Int) (Z : Nat → List Int) (k : Nat) (x : Int) (n : Nat) : List Int :=
  if stErr b r d m s Z k x = 0 then lvUpd b r d m s (n : Int) (Z n) (k / 2 ^ n) x else Z n
/-- what a level tells of a key -/
noncomputable def lvPt (b r d m s l : Int) (zs : List Int) (k : Nat) : Int :=
  if exactB b r d m l = true then cellD zs k else kthL (readZ d.toNat zs (colsZ d s l (k : Int) r.toNat)) (if m = 3 then (r.toNat - 1) / 2 else 0)
/-- the first of two answers that is not nought -/
def firstI (a c : Int) : Int := if a = 0 then c else a
theorem stErr_firsts {b r d m s : Int} (hr : rightB b r d m = true) {Z : Nat → List Int} {k : Nat} {x : Int} (hk : (k : Int) < keysI b r d m 0) :
    (List.range (b.toNat + 1)).foldl (fun a (n : Nat) => firstI a (lvErr b r d m s (n : Int) (Z n) (k / 2 ^ n) x)) 0 = stErr b r d m s Z k x := by
  have key : ∀ j : Nat, j ≤ b.toNat + 1 → (List.range j).foldl (fun a (n : Nat) => firstI a (lvErr b r d m s (n : Int) (Z n) (k / 2 ^ n) x)) 0 =
      (if m = 2 ∧ x < 0 then (if j = 0 then 0 else 3) else open Classical in if ∀ n : Nat, n < j → lvErr b r d m s (n : Int) (Z n) (k / 2 ^ n) x = 0 then 0 else 4) := by
    intro j
    induction j with
    | zero =>
      intro _
      simp
    | succ j ih =>
      intro hj
      rw [List.range_succ, List.foldl_append, ih (by omega)]
      simp only [List.foldl_cons, List.foldl_nil]
      obtain ⟨h3, h4⟩ := lvErr_in (s := s) (zs := Z j) (x := x) (key_down hr hk (show j ≤ b.toNat by omega))
      by_cases hm : m = 2 ∧ x < 0
      · rw [if_pos hm, if_pos hm, h3 hm]
        unfold firstI
        by_cases e : j = 0 <;> simp [e]
      · rw [if_neg hm, if_neg hm]
        by_cases ha : ∀ n : Nat, n < j → lvErr b r d m s (n : Int) (Z n) (k / 2 ^ n) x = 0
        · rw [if_pos ha]
          unfold firstI
          rw [if_pos rfl]
          rcases h4 hm with e | e
          · rw [e, if_pos]
            intro n hn
            by_cases en : n = j
            · subst en; exact e
            · exact ha n (by omega)
          · rw [e, if_neg]
            intro h
            have := h j (by omega)
            rw [e] at this
            cases this
        · rw [if_neg ha]
          unfold firstI
          rw [if_neg (by decide), if_neg]
          intro h
          exact ha (fun n hn => h n (by omega))
  rw [key _ (Nat.le_refl _)]
  unfold stErr
  have hnk : ¬ keysI b r d m 0 ≤ (k : Int) := by omega
  by_cases hm : m = 2 ∧ x < 0
  · rw [if_pos hm, if_neg (show ¬ b.toNat + 1 = 0 by omega), if_neg hnk, if_pos hm]
  · rw [if_neg hm, if_neg hnk, if_neg hm]
    have : (∀ n : Nat, n < b.toNat + 1 → lvErr b r d m s (n : Int) (Z n) (k / 2 ^ n) x = 0) ↔ (∀ n : Nat, n ≤ b.toNat → lvErr b r d m s (n : Int) (Z n) (k / 2 ^ n) x = 0) :=
      ⟨fun h n hn => h n (by omega), fun h n hn => h n (by omega)⟩
    simp only [this]
theorem stErr_ok {b r d m s : Int} {Z : Nat → List Int} {k : Nat} {x : Int} (h : stErr b r d m s Z k x = 0) : (k : Int) < keysI b r d m 0 ∧ ¬ (m = 2 ∧ x < 0) ∧ ∀ n : Nat, n ≤ b.toNat → lvErr b r d m s (n : Int) (Z n) (k / 2 ^ n) x = 0 := by
  unfold stErr at h
  split at h
  · cases h
  · split at h
    · cases h
    · split at h
      · rename_i h1 h2 h3
        exact ⟨by omega, h2, h3⟩
      · cases h
end Go.Proofs.YtbghchgmoiniiaaGreat
