/-
  Stacks in memory; the walk of stack.New. Conditions: none beyond those stated at each theorem.
-/
import Derived.Test.YtbghchgmoiniiaaLvb
import Derived.Test.YtbghchgmoiniiaaGrdT
namespace Go.Proofs.Ytbghchgmoiniiaa
open Go.RowKit
set_option linter.unusedVariables false
set_option linter.unusedSimpArgs false

theorem LevIs.own {w w' : World} {x v : Value} {A G C base k : Nat} {b r d m s l : Int} {zs : List Int} {xs : List Value} (h : LevIs w x A G C b r d m s l zs) (ho : w.ownsRow base 76 1 v k xs) (hg : w.grownBy w' v.ownBlock) : LevIs w' x A G C b r d m s l zs := by
  rcases h with ⟨h1, h2, h3⟩ | ⟨h1, h2, h3⟩
  · obtain ⟨cap, hG, -⟩ := h3.2.fields
    obtain ⟨cur, hc, -⟩ := h3.2.cells
    exact .inl ⟨h1, h2, h3.grown hg (Ne.symm (own_ne ho h3.1 (by decide))) (Ne.symm (own_ne ho hG (by decide))) (Ne.symm (own_ne ho hc (by decide)))⟩
  · obtain ⟨cap, hG, -⟩ := h3.grid.fields
    obtain ⟨cur, hc, -⟩ := h3.grid.cells
    exact .inr ⟨h1, h2, h3.grown hg (Ne.symm (own_ne ho h3.box (by decide))) (Ne.symm (own_ne ho hG (by decide))) (Ne.symm (own_ne ho hc (by decide)))⟩
theorem LevIs.far {w w' : World} {x : Value} {A G C g : Nat} {t : TypeId} {cs : Array Value} {b r d m s l : Int} {zs : List Int} (h : LevIs w x A G C b r d m s l zs) (hb : Blk w g t cs) (ht : 2 ≠ t ∧ 133 ≠ t ∧ 126 ≠ t ∧ 130 ≠ t) (hg : w.grownBy w' (some g)) : LevIs w' x A G C b r d m s l zs := by
  rcases h with ⟨h1, h2, h3⟩ | ⟨h1, h2, h3⟩
  · obtain ⟨cap, hG, -⟩ := h3.2.fields
    obtain ⟨cur, hc, -⟩ := h3.2.cells
    exact .inl ⟨h1, h2, h3.grown hg (by simpa using h3.1.ne_ hb ht.2.2.1) (by simpa using hG.ne_ hb ht.2.1) (by simpa using hc.ne_ hb ht.1)⟩
  · obtain ⟨cap, hG, -⟩ := h3.grid.fields
    obtain ⟨cur, hc, -⟩ := h3.grid.cells
    exact .inr ⟨h1, h2, h3.grown hg (by simpa using h3.box.ne_ hb ht.2.2.2) (by simpa using hG.ne_ hb ht.2.1) (by simpa using hc.ne_ hb ht.1)⟩
theorem LevIs.open_ {w : World} {x : Value} {A G C : Nat} {b r d m s l : Int} {zs : List Int} (h : LevIs w x A G C b r d m s l zs) : ∃ t, x = .iface t (.pointer (some ⟨A, 0, none⟩)) := by
  rcases h with ⟨h1, h2, h3⟩ | ⟨h1, h2, h3⟩
  · exact ⟨_, h2⟩
  · exact ⟨_, h2⟩
theorem LevIs.ltC {w : World} {x : Value} {A G C : Nat} {b r d m s l : Int} {zs : List Int} (h : LevIs w x A G C b r d m s l zs) : C < w.heap.size := by
  obtain ⟨cur, hc⟩ := h.cells
  exact hc.lt
def upN {α : Type} (f : Nat → α) (j : Nat) (x : α) : Nat → α := fun k => if k = j then x else f k
theorem upN_same {α : Type} (f : Nat → α) (j : Nat) (x : α) : upN f j x j = x := if_pos rfl
theorem upN_other {α : Type} (f : Nat → α) {j k : Nat} (x : α) (h : k ≠ j) : upN f j x k = f k := if_neg h
/-- j levels are laid in a row -/
structure LevsB (w : World) (base : Nat) (v : Value) (b r d m s : Int) (X : Nat → Value) (A G C : Nat → Nat) (Z : Nat → List Int) (j : Nat) : Prop where
  own : w.ownsRow base 76 1 v j ((List.range j).map X)
  lev : ∀ n, n < j → LevIs w (X n) (A n) (G n) (C n) b r d m s n (Z n)
  apart : ∀ n k, n < j → k < j → n ≠ k → C n ≠ C k
  low : ∀ n, n < j → base ≤ C n
theorem LevsB.kept {w w' : World} {base : Nat} {v : Value} {b r d m s : Int} {X : Nat → Value} {A G C : Nat → Nat} {Z : Nat → List Int} {j : Nat} (h : LevsB w base v b r d m s X A G C Z j) (hb : Below w.heap.size w w') : LevsB w' base v b r d m s X A G C Z j :=
  ⟨World.ownsRow.kept h.own (below_gr (row := none) hb) (by cases v.ownBlock <;> simp), fun n hn => (h.lev n hn).kept hb, h.apart, h.low⟩
theorem LevsB.zero (w : World) (base : Nat) (b r d m s : Int) (X : Nat → Value) (A G C : Nat → Nat) (Z : Nat → List Int) : LevsB w base (.slice none 0 0) b r d m s X A G C Z 0 :=
  ⟨World.ownsRow_nil _ _ _ _, fun n hn => by omega, fun n k hn => by omega, fun n hn => by omega⟩
theorem LevsB.push {w w' : World} {base : Nat} {v v' x : Value} {b r d m s : Int} {X : Nat → Value} {A G C : Nat → Nat} {Z : Nat → List Int} {j a g c : Nat} {zs : List Int} (h : LevsB w base v b r d m s X A G C Z j)
    (hl : LevIs w x a g c b r d m s j zs) (hc : base ≤ c) (hne : ∀ n, n < j → C n ≠ c) (hg : w.grownBy w' v.ownBlock) (ho : w'.ownsRow base 76 1 v' (j + 1) ((List.range j).map X ++ [x])) :
    LevsB w' base v' b r d m s (upN X j x) (upN A j a) (upN G j g) (upN C j c) (upN Z j zs) (j + 1) := by
  refine ⟨?_, fun n hn => ?_, fun n k hn hk e => ?_, fun n hn => ?_⟩
  · have e : (List.range (j + 1)).map (upN X j x) = (List.range j).map X ++ [x] := by
      rw [List.range_succ, List.map_append]
      congr 1
      · exact List.map_congr_left fun k hk => upN_other _ _ (by have := List.mem_range.1 hk; omega)
      · simp [upN]
    rw [e]; exact ho
  · by_cases e : n = j
    · subst e; rw [upN_same, upN_same, upN_same, upN_same, upN_same]; exact hl.own h.own hg
    · rw [upN_other _ _ e, upN_other _ _ e, upN_other _ _ e, upN_other _ _ e, upN_other _ _ e]; exact (h.lev n (by omega)).own h.own hg
  · by_cases e1 : n = j
    · subst e1; rw [upN_same, upN_other _ _ (Ne.symm e)]; exact Ne.symm (hne k (by omega))
    · by_cases e2 : k = j
      · subst e2; rw [upN_same, upN_other _ _ e1]; exact hne n (by omega)
      · rw [upN_other _ _ e1, upN_other _ _ e2]; exact h.apart n k (by omega) (by omega) e
  · by_cases e : n = j
    · subst e; rw [upN_same]; exact hc
    · rw [upN_other _ _ e]; exact h.low n (by omega)
/-- block S is a stack of a config, its levels read as Z -/
structure StIs (w : World) (base S L : Nat) (b r d m s : Int) (X : Nat → Value) (A G C : Nat → Nat) (Z : Nat → List Int) : Prop where
  box : ∃ cap : Nat, Blk w S 74 #[.int .i64 b, .int .i64 r, .int .i64 d, .int .i64 m, .int .u64 s, .slice (some ⟨L, 0, none⟩) (b.toNat + 1) cap] ∧ b.toNat + 1 ≤ cap
  right : rightB b r d m = true
  row : ∃ cur : Array Value, Blk w L 76 cur ∧ ∀ n, n ≤ b.toNat → cur[n]? = some (X n)
  lev : ∀ n, n ≤ b.toNat → LevIs w (X n) (A n) (G n) (C n) b r d m s n (Z n)
  apart : ∀ n k, n ≤ b.toNat → k ≤ b.toNat → n ≠ k → C n ≠ C k
  low : ∀ n, n ≤ b.toNat → base ≤ C n
theorem StIs.kept {w w' : World} {base S L : Nat} {b r d m s : Int} {X : Nat → Value} {A G C : Nat → Nat} {Z : Nat → List Int} (h : StIs w base S L b r d m s X A G C Z) (hb : Below w.heap.size w w') : StIs w' base S L b r d m s X A G C Z := by
  obtain ⟨cap, h1, h2⟩ := h.box
  obtain ⟨cur, h3, h4⟩ := h.row
  exact ⟨⟨cap, h1.kept hb, h2⟩, h.right, ⟨cur, h3.kept hb, h4⟩, fun n hn => (h.lev n hn).kept hb, h.apart, h.low⟩
theorem StIs.ltS {w : World} {base S L : Nat} {b r d m s : Int} {X : Nat → Value} {A G C : Nat → Nat} {Z : Nat → List Int} (h : StIs w base S L b r d m s X A G C Z) : S < w.heap.size := by
  obtain ⟨cap, h1, h2⟩ := h.box
  exact h1.lt
/-- a level's cells are laid anew -/
theorem StIs.put {w w' : World} {base S L : Nat} {b r d m s : Int} {X : Nat → Value} {A G C : Nat → Nat} {Z : Nat → List Int} (h : StIs w base S L b r d m s X A G C Z) {n : Nat} (hn : n ≤ b.toNat) (hg : w.grownBy w' (some (C n))) {zs : List Int}
    (hl : LevIs w' (X n) (A n) (G n) (C n) b r d m s n zs) : StIs w' base S L b r d m s X A G C (upN Z n zs) := by
  obtain ⟨cap, h1, h2⟩ := h.box
  obtain ⟨cur, h3, h4⟩ := h.row
  obtain ⟨cn, hc⟩ := (h.lev n hn).cells
  refine ⟨⟨cap, h1.grown hg (by simpa using h1.ne_ hc (by decide)), h2⟩, h.right, ⟨cur, h3.grown hg (by simpa using h3.ne_ hc (by decide)), h4⟩, fun k hk => ?_, h.apart, h.low⟩
  by_cases e : k = n
  · subst e; rw [upN_same]; exact hl
  · rw [upN_other _ _ e]; exact (h.lev k hk).other hg hc (h.apart k n hk hn e)
theorem StIs.setC {w : World} {base S L : Nat} {b r d m s : Int} {X : Nat → Value} {A G C : Nat → Nat} {Z Z' : Nat → List Int} (h : StIs w base S L b r d m s X A G C Z) (e : ∀ n, n ≤ b.toNat → Z n = Z' n) : StIs w base S L b r d m s X A G C Z' :=
  ⟨h.box, h.right, h.row, fun n hn => by rw [← e n hn]; exact h.lev n hn, h.apart, h.low⟩
theorem LevsB.row {w : World} {base : Nat} {v : Value} {b r d m s : Int} {X : Nat → Value} {A G C : Nat → Nat} {Z : Nat → List Int} {j : Nat} (h : LevsB w base v b r d m s X A G C Z j) (hj : 0 < j) : ∃ (L cap : Nat) (cur : Array Value), v = .slice (some ⟨L, 0, none⟩) j cap ∧ j ≤ cap ∧ base ≤ L ∧ Blk w L 76 cur ∧ ∀ n, n < j → cur[n]? = some (X n) := by
  rcases h.own.2 with ⟨rfl, h0⟩ | ⟨g, cap, cur, rfl, hb, hg, hnc, hcm, hsz, htake⟩
  · omega
  · refine ⟨g, cap, cur, rfl, hnc, hb, hg, fun n hn => ?_⟩
    have h2 : (cur.toList.take (j * 1))[n]? = ((List.range j).map X)[n]? := by rw [htake]
    rw [List.getElem?_take, if_pos (by omega)] at h2
    simpa [hn] using h2
theorem LevsB.stack {w : World} {base S : Nat} {v : Value} {r d m s : Int} {X : Nat → Value} {A G C : Nat → Nat} {Z : Nat → List Int} {n : Nat} (h : LevsB w base v (n : Int) r d m s X A G C Z (n + 1)) (hr : rightB (n : Int) r d m = true)
    (hs : Blk w S 74 #[.int .i64 (n : Int), .int .i64 r, .int .i64 d, .int .i64 m, .int .u64 s, .slice none 0 0]) : ∃ L, StIs (w.setCell ⟨S, 5, none⟩ v) base S L (n : Int) r d m s X A G C Z := by
  obtain ⟨L, cap, cur, rfl, hcap, hL, hrow, hcur⟩ := h.row (by omega)
  have hg := grown_set w S 5 (.slice (some ⟨L, 0, none⟩) (n + 1) cap)
  refine ⟨L, ⟨cap, by simpa using hs.set_ 5 (.slice (some ⟨L, 0, none⟩) (n + 1) cap), by simpa using hcap⟩, hr, ⟨cur, hrow.grown hg (by simpa using hrow.ne_ hs (by decide)), fun k hk => hcur k (by simp at hk; omega)⟩, fun k hk => (h.lev k (by simp at hk; omega)).far hs (by decide) hg, fun k q hk hq e => h.apart k q (by simp at hk; omega) (by simp at hq; omega) e, fun k hk => h.low k (by simp at hk; omega)⟩
def zeroZ (b r d m : Int) (n : Nat) : List Int := List.replicate (cellsN b r d m (n : Int)) 0
def StNewPost (w : World) (b r d m s : Int) (e : Ending) (w' : World) : Prop :=
  ∃ S L X A G C, e = .returned (.tuple #[.pointer (some ⟨S, 0, none⟩), .int .i64 0]) ∧ w.heap.size ≤ S ∧ StIs w' w.heap.size S L b r d m s X A G C (zeroZ b r d m) ∧ Below w.heap.size w w'
theorem Try.infoLv : (Try.prog.info? 76).map (fun i => (i.zero, i.size, i.bytes)) = some (some .nilIface, 1, 16) := by kernel_rfl
set_option maxRecDepth 100000 in
set_option maxHeartbeats 4000000 in
theorem stnew_no (b r d m s : Int) (hr : rightB b r d m = false) (w : World) :
    Calls Try.prog 14 #[.agg #[.int .i64 b, .int .i64 r, .int .i64 d, .int .i64 m, .int .u64 s]] w fun e w' => e = .returned (.tuple #[.pointer none, .int .i64 1]) ∧ Below w.heap.size w w' := by
  have PR := fun w => right_any b r d m s w
  rw [hr] at PR
  have PR := Lib.hid PR
  obtain ⟨g1, hb1, hsz1⟩ := news1 w (.cells #[.int .i64 b, .int .i64 r, .int .i64 d, .int .i64 m, .int .u64 s] 36)
  have hx1 : Blk _ w.heap.size 36 #[.int .i64 b, .int .i64 r, .int .i64 d, .int .i64 m, .int .u64 s] := g1
  have HB1 := Lib.hid hb1
  clear g1 hb1 hsz1 hr
  go_enter Try.func14, Try.ntmps14
  go_wp2_with (refine wpList_load_row rfl 36 _ rfl w.heap.size rfl 36 _ (0, 0) _ hx1 Try.underlying36 rfl (by kernel_rfl) ?_)
  with_reducible refine (PR.out _).mono ?_
  rintro e w2 ⟨rfl, hb⟩
  have HB2 := Lib.hid (btr HB1.out hb)
  clear hb
  go_wp2
  go_ret2
  exact ⟨rfl, HB2.out⟩
set_option maxRecDepth 100000 in
set_option maxHeartbeats 4000000 in
theorem stnew_yes (b r d m s : Int) (hr : rightB b r d m = true) (w : World) :
    Calls Try.prog 14 #[.agg #[.int .i64 b, .int .i64 r, .int .i64 d, .int .i64 m, .int .u64 s]] w (StNewPost w b r d m s) := by
  obtain ⟨i0', hi, hz0, hz1, hz2⟩ := info_parts Try.infoLv
  have PR := fun w => right_any b r d m s w
  rw [hr] at PR
  have PR := Lib.hid PR
  have HR := Lib.hid hr
  have hb59 := right_of hr
  obtain ⟨n, hn⟩ : ∃ n : Nat, b = (n : Int) := ⟨b.toNat, by omega⟩
  subst hn
  have hn59 : n ≤ 59 := by omega
  have PN := Lib.hid (fun (j : Nat) (hj : j ≤ n) w => lvnew_yes (n : Int) r d m s (j : Int) hr (by omega) (by omega) w)
  clear hb59 hr
  obtain ⟨g1, hb1, hsz1⟩ := news1 w (.cells #[.int .i64 (n : Int), .int .i64 r, .int .i64 d, .int .i64 m, .int .u64 s] 36)
  have hx1 : Blk _ w.heap.size 36 #[.int .i64 (n : Int), .int .i64 r, .int .i64 d, .int .i64 m, .int .u64 s] := g1
  have HB1 := Lib.hid hb1
  have HX1 := Lib.hid hx1
  clear g1 hb1 hsz1
  go_enter Try.func14, Try.ntmps14
  go_wp2_with (refine wpList_load_row rfl 36 _ rfl w.heap.size rfl 36 _ (0, 0) _ hx1 Try.underlying36 rfl (by kernel_rfl) ?_)
  with_reducible refine (PR.out _).mono ?_
  rintro e w2 ⟨rfl, hb⟩
  have HB2 := Lib.hid (btr HB1.out hb)
  have HX2 := Lib.hid (HX1.out.kept hb)
  clear hb hx1
  have q0 := HX2.out.cell 0
  simp at q0
  go_upto_region 5 with (refine wpList_load_row rfl 36 _ rfl w.heap.size rfl 36 _ (0, 0) _ HX2.out Try.underlying36 rfl (by kernel_rfl) ?_)
  have HSB := Lib.hid (Blk.new w2 74 #[.int .i64 (n : Int), .int .i64 r, .int .i64 d, .int .i64 m, .int .u64 s, .slice none 0 0])
  have HX3 := Lib.hid (HX2.out.alloc (.cells #[.int .i64 (n : Int), .int .i64 r, .int .i64 d, .int .i64 m, .int .u64 s, .slice none 0 0] 74))
  have HB3 := Lib.hid (HB2.out.alloc HB2.out.size (.cells #[.int .i64 (n : Int), .int .i64 r, .int .i64 d, .int .i64 m, .int .u64 s, .slice none 0 0] 74))
  have HSL : Hid (w.heap.size ≤ w2.heap.size) := Lib.hid HB2.out.size
  clear HX2 HB2 q0 HX1 HB1
  generalize w2.alloc (.cells #[.int .i64 (n : Int), .int .i64 r, .int .i64 d, .int .i64 m, .int .u64 s, .slice none 0 0] 74) = w3 at *
  generalize w2.heap.size = SB at *
  have q0 := HX3.out.cell 0
  simp at q0
  go_wp2_with fail
  clear q0
  go_loopw [5, 18] (fun v i wr => ∃ (j : Nat) (X : Nat → Value) (A G C : Nat → Nat), j ≤ n + 1 ∧ i = .int .i64 (j : Int) ∧ LevsB wr w.heap.size v (n : Int) r d m s X A G C (zeroZ (n : Int) r d m) j ∧ Blk wr w.heap.size 36 #[.int .i64 (n : Int), .int .i64 r, .int .i64 d, .int .i64 m, .int .u64 s] ∧ Blk wr SB 74 #[.int .i64 (n : Int), .int .i64 r, .int .i64 d, .int .i64 m, .int .u64 s, .slice none 0 0] ∧ Below w.heap.size w wr) (fun _ i _ => n + 1 - (intOf i).toNat)
  case atStart => exact ⟨0, fun _ => .nilIface, fun _ => 0, fun _ => 0, fun _ => 0, by omega, rfl, LevsB.zero _ _ _ _ _ _ _ _ _ _ _ _, HX3.out, HSB.out, HB3.out⟩
  case round =>
    obtain ⟨j, X, A, G, C, hj, rfl, hlv, hx, hs, hbel⟩ := hrel
    have HLV := Lib.hid hlv
    have HX := Lib.hid hx
    have HS := Lib.hid hs
    have HBL := Lib.hid hbel
    clear hlv hx hs hbel HX3 HSB HB3
    by_cases hlt : j < n + 1
    · have i0 : (0 : Int) ≤ (j : Int) := by omega
      have i1 : (j : Int) < (n : Int) + 1 := by omega
      have PL := Lib.hid (PN.out j (by omega))
      go_wp2_with (refine wpList_load_row rfl 36 _ rfl w.heap.size rfl 36 _ (0, 0) _ HX.out Try.underlying36 rfl (by kernel_rfl) ?_)
      with_reducible refine (PL.out _).mono ?_
      rintro e w4 ⟨x, A4, G4, C4, rfl, hC4, hl4, hb4⟩
      obtain ⟨tx, rfl⟩ := hl4.open_
      have HL4 := Lib.hid hl4
      have HC4 := Lib.hid hC4
      have HLV4 := Lib.hid (HLV.out.kept hb4)
      have HX4 := Lib.hid (HX.out.kept hb4)
      have HS4 := Lib.hid (HS.out.kept hb4)
      have HB4 := Lib.hid (btr HBL.out hb4)
      have hs4 := HB4.out.size
      have HLN : Hid (((List.range j).map X).length = j) := Lib.hid (by simp)
      have HCN : Hid (∀ k, k < j → C k ≠ C4) := Lib.hid (fun k hk => by have := (HLV.out.lev k hk).ltC; omega)
      have hc1 : j + 1 ≤ maxLen := by unfold maxLen; omega
      have hc4 : (j + 1) * 16 ≤ 140737488355328 := by omega
      clear hl4 hC4 hb4 PL
      go_wp2_with (at_builtin; refine wpList_append_own_at _ rfl _ _ 72 rfl w.heap.size 76 i0' .nilIface 1 16 Try.underlying72 hi hz0 hz1 hz2 rfl (by decide) _ j _ rfl (World.ownsRow.alloc HLV4.out.own _) ⟨w4.heap.size, 0, none⟩ 1 1 [.iface tx (.pointer (some ⟨A4, 0, none⟩))] rfl rfl (cell_one_new _ _ _) ?c2 hc1 hc4 ?c5 ?_)
      case c2 => simp [Value.oneCell']
      case c5 => simp; omega
      intro v8 w8 hown' hgrow hnil' hq9
      have HAL : Hid (Below w4.heap.size w4 (w4.alloc (.cells #[.iface tx (.pointer (some ⟨A4, 0, none⟩))] 76))) := Lib.hid ((Below.refl _ _).alloc (Nat.le_refl _) _)
      have HLV8 := Lib.hid ((HLV4.out.kept HAL.out).push (HL4.out.kept HAL.out) (Nat.le_trans HBL.out.size HC4.out) HCN.out hgrow hown')
      have HX8 : Hid (Blk w8 w.heap.size 36 #[.int .i64 (n : Int), .int .i64 r, .int .i64 d, .int .i64 m, .int .u64 s]) := Lib.hid ((HX4.out.kept HAL.out).grown hgrow (Ne.symm (own_ne (HLV4.out.kept HAL.out).own (HX4.out.kept HAL.out) (by decide))))
      have HS8 : Hid (Blk w8 SB 74 #[.int .i64 (n : Int), .int .i64 r, .int .i64 d, .int .i64 m, .int .u64 s, .slice none 0 0]) := Lib.hid ((HS4.out.kept HAL.out).grown hgrow (Ne.symm (own_ne (HLV4.out.kept HAL.out).own (HS4.out.kept HAL.out) (by decide))))
      have HB8 : Hid (Below w.heap.size w w8) := Lib.hid ((HB4.out.alloc HB4.out.size _).grown hgrow (by simp; omega) (fun k e => (HLV4.out.own.lt k e).1))
      have HZ8 : Hid (upN (zeroZ (n : Int) r d m) j (List.replicate (cellsN (n : Int) r d m (j : Int)) 0) = zeroZ (n : Int) r d m) := Lib.hid (by
        funext k
        by_cases e : k = j
        · subst e; exact upN_same _ _ _
        · exact upN_other _ _ e)
      rw [HZ8.out] at HLV8
      clear hown' hgrow hnil' hq9 HAL HL4 HZ8
      go_wp2
      go_roundw
      case rel => exact ⟨j + 1, _, _, _, _, by omega, by go_num, HLV8.out, HX8.out, HS8.out, HB8.out⟩
      case measure => simp [intOf]; omega
    · obtain rfl : j = n + 1 := by omega
      obtain ⟨L, hst⟩ := HLV.out.stack HR.out HS.out
      obtain ⟨L2, cap, cur, rfl, -⟩ := HLV.out.row (by omega)
      have HST := Lib.hid hst
      have HBS : Hid (Below w.heap.size w (wr.setCell ⟨SB, 5, none⟩ (.slice (some ⟨L2, 0, none⟩) (n + 1) cap))) := Lib.hid (HBL.out.setCell HSL.out _)
      have f5 := HS.out.frozen 5
      have c5 := HS.out.cell 5
      simp at c5
      have i1 : ¬ (((n + 1 : Nat) : Int) < (n : Int) + 1) := by omega
      clear hst hlt HLV
      go_wp2_with fail
      go_ret2
      exact ⟨SB, L, X, A, G, C, rfl, HSL.out, HST.out, HBS.out⟩
end Go.Proofs.Ytbghchgmoiniiaa
