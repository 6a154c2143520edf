/-
  The walks of exact: Check, Update, Config, Load, Copy. Conditions: none beyond those stated at each theorem.
-/
import Derived.Test.YtcfmipgdhhogcaaExa
import Derived.Test.YtcfmipgdhhogcaaLngX
namespace Go.Proofs.Ytcfmipgdhhogcaa
open Go.RowKit
set_option linter.unusedVariables false
set_option linter.unusedSimpArgs false

theorem ArrIs.kept {w w' : World} {A G C : Nat} {b r d m s l : Int} {K : Nat} {zs : List Int} (h : ArrIs w A G C b r d m s l K zs) (hb : Below w.heap.size w w') : ArrIs w' A G C b r d m s l K zs := ⟨h.1.kept hb, h.2.kept hb⟩
theorem ArrIs.ltA {w : World} {A G C : Nat} {b r d m s l : Int} {K : Nat} {zs : List Int} (h : ArrIs w A G C b r d m s l K zs) : A < w.heap.size := h.1.lt
theorem ArrIs.grown {w w' : World} {A G C : Nat} {b r d m s l : Int} {K : Nat} {zs : List Int} {row : Option Nat} (h : ArrIs w A G C b r d m s l K zs) (hb : w.grownBy w' row) (h0 : some A ≠ row) (h1 : some G ≠ row) (h2 : some C ≠ row) : ArrIs w' A G C b r d m s l K zs := ⟨h.1.grown hb h0, h.2.grown hb h1 h2⟩
theorem ArrIs.drewN {w : World} {A G C : Nat} {b r d m s l : Int} {K : Nat} {zs : List Int} (h : ArrIs w A G C b r d m s l K zs) (n : Nat) : ArrIs (w.drewN n) A G C b r d m s l K zs := h.kept (below_drewN (Below.refl _ _) n)
theorem ArrIs.neAC {w : World} {A G C : Nat} {b r d m s l : Int} {K : Nat} {zs : List Int} (h : ArrIs w A G C b r d m s l K zs) : A ≠ C := by
  obtain ⟨cur, hc, _⟩ := h.2.cells
  exact h.1.ne_ hc (by decide)
/-- the same array, its numbers others, laid by what changes the numbers' block alone -/
theorem ArrIs.put {w w' : World} {A G C : Nat} {b r d m s l : Int} {K : Nat} {zs zs' : List Int} (h : ArrIs w A G C b r d m s l K zs) (hb : w.grownBy w' (some C)) (hg : GridIs w' G C 1 K zs') : ArrIs w' A G C b r d m s l K zs' := ⟨h.1.grown hb (by simpa using h.neAC), hg⟩

instance (x : Int) : Decidable (In64 x) := by unfold In64; infer_instance
def chkI (K : Nat) (m : Int) (zs : List Int) (k : Nat) (d : Int) : Int := if K ≤ k then 2 else if m = 2 ∧ d < 0 then 3 else if In64 (cellD zs k + d) then 0 else 4
def updZ (K : Nat) (m : Int) (zs : List Int) (k : Nat) (d : Int) : List Int := if chkI K m zs k d = 0 then zs.set k (cellD zs k + d) else zs
theorem fitC {zs : List Int} (h : Fit zs) (i : Nat) : In64 (cellD zs i) := by
  unfold cellD
  cases hz : zs[i]? with
  | none => exact ⟨by simp, by simp⟩
  | some x => exact h.get hz
theorem ret_i64q {a b : Int} (h : a = b) : Ending.returned (.int .i64 a) = .returned (.int .i64 b) := by rw [h]

set_option maxHeartbeats 2000000 in
theorem excheck (w : World) (A G C : Nat) (b r d m s l : Int) (K k : Nat) (zs : List Int) (x : Int) (h : ArrIs w A G C b r d m s l K zs) (hx : In64 x) (hk64 : k < 18446744073709551616) :
    Calls Try.prog 25 #[.pointer (some ⟨A, 0, none⟩), .int .u64 (k : Int), .int .i64 x] w fun e w' => e = .returned (.int .i64 (chkI K m zs k x)) ∧ Below w.heap.size w w' := by
  have c3 := h.1.cell 3
  have c6 := h.1.cell 6
  simp at c3 c6
  have hw := h.2.width
  have P := Lib.hid (width_any w G C 1 K zs h.2)
  have e2 : IntKind.u64.wrap (K : Int) = (K : Int) := by rw [wrapU_mod]; omega
  by_cases hlt : k < K
  · have P2 : Calls Try.prog 36 #[.pointer (some ⟨G, 0, none⟩), .int .i64 0, .int .i64 (k : Int)] w fun e w' => e = .returned (.int .i64 (cellD zs k)) ∧ w = w' := by
      have := at_in w G C 1 K 0 k zs h.2 (by decide) hlt
      simpa using this
    have P2 := Lib.hid P2
    have hz := fitC h.2.fit k
    have e1 : decide ((K : Int) ≤ (k : Int)) = false := decide_eq_false (by omega)
    have e1' : decide (K ≤ k) = false := decide_eq_false (by omega)
    have e3 : IntKind.i64.wrap (k : Int) = (k : Int) := by simp [IntKind.wrap, IntKind.bits, IntKind.signed]; split <;> omega
    obtain ⟨q, hq⟩ : ∃ q, q = chkI K m zs k x := ⟨_, rfl⟩
    rw [← hq]
    unfold chkI at hq
    rw [if_neg (by omega)] at hq
    clear h hlt hk64
    by_cases hm : m = 2 ∧ x < 0
    · obtain ⟨rfl, hx0⟩ := hm
      have e4 : decide (x < 0) = true := decide_eq_true hx0
      have HQ : Hid (q = 3) := by show _ = _; rw [hq, if_pos ⟨rfl, hx0⟩]
      clear hq hx0
      go_enter Try.func25, Try.ntmps25
      go_wp2_with fail
      with_reducible refine P.out.mono ?_
      rintro e w2 ⟨rfl, hw2⟩
      subst hw2
      go_wp2
      go_ret
      exact ⟨ret_i64q HQ.out.symm, Below.refl _ _⟩
    · rw [if_neg hm] at hq
      have hdec : (m ≠ 2 ∧ (m == 2) = false ∧ decide (m = 2) = false) ∨ ((m == 2) = true ∧ decide (m = 2) = true ∧ m = 2 ∧ decide (x < 0) = false) := by
        by_cases h2 : m = 2
        · right; exact ⟨by simp [h2], by simp [h2], h2, decide_eq_false (fun hh => hm ⟨h2, hh⟩)⟩
        · left; exact ⟨h2, by simp [h2], by simp [h2]⟩
      clear hm
      have P3 := fun w => opok_plus (cellD zs k) x w hz hx
      by_cases h64 : In64 (cellD zs k + x)
      · have P3 := fun w => (P3 w).1 h64
        have P3 := Lib.hid P3
        have HQ : Hid (q = 0) := by show _ = _; rw [hq, if_pos h64]
        clear hq h64 hz
        generalize cellD zs k = z at *
        rcases hdec with ⟨hm2, d1, d2⟩ | ⟨d1, d2, hm2, d3⟩
        all_goals
          first | subst hm2 | skip
          go_enter Try.func25, Try.ntmps25
          go_wp2_with fail
          with_reducible refine P.out.mono ?_
          rintro e w2 ⟨rfl, hw2⟩
          subst hw2
          go_wp2_with fail
          with_reducible refine P2.out.mono ?_
          rintro e w2 ⟨rfl, hw2⟩
          subst hw2
          go_wp2_with fail
          with_reducible refine (P3.out _).mono ?_
          rintro e w3 ⟨rfl, hb⟩
          have HB := Lib.hid hb
          clear hb
          go_wp2
          go_ret
          exact ⟨ret_i64q HQ.out.symm, HB.out⟩
      · have P3 := fun w => (P3 w).2 h64
        have P3 := Lib.hid P3
        have HQ : Hid (q = 4) := by show _ = _; rw [hq, if_neg h64]
        clear hq h64 hz
        generalize cellD zs k = z at *
        rcases hdec with ⟨hm2, d1, d2⟩ | ⟨d1, d2, hm2, d3⟩
        all_goals
          first | subst hm2 | skip
          go_enter Try.func25, Try.ntmps25
          go_wp2_with fail
          with_reducible refine P.out.mono ?_
          rintro e w2 ⟨rfl, hw2⟩
          subst hw2
          go_wp2_with fail
          with_reducible refine P2.out.mono ?_
          rintro e w2 ⟨rfl, hw2⟩
          subst hw2
          go_wp2_with fail
          with_reducible refine (P3.out _).mono ?_
          rintro e w3 ⟨rfl, hb⟩
          have HB := Lib.hid hb
          clear hb
          go_wp2
          go_ret
          exact ⟨ret_i64q HQ.out.symm, HB.out⟩
  · have HQ : Hid (chkI K m zs k x = 2) := by show _ = _; unfold chkI; rw [if_pos (by omega)]
    have e1 : decide ((K : Int) ≤ (k : Int)) = true := decide_eq_true (by omega)
    have e1' : decide (K ≤ k) = true := decide_eq_true (by omega)
    clear h hlt
    go_enter Try.func25, Try.ntmps25
    go_wp2_with fail
    with_reducible refine P.out.mono ?_
    rintro e w2 ⟨rfl, hw2⟩
    subst hw2
    go_wp2
    go_ret
    exact ⟨ret_i64q HQ.out.symm, Below.refl _ _⟩

theorem exconfig (w : World) (A G C : Nat) (b r d m s l : Int) (K : Nat) (zs : List Int) (h : ArrIs w A G C b r d m s l K zs) :
    Calls Try.prog 13 #[.pointer (some ⟨A, 0, none⟩)] w fun e w' => e = .returned (.agg #[.int .i64 b, .int .i64 r, .int .i64 d, .int .i64 m, .int .u64 s]) ∧ Below w.heap.size w w' := by
  obtain ⟨g1, hb1, hsz1⟩ := news1 w (.cells #[.int .i64 0, .int .i64 0, .int .i64 0, .int .i64 0, .int .u64 0] 24)
  have hx1 : Blk _ w.heap.size 24 #[.int .i64 0, .int .i64 0, .int .i64 0, .int .i64 0, .int .u64 0] := g1
  have hA := h.1.kept hb1
  have c0 := hA.cell 0
  have c1 := hA.cell 1
  have c2 := hA.cell 2
  have c3 := hA.cell 3
  have c4 := hA.cell 4
  simp at c0 c1 c2 c3 c4
  have HX1 := Lib.hid hx1
  have HB1 := Lib.hid hb1
  have n0 := hx1.cell 0
  have n1 := hx1.cell 1
  have n2 := hx1.cell 2
  have n3 := hx1.cell 3
  have n4 := hx1.cell 4
  simp at n0 n1 n2 n3 n4
  have f0 := hx1.frozen 0
  have f1 := hx1.frozen 1
  have f2 := hx1.frozen 2
  have f3 := hx1.frozen 3
  have f4 := hx1.frozen 4
  clear hA hx1 hb1 g1 hsz1 h
  go_enter Try.func13, Try.ntmps13
  go_wp2_with fail
  refine bodyPost_ret (v := .agg #[.int .i64 b, .int .i64 r, .int .i64 d, .int .i64 m, .int .u64 s]) (results_cell_row rfl _ _ w.heap.size 24 _ (0, 0) _ rfl (heap_alloc_new w _) Try.underlying24 rfl (by kernel_rfl)) rfl ⟨rfl, ?_⟩
  exact (Below.refl _ _).alloc (Nat.le_refl _) _

def UpdPost (w : World) (A G C : Nat) (b r d m s l : Int) (K : Nat) (zs : List Int) (k : Nat) (x : Int) (e : Ending) (w' : World) : Prop :=
  e = .returned (.int .i64 (chkI K m zs k x)) ∧ ArrIs w' A G C b r d m s l K (updZ K m zs k x) ∧ w.grownBy w' (some C)
theorem below_gr {w w' : World} {row : Option Nat} (h : Below w.heap.size w w') : w.grownBy w' row := ⟨h.os, h.tape, h.output, h.size, fun k hk _ => h.block k hk⟩
theorem gr_trans {w w1 w2 : World} {row : Option Nat} (h : w.grownBy w1 row) (k : w1.grownBy w2 row) : w.grownBy w2 row :=
  ⟨k.os.trans h.os, k.tape.trans h.tape, k.output.trans h.output, Nat.le_trans h.size k.size, fun j hj hne => (k.block j (Nat.lt_of_lt_of_le hj h.size) hne).trans (h.block j hj hne)⟩
theorem chkI_ok {K : Nat} {m : Int} {zs : List Int} {k : Nat} {x : Int} (h : chkI K m zs k x = 0) : k < K ∧ In64 (cellD zs k + x) := by
  unfold chkI at h
  split at h
  · omega
  split at h
  · omega
  split at h
  · exact ⟨by omega, by assumption⟩
  · omega

set_option maxRecDepth 100000 in
set_option maxHeartbeats 4000000 in
theorem exupdate (w : World) (A G C : Nat) (b r d m s l : Int) (K k : Nat) (zs : List Int) (x : Int) (h : ArrIs w A G C b r d m s l K zs) (hx : In64 x) (hk64 : k < 18446744073709551616) :
    Calls Try.prog 17 #[.pointer (some ⟨A, 0, none⟩), .int .u64 (k : Int), .int .i64 x] w (UpdPost w A G C b r d m s l K zs k x) := by
  have PC := excheck w A G C b r d m s l K k zs x h hx hk64
  by_cases hc : chkI K m zs k x = 0
  · obtain ⟨hlt, h64⟩ := chkI_ok hc
    have hW := h.2.width
    have HU : Hid (UpdPost w A G C b r d m s l K zs k x = fun e w' => e = .returned (.int .i64 0) ∧ ArrIs w' A G C b r d m s l K (zs.set k (cellD zs k + x)) ∧ w.grownBy w' (some C)) := Lib.hid (by
      unfold UpdPost updZ; simp only [hc, if_pos])
    rw [HU.out]
    rw [hc] at PC
    have PC := Lib.hid PC
    have HA := Lib.hid h
    have P2 : Hid (∀ w', GridIs w' G C 1 K zs → Calls Try.prog 36 #[.pointer (some ⟨G, 0, none⟩), .int .i64 0, .int .i64 (k : Int)] w' fun e w'' => e = .returned (.int .i64 (cellD zs k)) ∧ w' = w'') := Lib.hid (fun w' h' => by
      have := at_in w' G C 1 K 0 k zs h' (by decide) hlt
      simpa using this)
    have P3 : Hid (∀ w', GridIs w' G C 1 K zs → Calls Try.prog 35 #[.pointer (some ⟨G, 0, none⟩), .int .i64 0, .int .i64 (k : Int), .int .i64 (cellD zs k + x)] w' fun e w'' => e = .returned (.bool true) ∧ w'' = w'.setCell ⟨C, k, none⟩ (.int .i64 (cellD zs k + x))) := Lib.hid (fun w' h' => by
      have := put_in w' G C 1 K 0 k (cellD zs k + x) zs h' (by decide) hlt
      simpa using this)
    have hAC : A ≠ C := h.neAC
    have e3 : IntKind.i64.wrap (k : Int) = (k : Int) := by simp [IntKind.wrap, IntKind.bits, IntKind.signed]; split <;> omega
    have H64 := Lib.hid h64
    have e5 : wrap64 (cellD zs k + x) = cellD zs k + x := by unfold wrap64; unfold In64 at h64; omega
    have e6 : IntKind.i64.wrap (cellD zs k + x) = cellD zs k + x := wrapI_of _ h64.1 h64.2
    clear h hlt h64 hk64 hc hW HU hx
    generalize hz : cellD zs k = z at *
    have HZ := Lib.hid hz
    clear hz
    go_enter Try.func17, Try.ntmps17
    go_wp2_with fail
    with_reducible refine PC.out.mono ?_
    rintro e w2 ⟨rfl, hb⟩
    have HA2 := Lib.hid (HA.out.kept hb)
    have HG2 : Hid (w.grownBy w2 (some C)) := Lib.hid (below_gr hb)
    clear hb
    go_wp2_with fail
    refine wp_region_held_drew (S := fun w' => Blk w' A 67 #[.int .i64 b, .int .i64 r, .int .i64 d, .int .i64 m, .int .u64 s, .int .i64 l, .pointer (some ⟨G, 0, none⟩)]) (by kernel_rfl) (by exact HA2.out.1.drewN 1) (fun hHeld => ?_)
    refine wpAnyH_take (i := 0) (v := ?_) rfl (by kernel_rfl) (by kernel_rfl) (by kernel_rfl) (fun _ _ _ h => h) (Or.inl ⟨by rfl, ?_⟩) (by assumption) ?_
    rotate_left
    · intro w hSw
      try dsimp only at hSw
      go_simp
      try with_reducible rfl
    simp only [Act.put, List.setIfInBounds_toArray, List.set_cons_zero, List.set_cons_succ, List.getElem_toArray, List.getElem_cons_zero, List.getElem_cons_succ]
    refine wpAnyH_take (i := 1) (v := ?_) rfl (by kernel_rfl) (by kernel_rfl) (by kernel_rfl) (fun _ _ _ h => h) (Or.inl ⟨by rfl, ?_⟩) (by assumption) ?_
    rotate_left
    · intro w hSw
      try dsimp only at hSw
      go_simp
      try with_reducible rfl
    simp only [Act.put, List.setIfInBounds_toArray, List.set_cons_zero, List.set_cons_succ, List.getElem_toArray, List.getElem_cons_zero, List.getElem_cons_succ]
    refine wpAnyH_take (i := 2) (v := ?_) rfl (by kernel_rfl) (by kernel_rfl) (by kernel_rfl) (fun _ _ _ h => h) (Or.inl ⟨by rfl, ?_⟩) (by assumption) ?_
    rotate_left
    · intro w hSw
      try dsimp only at hSw
      go_simp
      try with_reducible rfl
    simp only [Act.put, List.setIfInBounds_toArray, List.set_cons_zero, List.set_cons_succ, List.getElem_toArray, List.getElem_cons_zero, List.getElem_cons_succ]
    refine wpAnyH_take (i := 3) (v := ?_) rfl (by kernel_rfl) (by kernel_rfl) (by kernel_rfl) (fun _ _ _ h => h) (Or.inl ⟨by rfl, ?_⟩) (by assumption) ?_
    rotate_left
    · intro w hSw
      have q6 := hSw.cell 6
      simp at q6
      go_simp
      try with_reducible rfl
    simp only [Act.put, List.setIfInBounds_toArray, List.set_cons_zero, List.set_cons_succ, List.getElem_toArray, List.getElem_cons_zero, List.getElem_cons_succ]
    refine wpAnyH_take (i := 4) (v := ?_) rfl (by kernel_rfl) (by kernel_rfl) (by kernel_rfl) (fun _ _ _ h => h) (Or.inl ⟨by rfl, ?_⟩) (by assumption) ?_
    rotate_left
    · intro w hSw
      try dsimp only at hSw
      go_simp
      try with_reducible rfl
    simp only [Act.put, List.setIfInBounds_toArray, List.set_cons_zero, List.set_cons_succ, List.getElem_toArray, List.getElem_cons_zero, List.getElem_cons_succ]
    refine wpAnyH_take (i := 5) (v := ?_) rfl (by kernel_rfl) (by kernel_rfl) (by kernel_rfl) (fun _ _ _ h => h) (Or.inl ⟨by rfl, ?_⟩) (by assumption) ?_
    rotate_left
    · intro w hSw
      try dsimp only at hSw
      go_simp
      try with_reducible rfl
    simp only [Act.put, List.setIfInBounds_toArray, List.set_cons_zero, List.set_cons_succ, List.getElem_toArray, List.getElem_cons_zero, List.getElem_cons_succ]
    refine wpAnyH_take (i := 6) (v := ?_) rfl (by kernel_rfl) (by kernel_rfl) (by kernel_rfl) (fun _ _ _ h => h) (Or.inl ⟨by rfl, ?_⟩) (by assumption) ?_
    rotate_left
    · intro w hSw
      try dsimp only at hSw
      go_simp
      try with_reducible rfl
    simp only [Act.put, List.setIfInBounds_toArray, List.set_cons_zero, List.set_cons_succ, List.getElem_toArray, List.getElem_cons_zero, List.getElem_cons_succ]
    refine wpAnyH_take (i := 7) (v := ?_) rfl (by kernel_rfl) (by kernel_rfl) (by kernel_rfl) (fun _ _ _ h => h) (Or.inl ⟨by rfl, ?_⟩) (by assumption) ?_
    rotate_left
    · intro w hSw
      try dsimp only at hSw
      go_simp
      try with_reducible rfl
    simp only [Act.put, List.setIfInBounds_toArray, List.set_cons_zero, List.set_cons_succ, List.getElem_toArray, List.getElem_cons_zero, List.getElem_cons_succ]
    refine wpAnyH_take (i := 8) (v := ?_) rfl (by kernel_rfl) (by kernel_rfl) (by kernel_rfl) (fun _ _ _ h => h) (Or.inl ⟨by rfl, ?_⟩) (by assumption) ?_
    rotate_left
    · intro w hSw
      try dsimp only at hSw
      go_simp
      try with_reducible rfl
    simp only [Act.put, List.setIfInBounds_toArray, List.set_cons_zero, List.set_cons_succ, List.getElem_toArray, List.getElem_cons_zero, List.getElem_cons_succ]
    refine wpAnyH_take (i := 9) (v := ?_) rfl (by kernel_rfl) (by kernel_rfl) (by kernel_rfl) (fun _ _ _ h => h) (Or.inl ⟨by rfl, ?_⟩) (by assumption) ?_
    rotate_left
    · intro w hSw
      have q6 := hSw.cell 6
      simp at q6
      go_simp
      try with_reducible rfl
    simp only [Act.put, List.setIfInBounds_toArray, List.set_cons_zero, List.set_cons_succ, List.getElem_toArray, List.getElem_cons_zero, List.getElem_cons_succ]
    refine wpAnyH_take (i := 10) (v := ?_) rfl (by kernel_rfl) (by kernel_rfl) (by kernel_rfl) (fun _ _ _ h => h) (Or.inl ⟨by rfl, ?_⟩) (by assumption) ?_
    rotate_left
    · intro w hSw
      try dsimp only at hSw
      go_simp
      try with_reducible rfl
    simp only [Act.put, List.setIfInBounds_toArray, List.set_cons_zero, List.set_cons_succ, List.getElem_toArray, List.getElem_cons_zero, List.getElem_cons_succ]
    refine wpAnyH_take (i := 11) (v := ?_) rfl (by kernel_rfl) (by kernel_rfl) (by kernel_rfl) (fun _ _ _ h => h) (Or.inl ⟨by rfl, ?_⟩) (by assumption) ?_
    rotate_left
    · intro w hSw
      try dsimp only at hSw
      go_simp
      try with_reducible rfl
    simp only [Act.put, List.setIfInBounds_toArray, List.set_cons_zero, List.set_cons_succ, List.getElem_toArray, List.getElem_cons_zero, List.getElem_cons_succ]
    refine wpAnyH_take (i := 13) (v := ?_) rfl (by kernel_rfl) (by kernel_rfl) (by kernel_rfl) (fun _ _ _ h => h) (Or.inl ⟨by rfl, ?_⟩) (by assumption) ?_
    rotate_left
    · intro w hSw
      try dsimp only at hSw
      go_simp
      try with_reducible rfl
    simp only [Act.put, List.setIfInBounds_toArray, List.set_cons_zero, List.set_cons_succ, List.getElem_toArray, List.getElem_cons_zero, List.getElem_cons_succ]
    refine wpAnyH_ready (rs := [12]) (by kernel_rfl) (by simp) ?_
    refine AllReadyH.cons rfl (fun Kc hKc => ?_) AllReadyH.nil
    go_simp
    go_wp2_with (first | (go_at_call 36; refine (P2.out _ (HA2.out.2.drewN 1)).mono ?_; rintro e w' ⟨rfl, hw'⟩; subst hw') | (go_at_call 35; refine (P3.out _ (HA2.out.2.drewN 1)).mono ?_; rintro e w5 ⟨rfl, hw5⟩; have HW5 := Lib.hid hw5; clear hw5))
    refine hKc.out _ _ ?_ (fun hHeld => ?_)
    · first | exact hHeld | (rw [HW5.out]; exact hHeld.far hAC _)
    clear hKc Kc
    refine wpAnyH_take (i := 14) (v := ?_) rfl (by kernel_rfl) (by kernel_rfl) (by kernel_rfl) (fun _ _ _ h => h) (Or.inl ⟨by rfl, ?_⟩) (by assumption) ?_
    rotate_left
    · intro w hSw
      try dsimp only at hSw
      go_simp
      try with_reducible rfl
    simp only [Act.put, List.setIfInBounds_toArray, List.set_cons_zero, List.set_cons_succ, List.getElem_toArray, List.getElem_cons_zero, List.getElem_cons_succ]
    refine wpAnyH_ready (rs := [15]) (by kernel_rfl) (by simp) ?_
    refine AllReadyH.cons rfl (fun Kc hKc => ?_) AllReadyH.nil
    go_simp
    go_wp2_with (first | (go_at_call 36; refine (P2.out _ (HA2.out.2.drewN 1)).mono ?_; rintro e w' ⟨rfl, hw'⟩; subst hw') | (go_at_call 35; refine (P3.out _ (HA2.out.2.drewN 1)).mono ?_; rintro e w5 ⟨rfl, hw5⟩; have HW5 := Lib.hid hw5; clear hw5))
    refine hKc.out _ _ ?_ (fun hHeld => ?_)
    · first | exact hHeld | (rw [HW5.out]; exact hHeld.far hAC _)
    clear hKc Kc
    refine wpAnyH_done (by kernel_rfl) ?_ _
    clear hHeld
    go_wp2
    go_ret
    refine ⟨rfl, ?_, ?_⟩
    · rw [HW5.out]
      exact (HA2.out.drewN 1).put (grown_set _ _ _ _) ((HA2.out.2.drewN 1).set k _ H64.out.1 H64.out.2)
    · rw [HW5.out]
      exact gr_trans HG2.out (gr_trans (below_gr (below_drewN (Below.refl _ _) 1)) (grown_set _ _ _ _))
  · have HU : Hid (UpdPost w A G C b r d m s l K zs k x = fun e w' => e = .returned (.int .i64 (chkI K m zs k x)) ∧ ArrIs w' A G C b r d m s l K zs ∧ w.grownBy w' (some C)) := Lib.hid (by
      unfold UpdPost updZ; simp only [if_neg hc])
    rw [HU.out]
    have PC := Lib.hid PC
    have HA := Lib.hid h
    generalize chkI K m zs k x = q at *
    have d1 : (q == 0) = false := by simpa using hc
    have d2 : decide (q = 0) = false := by simpa using hc
    clear h hk64 HU hx
    go_enter Try.func17, Try.ntmps17
    go_wp2_with fail
    with_reducible refine PC.out.mono ?_
    rintro e w2 ⟨rfl, hb⟩
    have HA2 := Lib.hid (HA.out.kept hb)
    have HG2 : Hid (w.grownBy w2 (some C)) := Lib.hid (below_gr hb)
    clear hb
    go_wp2
    go_ret
    exact ⟨rfl, HA2.out, HG2.out⟩
end Go.Proofs.Ytcfmipgdhhogcaa
