/-
  The walks of shape.Columns with its closure. Conditions: the arguments fit their kinds.
-/
import Derived.Test.YtfjhecgicemoeaaShpX
import Derived.Test.YtfjhecgicemoeaaHsW
import Derived.Test.YtfjhecgicemoeaaSdW
import Derived.Deep.OwnRows
import Derived.OwnWalk
import Derived.Deep.RegionHeld3
namespace Go.Proofs.Ytfjhecgicemoeaa
open Go.RowKit
set_option linter.unusedVariables false
set_option linter.unusedSimpArgs false

theorem rowKept {w w' : World} {b : Nat} {t : TypeId} {n : Nat} {f : Nat → Value} (h : w.rowIs b t n f) (hb : Below w.heap.size w w') : w'.rowIs b t n f := h.of_block (hb.block b h.lt)
theorem ret_i64q {a b : Int} (h : a = b) : Ending.returned (.int .i64 a) = .returned (.int .i64 b) := by rw [h]

/-- the three boxes that the closure of Columns has captured: the config, the level, the key -/
structure Caps (w : World) (A B C : Nat) (b r d m s l k : Int) : Prop where
  cfg : Blk w A 24 #[.int .i64 b, .int .i64 r, .int .i64 d, .int .i64 m, .int .u64 s]
  lev : Blk w B 3 #[.int .i64 l]
  key : Blk w C 22 #[.int .u64 k]
theorem Caps.kept {w w' : World} {A B C : Nat} {b r d m s l k : Int} (h : Caps w A B C b r d m s l k) (hb : Below w.heap.size w w') : Caps w' A B C b r d m s l k :=
  ⟨h.cfg.kept hb, h.lev.kept hb, h.key.kept hb⟩

theorem Caps.cells {w : World} {A B C : Nat} {b r d m s l k : Int} (h : Caps w A B C b r d m s l k) :
    (w.cell? ⟨A, 0, none⟩ = some (.int .i64 b) ∧ w.cell? ⟨A, 1, none⟩ = some (.int .i64 r) ∧ w.cell? ⟨A, 2, none⟩ = some (.int .i64 d) ∧ w.cell? ⟨A, 3, none⟩ = some (.int .i64 m) ∧ w.cell? ⟨A, 4, none⟩ = some (.int .u64 s)) ∧
    w.cell? ⟨B, 0, none⟩ = some (.int .i64 l) ∧ w.cell? ⟨C, 0, none⟩ = some (.int .u64 k) := ⟨box_cells h.cfg, h.lev.cell 0, h.key.cell 0⟩
theorem Caps.drew {w : World} {A B C : Nat} {b r d m s l k : Int} (h : Caps w A B C b r d m s l k) : Caps w.drew A B C b r d m s l k := ⟨h.cfg, h.lev, h.key⟩
theorem col1_any (A B C : Nat) (b r d m s l k i : Int) (s0 : 0 ≤ s) (s1 : s ≤ 18446744073709551615) (k0 : 0 ≤ k) (k1 : k ≤ 18446744073709551615) (l0 : 0 ≤ l) (l1 : l ≤ 59) (i0 : 0 ≤ i) (i1 : i ≤ 7) (d0 : 1 ≤ d) (d1 : d ≤ 9223372036854775807) (w : World)
    (hC : Caps w A B C b r d m s l k) :
    Calls Try.prog 48 #[.int .i64 i, .pointer (some ⟨A, 0, none⟩), .pointer (some ⟨B, 0, none⟩), .pointer (some ⟨C, 0, none⟩)] w fun e w' => e = .returned (.int .i64 (colI d s l k i)) ∧ Below w.heap.size w w' := by
  have a2 := hC.cfg.cell 2
  have a4 := hC.cfg.cell 4
  have bl := hC.lev.cell 0
  have ck := hC.key.cell 0
  simp at a2 a4 bl ck
  have HC := Lib.hid hC
  clear hC
  obtain ⟨p0, p1⟩ := pairA_bd s l i
  obtain ⟨q0, q1⟩ := pairB_bd s l i
  go_enter Try.func48, Try.ntmps48
  go_wp2_with fail
  refine (pair_any s l i s0 s1 l0 l1 i0 i1 _).mono ?_; rintro e w1 ⟨rfl, hb⟩
  have hC1 := HC.out.kept hb
  have c2 := hC1.cfg.cell 2
  have ck1 := hC1.key.cell 0
  simp at c2 ck1
  go_wp2_with fail
  refine (bucket_any _ _ k d (by omega) (by omega) (by omega) (by omega) k0 k1 d0 d1 _).mono ?_; rintro e w2 ⟨rfl, hb2⟩
  go_wp2
  go_ret
  exact ⟨ret_i64q rfl, btr hb hb2⟩

def ColsPost (w : World) (R : Nat) (d s l k : Int) (e : Ending) (w' : World) : Prop :=
  ∃ g, e = .returned (.slice (some ⟨g, 0, none⟩) R R) ∧ w.heap.size ≤ g ∧ w'.rowIs g 3 R (fun i => .int .i64 (colI d s l k (i : Int))) ∧ Below w.heap.size w w'

theorem Try.infoInt : (Try.prog.info? 3).map (fun i => (i.zero, i.size, i.bytes)) = some (some (.int .i64 0), 1, 8) := by kernel_rfl

theorem cols_any (b d m s l k : Int) (R : Nat) (s0 : 0 ≤ s) (s1 : s ≤ 18446744073709551615) (k0 : 0 ≤ k) (k1 : k ≤ 18446744073709551615) (hk : k < keysI b (R : Int) d m l) (w : World) :
    Calls Try.prog 25 #[.agg #[.int .i64 b, .int .i64 (R : Int), .int .i64 d, .int .i64 m, .int .u64 s], .int .i64 l, .int .u64 k] w (ColsPost w R d s l k) := by
  obtain ⟨j0, j1⟩ := keysI_bd b (R : Int) d m l
  have HR := keys_right (b := b) (r := (R : Int)) (d := d) (m := m) (l := l) (by omega)
  obtain ⟨d0, d1, b0, b1, l0, l1, r0, r1, _⟩ := HR
  have e1 : decide (keysI b (R : Int) d m l ≤ k) = false := decide_eq_false (by omega)
  have hnew0 := Blk.new w 24 #[.int .i64 b, .int .i64 (R : Int), .int .i64 d, .int .i64 m, .int .u64 s]
  go_enter Try.func25, Try.ntmps25
  go_wp2_with fail
  have hcap : Caps (((w.alloc (.cells #[.int .i64 b, .int .i64 (R : Int), .int .i64 d, .int .i64 m, .int .u64 s] 24)).alloc (.cells #[.int .i64 l] 3)).alloc (.cells #[.int .u64 k] 22)) w.heap.size (w.heap.size + 1) (w.heap.size + 1 + 1) b (R : Int) d m s l k := by
    refine ⟨((Blk.new _ _ _).alloc _).alloc _, Blk.alloc (by have := Blk.new (w.alloc (.cells #[.int .i64 b, .int .i64 (R : Int), .int .i64 d, .int .i64 m, .int .u64 s] 24)) 3 #[.int .i64 l]; simpa using this) _, ?_⟩
    have := Blk.new ((w.alloc (.cells #[.int .i64 b, .int .i64 (R : Int), .int .i64 d, .int .i64 m, .int .u64 s] 24)).alloc (.cells #[.int .i64 l] 3)) 22 #[.int .u64 k]
    simpa using this
  have hbel : Below w.heap.size w (((w.alloc (.cells #[.int .i64 b, .int .i64 (R : Int), .int .i64 d, .int .i64 m, .int .u64 s] 24)).alloc (.cells #[.int .i64 l] 3)).alloc (.cells #[.int .u64 k] 22)) :=
    (((Below.refl _ _).alloc (Nat.le_refl _) _).alloc (by simp) _).alloc (by simp; omega) _
  generalize (((w.alloc (.cells #[.int .i64 b, .int .i64 (R : Int), .int .i64 d, .int .i64 m, .int .u64 s] 24)).alloc (.cells #[.int .i64 l] 3)).alloc (.cells #[.int .u64 k] 22)) = wz at *
  have hsz := hbel.size
  generalize hA : w.heap.size = A at *
  generalize hB : A + 1 = B at *
  generalize hC : B + 1 = C at *
  obtain ⟨n, hn⟩ : ∃ n, n = A := ⟨_, rfl⟩
  have hbel : Below n w wz := by rw [hn]; exact hbel
  have HN := Lib.hid (hn.trans hA.symm)
  have hnw : n ≤ w.heap.size := by omega
  clear hA hB hC hn
  have HE := Lib.hid e1
  refine wp_region_held_drew (S := fun w' => Caps w' A B C b (R : Int) d m s l k ∧ Below n w w') (by kernel_rfl) (by exact ⟨hcap.drew, hbel.drew⟩) (fun hHeld => ?_)
  refine wpAnyH_take (i := 0) (v := ?_) rfl (by kernel_rfl) (by kernel_rfl) (by kernel_rfl) (fun _ _ _ h => h) (Or.inl ⟨by rfl, ?_⟩) (by assumption) ?_
  rotate_left
  · intro w hSw
    obtain ⟨⟨q0, q1, q2, q3, q4⟩, qb, qk⟩ := Caps.cells hSw.1
    go_simp
    try with_reducible rfl
  simp only [Act.put, List.setIfInBounds_toArray, List.set_cons_zero, List.set_cons_succ, List.getElem_toArray, List.getElem_cons_zero, List.getElem_cons_succ]
  refine wpAnyH_take (i := 1) (v := ?_) rfl (by kernel_rfl) (by kernel_rfl) (by kernel_rfl) (fun _ _ _ h => h) (Or.inl ⟨by rfl, ?_⟩) (by assumption) ?_
  rotate_left
  · intro w hSw
    obtain ⟨⟨q0, q1, q2, q3, q4⟩, qb, qk⟩ := Caps.cells hSw.1
    go_simp
    try with_reducible rfl
  simp only [Act.put, List.setIfInBounds_toArray, List.set_cons_zero, List.set_cons_succ, List.getElem_toArray, List.getElem_cons_zero, List.getElem_cons_succ]
  refine wpAnyH_take (i := 2) (v := ?_) rfl (by kernel_rfl) (by kernel_rfl) (by kernel_rfl) (fun _ _ _ h => h) (Or.inl ⟨by rfl, ?_⟩) (by assumption) ?_
  rotate_left
  · intro w hSw
    obtain ⟨⟨q0, q1, q2, q3, q4⟩, qb, qk⟩ := Caps.cells hSw.1
    go_simp
    try with_reducible rfl
  simp only [Act.put, List.setIfInBounds_toArray, List.set_cons_zero, List.set_cons_succ, List.getElem_toArray, List.getElem_cons_zero, List.getElem_cons_succ]
  refine wpAnyH_ready (rs := [3]) (by kernel_rfl) (by simp) ?_
  refine AllReadyH.cons rfl (fun K hK => ?_) AllReadyH.nil
  go_simp
  go_wp2_with ((go_at_call 18; refine (keys_any _ _ _ _ _ _ _).mono ?_; rintro e w' ⟨rfl, hb'⟩))
  refine hK.out _ _ ?_ (fun hHeld => ?_)
  · first | assumption | exact ⟨hHeld.1.kept hb', hHeld.2.trans (hb'.mono (by have := hHeld.2.size; omega))⟩
  clear hK K
  refine wpAnyH_take (i := 4) (v := ?_) rfl (by kernel_rfl) (by kernel_rfl) (by kernel_rfl) (fun _ _ _ h => h) (Or.inl ⟨by rfl, ?_⟩) (by assumption) ?_
  rotate_left
  · intro w hSw
    skip
    go_simp
    try with_reducible rfl
  simp only [Act.put, List.setIfInBounds_toArray, List.set_cons_zero, List.set_cons_succ, List.getElem_toArray, List.getElem_cons_zero, List.getElem_cons_succ]
  refine wpAnyH_done (by kernel_rfl) ?_ _
  clear hnew0 hbel hsz hcap hb'
  obtain ⟨hcap, hbel⟩ := hHeld
  obtain ⟨⟨q0, q1, q2, q3, q4⟩, qb, qk⟩ := hcap.cells
  have hmk := fun W => run_make_row' (P := Try.prog) 32 3 (.int .i64 0) 8 Try.underlying32 Try.infoInt rfl .i64 .i64 R (by omega) (by omega) W
  go_wp2_with fail
  have hrow := World.rowIs_made w' (.int .i64 0) R 3
  have hcap2 : Caps (w'.alloc (.cells (madeCells #[.int .i64 0] R) 3)) A B C b (R : Int) d m s l k := ⟨hcap.cfg.alloc _, hcap.lev.alloc _, hcap.key.alloc _⟩
  have hbel2 : Below n w (w'.alloc (.cells (madeCells #[.int .i64 0] R) 3)) := hbel.alloc (by have := hbel.size; omega) _
  have hGA : A ≠ w'.heap.size := Nat.ne_of_lt hcap.cfg.lt
  have hGB : B ≠ w'.heap.size := Nat.ne_of_lt hcap.lev.lt
  have hGC : C ≠ w'.heap.size := Nat.ne_of_lt hcap.key.lt
  have hGn : n ≤ w'.heap.size := by have := hbel.size; omega
  clear hmk q0 q1 q2 q3 q4 qb qk
  clear hcap hbel
  generalize (w'.alloc (.cells (madeCells #[.int .i64 0] R) 3)) = wq at *
  generalize w'.heap.size = G at *
  go_loopw [21] (fun i wr => ∃ j : Nat, j ≤ R ∧ i = .int .i64 (j : Int) ∧ wr.rowIs G 3 R (fun x => .int .i64 (if x < j then colI d s l k (x : Int) else 0)) ∧ Caps wr A B C b (R : Int) d m s l k ∧ Below n w wr) (fun i _ => R - (intOf i).toNat)
  case atStart => exact ⟨0, by omega, rfl, hrow.congr (fun x _ => by simp), hcap2, hbel2⟩
  case round =>
    obtain ⟨j, hj, rfl, hrow, hcap, hbel⟩ := hrel
    clear hcap2 hbel2
    have HR := Lib.hid hrow
    have HC := Lib.hid hcap
    have HB := Lib.hid hbel
    clear hrow hcap hbel
    by_cases hlt : j < R
    · go_wp2_with fail
      refine (col1_any A B C b (R : Int) d m s l k (j : Int) s0 s1 k0 k1 l0 (by omega) (by omega) (by omega) d0 (by omega) _ HC.out).mono ?_
      rintro e w2 ⟨rfl, hb2⟩
      have hr2 := rowKept HR.out hb2
      have hcell := hr2.cell hlt
      have hfrz := hr2.frozen j
      have HR2 := Lib.hid (hr2.set j (.int .i64 (colI d s l k (j : Int))))
      have HC2 := Lib.hid (HC.out.kept hb2)
      have HB2 : Hid (Below n w w2) := Lib.hid (HB.out.trans (hb2.mono (by have := HB.out.size; omega)))
      clear hr2 hb2
      go_wp2
      go_roundw
      case rel =>
        refine ⟨j + 1, by omega, by go_num, HR2.out.congr (fun x _ => ?_), ⟨HC2.out.cfg.far hGA _, HC2.out.lev.far hGB _, HC2.out.key.far hGC _⟩, HB2.out.setCell hGn _⟩
        by_cases e : x = j
        · subst e; simp
        · rw [if_neg e]
          by_cases e2 : x < j
          · rw [if_pos e2, if_pos (by omega)]
          · rw [if_neg e2, if_neg (by omega)]
      case measure => simp [intOf]; omega
    · obtain rfl : j = R := by omega
      go_wp2
      go_ret
      exact ⟨G, rfl, by have := HN.out; omega, HR.out.congr (fun x hx => by rw [if_pos hx]), by rw [← HN.out]; exact HB.out⟩

theorem cols_none (b r d m s l k : Int) (hk : ¬ k < keysI b r d m l) (w : World) :
    Calls Try.prog 25 #[.agg #[.int .i64 b, .int .i64 r, .int .i64 d, .int .i64 m, .int .u64 s], .int .i64 l, .int .u64 k] w fun e w' => e = .returned (.slice none 0 0) ∧ Below w.heap.size w w' := by
  have e1 : decide (keysI b r d m l ≤ k) = true := decide_eq_true (by omega)
  go_enter Try.func25, Try.ntmps25
  go_wp2_with fail
  have hcap : Caps (((w.alloc (.cells #[.int .i64 b, .int .i64 r, .int .i64 d, .int .i64 m, .int .u64 s] 24)).alloc (.cells #[.int .i64 l] 3)).alloc (.cells #[.int .u64 k] 22)) w.heap.size (w.heap.size + 1) (w.heap.size + 1 + 1) b r d m s l k := by
    refine ⟨((Blk.new _ _ _).alloc _).alloc _, Blk.alloc (by have := Blk.new (w.alloc (.cells #[.int .i64 b, .int .i64 r, .int .i64 d, .int .i64 m, .int .u64 s] 24)) 3 #[.int .i64 l]; simpa using this) _, ?_⟩
    have := Blk.new ((w.alloc (.cells #[.int .i64 b, .int .i64 r, .int .i64 d, .int .i64 m, .int .u64 s] 24)).alloc (.cells #[.int .i64 l] 3)) 22 #[.int .u64 k]
    simpa using this
  have hbel : Below w.heap.size w (((w.alloc (.cells #[.int .i64 b, .int .i64 r, .int .i64 d, .int .i64 m, .int .u64 s] 24)).alloc (.cells #[.int .i64 l] 3)).alloc (.cells #[.int .u64 k] 22)) :=
    (((Below.refl _ _).alloc (Nat.le_refl _) _).alloc (by simp) _).alloc (by simp; omega) _
  generalize (((w.alloc (.cells #[.int .i64 b, .int .i64 r, .int .i64 d, .int .i64 m, .int .u64 s] 24)).alloc (.cells #[.int .i64 l] 3)).alloc (.cells #[.int .u64 k] 22)) = wz at *
  have hsz := hbel.size
  generalize hA : w.heap.size = A at *
  generalize hB : A + 1 = B at *
  generalize hC : B + 1 = C at *
  obtain ⟨n, hn⟩ : ∃ n, n = A := ⟨_, rfl⟩
  have hbel : Below n w wz := by rw [hn]; exact hbel
  have HN := Lib.hid (hn.trans hA.symm)
  have hnw : n ≤ w.heap.size := by omega
  clear hA hB hC hn
  refine wp_region_held_drew (S := fun w' => Caps w' A B C b r d m s l k ∧ Below n w w') (by kernel_rfl) (by exact ⟨hcap.drew, hbel.drew⟩) (fun hHeld => ?_)
  refine wpAnyH_take (i := 0) (v := ?_) rfl (by kernel_rfl) (by kernel_rfl) (by kernel_rfl) (fun _ _ _ h => h) (Or.inl ⟨by rfl, ?_⟩) (by assumption) ?_
  rotate_left
  · intro w hSw
    obtain ⟨⟨q0, q1, q2, q3, q4⟩, qb, qk⟩ := Caps.cells hSw.1
    go_simp
    try with_reducible rfl
  simp only [Act.put, List.setIfInBounds_toArray, List.set_cons_zero, List.set_cons_succ, List.getElem_toArray, List.getElem_cons_zero, List.getElem_cons_succ]
  refine wpAnyH_take (i := 1) (v := ?_) rfl (by kernel_rfl) (by kernel_rfl) (by kernel_rfl) (fun _ _ _ h => h) (Or.inl ⟨by rfl, ?_⟩) (by assumption) ?_
  rotate_left
  · intro w hSw
    obtain ⟨⟨q0, q1, q2, q3, q4⟩, qb, qk⟩ := Caps.cells hSw.1
    go_simp
    try with_reducible rfl
  simp only [Act.put, List.setIfInBounds_toArray, List.set_cons_zero, List.set_cons_succ, List.getElem_toArray, List.getElem_cons_zero, List.getElem_cons_succ]
  refine wpAnyH_take (i := 2) (v := ?_) rfl (by kernel_rfl) (by kernel_rfl) (by kernel_rfl) (fun _ _ _ h => h) (Or.inl ⟨by rfl, ?_⟩) (by assumption) ?_
  rotate_left
  · intro w hSw
    obtain ⟨⟨q0, q1, q2, q3, q4⟩, qb, qk⟩ := Caps.cells hSw.1
    go_simp
    try with_reducible rfl
  simp only [Act.put, List.setIfInBounds_toArray, List.set_cons_zero, List.set_cons_succ, List.getElem_toArray, List.getElem_cons_zero, List.getElem_cons_succ]
  refine wpAnyH_ready (rs := [3]) (by kernel_rfl) (by simp) ?_
  refine AllReadyH.cons rfl (fun K hK => ?_) AllReadyH.nil
  go_simp
  go_wp2_with ((go_at_call 18; refine (keys_any _ _ _ _ _ _ _).mono ?_; rintro e w' ⟨rfl, hb'⟩))
  refine hK.out _ _ ?_ (fun hHeld => ?_)
  · first | assumption | exact ⟨hHeld.1.kept hb', hHeld.2.trans (hb'.mono (by have := hHeld.2.size; omega))⟩
  clear hK K
  refine wpAnyH_take (i := 4) (v := ?_) rfl (by kernel_rfl) (by kernel_rfl) (by kernel_rfl) (fun _ _ _ h => h) (Or.inl ⟨by rfl, ?_⟩) (by assumption) ?_
  rotate_left
  · intro w hSw
    skip
    go_simp
    try with_reducible rfl
  simp only [Act.put, List.setIfInBounds_toArray, List.set_cons_zero, List.set_cons_succ, List.getElem_toArray, List.getElem_cons_zero, List.getElem_cons_succ]
  refine wpAnyH_done (by kernel_rfl) ?_ _
  have HB := Lib.hid hHeld.2
  clear hbel hcap hHeld
  go_wp2
  go_ret
  exact ⟨rfl, by rw [← HN.out]; exact HB.out⟩
end Go.Proofs.Ytfjhecgicemoeaa
