/-
  Cells set one after the other: the walks of At and Put whatever is asked, and of gaugerlaw06.made. Conditions: none beyond those stated at each theorem.
-/
import Derived.Test.YtfjhecgicemoeaaGrdT
import Derived.Test.YtfjhecgicemoeaaGrdJ
namespace Go.Proofs.Ytfjhecgicemoeaa
open Go.RowKit
set_option linter.unusedVariables false
set_option linter.unusedSimpArgs false

def inB (R W : Nat) (r c : Int) : Bool := decide (0 ≤ r ∧ r < (R : Int) ∧ 0 ≤ c ∧ c < (W : Int))
theorem inB_yes {R W : Nat} {r c : Int} (h : inB R W r c = true) : ∃ r' c' : Nat, r = r' ∧ c = c' ∧ r' < R ∧ c' < W := by
  have := of_decide_eq_true h
  exact ⟨r.toNat, c.toNat, by omega, by omega, by omega, by omega⟩
theorem inB_no {R W : Nat} {r c : Int} (h : inB R W r c = false) : r < 0 ∨ (R : Int) ≤ r ∨ c < 0 ∨ (W : Int) ≤ c := by
  have := of_decide_eq_false h
  omega
def putZ (R W : Nat) (zs : List Int) (r c u : Int) : List Int := if inB R W r c = true then zs.set (r.toNat * W + c.toNat) u else zs
def atZ (R W : Nat) (zs : List Int) (r c : Int) : Int := if inB R W r c = true then cellD zs (r.toNat * W + c.toNat) else 0
def putsZ (R W : Nat) (zs : List Int) (pr pc pu : Nat → Int) : Nat → List Int
  | 0 => zs
  | k + 1 => putZ R W (putsZ R W zs pr pc pu k) (pr k) (pc k) (pu k)
theorem putZ_fit {R W : Nat} {zs : List Int} (h : Fit zs) (r c : Int) {u : Int} (u0 : -9223372036854775808 ≤ u) (u1 : u ≤ 9223372036854775807) : Fit (putZ R W zs r c u) := by
  unfold putZ; split
  · exact h.set _ u0 u1
  · exact h
theorem putZ_len {R W : Nat} {zs : List Int} {r c u : Int} : (putZ R W zs r c u).length = zs.length := by unfold putZ; split <;> simp
theorem putsZ_len {R W : Nat} {zs : List Int} {pr pc pu : Nat → Int} (k : Nat) : (putsZ R W zs pr pc pu k).length = zs.length := by
  induction k with
  | zero => rfl
  | succ k ih => rw [putsZ, putZ_len, ih]

def PutPost (w : World) (G C R W : Nat) (zs : List Int) (r c u : Int) (e : Ending) (w' : World) : Prop :=
  e = .returned (.bool (inB R W r c)) ∧ GridIs w' G C R W (putZ R W zs r c u) ∧ w.grownBy w' (some C)
theorem put_any (w : World) (G C R W : Nat) (zs : List Int) (r c u : Int) (h : GridIs w G C R W zs) (u0 : -9223372036854775808 ≤ u) (u1 : u ≤ 9223372036854775807) :
    Calls Try.prog 34 #[.pointer (some ⟨G, 0, none⟩), .int .i64 r, .int .i64 c, .int .i64 u] w (PutPost w G C R W zs r c u) := by
  cases hin : inB R W r c with
  | true =>
    obtain ⟨r', c', rfl, rfl, h1, h2⟩ := inB_yes hin
    refine (put_in w G C R W r' c' u zs h h1 h2).mono ?_
    rintro e w' ⟨rfl, rfl⟩
    refine ⟨by rw [hin], ?_, grown_set _ _ _ _⟩
    rw [putZ, if_pos hin]
    exact h.set _ u u0 u1
  | false =>
    refine (put_out w G C R W r c u zs h (inB_no hin)).mono ?_
    rintro e w' ⟨rfl, rfl⟩
    refine ⟨by rw [hin], by rw [putZ, if_neg (by rw [hin]; decide)]; exact h, ⟨rfl, rfl, rfl, Nat.le_refl _, fun _ _ _ => rfl⟩⟩
theorem at_any (w : World) (G C R W : Nat) (zs : List Int) (r c : Int) (h : GridIs w G C R W zs) :
    Calls Try.prog 33 #[.pointer (some ⟨G, 0, none⟩), .int .i64 r, .int .i64 c] w fun e w' => e = .returned (.int .i64 (atZ R W zs r c)) ∧ w = w' := by
  cases hin : inB R W r c with
  | true =>
    obtain ⟨r', c', rfl, rfl, h1, h2⟩ := inB_yes hin
    rw [atZ, if_pos hin]
    exact at_in w G C R W r' c' zs h h1 h2
  | false =>
    rw [atZ, if_neg (by rw [hin]; decide)]
    exact at_out w G C R W r c zs h (inB_no hin)
def RPutPost (w : World) (N G : Nat) (v : Value) (B K : Nat → Nat) (R W : Nat) (zs : List Int) (r c u : Int) (e : Ending) (w' : World) : Prop :=
  e = .returned (.bool (inB R W r c)) ∧ RefIs w' N G v B K R W (putZ R W zs r c u) ∧ Below N w w'
theorem rput_any (w : World) (N G : Nat) (v : Value) (B K : Nat → Nat) (R W : Nat) (zs : List Int) (r c u : Int) (h : RefIs w N G v B K R W zs) :
    Calls Try.prog 36 #[.pointer (some ⟨G, 0, none⟩), .int .i64 r, .int .i64 c, .int .i64 u] w (RPutPost w N G v B K R W zs r c u) := by
  cases hin : inB R W r c with
  | true =>
    obtain ⟨r', c', rfl, rfl, h1, h2⟩ := inB_yes hin
    refine (rput_in w N G v B K R W r' c' u zs h h1 h2).mono ?_
    rintro e w' ⟨rfl, rfl⟩
    refine ⟨by rw [hin], ?_, (Below.refl _ _).setCell (h.lo.2 r' h1) _⟩
    rw [putZ, if_pos hin]
    exact h.set _ _ u h1 h2
  | false =>
    refine (rput_out w N G v B K R W r c u zs h (inB_no hin)).mono ?_
    rintro e w' ⟨rfl, rfl⟩
    exact ⟨by rw [hin], by rw [putZ, if_neg (by rw [hin]; decide)]; exact h, Below.refl _ _⟩
theorem rat_any (w : World) (N G : Nat) (v : Value) (B K : Nat → Nat) (R W : Nat) (zs : List Int) (r c : Int) (h : RefIs w N G v B K R W zs) :
    Calls Try.prog 35 #[.pointer (some ⟨G, 0, none⟩), .int .i64 r, .int .i64 c] w fun e w' => e = .returned (.int .i64 (atZ R W zs r c)) ∧ w = w' := by
  cases hin : inB R W r c with
  | true =>
    obtain ⟨r', c', rfl, rfl, h1, h2⟩ := inB_yes hin
    rw [atZ, if_pos hin]
    exact rat_in w N G v B K R W r' c' zs h h1 h2
  | false =>
    rw [atZ, if_neg (by rw [hin]; decide)]
    exact rat_out w N G v B K R W r c zs h (inB_no hin)

/-- the slice l holds n cells to be set: rows pr, columns pc, numbers pu -/
def PutsAt (w : World) (l : Value) (n : Nat) (pr pc pu : Nat → Int) : Prop :=
  ∃ (ao : Option Addr) (cap : Nat), l = .slice ao n cap ∧ n ≤ maxLen ∧ (∀ i, i < n → In64 (pu i)) ∧
    (0 < n → ∃ b off, ao = some ⟨b, off, none⟩ ∧ b < w.heap.size ∧ ∀ i, i < n → w.cell? ⟨b, off + i * 3, none⟩ = some (.int .i64 (pr i)) ∧ w.cell? ⟨b, off + i * 3 + 1, none⟩ = some (.int .i64 (pc i)) ∧ w.cell? ⟨b, off + i * 3 + 2, none⟩ = some (.int .i64 (pu i)))
theorem PutsAt.kept {w w' : World} {l : Value} {n : Nat} {pr pc pu : Nat → Int} (h : PutsAt w l n pr pc pu) (hb : Below w.heap.size w w') : PutsAt w' l n pr pc pu := by
  obtain ⟨ao, cap, e, hm, hu, h⟩ := h
  refine ⟨ao, cap, e, hm, hu, fun h0 => ?_⟩
  obtain ⟨b, off, e2, hlt, hc⟩ := h h0
  refine ⟨b, off, e2, Nat.lt_of_lt_of_le hlt hb.size, fun i hi => ?_⟩
  obtain ⟨c1, c2, c3⟩ := hc i hi
  exact ⟨(hb.cell (p := ⟨b, off + i * 3, none⟩) hlt).trans c1, (hb.cell (p := ⟨b, off + i * 3 + 1, none⟩) hlt).trans c2, (hb.cell (p := ⟨b, off + i * 3 + 2, none⟩) hlt).trans c3⟩

def MadePost (w : World) (R W : Nat) (zs : List Int) (e : Ending) (w' : World) : Prop :=
  ∃ G C N H v B K, e = .returned (.tuple #[.pointer (some ⟨G, 0, none⟩), .pointer (some ⟨H, 0, none⟩)]) ∧ w.heap.size ≤ G ∧ w.heap.size ≤ C ∧ G < N ∧ C < N ∧ GridIs w' G C R W zs ∧ RefIs w' N H v B K R W zs ∧ Below w.heap.size w w'

set_option maxRecDepth 100000 in
set_option maxHeartbeats 4000000 in
theorem made_any (rI cI : Int) (l : Value) (n : Nat) (pr pc pu : Nat → Int) (w : World) (hl : PutsAt w l n pr pc pu) :
    Calls Try.prog 42 #[.int .i64 rI, .int .i64 cI, l] w (MadePost w (clampN rI 8) (clampN cI 128) (putsZ (clampN rI 8) (clampN cI 128) (List.replicate (clampN rI 8 * clampN cI 128) 0) pr pc pu (min n 200))) := by
  have N1 := Lib.hid (new_any rI cI w)
  have N2 := Lib.hid (rnew_any rI cI)
  generalize clampN rI 8 = R at *
  generalize clampN cI 128 = W at *
  obtain ⟨zs0, hZ0⟩ : ∃ zs0, zs0 = List.replicate (R * W) (0 : Int) := ⟨_, rfl⟩
  rw [← hZ0]
  have HZ0 := Lib.hid hZ0
  clear hZ0
  obtain ⟨ao, cap, rfl, hm, hu, hcells⟩ := hl
  clear hm
  obtain ⟨m, hmm⟩ : ∃ m, m = min n 200 := ⟨_, rfl⟩
  rw [← hmm]
  have HM := Lib.hid hmm
  clear hmm
  have HU := Lib.hid hu
  have HCL := Lib.hid hcells
  clear hu hcells
  go_enter Try.func42, Try.ntmps42
  go_wp2_with fail
  refine (N1.out).mono ?_; rintro e w1 ⟨G, C, rfl, hG, hC, hg, hb⟩
  have G1 := Lib.hid hg
  have HB1 := Lib.hid hb
  have HGC : Hid (w.heap.size ≤ G ∧ w.heap.size ≤ C ∧ G < w1.heap.size ∧ C < w1.heap.size) := ⟨hG, hC, G1.out.ltG, G1.out.ltC⟩
  clear hG hC hg hb
  go_wp2_with fail
  refine (N2.out w1).mono ?_; rintro e w2 ⟨H, v, B, K, rfl, hr, hb⟩
  have G2 := Lib.hid (G1.out.kept hb)
  have HR2 := Lib.hid hr
  have HB2 := Lib.hid (btr HB1.out hb)
  clear hr hb
  generalize hN : w1.heap.size = N at *
  have HN := Lib.hid hN
  clear hN
  go_wp2_with fail
  have em : ∀ j : Nat, (decide ((j : Int) < (n : Int)) = true ∧ decide ((j : Int) < 200) = true) ↔ j < m := by intro j; rw [HM.out]; simp only [decide_eq_true_eq]; omega
  have EM := Lib.hid em
  clear em
  have hsz := HB2.out.size
  have HSW := Lib.hid hsz
  clear hsz
  go_loopw [10] (fun i wr => ∃ (j : Nat), j ≤ m ∧ i = .int .i64 (j : Int) ∧ GridIs wr G C R W (putsZ R W zs0 pr pc pu j) ∧ RefIs wr N H v B K R W (putsZ R W zs0 pr pc pu j) ∧ Below w.heap.size w wr) (fun i _ => m - (intOf i).toNat)
  case atStart => exact ⟨0, by omega, rfl, by rw [putsZ, HZ0.out]; exact G2.out, by rw [putsZ, HZ0.out]; exact HR2.out, HB2.out⟩
  case round =>
    obtain ⟨j, hj, rfl, hg, hr, hbel⟩ := hrel
    clear G2 HR2 HB2
    have HG := Lib.hid hg
    have HR := Lib.hid hr
    have HB := Lib.hid hbel
    clear hg hr hbel
    by_cases hlt : j < m
    · obtain ⟨d1, d2⟩ := (EM.out j).2 hlt
      have hjn : j < n := by have := HM.out; omega
      have hj2 : j < 200 := by have := HM.out; omega
      have d3 : (0 : Int) ≤ (j : Int) := by omega
      have d4 : (j : Int) < (n : Int) := by omega
      obtain ⟨b, off, rfl, hbl, hcs⟩ := HCL.out (by omega)
      obtain ⟨c1, c2, c3⟩ := hcs j hjn
      have c1 := (HB.out.cell (p := ⟨b, off + j * 3, none⟩) hbl).trans c1
      have c2 := (HB.out.cell (p := ⟨b, off + j * 3 + 1, none⟩) hbl).trans c2
      have c3 := (HB.out.cell (p := ⟨b, off + j * 3 + 2, none⟩) hbl).trans c3
      have hu := HU.out j hjn
      have HE : Hid (putsZ R W zs0 pr pc pu (j + 1) = putZ R W (putsZ R W zs0 pr pc pu j) (pr j) (pc j) (pu j)) := rfl
      have hC : b ≠ C := by have := HGC.out; omega
      have hbN : b < N := by have := HN.out; have := HB.out.size; have := HGC.out; omega
      clear hcs
      generalize pr j = x at *
      generalize pc j = y at *
      generalize pu j = z at *
      have D1 := Lib.hid c1
      have D2 := Lib.hid c2
      have D3 := Lib.hid c3
      clear c1 c2 c3
      go_wp2_with fail
      refine wp_region_held_drew (S := fun w' => w'.cell? ⟨b, off + j * 3, none⟩ = some (.int .i64 x) ∧ w'.cell? ⟨b, off + j * 3 + 1, none⟩ = some (.int .i64 y) ∧ w'.cell? ⟨b, off + j * 3 + 2, none⟩ = some (.int .i64 z)) (by kernel_rfl) (by exact ⟨D1.out, D2.out, D3.out⟩) (fun hHeld => ?_)
      refine wpAnyH_take (i := 0) (v := ?_) rfl (by kernel_rfl) (by kernel_rfl) (by kernel_rfl) (fun _ _ _ h => h) (Or.inl ⟨by rfl, ?_⟩) (by assumption) ?_
      rotate_left
      · intro w hSw
        try dsimp only at hSw
        go_simp
        try with_reducible rfl
      simp only [Act.put, List.setIfInBounds_toArray, List.set_cons_zero, List.set_cons_succ, List.getElem_toArray, List.getElem_cons_zero, List.getElem_cons_succ]
      refine wpAnyH_take (i := 1) (v := ?_) rfl (by kernel_rfl) (by kernel_rfl) (by kernel_rfl) (fun _ _ _ h => h) (Or.inl ⟨by rfl, ?_⟩) (by assumption) ?_
      rotate_left
      · intro w hSw
        try dsimp only at hSw
        go_simp
        try with_reducible rfl
      simp only [Act.put, List.setIfInBounds_toArray, List.set_cons_zero, List.set_cons_succ, List.getElem_toArray, List.getElem_cons_zero, List.getElem_cons_succ]
      refine wpAnyH_take (i := 2) (v := ?_) rfl (by kernel_rfl) (by kernel_rfl) (by kernel_rfl) (fun _ _ _ h => h) (Or.inl ⟨by rfl, ?_⟩) (by assumption) ?_
      rotate_left
      · intro w hSw
        try dsimp only at hSw
        go_simp
        try with_reducible rfl
      simp only [Act.put, List.setIfInBounds_toArray, List.set_cons_zero, List.set_cons_succ, List.getElem_toArray, List.getElem_cons_zero, List.getElem_cons_succ]
      refine wpAnyH_take (i := 3) (v := ?_) rfl (by kernel_rfl) (by kernel_rfl) (by kernel_rfl) (fun _ _ _ h => h) (Or.inl ⟨by rfl, ?_⟩) (by assumption) ?_
      rotate_left
      · intro w hSw
        try dsimp only at hSw
        go_simp
        try with_reducible rfl
      simp only [Act.put, List.setIfInBounds_toArray, List.set_cons_zero, List.set_cons_succ, List.getElem_toArray, List.getElem_cons_zero, List.getElem_cons_succ]
      refine wpAnyH_take (i := 4) (v := ?_) rfl (by kernel_rfl) (by kernel_rfl) (by kernel_rfl) (fun _ _ _ h => h) (Or.inl ⟨by rfl, ?_⟩) (by assumption) ?_
      rotate_left
      · intro w hSw
        try dsimp only at hSw
        go_simp
        try with_reducible rfl
      simp only [Act.put, List.setIfInBounds_toArray, List.set_cons_zero, List.set_cons_succ, List.getElem_toArray, List.getElem_cons_zero, List.getElem_cons_succ]
      refine wpAnyH_take (i := 5) (v := ?_) rfl (by kernel_rfl) (by kernel_rfl) (by kernel_rfl) (fun _ _ _ h => h) (Or.inl ⟨by rfl, ?_⟩) (by assumption) ?_
      rotate_left
      · intro w hSw
        obtain ⟨q1, q2, q3⟩ := hSw
        go_simp
        try with_reducible rfl
      simp only [Act.put, List.setIfInBounds_toArray, List.set_cons_zero, List.set_cons_succ, List.getElem_toArray, List.getElem_cons_zero, List.getElem_cons_succ]
      refine wpAnyH_take (i := 6) (v := ?_) rfl (by kernel_rfl) (by kernel_rfl) (by kernel_rfl) (fun _ _ _ h => h) (Or.inl ⟨by rfl, ?_⟩) (by assumption) ?_
      rotate_left
      · intro w hSw
        try dsimp only at hSw
        go_simp
        try with_reducible rfl
      simp only [Act.put, List.setIfInBounds_toArray, List.set_cons_zero, List.set_cons_succ, List.getElem_toArray, List.getElem_cons_zero, List.getElem_cons_succ]
      refine wpAnyH_take (i := 7) (v := ?_) rfl (by kernel_rfl) (by kernel_rfl) (by kernel_rfl) (fun _ _ _ h => h) (Or.inl ⟨by rfl, ?_⟩) (by assumption) ?_
      rotate_left
      · intro w hSw
        try dsimp only at hSw
        go_simp
        try with_reducible rfl
      simp only [Act.put, List.setIfInBounds_toArray, List.set_cons_zero, List.set_cons_succ, List.getElem_toArray, List.getElem_cons_zero, List.getElem_cons_succ]
      refine wpAnyH_take (i := 8) (v := ?_) rfl (by kernel_rfl) (by kernel_rfl) (by kernel_rfl) (fun _ _ _ h => h) (Or.inl ⟨by rfl, ?_⟩) (by assumption) ?_
      rotate_left
      · intro w hSw
        try dsimp only at hSw
        go_simp
        try with_reducible rfl
      simp only [Act.put, List.setIfInBounds_toArray, List.set_cons_zero, List.set_cons_succ, List.getElem_toArray, List.getElem_cons_zero, List.getElem_cons_succ]
      refine wpAnyH_take (i := 9) (v := ?_) rfl (by kernel_rfl) (by kernel_rfl) (by kernel_rfl) (fun _ _ _ h => h) (Or.inl ⟨by rfl, ?_⟩) (by assumption) ?_
      rotate_left
      · intro w hSw
        try dsimp only at hSw
        go_simp
        try with_reducible rfl
      simp only [Act.put, List.setIfInBounds_toArray, List.set_cons_zero, List.set_cons_succ, List.getElem_toArray, List.getElem_cons_zero, List.getElem_cons_succ]
      refine wpAnyH_take (i := 10) (v := ?_) rfl (by kernel_rfl) (by kernel_rfl) (by kernel_rfl) (fun _ _ _ h => h) (Or.inl ⟨by rfl, ?_⟩) (by assumption) ?_
      rotate_left
      · intro w hSw
        obtain ⟨q1, q2, q3⟩ := hSw
        go_simp
        try with_reducible rfl
      simp only [Act.put, List.setIfInBounds_toArray, List.set_cons_zero, List.set_cons_succ, List.getElem_toArray, List.getElem_cons_zero, List.getElem_cons_succ]
      refine wpAnyH_take (i := 11) (v := ?_) rfl (by kernel_rfl) (by kernel_rfl) (by kernel_rfl) (fun _ _ _ h => h) (Or.inl ⟨by rfl, ?_⟩) (by assumption) ?_
      rotate_left
      · intro w hSw
        try dsimp only at hSw
        go_simp
        try with_reducible rfl
      simp only [Act.put, List.setIfInBounds_toArray, List.set_cons_zero, List.set_cons_succ, List.getElem_toArray, List.getElem_cons_zero, List.getElem_cons_succ]
      refine wpAnyH_take (i := 12) (v := ?_) rfl (by kernel_rfl) (by kernel_rfl) (by kernel_rfl) (fun _ _ _ h => h) (Or.inl ⟨by rfl, ?_⟩) (by assumption) ?_
      rotate_left
      · intro w hSw
        try dsimp only at hSw
        go_simp
        try with_reducible rfl
      simp only [Act.put, List.setIfInBounds_toArray, List.set_cons_zero, List.set_cons_succ, List.getElem_toArray, List.getElem_cons_zero, List.getElem_cons_succ]
      refine wpAnyH_take (i := 13) (v := ?_) rfl (by kernel_rfl) (by kernel_rfl) (by kernel_rfl) (fun _ _ _ h => h) (Or.inl ⟨by rfl, ?_⟩) (by assumption) ?_
      rotate_left
      · intro w hSw
        try dsimp only at hSw
        go_simp
        try with_reducible rfl
      simp only [Act.put, List.setIfInBounds_toArray, List.set_cons_zero, List.set_cons_succ, List.getElem_toArray, List.getElem_cons_zero, List.getElem_cons_succ]
      refine wpAnyH_take (i := 14) (v := ?_) rfl (by kernel_rfl) (by kernel_rfl) (by kernel_rfl) (fun _ _ _ h => h) (Or.inl ⟨by rfl, ?_⟩) (by assumption) ?_
      rotate_left
      · intro w hSw
        try dsimp only at hSw
        go_simp
        try with_reducible rfl
      simp only [Act.put, List.setIfInBounds_toArray, List.set_cons_zero, List.set_cons_succ, List.getElem_toArray, List.getElem_cons_zero, List.getElem_cons_succ]
      refine wpAnyH_take (i := 15) (v := ?_) rfl (by kernel_rfl) (by kernel_rfl) (by kernel_rfl) (fun _ _ _ h => h) (Or.inl ⟨by rfl, ?_⟩) (by assumption) ?_
      rotate_left
      · intro w hSw
        obtain ⟨q1, q2, q3⟩ := hSw
        go_simp
        try with_reducible rfl
      simp only [Act.put, List.setIfInBounds_toArray, List.set_cons_zero, List.set_cons_succ, List.getElem_toArray, List.getElem_cons_zero, List.getElem_cons_succ]
      refine wpAnyH_ready (rs := [16]) (by kernel_rfl) (by simp) ?_
      refine AllReadyH.cons rfl (fun Kc hKc => ?_) AllReadyH.nil
      go_simp
      go_wp2_with (go_at_call 34; refine (put_any _ G C R W _ x y z (HG.out.drewN 1) hu.1 hu.2).mono ?_; rintro e w' ⟨rfl, hg', hgr⟩; have HG1 := Lib.hid hg'; have HGR := Lib.hid hgr; clear hg' hgr)
      refine hKc.out _ _ ?_ (fun hHeld => ?_)
      · first | assumption | exact ⟨HGR.out.cell hHeld.1 (by simpa using hC), HGR.out.cell hHeld.2.1 (by simpa using hC), HGR.out.cell hHeld.2.2 (by simpa using hC)⟩
      clear hKc Kc
      refine wpAnyH_done (by kernel_rfl) ?_ _
      have HR1 := Lib.hid (((HR.out.drewN 1)).grown (w := wr.drewN 1) HGR.out (fun k e => by cases e; exact HGC.out.2.2.2))
      have HB1 : Hid (Below w.heap.size w w') := Lib.hid (bgr (below_drewN HB.out 1) HGR.out HGC.out.2.1)
      obtain ⟨e1, e2, e3⟩ := hHeld
      have D1 := Lib.hid e1
      have D2 := Lib.hid e2
      have D3 := Lib.hid e3
      clear e1 e2 e3
      go_wp2_with fail
      refine wp_region_held_drew (S := fun w' => w'.cell? ⟨b, off + j * 3, none⟩ = some (.int .i64 x) ∧ w'.cell? ⟨b, off + j * 3 + 1, none⟩ = some (.int .i64 y) ∧ w'.cell? ⟨b, off + j * 3 + 2, none⟩ = some (.int .i64 z)) (by kernel_rfl) (by exact ⟨D1.out, D2.out, D3.out⟩) (fun hHeld => ?_)
      refine wpAnyH_take (i := 0) (v := ?_) rfl (by kernel_rfl) (by kernel_rfl) (by kernel_rfl) (fun _ _ _ h => h) (Or.inl ⟨by rfl, ?_⟩) (by assumption) ?_
      rotate_left
      · intro w hSw
        try dsimp only at hSw
        go_simp
        try with_reducible rfl
      simp only [Act.put, List.setIfInBounds_toArray, List.set_cons_zero, List.set_cons_succ, List.getElem_toArray, List.getElem_cons_zero, List.getElem_cons_succ]
      refine wpAnyH_take (i := 1) (v := ?_) rfl (by kernel_rfl) (by kernel_rfl) (by kernel_rfl) (fun _ _ _ h => h) (Or.inl ⟨by rfl, ?_⟩) (by assumption) ?_
      rotate_left
      · intro w hSw
        try dsimp only at hSw
        go_simp
        try with_reducible rfl
      simp only [Act.put, List.setIfInBounds_toArray, List.set_cons_zero, List.set_cons_succ, List.getElem_toArray, List.getElem_cons_zero, List.getElem_cons_succ]
      refine wpAnyH_take (i := 2) (v := ?_) rfl (by kernel_rfl) (by kernel_rfl) (by kernel_rfl) (fun _ _ _ h => h) (Or.inl ⟨by rfl, ?_⟩) (by assumption) ?_
      rotate_left
      · intro w hSw
        try dsimp only at hSw
        go_simp
        try with_reducible rfl
      simp only [Act.put, List.setIfInBounds_toArray, List.set_cons_zero, List.set_cons_succ, List.getElem_toArray, List.getElem_cons_zero, List.getElem_cons_succ]
      refine wpAnyH_take (i := 3) (v := ?_) rfl (by kernel_rfl) (by kernel_rfl) (by kernel_rfl) (fun _ _ _ h => h) (Or.inl ⟨by rfl, ?_⟩) (by assumption) ?_
      rotate_left
      · intro w hSw
        try dsimp only at hSw
        go_simp
        try with_reducible rfl
      simp only [Act.put, List.setIfInBounds_toArray, List.set_cons_zero, List.set_cons_succ, List.getElem_toArray, List.getElem_cons_zero, List.getElem_cons_succ]
      refine wpAnyH_take (i := 4) (v := ?_) rfl (by kernel_rfl) (by kernel_rfl) (by kernel_rfl) (fun _ _ _ h => h) (Or.inl ⟨by rfl, ?_⟩) (by assumption) ?_
      rotate_left
      · intro w hSw
        try dsimp only at hSw
        go_simp
        try with_reducible rfl
      simp only [Act.put, List.setIfInBounds_toArray, List.set_cons_zero, List.set_cons_succ, List.getElem_toArray, List.getElem_cons_zero, List.getElem_cons_succ]
      refine wpAnyH_take (i := 5) (v := ?_) rfl (by kernel_rfl) (by kernel_rfl) (by kernel_rfl) (fun _ _ _ h => h) (Or.inl ⟨by rfl, ?_⟩) (by assumption) ?_
      rotate_left
      · intro w hSw
        obtain ⟨q1, q2, q3⟩ := hSw
        go_simp
        try with_reducible rfl
      simp only [Act.put, List.setIfInBounds_toArray, List.set_cons_zero, List.set_cons_succ, List.getElem_toArray, List.getElem_cons_zero, List.getElem_cons_succ]
      refine wpAnyH_take (i := 6) (v := ?_) rfl (by kernel_rfl) (by kernel_rfl) (by kernel_rfl) (fun _ _ _ h => h) (Or.inl ⟨by rfl, ?_⟩) (by assumption) ?_
      rotate_left
      · intro w hSw
        try dsimp only at hSw
        go_simp
        try with_reducible rfl
      simp only [Act.put, List.setIfInBounds_toArray, List.set_cons_zero, List.set_cons_succ, List.getElem_toArray, List.getElem_cons_zero, List.getElem_cons_succ]
      refine wpAnyH_take (i := 7) (v := ?_) rfl (by kernel_rfl) (by kernel_rfl) (by kernel_rfl) (fun _ _ _ h => h) (Or.inl ⟨by rfl, ?_⟩) (by assumption) ?_
      rotate_left
      · intro w hSw
        try dsimp only at hSw
        go_simp
        try with_reducible rfl
      simp only [Act.put, List.setIfInBounds_toArray, List.set_cons_zero, List.set_cons_succ, List.getElem_toArray, List.getElem_cons_zero, List.getElem_cons_succ]
      refine wpAnyH_take (i := 8) (v := ?_) rfl (by kernel_rfl) (by kernel_rfl) (by kernel_rfl) (fun _ _ _ h => h) (Or.inl ⟨by rfl, ?_⟩) (by assumption) ?_
      rotate_left
      · intro w hSw
        try dsimp only at hSw
        go_simp
        try with_reducible rfl
      simp only [Act.put, List.setIfInBounds_toArray, List.set_cons_zero, List.set_cons_succ, List.getElem_toArray, List.getElem_cons_zero, List.getElem_cons_succ]
      refine wpAnyH_take (i := 9) (v := ?_) rfl (by kernel_rfl) (by kernel_rfl) (by kernel_rfl) (fun _ _ _ h => h) (Or.inl ⟨by rfl, ?_⟩) (by assumption) ?_
      rotate_left
      · intro w hSw
        try dsimp only at hSw
        go_simp
        try with_reducible rfl
      simp only [Act.put, List.setIfInBounds_toArray, List.set_cons_zero, List.set_cons_succ, List.getElem_toArray, List.getElem_cons_zero, List.getElem_cons_succ]
      refine wpAnyH_take (i := 10) (v := ?_) rfl (by kernel_rfl) (by kernel_rfl) (by kernel_rfl) (fun _ _ _ h => h) (Or.inl ⟨by rfl, ?_⟩) (by assumption) ?_
      rotate_left
      · intro w hSw
        obtain ⟨q1, q2, q3⟩ := hSw
        go_simp
        try with_reducible rfl
      simp only [Act.put, List.setIfInBounds_toArray, List.set_cons_zero, List.set_cons_succ, List.getElem_toArray, List.getElem_cons_zero, List.getElem_cons_succ]
      refine wpAnyH_take (i := 11) (v := ?_) rfl (by kernel_rfl) (by kernel_rfl) (by kernel_rfl) (fun _ _ _ h => h) (Or.inl ⟨by rfl, ?_⟩) (by assumption) ?_
      rotate_left
      · intro w hSw
        try dsimp only at hSw
        go_simp
        try with_reducible rfl
      simp only [Act.put, List.setIfInBounds_toArray, List.set_cons_zero, List.set_cons_succ, List.getElem_toArray, List.getElem_cons_zero, List.getElem_cons_succ]
      refine wpAnyH_take (i := 12) (v := ?_) rfl (by kernel_rfl) (by kernel_rfl) (by kernel_rfl) (fun _ _ _ h => h) (Or.inl ⟨by rfl, ?_⟩) (by assumption) ?_
      rotate_left
      · intro w hSw
        try dsimp only at hSw
        go_simp
        try with_reducible rfl
      simp only [Act.put, List.setIfInBounds_toArray, List.set_cons_zero, List.set_cons_succ, List.getElem_toArray, List.getElem_cons_zero, List.getElem_cons_succ]
      refine wpAnyH_take (i := 13) (v := ?_) rfl (by kernel_rfl) (by kernel_rfl) (by kernel_rfl) (fun _ _ _ h => h) (Or.inl ⟨by rfl, ?_⟩) (by assumption) ?_
      rotate_left
      · intro w hSw
        try dsimp only at hSw
        go_simp
        try with_reducible rfl
      simp only [Act.put, List.setIfInBounds_toArray, List.set_cons_zero, List.set_cons_succ, List.getElem_toArray, List.getElem_cons_zero, List.getElem_cons_succ]
      refine wpAnyH_take (i := 14) (v := ?_) rfl (by kernel_rfl) (by kernel_rfl) (by kernel_rfl) (fun _ _ _ h => h) (Or.inl ⟨by rfl, ?_⟩) (by assumption) ?_
      rotate_left
      · intro w hSw
        try dsimp only at hSw
        go_simp
        try with_reducible rfl
      simp only [Act.put, List.setIfInBounds_toArray, List.set_cons_zero, List.set_cons_succ, List.getElem_toArray, List.getElem_cons_zero, List.getElem_cons_succ]
      refine wpAnyH_take (i := 15) (v := ?_) rfl (by kernel_rfl) (by kernel_rfl) (by kernel_rfl) (fun _ _ _ h => h) (Or.inl ⟨by rfl, ?_⟩) (by assumption) ?_
      rotate_left
      · intro w hSw
        obtain ⟨q1, q2, q3⟩ := hSw
        go_simp
        try with_reducible rfl
      simp only [Act.put, List.setIfInBounds_toArray, List.set_cons_zero, List.set_cons_succ, List.getElem_toArray, List.getElem_cons_zero, List.getElem_cons_succ]
      refine wpAnyH_ready (rs := [16]) (by kernel_rfl) (by simp) ?_
      refine AllReadyH.cons rfl (fun Kc hKc => ?_) AllReadyH.nil
      go_simp
      go_wp2_with (go_at_call 36; refine (rput_any _ N H v B K R W _ x y z (HR1.out.drewN 1)).mono ?_; rintro e w9 ⟨rfl, hr', hbN'⟩; have HR9 := Lib.hid hr'; have HB9 := Lib.hid hbN'; clear hr' hbN')
      refine hKc.out _ _ ?_ (fun hHeld => ?_)
      · first | assumption | exact ⟨(HB9.out.cell (p := ⟨b, off + j * 3, none⟩) hbN).trans hHeld.1, (HB9.out.cell (p := ⟨b, off + j * 3 + 1, none⟩) hbN).trans hHeld.2.1, (HB9.out.cell (p := ⟨b, off + j * 3 + 2, none⟩) hbN).trans hHeld.2.2⟩
      clear hKc Kc
      refine wpAnyH_done (by kernel_rfl) ?_ _
      have HG9 : Hid (GridIs w9 G C R W _) := Lib.hid ((HG1.out.drewN 1).below HB9.out HGC.out.2.2.1 HGC.out.2.2.2)
      have HB8 : Hid (Below w.heap.size w w9) := Lib.hid ((below_drewN HB1.out 1).trans (HB9.out.mono (by have := HN.out; have := HGC.out; omega)))
      clear hHeld
      go_wp2
      go_roundw
      case rel => exact ⟨j + 1, by omega, by go_num, by rw [HE.out]; exact HG9.out, by rw [HE.out]; exact HR9.out, HB8.out⟩
      case measure => simp [intOf]; omega
    · obtain rfl : j = m := by omega
      have hd : (decide (j < n) = false ∧ decide ((j : Int) < (n : Int)) = false) ∨ ((decide (j < n) = true ∧ decide ((j : Int) < (n : Int)) = true) ∧ decide ((j : Int) < 200) = false ∧ decide (j < 200) = false) := by
        have := HM.out
        by_cases h1 : j < n
        · exact .inr ⟨⟨decide_eq_true h1, decide_eq_true (by omega)⟩, decide_eq_false (by omega), decide_eq_false (by omega)⟩
        · exact .inl ⟨decide_eq_false h1, decide_eq_false (by omega)⟩
      have HP : Hid (MadePost w R W (putsZ R W zs0 pr pc pu j) (.returned (.tuple #[.pointer (some ⟨G, 0, none⟩), .pointer (some ⟨H, 0, none⟩)])) wr) :=
        ⟨G, C, N, H, v, B, K, rfl, HGC.out.1, HGC.out.2.1, HGC.out.2.2.1, HGC.out.2.2.2, HG.out, HR.out, HB.out⟩
      rcases hd with ⟨d3, d5⟩ | ⟨⟨d3, d5⟩, d4, d6⟩
      all_goals
        go_wp2
        go_ret2
        exact HP.out
end Go.Proofs.Ytfjhecgicemoeaa
