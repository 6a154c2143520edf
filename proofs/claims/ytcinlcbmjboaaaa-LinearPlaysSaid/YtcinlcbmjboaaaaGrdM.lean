/-
  Cells set one after the other: the walks of At and Put whatever is asked, and of gaugerlaw06.made. Conditions: none beyond those stated at each theorem.
-/
import Derived.Test.YtcinlcbmjboaaaaGrdT
import Derived.Test.YtcinlcbmjboaaaaGrdJ
namespace Go.Proofs.Ytcinlcbmjboaaaa
open Go.RowKit
set_option linter.unusedVariables false
set_option linter.unusedSimpArgs false

def inB (R W : Nat) (r c : Int) : Bool := decide (0 ≤ r ∧ r < (R : Int) ∧ 0 ≤ c ∧ c < (W : Int))
theorem inB_yes {R W : Nat} {r c : Int} (h : inB R W r c = true) : ∃ r' c' : Nat, r = r' ∧ c = c' ∧ r' < R ∧ c' < W := by
  have := of_decide_eq_true h
  exact ⟨r.toNat, c.toNat, by omega, by omega, by omega, by omega⟩
theorem inB_no {R W : Nat} {r c : Int} (h : inB R W r c = false) : r < 0 ∨ (R : Int) ≤ r ∨ c < 0 ∨ (W : Int) ≤ c := by
  have := of_decide_eq_false h
  omega
def putZ (R W : Nat) (zs : List Int) (r c u : Int) : List Int := if inB R W r c = true then zs.set (r.toNat * W + c.toNat) u else zs
def atZ (R W : Nat) (zs : List Int) (r c : Int) : Int := if inB R W r c = true then cellD zs (r.toNat * W + c.toNat) else 0
def putsZ (R W : Nat) (zs : List Int) (pr pc pu : Nat → Int) : Nat → List Int
  | 0 => zs
  | k + 1 => putZ R W (putsZ R W zs pr pc pu k) (pr k) (pc k) (pu k)
theorem putZ_fit {R W : Nat} {zs : List Int} (h : Fit zs) (r c : Int) {u : Int} (u0 : -9223372036854775808 ≤ u) (u1 : u ≤ 9223372036854775807) : Fit (putZ R W zs r c u) := by
  unfold putZ; split
  · exact h.set _ u0 u1
  · exact h
theorem putZ_len {R W : Nat} {zs : List Int} {r c u : Int} : (putZ R W zs r c u).length = zs.length := by unfold putZ; split <;> simp
theorem putsZ_len {R W : Nat} {zs : List Int} {pr pc pu : Nat → Int} (k : Nat) : (putsZ R W zs pr pc pu k).length = zs.length := by
  induction k with
  | zero => rfl
  | succ k ih => rw [putsZ, putZ_len, ih]

def PutPost (w : World) (G C R W : Nat) (zs : List Int) (r c u : Int) (e : Ending) (w' : World) : Prop :=
  e = .returned (.bool (inB R W r c)) ∧ GridIs w' G C R W (putZ R W zs r c u) ∧ w.grownBy w' (some C)
theorem put_any (w : World) (G C R W : Nat) (zs : List Int) (r c u : Int) (h : GridIs w G C R W zs) (u0 : -9223372036854775808 ≤ u) (u1 : u ≤ 9223372036854775807) :
    Calls Try.prog 34 #[.pointer (some ⟨G, 0, none⟩), .int .i64 r, .int .i64 c, .int .i64 u] w (PutPost w G C R W zs r c u) := by
  cases hin : inB R W r c with
  | true =>
    obtain ⟨r', c', rfl, rfl, h1, h2⟩ := inB_yes hin
    refine (put_in w G C R W r' c' u zs h h1 h2).mono ?_
    rintro e w' ⟨rfl, rfl⟩
    refine ⟨by rw [hin], ?_, grown_set _ _ _ _⟩
    rw [putZ, if_pos hin]
    exact h.set _ u u0 u1
  | false =>
    refine (put_out w G C R W r c u zs h (inB_no hin)).mono ?_
    rintro e w' ⟨rfl, rfl⟩
    refine ⟨by rw [hin], by rw [putZ, if_neg (by rw [hin]; decide)]; exact h, ⟨rfl, rfl, rfl, Nat.le_refl _, fun _ _ _ => rfl⟩⟩
theorem at_any (w : World) (G C R W : Nat) (zs : List Int) (r c : Int) (h : GridIs w G C R W zs) :
    Calls Try.prog 18 #[.pointer (some ⟨G, 0, none⟩), .int .i64 r, .int .i64 c] w fun e w' => e = .returned (.int .i64 (atZ R W zs r c)) ∧ w = w' := by
  cases hin : inB R W r c with
  | true =>
    obtain ⟨r', c', rfl, rfl, h1, h2⟩ := inB_yes hin
    rw [atZ, if_pos hin]
    exact at_in w G C R W r' c' zs h h1 h2
  | false =>
    rw [atZ, if_neg (by rw [hin]; decide)]
    exact at_out w G C R W r c zs h (inB_no hin)
def RPutPost (w : World) (N G : Nat) (v : Value) (B K : Nat → Nat) (R W : Nat) (zs : List Int) (r c u : Int) (e : Ending) (w' : World) : Prop :=
  e = .returned (.bool (inB R W r c)) ∧ RefIs w' N G v B K R W (putZ R W zs r c u) ∧ Below N w w'

/-- the slice l holds n cells to be set: rows pr, columns pc, numbers pu -/
def PutsAt (w : World) (l : Value) (n : Nat) (pr pc pu : Nat → Int) : Prop :=
  ∃ (ao : Option Addr) (cap : Nat), l = .slice ao n cap ∧ n ≤ maxLen ∧ (∀ i, i < n → In64 (pu i)) ∧
    (0 < n → ∃ b off, ao = some ⟨b, off, none⟩ ∧ b < w.heap.size ∧ ∀ i, i < n → w.cell? ⟨b, off + i * 3, none⟩ = some (.int .i64 (pr i)) ∧ w.cell? ⟨b, off + i * 3 + 1, none⟩ = some (.int .i64 (pc i)) ∧ w.cell? ⟨b, off + i * 3 + 2, none⟩ = some (.int .i64 (pu i)))
theorem PutsAt.kept {w w' : World} {l : Value} {n : Nat} {pr pc pu : Nat → Int} (h : PutsAt w l n pr pc pu) (hb : Below w.heap.size w w') : PutsAt w' l n pr pc pu := by
  obtain ⟨ao, cap, e, hm, hu, h⟩ := h
  refine ⟨ao, cap, e, hm, hu, fun h0 => ?_⟩
  obtain ⟨b, off, e2, hlt, hc⟩ := h h0
  refine ⟨b, off, e2, Nat.lt_of_lt_of_le hlt hb.size, fun i hi => ?_⟩
  obtain ⟨c1, c2, c3⟩ := hc i hi
  exact ⟨(hb.cell (p := ⟨b, off + i * 3, none⟩) hlt).trans c1, (hb.cell (p := ⟨b, off + i * 3 + 1, none⟩) hlt).trans c2, (hb.cell (p := ⟨b, off + i * 3 + 2, none⟩) hlt).trans c3⟩

def MadePost (w : World) (R W : Nat) (zs : List Int) (e : Ending) (w' : World) : Prop :=
  ∃ G C N H v B K, e = .returned (.tuple #[.pointer (some ⟨G, 0, none⟩), .pointer (some ⟨H, 0, none⟩)]) ∧ w.heap.size ≤ G ∧ w.heap.size ≤ C ∧ G < N ∧ C < N ∧ GridIs w' G C R W zs ∧ RefIs w' N H v B K R W zs ∧ Below w.heap.size w w'

end Go.Proofs.Ytcinlcbmjboaaaa
