/-
  The walks of exact: Check, Update, Config, Load, Copy. Conditions: none beyond those stated at each theorem.
-/
import Derived.Test.YtbghchgmoiniiaaExa
namespace Go.Proofs.Ytbghchgmoiniiaa
open Go.RowKit
set_option linter.unusedVariables false
set_option linter.unusedSimpArgs false

theorem ArrIs.kept {w w' : World} {A G C : Nat} {b r d m s l : Int} {K : Nat} {zs : List Int} (h : ArrIs w A G C b r d m s l K zs) (hb : Below w.heap.size w w') : ArrIs w' A G C b r d m s l K zs := ⟨h.1.kept hb, h.2.kept hb⟩
theorem ArrIs.ltA {w : World} {A G C : Nat} {b r d m s l : Int} {K : Nat} {zs : List Int} (h : ArrIs w A G C b r d m s l K zs) : A < w.heap.size := h.1.lt
theorem ArrIs.grown {w w' : World} {A G C : Nat} {b r d m s l : Int} {K : Nat} {zs : List Int} {row : Option Nat} (h : ArrIs w A G C b r d m s l K zs) (hb : w.grownBy w' row) (h0 : some A ≠ row) (h1 : some G ≠ row) (h2 : some C ≠ row) : ArrIs w' A G C b r d m s l K zs := ⟨h.1.grown hb h0, h.2.grown hb h1 h2⟩
theorem ArrIs.drewN {w : World} {A G C : Nat} {b r d m s l : Int} {K : Nat} {zs : List Int} (h : ArrIs w A G C b r d m s l K zs) (n : Nat) : ArrIs (w.drewN n) A G C b r d m s l K zs := h.kept (below_drewN (Below.refl _ _) n)
theorem ArrIs.neAC {w : World} {A G C : Nat} {b r d m s l : Int} {K : Nat} {zs : List Int} (h : ArrIs w A G C b r d m s l K zs) : A ≠ C := by
  obtain ⟨cur, hc, _⟩ := h.2.cells
  exact h.1.ne_ hc (by decide)
/-- the same array, its numbers others, laid by what changes the numbers' block alone -/
theorem ArrIs.put {w w' : World} {A G C : Nat} {b r d m s l : Int} {K : Nat} {zs zs' : List Int} (h : ArrIs w A G C b r d m s l K zs) (hb : w.grownBy w' (some C)) (hg : GridIs w' G C 1 K zs') : ArrIs w' A G C b r d m s l K zs' := ⟨h.1.grown hb (by simpa using h.neAC), hg⟩

instance (x : Int) : Decidable (In64 x) := by unfold In64; infer_instance
def chkI (K : Nat) (m : Int) (zs : List Int) (k : Nat) (d : Int) : Int := if K ≤ k then 2 else if m = 2 ∧ d < 0 then 3 else if In64 (cellD zs k + d) then 0 else 4
def updZ (K : Nat) (m : Int) (zs : List Int) (k : Nat) (d : Int) : List Int := if chkI K m zs k d = 0 then zs.set k (cellD zs k + d) else zs
theorem fitC {zs : List Int} (h : Fit zs) (i : Nat) : In64 (cellD zs i) := by
  unfold cellD
  cases hz : zs[i]? with
  | none => exact ⟨by simp, by simp⟩
  | some x => exact h.get hz
theorem ret_i64q {a b : Int} (h : a = b) : Ending.returned (.int .i64 a) = .returned (.int .i64 b) := by rw [h]

def UpdPost (w : World) (A G C : Nat) (b r d m s l : Int) (K : Nat) (zs : List Int) (k : Nat) (x : Int) (e : Ending) (w' : World) : Prop :=
  e = .returned (.int .i64 (chkI K m zs k x)) ∧ ArrIs w' A G C b r d m s l K (updZ K m zs k x) ∧ w.grownBy w' (some C)
theorem below_gr {w w' : World} {row : Option Nat} (h : Below w.heap.size w w') : w.grownBy w' row := ⟨h.os, h.tape, h.output, h.size, fun k hk _ => h.block k hk⟩
theorem gr_trans {w w1 w2 : World} {row : Option Nat} (h : w.grownBy w1 row) (k : w1.grownBy w2 row) : w.grownBy w2 row :=
  ⟨k.os.trans h.os, k.tape.trans h.tape, k.output.trans h.output, Nat.le_trans h.size k.size, fun j hj hne => (k.block j (Nat.lt_of_lt_of_le hj h.size) hne).trans (h.block j hj hne)⟩
theorem chkI_ok {K : Nat} {m : Int} {zs : List Int} {k : Nat} {x : Int} (h : chkI K m zs k x = 0) : k < K ∧ In64 (cellD zs k + x) := by
  unfold chkI at h
  split at h
  · omega
  split at h
  · omega
  split at h
  · exact ⟨by omega, by assumption⟩
  · omega

end Go.Proofs.Ytbghchgmoiniiaa
