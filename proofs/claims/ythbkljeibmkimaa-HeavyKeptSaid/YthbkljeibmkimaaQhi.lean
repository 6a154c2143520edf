import Derived.Test.YthbkljeibmkimaaQhh
import Derived.Test.YthbkljeibmkimaaQhf
/-
  The law HeavyKept, of any arguments. Conditions: none beyond those stated at each theorem.
-/
namespace Go.Proofs.Ythbkljeibmkimaa
open Go.RowKit
set_option linter.unusedVariables false
set_option linter.unusedSimpArgs false

theorem HeavyKept_walk (v0 v1 : Value) (w : World) (h0 : shPlay.Val w v0) (h1 : (Sh.int .i64).Val w v1) :
    Calls Try.prog 6 #[v0, v1] w fun e w' => e = .returned (.bool true) ∧ Below w.heap.size w w' := by
  obtain ⟨xb, xr, xd, xm, s, l, n, ks, ds, rfl, hl, -, -, -, -, s0, s1⟩ := valPlay h0
  obtain ⟨a, rfl, ha⟩ := valI64 h1
  exact kept_walk xb xr xd xm s l n ks ds s0 s1 a ha w hl
end Go.Proofs.Ythbkljeibmkimaa
