/-
  The walks of gaugerref07.Any and of the laws' top; a config as an argument. Conditions: none beyond those stated at each theorem.
-/
import Derived.Test.YtbghchgmoiniiaaShpX
import Derived.Test.YtbghchgmoiniiaaSh
import Derived.Deep.RegionHeld3
import Derived.StillTailTactics
import Derived.OpenShut
namespace Go.Proofs.Ytbghchgmoiniiaa
open Go.RowKit Go.ChangeShapes Go.WideShapes Go.ChangeAt
set_option linter.unusedVariables false
set_option linter.unusedSimpArgs false
def shCfg : Sh := .agg (.cons (.int .i64) (.cons (.int .i64) (.cons (.int .i64) (.cons (.int .i64) (.cons (.int .u64) .unit)))))
theorem valCfg {w : World} {v : Value} (h : shCfg.Val w v) : ∃ b r d m s : Int, v = .agg #[.int .i64 b, .int .i64 r, .int .i64 d, .int .i64 m, .int .u64 s] ∧
    (Lit.int .i64 b).wf = true ∧ (Lit.int .i64 r).wf = true ∧ (Lit.int .i64 d).wf = true ∧ (Lit.int .i64 m).wf = true ∧ (Lit.int .u64 s).wf = true := by
  obtain ⟨cs, rfl, h1⟩ := h
  obtain ⟨b, q, e, wb, h2⟩ := Sh.reads_int h1
  obtain ⟨r, q, rfl, wr, h3⟩ := Sh.reads_int h2
  obtain ⟨d, q, rfl, wd, h4⟩ := Sh.reads_int h3
  obtain ⟨m, q, rfl, wm, h5⟩ := Sh.reads_int h4
  obtain ⟨s, q, rfl, ws, h6⟩ := Sh.reads_int h5
  obtain rfl := Sh.reads_unit h6
  exact ⟨b, r, d, m, s, by rw [agg_of_list e], wb, wr, wd, wm, ws⟩

def anyI (x n : Int) : Int := 1 + x % 65536 % n
theorem anyI_bd (x n : Int) (h : 1 ≤ n) : 1 ≤ anyI x n ∧ anyI x n ≤ n := by
  unfold anyI
  have h1 := Int.emod_nonneg (x % 65536) (show n ≠ 0 by omega)
  have h2 := Int.emod_lt_of_pos (x % 65536) (show 0 < n by omega)
  omega
theorem and16 (n : Int) : bits BinOp.and IntKind.i64 n 65535 = n % 65536 := by
  have h16 : (BitVec.ofInt 64 65535).toNat = 2 ^ 16 - 1 := by decide
  have key : (BitVec.ofInt 64 n &&& BitVec.ofInt 64 65535).toNat = (n % ((2 ^ 64 : Nat) : Int)).toNat % 2 ^ 16 := by
    rw [BitVec.toNat_and, BitVec.toNat_ofInt, h16, Nat.and_two_pow_sub_one_eq_mod]
  show IntKind.i64.wrap ((BitVec.ofInt 64 n &&& BitVec.ofInt 64 65535).toNat : Nat) = n % 65536
  rw [key, IntKind.wrap_i64]
  omega


section
variable {P : Program}
theorem wpList_load_row_g {ops : Array Oper} {rest : List Oper} {o : Oper} {a : Act} {w : World} {Q : Exit → Act → World → Prop} (hw : Region.wanted o (yielded ops a.tmps) = true) (ty : TypeId) (x : Operand) (ho : o.op = .load ty x)
    (g : Nat) (hx : a.eval x = .pointer (some ⟨g, 0, none⟩)) (t : TypeId) (cs : Array Value) (fr : Nat × Nat) (d : TypeDesc) (hg : w.heap[g]? = some (.cells cs t fr))
    (hu : P.underlying ty = some d) (hd : (match d with | .struct _ | .array _ _ => true | _ => false) = true) (hi : (P.info? ty).map (·.size) = some cs.size)
    (h : wpList P ops Q rest (a.put o.dst (.agg cs)) w) : wpList P ops Q (o :: rest) a w := by
  simp only [wpList, hw, if_true]
  exact .inl (wp_load_row ty x ho g hx t cs fr d hg hu hd hi h)
end

theorem exact_top {b r d m s : Int} (h : rightB b r d m = true) : exactB b r d m b = true := by
  have hr := right_of h
  unfold exactB
  rw [keysI_yes h (by omega) (by omega)]
  simp; omega

end Go.Proofs.Ytbghchgmoiniiaa
