/-
  Plain numbers, no program: digits of sixteen bits, and their sums. Conditions: none beyond those stated at each theorem.
-/
import Derived.Test.YtbghchgmoiniiaaMem
import Derived.ChangeKeysEq
import Derived.Deep.OwnRows
namespace Go.Proofs.Ytbghchgmoiniiaa
open Go.RowKit
set_option linter.unusedVariables false
set_option linter.unusedSimpArgs false

def digit (x : Int) (i : Nat) : Int := x / 65536 ^ i % 65536
theorem digit_bd (x : Int) (i : Nat) : 0 ≤ digit x i ∧ digit x i ≤ 65535 := by unfold digit; omega
theorem pw_pos (i : Nat) : (0 : Int) < 65536 ^ i := Int.pow_pos (by decide)

/-- what is below digit j -/
def lows (x : Int) (j : Nat) : Int := x % 65536 ^ j
theorem lows_bd (x : Int) (j : Nat) : 0 ≤ lows x j ∧ lows x j < 65536 ^ j :=
  ⟨Int.emod_nonneg _ (by have := pw_pos j; omega), Int.emod_lt_of_pos _ (pw_pos j)⟩
theorem split_at (x : Int) (j : Nat) : x = 65536 ^ j * (x / 65536 ^ j) + lows x j := (Int.mul_ediv_add_emod x _).symm
theorem div_next (x : Int) (j : Nat) : x / 65536 ^ (j + 1) = x / 65536 ^ j / 65536 := by
  rw [Int.pow_succ, Int.ediv_ediv_of_nonneg (by have := pw_pos j; omega)]
theorem lows_succ (x : Int) (j : Nat) : lows x (j + 1) = lows x j + 65536 ^ j * digit x j := by
  have h1 := split_at x j
  have h2 := split_at x (j + 1)
  have h3 : x / 65536 ^ j = 65536 * (x / 65536 ^ j / 65536) + digit x j := (Int.mul_ediv_add_emod _ _).symm
  rw [div_next, Int.pow_succ] at h2
  have h4 : (65536 : Int) ^ j * (x / 65536 ^ j) = 65536 ^ j * 65536 * (x / 65536 ^ j / 65536) + 65536 ^ j * digit x j := by
    conv => lhs; rw [h3]
    rw [Int.mul_add, ← Int.mul_assoc]
  omega
theorem lows_zero (x : Int) : lows x 0 = 0 := by simp [lows, Int.emod_one]

/-- what is carried to digit j -/
def carryI (x y : Int) (j : Nat) : Int := (lows x j + lows y j) / 65536 ^ j
theorem carryI_bd (x y : Int) (j : Nat) : 0 ≤ carryI x y j ∧ carryI x y j ≤ 1 := by
  have hp := pw_pos j
  have h1 := lows_bd x j
  have h2 := lows_bd y j
  refine ⟨Int.ediv_nonneg (by omega) (by omega), ?_⟩
  have : carryI x y j < 2 := Int.ediv_lt_of_lt_mul hp (by omega)
  omega
theorem carryI_zero (x y : Int) : carryI x y 0 = 0 := by simp [carryI, lows_zero]
theorem carryI_succ (x y : Int) (j : Nat) : carryI x y (j + 1) = (digit x j + digit y j + carryI x y j) / 65536 := by
  have hp := pw_pos j
  unfold carryI
  rw [lows_succ, lows_succ, Int.pow_succ, ← Int.ediv_ediv_of_nonneg (by omega)]
  congr 1
  rw [show lows x j + 65536 ^ j * digit x j + (lows y j + 65536 ^ j * digit y j) = (lows x j + lows y j) + 65536 ^ j * (digit x j + digit y j) by rw [Int.mul_add]; omega,
    Int.add_mul_ediv_left _ _ (by omega)]
  omega
theorem digit_add (x y : Int) (j : Nat) : digit (x + y) j = (digit x j + digit y j + carryI x y j) % 65536 := by
  have hp := pw_pos j
  have h1 := split_at x j
  have h2 := split_at y j
  have h3 : (x + y) / 65536 ^ j = x / 65536 ^ j + y / 65536 ^ j + carryI x y j := by
    conv => lhs; rw [h1, h2]
    rw [show 65536 ^ j * (x / 65536 ^ j) + lows x j + (65536 ^ j * (y / 65536 ^ j) + lows y j) = (lows x j + lows y j) + 65536 ^ j * (x / 65536 ^ j + y / 65536 ^ j) by rw [Int.mul_add]; omega,
      Int.add_mul_ediv_left _ _ (by omega)]
    unfold carryI
    omega
  unfold digit
  rw [h3]
  omega
theorem digit_not (x : Int) (j : Nat) : digit (-1 - x) j = 65535 - digit x j := by
  have hp := pw_pos j
  have h1 := split_at x j
  have h2 := lows_bd x j
  have h3 : (-1 - x) / 65536 ^ j = -1 - x / 65536 ^ j := by
    have e : -1 - x = (65536 ^ j - 1 - lows x j) + 65536 ^ j * (-1 - x / 65536 ^ j) := by
      rw [Int.mul_sub]
      omega
    rw [e, Int.add_mul_ediv_left _ _ (by omega), Int.ediv_eq_zero_of_lt (by omega) (by omega)]
    omega
  unfold digit
  rw [h3]
  omega

def dig (x : Int) : List Int := (List.range 10).map (digit x)
theorem dig_len (x : Int) : (dig x).length = 10 := by simp [dig]
theorem dig_get (x : Int) (i : Nat) (h : i < 10) : (dig x)[i]? = some (digit x i) := by simp [dig, h]
theorem lows_of_dig {x y : Int} (h : dig x = dig y) (j : Nat) (hj : j ≤ 10) : lows x j = lows y j := by
  induction j with
  | zero => rw [lows_zero, lows_zero]
  | succ j ih =>
    rw [lows_succ, lows_succ, ih (by omega)]
    have h1 := dig_get x j (by omega)
    rw [h, dig_get y j (by omega)] at h1
    rw [Option.some.inj h1]
theorem dig_inj {x y : Int} (h : dig x = dig y) : x % 1461501637330902918203684832716283019655932542976 = y % 1461501637330902918203684832716283019655932542976 := by
  have := lows_of_dig h 10 (Nat.le_refl _)
  simpa [lows] using this

/-- what of a number sixty-four bits tell -/
def low64 (x : Int) : Int := wrap64 (x % 18446744073709551616)
theorem low64_bd (x : Int) : -9223372036854775808 ≤ low64 x ∧ low64 x ≤ 9223372036854775807 := by unfold low64 wrap64; omega
theorem low64_fit {x : Int} (x0 : -9223372036854775808 ≤ x) (x1 : x ≤ 9223372036854775807) : low64 x = x := by unfold low64 wrap64; omega
theorem dig_low64 {x : Int} (h : -9223372036854775808 ≤ x ∧ x ≤ 9223372036854775807) : dig (low64 x) = dig x := by rw [low64_fit h.1 h.2]
theorem dig_low64_ne {x : Int} (h0 : -365375409332725729550921208179070754913983135744 ≤ x) (h1 : x ≤ 365375409332725729550921208179070754913983135744) (h : ¬ (-9223372036854775808 ≤ x ∧ x ≤ 9223372036854775807)) : ¬ dig (low64 x) = dig x := by
  intro e
  have h2 := dig_inj e
  have h3 := low64_bd x
  omega

theorem and_lo16 (a : Int) (h0 : 0 ≤ a) (h1 : a ≤ 18446744073709551615) : bits BinOp.and IntKind.u64 a 65535 = a % 65536 := by
  have h := u64_and a 65535 h0 (by omega) (by omega) (by omega)
  rw [h]
  have : (65535 : Int).toNat = 2 ^ 16 - 1 := by decide +kernel
  rw [this, Nat.and_two_pow_sub_one_eq_mod]
  have e : ((a.toNat % 2 ^ 16 : Nat) : Int) = (a.toNat : Int) % 65536 := by
    rw [Int.natCast_emod]; rfl
  rw [e, Int.toNat_of_nonneg h0]
theorem or_at (S d : Int) (i : Nat) (h0 : 0 ≤ S) (h1 : S < 2 ^ i) (d0 : 0 ≤ d) (ht : 2 ^ i * d < 18446744073709551616) (hi : (2 : Int) ^ i < 18446744073709551616) : bits BinOp.or IntKind.u64 S (d * 2 ^ i) = S + 2 ^ i * d := by
  obtain ⟨s, rfl⟩ := Int.eq_ofNat_of_zero_le h0
  obtain ⟨e, rfl⟩ := Int.eq_ofNat_of_zero_le d0
  have c1 : ((2 ^ i : Nat) : Int) = (2 : Int) ^ i := Int.natCast_pow ..
  have c2 : ((2 ^ i * e : Nat) : Int) = (2 : Int) ^ i * (e : Int) := by rw [Int.natCast_mul, c1]
  have hs : s < 2 ^ i := by omega
  rw [Int.mul_comm, ← c2, u64_or_nat _ _ (by omega) (by omega), Nat.or_comm, ← Nat.two_pow_add_eq_or_of_lt hs]
  omega
theorem wrapI_eq64 (x : Int) : IntKind.i64.wrap x = wrap64 x := by
  simp [IntKind.wrap, IntKind.bits, IntKind.signed]; unfold wrap64; split <;> omega
theorem wrapU_mod (x : Int) : IntKind.u64.wrap x = x % 18446744073709551616 := by simp [IntKind.wrap, IntKind.bits, IntKind.signed]
theorem wrap64_small (x : Int) (h0 : 0 ≤ x) (h1 : x ≤ 65535) : wrap64 x = x := by unfold wrap64; omega
theorem ofd0 (n : Int) : wrap64 (bits BinOp.and IntKind.u64 (IntKind.u64.wrap n) 65535) = digit n 0 := by
  rw [wrapU_mod, and_lo16 _ (by omega) (by omega), wrap64_small _ (by omega) (by omega)]
  unfold digit; simp
theorem ofd1 (n : Int) : wrap64 (bits BinOp.and IntKind.u64 (IntKind.u64.wrap n / 65536) 65535) = digit n 1 := by
  rw [wrapU_mod, and_lo16 _ (by omega) (by omega), wrap64_small _ (by omega) (by omega)]
  unfold digit; simp; omega
theorem ofd2 (n : Int) : wrap64 (bits BinOp.and IntKind.u64 (IntKind.u64.wrap n / 4294967296) 65535) = digit n 2 := by
  rw [wrapU_mod, and_lo16 _ (by omega) (by omega), wrap64_small _ (by omega) (by omega)]
  unfold digit; simp; omega
theorem ofd3 (n : Int) : wrap64 (bits BinOp.and IntKind.u64 (IntKind.u64.wrap n / 281474976710656) 65535) = digit n 3 := by
  rw [wrapU_mod, and_lo16 _ (by omega) (by omega), wrap64_small _ (by omega) (by omega)]
  unfold digit; simp; omega
theorem digit_hi (n : Int) (n0 : -9223372036854775808 ≤ n) (n1 : n ≤ 9223372036854775807) (j : Nat) (hj : 4 ≤ j) : digit n j = if n < 0 then 65535 else 0 := by
  have hp : (18446744073709551616 : Int) ≤ 65536 ^ j := by
    obtain ⟨k, rfl⟩ : ∃ k, j = 4 + k := ⟨j - 4, by omega⟩
    rw [Int.pow_add]
    have := pw_pos k
    have : (65536 : Int) ^ 4 * 1 ≤ 65536 ^ 4 * 65536 ^ k := Int.mul_le_mul_of_nonneg_left (by omega) (by decide)
    omega
  unfold digit
  split
  · have : n / 65536 ^ j = -1 := by
      have h1 := split_at n j
      have h2 := lows_bd n j
      have h3 : n / 65536 ^ j < 0 := Int.ediv_neg_of_neg_of_pos (by omega) (by omega)
      have h4 : -1 ≤ n / 65536 ^ j := Int.le_ediv_of_mul_le (by omega) (by omega)
      omega
    rw [this]; rfl
  · rw [Int.ediv_eq_zero_of_lt (by omega) (by omega)]; rfl

theorem lor0 (x : Int) : bits BinOp.or IntKind.u64 (lows x 0) (digit x 0) = lows x 1 := by
  have h1 := lows_bd x 0; have h2 := digit_bd x 0
  have := or_at (lows x 0) (digit x 0) 0 (by omega) (by simpa using h1.2) (by omega) (by simp; omega) (by decide)
  rw [lows_succ]; simpa using this
theorem lor1 (x : Int) : bits BinOp.or IntKind.u64 (lows x 1) (digit x 1 * 65536) = lows x 2 := by
  have h1 := lows_bd x 1; have h2 := digit_bd x 1
  have := or_at (lows x 1) (digit x 1) 16 (by omega) (by simpa using h1.2) (by omega) (by simp; omega) (by decide)
  rw [lows_succ x 1]; simpa using this
theorem lor2 (x : Int) : bits BinOp.or IntKind.u64 (lows x 2) (digit x 2 * 4294967296) = lows x 3 := by
  have h1 := lows_bd x 2; have h2 := digit_bd x 2
  have := or_at (lows x 2) (digit x 2) 32 (by omega) (by simpa using h1.2) (by omega) (by simp; omega) (by decide)
  rw [lows_succ x 2]; simpa using this
theorem lor3 (x : Int) : bits BinOp.or IntKind.u64 (lows x 3) (digit x 3 * 281474976710656) = lows x 4 := by
  have h1 := lows_bd x 3; have h2 := digit_bd x 3
  have := or_at (lows x 3) (digit x 3) 48 (by omega) (by simpa using h1.2) (by omega) (by simp; omega) (by decide)
  rw [lows_succ x 3]; simpa using this
theorem low64_lows (x : Int) : wrap64 (lows x 4) = low64 x := by unfold low64 lows; rfl

def intsV (l : List Int) : Array Value := (l.map (Value.int .i64)).toArray
theorem intsV_get (l : List Int) (i : Nat) : (intsV l)[i]? = (l[i]?).map (Value.int .i64) := by simp [intsV]
theorem intsV_size (l : List Int) : (intsV l).size = l.length := by simp [intsV]
def longA (x : Int) : Array Value := intsV (dig x)
theorem longA_size (x : Int) : (longA x).size = 10 := by rw [longA, intsV_size, dig_len]
theorem longA_get (x : Int) (i : Nat) (h : i < 10) : (longA x)[i]? = some (.int .i64 (digit x i)) := by rw [longA, intsV_get, dig_get x i h]; rfl

theorem Blk.of_row {w : World} {b : Nat} {t : TypeId} {f : Nat → Value} {cs : Array Value} (h : w.rowIs b t cs.size f) (e : ∀ i, i < cs.size → cs[i]? = some (f i)) : Blk w b t cs := by
  obtain ⟨c, hb, hn, hc⟩ := h
  have : c = cs := by
    apply Array.ext_getElem?
    intro i
    by_cases hi : i < cs.size
    · rw [hc i hi, e i hi]
    · rw [Array.getElem?_eq_none (by omega), Array.getElem?_eq_none (by omega)]
  rw [← this]
  exact hb
theorem Blk.row {w : World} {b : Nat} {t : TypeId} {f : Nat → Value} {cs : Array Value} (h : Blk w b t cs) (e : ∀ i, i < cs.size → cs[i]? = some (f i)) : w.rowIs b t cs.size f := ⟨cs, h, rfl, e⟩

/-- a row whose first j cells are f's -/
def RowUpTo (w : World) (b : Nat) (t : TypeId) (n : Nat) (f : Nat → Int) (j : Nat) : Prop := ∃ g : Nat → Int, w.rowIs b t n (fun k => .int .i64 (g k)) ∧ ∀ k, k < j → g k = f k
section
variable {w w' : World} {b : Nat} {t : TypeId} {n : Nat} {f : Nat → Int} {j : Nat}
theorem RowUpTo.any (h : RowUpTo w b t n f j) (v : Int) : RowUpTo (w.setCell ⟨b, j, none⟩ (.int .i64 v)) b t n f j := by
  obtain ⟨g, h1, h2⟩ := h
  refine ⟨fun k => if k = j then v else g k, (h1.set j _).congr (fun k _ => by by_cases e : k = j <;> simp [e]), fun k hk => ?_⟩
  show (if k = j then v else g k) = f k
  rw [if_neg (by omega)]; exact h2 k hk
theorem RowUpTo.put (h : RowUpTo w b t n f j) {v : Int} (hv : v = f j) : RowUpTo (w.setCell ⟨b, j, none⟩ (.int .i64 v)) b t n f (j + 1) := by
  obtain ⟨g, h1, h2⟩ := h
  refine ⟨fun k => if k = j then v else g k, (h1.set j _).congr (fun k _ => by by_cases e : k = j <;> simp [e]), fun k hk => ?_⟩
  show (if k = j then v else g k) = f k
  by_cases e : k = j
  · subst e; rw [if_pos rfl, hv]
  · rw [if_neg e]; exact h2 k (by omega)
theorem RowUpTo.lt (h : RowUpTo w b t n f j) : b < w.heap.size := by obtain ⟨g, h1, _⟩ := h; exact h1.lt
theorem RowUpTo.far (h : RowUpTo w b t n f j) {p : Addr} (hp : b ≠ p.block) (u : Value) : RowUpTo (w.setCell p u) b t n f j := by obtain ⟨g, h1, h2⟩ := h; exact ⟨g, h1.setOther hp u, h2⟩
theorem RowUpTo.kept (h : RowUpTo w b t n f j) (hb : Below w.heap.size w w') : RowUpTo w' b t n f j := by obtain ⟨g, h1, h2⟩ := h; exact ⟨g, h1.of_block (hb.block b h1.lt), h2⟩
theorem RowUpTo.drewN (h : RowUpTo w b t n f j) (q : Nat) : RowUpTo (w.drewN q) b t n f j := by obtain ⟨g, h1, h2⟩ := h; exact ⟨g, h1, h2⟩
theorem RowUpTo.cell (h : RowUpTo w b t n f j) {i : Nat} (hi : i < n) : ∃ v : Int, w.cell? ⟨b, i, none⟩ = some (.int .i64 v) := by obtain ⟨g, h1, h2⟩ := h; exact ⟨_, h1.cell hi⟩
theorem RowUpTo.frozen (h : RowUpTo w b t n f j) (i : Nat) : w.frozen? ⟨b, i, none⟩ = false := by obtain ⟨g, h1, h2⟩ := h; exact h1.frozen i
theorem RowUpTo.zeros (h : w.rowIs b t n (fun _ => .int .i64 0)) (f : Nat → Int) : RowUpTo w b t n f 0 := ⟨fun _ => 0, h, fun k hk => by omega⟩
theorem RowUpTo.full (h : RowUpTo w b t n f n) : w.rowIs b t n (fun k => .int .i64 (f k)) := by
  obtain ⟨g, h1, h2⟩ := h
  exact h1.congr (fun k hk => by rw [h2 k hk])
end

section
variable {P : Program}
theorem run_eqItems_ints (d : Nat) {e : TypeId} {k : IntKind} (hu : P.underlying e = some (.int k)) (xs ys : List Int) (w : World) :
    ∀ (is : List Nat), (∀ i ∈ is, i < xs.length ∧ i < ys.length) → (Op.eqItems (d + 1) e 1 (intsV xs) (intsV ys) is).run P w = .ok (is.all fun i => xs[i]? == ys[i]?) w := by
  have hagg : (isAgg e).run P w = .ok false w := by
    unfold isAgg
    rw [Sem.run_bind, run_underlying hu w]
    rfl
  have hp : ∀ (l : List Int) (i : Nat), i < l.length → (part e (intsV l) i).run P w = .ok (.int .i64 (l[i]?.getD 0)) w := by
    intro l i hi
    unfold part
    rw [Sem.run_bind, hagg]
    simp [intsV_get, hi]
  intro is
  induction is with
  | nil => intro _; simp [Op.eqItems]
  | cons i is ih =>
    intro h
    obtain ⟨hx, hy⟩ := h i (by simp)
    have ih := ih (fun j hj => h j (by simp [hj]))
    simp only [Op.eqItems, Sem.run_bind, Nat.mul_one, hp xs i hx, hp ys i hy, Result.andThen_ok, run_equalIn_int w d e .i64 k _ _ hu]
    have e1 : xs[i]? = some xs[i] := List.getElem?_eq_getElem hx
    have e2 : ys[i]? = some ys[i] := List.getElem?_eq_getElem hy
    simp only [e1, e2, Option.getD_some, List.all_cons]
    by_cases e3 : xs[i] = ys[i]
    · simp [e3, ih]
    · simp [e3]
end
section
variable {P : Program}
theorem all_eq_iff (xs ys : List Int) (hl : xs.length = ys.length) : ((List.range xs.length).all fun i => xs[i]? == ys[i]?) = decide (xs = ys) := by
  rw [Bool.eq_iff_iff]
  simp only [List.all_eq_true, List.mem_range, beq_iff_eq, decide_eq_true_eq]
  constructor
  · intro h
    apply List.ext_getElem?
    intro i
    by_cases hi : i < xs.length
    · exact h i hi
    · rw [List.getElem?_eq_none (by omega), List.getElem?_eq_none (by omega)]
  · rintro rfl i _; rfl
theorem run_equalIn_ints (d : Nat) {t e : TypeId} {n : Nat} {k : IntKind} {i : TypeInfo} (hu : P.underlying t = some (.array n e)) (hue : P.underlying e = some (.int k)) (hi : P.info? e = some i) (hc : P.cellsOf e = 1)
    (xs ys : List Int) (hx : xs.length = n) (hy : ys.length = n) (w : World) :
    (Op.equalIn (d + 2) t (.agg (intsV xs)) (.agg (intsV ys))).run P w = .ok (decide (xs = ys)) w := by
  rw [run_equalIn_array w (d + 1) (intsV xs) (intsV ys) hu hi, hc, run_eqItems_ints d hue xs ys w _ (fun i hi => by rw [List.mem_range] at hi; omega), ← hx, all_eq_iff xs ys (by omega)]
theorem exec_load_row {o : Oper} {a : Act} {w : World} (ty : TypeId) (x : Operand) (ho : o.op = .load ty x)
    (g : Nat) (hx : a.eval x = .pointer (some ⟨g, 0, none⟩)) (t : TypeId) (cs : Array Value) (fr : Nat × Nat) (d : TypeDesc) (hg : w.heap[g]? = some (.cells cs t fr))
    (hu : P.underlying ty = some d) (hd : (match d with | .struct _ | .array _ _ => true | _ => false) = true) (hi : (P.info? ty).map (·.size) = some cs.size) :
    (execOp a.eval o).run P w = .ok (.value (.agg cs)) w := by
  unfold execOp
  simp only [ho, hx, Instr.loadAt, Instr.sureAddr, Sem.run_bind, Sem.run_pure, Result.andThen_ok, run_loadVar_row w g t ty cs fr d hg hu hd hi]
end
end Go.Proofs.Ytbghchgmoiniiaa
