/-
  Plain numbers, no program: lines over the field, and the line through two points. Conditions: none beyond those stated at each theorem.
-/
import Derived.Test.YtbghchgmoiniiaaFldB
namespace Go.Proofs.Ytbghchgmoiniiaa
set_option linter.unusedVariables false

/-- the value of a line -/
def lineI (a b x : Int) : Int := fadd (fmul a x) b
theorem lineI_bd (a b x : Int) : 0 ≤ lineI a b x ∧ lineI a b x ≤ 2305843009213693950 := fadd_bd _ _
def slopeI (x u y v : Int) : Int := fmul (fsub v u) (finv (fsub y x))
def baseI (x u y v : Int) : Int := fsub u (fmul (slopeI x u y v) x)
theorem slopeI_bd (x u y v : Int) : 0 ≤ slopeI x u y v ∧ slopeI x u y v ≤ 2305843009213693950 := fmul_bd _ _
theorem baseI_bd (x u y v : Int) : 0 ≤ baseI x u y v ∧ baseI x u y v ≤ 2305843009213693950 := fsub_bd _ _

theorem fsub_zero_iff (a b : Int) : fsub a b = 0 ↔ ffold a = ffold b := by
  unfold fsub ffold P; omega
theorem fsub_ne {a b : Int} (h : ffold a ≠ ffold b) : fsub a b ≠ 0 := fun e => h ((fsub_zero_iff a b).1 e)
theorem ffold_sub' (a b : Int) (h : fsub a b ≠ 0) : ffold (fsub a b) ≠ 0 := by rw [ffold_sub]; exact h

/-- division: what times d is t -/
theorem div_of {s d t : Int} (hd : ffold d ≠ 0) (h : fmul s d = ffold t) : ffold s = fmul t (finv d) := by
  have : fmul (fmul s d) (finv d) = ffold s := by rw [fmul_assoc, inv_mul d hd, fmul_one]
  rw [← this, h, fmul_fold_l]
theorem div_mul {d t : Int} (hd : ffold d ≠ 0) : fmul (fmul t (finv d)) d = ffold t := by
  rw [fmul_assoc, fmul_comm (finv d), inv_mul d hd, fmul_one]

theorem slope_mul (x u y v : Int) (h : fsub y x ≠ 0) : fmul (slopeI x u y v) (fsub y x) = fsub v u := by
  unfold slopeI; rw [div_mul (ffold_sub' _ _ h), ffold_sub]

theorem fmul_fsub (s a b : Int) : fmul s (fsub a b) = fsub (fmul s a) (fmul s b) := fmul_sub s a b
theorem fsub_swap {a b c d : Int} (h : fsub a b = fsub c d) : fsub b a = fsub d c := by
  unfold fsub P at *; omega

/-- the reference's slope and base are the same -/
theorem slope_other (x u y v : Int) (h : fsub y x ≠ 0) : fmul (fsub u v) (finv (fsub x y)) = slopeI x u y v := by
  have h' : fsub x y ≠ 0 := by
    intro e; apply h; unfold fsub P at *; omega
  have hs := slope_mul x u y v h
  rw [fmul_fsub] at hs
  have hs2 := fsub_swap hs
  rw [← fmul_fsub] at hs2
  have := div_of (s := slopeI x u y v) (d := fsub x y) (t := fsub u v) (ffold_sub' _ _ h') (by rw [hs2, ffold_sub])
  rw [← this]
  unfold slopeI; rw [ffold_mul]
theorem base_other (x u y v : Int) (h : fsub y x ≠ 0) : fsub v (fmul (slopeI x u y v) y) = baseI x u y v := by
  have hs := slope_mul x u y v h
  rw [fmul_fsub] at hs
  unfold baseI
  generalize fmul (slopeI x u y v) y = p at *
  generalize fmul (slopeI x u y v) x = q at *
  unfold fsub P at *; omega

theorem line_first (x u y v : Int) : lineI (slopeI x u y v) (baseI x u y v) x = ffold u := by
  unfold lineI baseI
  rw [fadd_comm, fadd_sub]
theorem line_second (x u y v : Int) (h : fsub y x ≠ 0) : lineI (slopeI x u y v) (baseI x u y v) y = ffold v := by
  rw [← base_other x u y v h]
  unfold lineI
  rw [fadd_comm, fadd_sub]

theorem fadd_cancel {a b c d e : Int} (h1 : fadd a e = ffold c) (h2 : fadd b e = ffold d) : fsub b a = fsub d c := by
  unfold fadd ffold fsub P at *; omega
theorem base_of {p d u : Int} (h : fadd p d = ffold u) : ffold d = fsub u p := by
  unfold fadd ffold fsub P at *; omega

theorem line_unique (x u y v c d : Int) (h : fsub y x ≠ 0) (h1 : lineI c d x = ffold u) (h2 : lineI c d y = ffold v) : ffold c = slopeI x u y v ∧ ffold d = baseI x u y v := by
  unfold lineI at h1 h2
  have e := fadd_cancel h1 h2
  rw [← fmul_fsub] at e
  have hc : ffold c = slopeI x u y v := by
    unfold slopeI
    exact div_of (ffold_sub' _ _ h) (by rw [e, ffold_sub])
  refine ⟨hc, ?_⟩
  rw [base_of h1]
  unfold baseI
  rw [← hc, fmul_fold_l]
theorem line_fold (c d x : Int) : lineI (ffold c) (ffold d) x = lineI c d x := by
  unfold lineI; rw [fmul_fold_l, fadd_fold_r]

theorem line_both (x u y v c d : Int) (h : fsub y x ≠ 0) :
    ((lineI c d x = ffold u ∧ lineI c d y = ffold v) ↔ (ffold c = slopeI x u y v ∧ ffold d = baseI x u y v)) := by
  constructor
  · exact fun ⟨a, b⟩ => line_unique x u y v c d h a b
  · intro ⟨a, b⟩
    rw [← line_fold, a, b]
    exact ⟨line_first x u y v, by rw [← line_fold c d, a, b]; exact line_second x u y v h⟩

theorem line_zero (a b x : Int) (h : ffold a = 0) : lineI a b x = ffold b := by
  unfold lineI
  rw [← fmul_fold_l, h, fmul_comm, fmul_zero]
  unfold fadd ffold; rw [Int.zero_add]
theorem line_at0 (a b : Int) : lineI a b 0 = ffold b := by
  unfold lineI
  rw [fmul_zero]
  unfold fadd ffold; rw [Int.zero_add]
theorem line_eq_iff (a b x y : Int) (h : ffold a ≠ 0) : (lineI a b x = lineI a b y ↔ ffold x = ffold y) := by
  constructor
  · intro e
    unfold lineI at e
    have e2 : fsub (fmul a x) (fmul a y) = 0 := by unfold fadd fsub P at *; omega
    rw [← fmul_fsub] at e2
    rcases fmul_zero' e2 with e3 | e3
    · exact absurd e3 h
    · rw [ffold_sub] at e3; exact (fsub_zero_iff x y).1 e3
  · intro e
    unfold lineI
    rw [← fmul_fold_r a x, e, fmul_fold_r]
theorem line_step (a b x : Int) : lineI a b (fadd x 1) = fadd (lineI a b x) a := by
  unfold lineI
  rw [fmul_add, fmul_one]
  unfold fadd ffold P; omega
theorem line_back (a b x : Int) : fsub (lineI a b x) b = fmul a x := by
  unfold lineI
  rw [fsub_add, ffold_mul]
end Go.Proofs.Ytbghchgmoiniiaa
