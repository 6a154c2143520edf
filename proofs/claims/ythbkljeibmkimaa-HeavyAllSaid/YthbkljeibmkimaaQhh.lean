import Derived.Test.YthbkljeibmkimaaQhg
import Derived.Test.YthbkljeibmkimaaQhf
/-
  Plain: where no key has less than 0, each prefix that has not less than least is told. Conditions: none beyond those stated at each theorem.
-/
namespace Go.Proofs.Ythbkljeibmkimaa
open Go.RowKit
set_option linter.unusedVariables false
set_option linter.unusedSimpArgs false

/-- what those of the updates have whose keys are so -/
def grpZ (kk : Nat → Nat) (xx : Nat → Int) (P : Nat → Bool) : Nat → Int
  | 0 => 0
  | t + 1 => grpZ kk xx P t + (if P (kk t) = true then xx t else 0)
theorem grp_split {kk : Nat → Nat} {xx : Nat → Int} {A B C : Nat → Bool} (h1 : ∀ k, A k = (B k || C k)) (h2 : ∀ k, B k = true → C k = true → False) : ∀ T, grpZ kk xx A T = grpZ kk xx B T + grpZ kk xx C T
  | 0 => rfl
  | t + 1 => by
    unfold grpZ
    rw [grp_split h1 h2 t]
    have e1 := h1 (kk t)
    have e2 := h2 (kk t)
    cases hB : B (kk t) <;> cases hC : C (kk t) <;> rw [hB, hC] at e1 <;> simp [e1, hB, hC] at e2 ⊢ <;> omega
theorem grp_congr {kk : Nat → Nat} {xx : Nat → Int} {A B : Nat → Bool} : ∀ T, (∀ t, t < T → A (kk t) = B (kk t)) → grpZ kk xx A T = grpZ kk xx B T
  | 0, _ => rfl
  | t + 1, h => by
    unfold grpZ
    rw [grp_congr t (fun q hq => h q (by omega)), h t (by omega)]
theorem grp_none {kk : Nat → Nat} {xx : Nat → Int} : ∀ T, grpZ kk xx (fun _ => false) T = 0
  | 0 => rfl
  | t + 1 => by unfold grpZ; rw [grp_none t]; simp
theorem grp_bd {kk : Nat → Nat} {xx : Nat → Int} (P : Nat → Bool) (hx : ∀ t, -1099511627776 ≤ xx t ∧ xx t ≤ 1099511627776) : ∀ T : Nat, -(1099511627776 * (T : Int)) ≤ grpZ kk xx P T ∧ grpZ kk xx P T ≤ 1099511627776 * (T : Int)
  | 0 => by simp [grpZ]
  | t + 1 => by
    have h := grp_bd (kk := kk) P hx t
    have h2 := hx t
    unfold grpZ
    split <;> omega
/-- no key of the updates has less than 0 -/
def PlainZ (kk : Nat → Nat) (xx : Nat → Int) (T : Nat) : Prop := ∀ t, t < T → 0 ≤ grpZ kk xx (fun k => decide (k = kk t)) T
theorem grp_key {kk : Nat → Nat} {xx : Nat → Int} {T : Nat} (h : PlainZ kk xx T) (q : Nat) : 0 ≤ grpZ kk xx (fun k => decide (k = q)) T := by
  by_cases e : ∃ t, t < T ∧ kk t = q
  · obtain ⟨t, ht, rfl⟩ := e
    exact h t ht
  · rw [grp_congr (B := fun _ => false) T (fun t ht => by
      simp only [decide_eq_false_iff_not]
      exact fun k => e ⟨t, ht, k⟩), grp_none]
    exact Int.le_refl _
theorem grp_pos {kk : Nat → Nat} {xx : Nat → Int} {T : Nat} (h : PlainZ kk xx T) (P : Nat → Bool) : 0 ≤ grpZ kk xx P T := by
  have key : ∀ M, 0 ≤ grpZ kk xx (fun k => P k && decide (k < M)) T := by
    intro M
    induction M with
    | zero =>
      rw [grp_congr (B := fun _ => false) T (fun t _ => by simp), grp_none]
      exact Int.le_refl _
    | succ M ih =>
      rw [grp_split (A := fun k => P k && decide (k < M + 1)) (B := fun k => P k && decide (k < M)) (C := fun k => P M && decide (k = M)) (fun k => by
          rcases Nat.lt_trichotomy k M with h1 | h1 | h1
          · simp [h1, show k < M + 1 by omega, show ¬ k = M by omega]
          · subst h1; simp
          · simp [show ¬ k < M by omega, show ¬ k < M + 1 by omega, show ¬ k = M by omega]) (fun k h1 h2 => by
          simp at h1 h2; omega)]
      have h2 : 0 ≤ grpZ kk xx (fun k => P M && decide (k = M)) T := by
        cases hP : P M with
        | true => simpa using grp_key h M
        | false =>
          rw [grp_congr (B := fun _ => false) T (fun t _ => by simp), grp_none]
          exact Int.le_refl _
      omega
  have hM : ∀ T', ∃ M, ∀ t, t < T' → kk t < M := by
    intro T'
    induction T' with
    | zero => exact ⟨0, fun t ht => absurd ht (Nat.not_lt_zero _)⟩
    | succ T' ih =>
      obtain ⟨M, hM⟩ := ih
      refine ⟨M + kk T' + 1, fun t ht => ?_⟩
      by_cases e : t = T'
      · subst e; omega
      · have := hM t (by omega); omega
  obtain ⟨M, hM⟩ := hM T
  rw [grp_congr (B := fun k => P k && decide (k < M)) T (fun t ht => by simp [hM t ht])]
  exact key M
/-- what the keys of a prefix have -/
def hasZ (kk : Nat → Nat) (xx : Nat → Int) (n i T : Nat) : Int := grpZ kk xx (fun k => decide (k / 2 ^ n = i)) T
theorem has_up {kk : Nat → Nat} {xx : Nat → Int} {T : Nat} (h : PlainZ kk xx T) (n i : Nat) : hasZ kk xx n i T ≤ hasZ kk xx (n + 1) (i / 2) T := by
  unfold hasZ
  have e : ∀ k : Nat, k / 2 ^ (n + 1) = k / 2 ^ n / 2 := fun k => by rw [Nat.pow_succ, Nat.div_div_eq_div_mul]
  rw [grp_split (A := fun k => decide (k / 2 ^ (n + 1) = i / 2)) (B := fun k => decide (k / 2 ^ n = i)) (C := fun k => !decide (k / 2 ^ n = i) && decide (k / 2 ^ n / 2 = i / 2)) (fun k => by
      rw [e k]
      by_cases h1 : k / 2 ^ n = i
      · simp [h1]
      · simp [h1]) (fun k h1 h2 => by simp at h1 h2; exact h2.1 h1)]
  have := grp_pos h (fun k => !decide (k / 2 ^ n = i) && decide (k / 2 ^ n / 2 = i / 2))
  omega
theorem min_of : ∀ (l : List Int), l ≠ [] → ∃ v, v ∈ l ∧ ∀ x ∈ l, v ≤ x
  | [], h => absurd rfl h
  | [a], _ => ⟨a, by simp, by simp⟩
  | a :: c :: l, _ => by
    obtain ⟨v, h1, h2⟩ := min_of (c :: l) (by simp)
    by_cases e : a ≤ v
    · refine ⟨a, by simp, fun x hx => ?_⟩
      rw [List.mem_cons] at hx
      rcases hx with rfl | hx
      · exact Int.le_refl _
      · have := h2 x hx; omega
    · refine ⟨v, List.mem_cons_of_mem _ h1, fun x hx => ?_⟩
      rw [List.mem_cons] at hx
      rcases hx with rfl | hx
      · omega
      · exact h2 x hx
theorem kthL_min {l : List Int} (h : l ≠ []) : kthL l 0 ∈ l ∧ ∀ x ∈ l, kthL l 0 ≤ x := by
  obtain ⟨v, h1, h2⟩ := min_of l h
  rw [kthL_of (kth_zero_of h1 h2)]
  exact ⟨h1, h2⟩
theorem readZ_ne {D : Nat} {zs cs : List Int} (h : 0 < cs.length) : readZ D zs cs ≠ [] := fun e => by
  have : (readZ D zs cs).length = 0 := by rw [e]; rfl
  rw [readZ, List.length_map, List.length_range] at this
  omega
theorem change_at {R W : Nat} {zs cs : List Int} {d : Int} (hl : zs.length = R * W) (hm : meetB R W cs = true) (r c : Nat) (hr : r < R) (hc : c < W) :
    cellD (changeZ W zs cs d) (r * W + c) = if c = colN cs r then cellD zs (r * W + c) + d else cellD zs (r * W + c) := by
  obtain ⟨h0, hlen, hcol⟩ := meetB_of hm
  rw [changeZ, hlen, setsZ_get hl (fun r hr => (hcol r hr).2) R (Nat.le_refl _) r c hr hc]
  by_cases e : c = colN cs r
  · rw [if_pos ⟨hr, e⟩, if_pos e, e]
  · rw [if_neg (fun k => e k.2), if_neg e]
theorem raise_at {R W : Nat} {zs cs : List Int} {n : Int} (hl : zs.length = R * W) (hm : meetB R W cs = true) (r c : Nat) (hr : r < R) (hc : c < W) :
    cellD (raiseZ W zs cs n) (r * W + c) = if c = colN cs r then (if cellD zs (r * W + c) < n then n else cellD zs (r * W + c)) else cellD zs (r * W + c) := by
  obtain ⟨h0, hlen, hcol⟩ := meetB_of hm
  rw [raiseZ, hlen, setsZ_get hl (fun r hr => (hcol r hr).2) R (Nat.le_refl _) r c hr hc]
  by_cases e : c = colN cs r
  · rw [if_pos ⟨hr, e⟩, if_pos e, e]; rfl
  · rw [if_neg (fun k => e k.2), if_neg e]
theorem lvUpd_len {b r d m s l : Int} {zs : List Int} {k : Nat} {x : Int} : (lvUpd b r d m s l zs k x).length = zs.length := by
  unfold lvUpd
  split
  · unfold updZ; split
    · rw [List.length_set]
    · rfl
  · unfold skUpd; split
    · split
      · rw [raiseZ, setsZ_len]
      · rw [changeZ, setsZ_len]
    · rfl
theorem fedZ_len (b r d m s : Int) (kk : Nat → Nat) (xx : Nat → Int) : ∀ t n, (fedZ b r d m s kk xx t n).length = cellsN b r d m (n : Int)
  | 0, n => by unfold fedZ zeroZ; rw [List.length_replicate]
  | t + 1, n => by
    unfold fedZ stUpd
    split
    · rw [lvUpd_len, fedZ_len]
    · exact fedZ_len b r d m s kk xx t n
theorem zeroZ_at (b r d m : Int) (n i : Nat) : cellD (zeroZ b r d m n) i = 0 := by
  unfold cellD zeroZ
  rw [List.getElem?_replicate]
  split <;> rfl
/-- an exact level: each cell is what its key has -/
theorem fed_exact {b : Nat} {r d m s : Int} {kk : Nat → Nat} {xx : Nat → Int} {T n : Nat} (hn : n ≤ b) (he : exactB (b : Int) r d m (n : Int) = true) (hok : ∀ t, t < T → stErr (b : Int) r d m s (fedZ (b : Int) r d m s kk xx t) (kk t) (xx t) = 0) :
    ∀ t, t ≤ T → ∀ i, i < (keysI (b : Int) r d m (n : Int)).toNat → cellD (fedZ (b : Int) r d m s kk xx t n) i = hasZ kk xx n i t
  | 0, _, i, hi => by rw [fedZ, zeroZ_at]; rfl
  | t + 1, ht, i, hi => by
    have h0 := hok t (by omega)
    have ih := fed_exact hn he hok t (by omega)
    have hlen := fedZ_len (b : Int) r d m s kk xx t n
    unfold cellsN at hlen
    rw [if_pos he] at hlen
    have h1 := (stErr_ok h0).2.2 n (by simpa using hn)
    rw [lvErr_ex he] at h1
    rw [fedZ, stUpd_ok h0, lvUpd_ex he]
    unfold updZ hasZ grpZ
    rw [if_pos h1]
    have hk : kk t / 2 ^ n < (keysI (b : Int) r d m (n : Int)).toNat := by
      unfold chkI at h1
      split at h1
      · cases h1
      · omega
    rw [← show hasZ kk xx n i t = grpZ kk xx (fun k => decide (k / 2 ^ n = i)) t from rfl, ← ih i hi]
    by_cases e : kk t / 2 ^ n = i
    · subst e
      have hl2 : kk t / 2 ^ n < (fedZ (b : Int) r d m s kk xx t n).length := by rw [hlen]; exact hk
      simp [cellD, List.getElem?_set, hl2]
    · simp [cellD, List.getElem?_set, e]
theorem sk_ok {b r d m s l : Int} {zs : List Int} {k x : Int} (h : skErr b r d m s l zs k x = 0) : skUpd b r d m s l zs k x = if m = 2 then raiseZ d.toNat zs (colsZ d s l k r.toNat) (kthL (readZ d.toNat zs (colsZ d s l k r.toNat)) 0 + x) else changeZ d.toNat zs (colsZ d s l k r.toNat) x := by
  unfold skUpd
  rw [if_pos h]
/-- a sketch, Linear: each cell is what all have that name it -/
theorem fed_linear {b : Nat} {r d m s : Int} {kk : Nat → Nat} {xx : Nat → Int} {T n : Nat} (hr : rightB (b : Int) r d m = true) (hm : m ≠ 2) (hn : n ≤ b) (he : exactB (b : Int) r d m (n : Int) ≠ true) (hok : ∀ t, t < T → stErr (b : Int) r d m s (fedZ (b : Int) r d m s kk xx t) (kk t) (xx t) = 0) :
    ∀ t, t ≤ T → ∀ q c, q < r.toNat → c < d.toNat → cellD (fedZ (b : Int) r d m s kk xx t n) (q * d.toNat + c) = grpZ kk xx (fun k => decide (c = colN (colsZ d s (n : Int) ((k / 2 ^ n : Nat) : Int) r.toNat) q)) t
  | 0, _, q, c, hq, hc => by rw [fedZ, zeroZ_at]; rfl
  | t + 1, ht, q, c, hq, hc => by
    have h0 := hok t (by omega)
    have ih := fed_linear hr hm hn he hok t (by omega) q c hq hc
    have hR := right_of hr
    have hlen := fedZ_len (b : Int) r d m s kk xx t n
    unfold cellsN at hlen
    rw [if_neg he] at hlen
    have h1 := (stErr_ok h0).2.2 n (by simpa using hn)
    unfold lvErr at h1
    rw [if_neg he] at h1
    rw [fedZ, stUpd_ok h0]
    unfold lvUpd
    rw [if_neg he, sk_ok h1, if_neg hm, change_at hlen (colsZ_meet (by omega) (by omega)) q c hq hc, ih]
    conv => rhs; unfold grpZ
    by_cases e : c = colN (colsZ d s (n : Int) ((kk t / 2 ^ n : Nat) : Int) r.toNat) q
    · rw [if_pos e, if_pos (by simpa using e)]
    · rw [if_neg e, if_neg (by simpa using e)]
      omega
/-- a sketch, Conservative: no cell of a key has less than it has -/
theorem fed_cons {b : Nat} {r d s : Int} {kk : Nat → Nat} {xx : Nat → Int} {T n : Nat} (hr : rightB (b : Int) r d 2 = true) (hn : n ≤ b) (he : exactB (b : Int) r d 2 (n : Int) ≠ true) (hok : ∀ t, t < T → stErr (b : Int) r d 2 s (fedZ (b : Int) r d 2 s kk xx t) (kk t) (xx t) = 0) :
    ∀ t, t ≤ T → ∀ i q : Nat, q < r.toNat → hasZ kk xx n i t ≤ cellD (fedZ (b : Int) r d 2 s kk xx t n) (q * d.toNat + colN (colsZ d s (n : Int) (i : Int) r.toNat) q)
  | 0, _, i, q, hq => by rw [fedZ, zeroZ_at]; exact Int.le_refl _
  | t + 1, ht, i, q, hq => by
    have h0 := hok t (by omega)
    have ih := fed_cons hr hn he hok t (by omega)
    have hR := right_of hr
    have hlen := fedZ_len (b : Int) r d 2 s kk xx t n
    unfold cellsN at hlen
    rw [if_neg he] at hlen
    obtain ⟨-, h2, h3⟩ := stErr_ok h0
    have h1 := h3 n (by simpa using hn)
    unfold lvErr at h1
    rw [if_neg he] at h1
    rw [fedZ, stUpd_ok h0]
    unfold lvUpd
    have hm1 : meetB r.toNat d.toNat (colsZ d s (n : Int) ((kk t / 2 ^ n : Nat) : Int) r.toNat) = true := colsZ_meet (by omega) (by omega)
    have hm2 : meetB r.toNat d.toNat (colsZ d s (n : Int) (i : Int) r.toNat) = true := colsZ_meet (by omega) (by omega)
    have hx : 0 ≤ xx t := by have : ¬ xx t < 0 := fun h => h2 ⟨rfl, h⟩; omega
    rw [if_neg he, sk_ok h1, if_pos rfl, raise_at hlen hm1 q _ hq ((meetB_of hm2).2.2 q hq).2]
    have ihi := ih i q hq
    have hhas : hasZ kk xx n i (t + 1) = hasZ kk xx n i t + (if kk t / 2 ^ n = i then xx t else 0) := by
      unfold hasZ
      conv => lhs; unfold grpZ
      simp
    rw [hhas]
    by_cases e : kk t / 2 ^ n = i
    · subst e
      obtain ⟨hmem, -⟩ := kthL_min (readZ_ne (D := d.toNat) (zs := fedZ (b : Int) r d 2 s kk xx t n) (cs := colsZ d s (n : Int) ((kk t / 2 ^ n : Nat) : Int) r.toNat) (by rw [colsZ_len]; omega))
      have hle : hasZ kk xx n (kk t / 2 ^ n) t ≤ kthL (readZ d.toNat (fedZ (b : Int) r d 2 s kk xx t n) (colsZ d s (n : Int) ((kk t / 2 ^ n : Nat) : Int) r.toNat)) 0 := by
        simp only [readZ, List.mem_map, List.mem_range] at hmem
        obtain ⟨j, hj, e2⟩ := hmem
        rw [colsZ_len] at hj
        have := ih (kk t / 2 ^ n) j hj
        rw [e2] at this
        simpa [readZ] using this
      rw [if_pos rfl, if_pos rfl]
      split <;> omega
    · rw [if_neg e]
      split
      · split <;> omega
      · omega
/-- what is told of a prefix is not less than what it has -/
theorem pt_has {b : Nat} {r d m s : Int} {kk : Nat → Nat} {xx : Nat → Int} {T n i : Nat} (hr : rightB (b : Int) r d m = true) (hm : m = 1 ∨ m = 2) (hk : ∀ t : Nat, (kk t : Int) < keysI (b : Int) r d m 0) (hx : ∀ t : Nat, -1099511627776 ≤ xx t ∧ xx t ≤ 1099511627776 ∧ ¬ (m = 2 ∧ xx t < 0)) (hT : T ≤ 60)
    (hp : PlainZ kk xx T) (hn : n ≤ b) (hi : i < 2 ^ (b - n)) : hasZ kk xx n i T ≤ ptOf b r d m s (fedZ (b : Int) r d m s kk xx T) n i := by
  have hok : ∀ t, t < T → stErr (b : Int) r d m s (fedZ (b : Int) r d m s kk xx t) (kk t) (xx t) = 0 := fun t ht => (fed_bd hr hk hx t (by omega)).2 (by omega)
  have hR := right_of hr
  rw [ptOf_in hn hi]
  unfold lvPt
  by_cases he : exactB (b : Int) r d m (n : Int) = true
  · rw [if_pos he, fed_exact hn he hok T (Nat.le_refl _) i (by rw [keysI_nat hr hn]; exact hi)]
    exact Int.le_refl _
  · rw [if_neg he, if_neg (by omega)]
    obtain ⟨hmem, -⟩ := kthL_min (readZ_ne (D := d.toNat) (zs := fedZ (b : Int) r d m s kk xx T n) (cs := colsZ d s (n : Int) (i : Int) r.toNat) (by rw [colsZ_len]; omega))
    have hm2 : meetB r.toNat d.toNat (colsZ d s (n : Int) (i : Int) r.toNat) = true := colsZ_meet (by omega) (by omega)
    have hall : ∀ q, q < r.toNat → hasZ kk xx n i T ≤ cellD (fedZ (b : Int) r d m s kk xx T n) (q * d.toNat + colN (colsZ d s (n : Int) (i : Int) r.toNat) q) := fun q hq => by
      rcases hm with rfl | rfl
      · rw [fed_linear hr (by decide) hn he hok T (Nat.le_refl _) q _ hq ((meetB_of hm2).2.2 q hq).2]
        unfold hasZ
        rw [grp_split (A := fun k => decide (colN (colsZ d s (n : Int) (i : Int) r.toNat) q = colN (colsZ d s (n : Int) ((k / 2 ^ n : Nat) : Int) r.toNat) q)) (B := fun k => decide (k / 2 ^ n = i)) (C := fun k => !decide (k / 2 ^ n = i) && decide (colN (colsZ d s (n : Int) (i : Int) r.toNat) q = colN (colsZ d s (n : Int) ((k / 2 ^ n : Nat) : Int) r.toNat) q)) (fun k => by
            by_cases h1 : k / 2 ^ n = i
            · simp [h1]
            · simp [h1]) (fun k h1 h2 => by simp at h1 h2; exact h2.1 h1)]
        have := grp_pos hp (fun k => !decide (k / 2 ^ n = i) && decide (colN (colsZ d s (n : Int) (i : Int) r.toNat) q = colN (colsZ d s (n : Int) ((k / 2 ^ n : Nat) : Int) r.toNat) q))
        omega
      · exact fed_cons hr hn he hok T (Nat.le_refl _) i q hq
    generalize hv : kthL (readZ d.toNat (fedZ (b : Int) r d m s kk xx T n) (colsZ d s (n : Int) (i : Int) r.toNat)) 0 = v at *
    simp only [readZ, List.mem_map, List.mem_range] at hmem
    obtain ⟨j, hj, e2⟩ := hmem
    rw [colsZ_len] at hj
    rw [← e2]
    exact hall j hj
/-- where no key has less than 0, each prefix that has not less than least is told -/
theorem all_told {b : Nat} {r d m s : Int} {kk : Nat → Nat} {xx : Nat → Int} {T : Nat} {least : Int} (hr : rightB (b : Int) r d m = true) (hm : m = 1 ∨ m = 2) (hk : ∀ t : Nat, (kk t : Int) < keysI (b : Int) r d m 0) (hx : ∀ t : Nat, -1099511627776 ≤ xx t ∧ xx t ≤ 1099511627776 ∧ ¬ (m = 2 ∧ xx t < 0)) (hT : T ≤ 60)
    (hp : PlainZ kk xx T) : ∀ (j n i : Nat), n + j = b → i < 2 ^ j → least ≤ hasZ kk xx n i T → (n, i) ∈ hvOut (ptOf b r d m s (fedZ (b : Int) r d m s kk xx T)) least b (b + 1)
  | 0, n, i, hn, hi, h => by
    have hpt := pt_has (s := s) (n := n) (i := i) hr hm hk hx hT hp (by omega) (by rw [show b - n = 0 by omega]; exact hi)
    rw [hvOut_mem]
    refine ⟨by omega, List.mem_filter.2 ⟨?_, by simp; omega⟩⟩
    rw [show b - n = 0 by omega, rowAt]
    simp at hi ⊢
    omega
  | j + 1, n, i, hn, hi, h => by
    have hpt := pt_has (s := s) (n := n) (i := i) hr hm hk hx hT hp (by omega) (by rw [show b - n = j + 1 by omega]; exact hi)
    have hup := has_up hp n i
    have ih := all_told (s := s) (least := least) hr hm hk hx hT hp j (n + 1) (i / 2) (by omega) (by rw [Nat.pow_succ] at hi; omega) (by omega)
    rw [hvOut_mem] at ih ⊢
    refine ⟨by omega, List.mem_filter.2 ⟨?_, by simp; omega⟩⟩
    rw [show b - n = b - (n + 1) + 1 by omega, rowAt, mem_kids, show b - (b - (n + 1)) = n + 1 by omega]
    exact ih.2
end Go.Proofs.Ythbkljeibmkimaa

/-
  The walks of gaugerref15.Has and Plain. Conditions: none beyond those stated at each theorem.
-/
namespace Go.Proofs.Ythbkljeibmkimaa
open Go.RowKit
set_option linter.unusedVariables false
set_option linter.unusedSimpArgs false

theorem has_next {kk : Nat → Nat} {xx : Nat → Int} {n i t : Nat} : hasZ kk xx n i (t + 1) = hasZ kk xx n i t + (if kk t / 2 ^ n = i then xx t else 0) := by
  unfold hasZ
  conv => lhs; unfold grpZ
  simp
set_option maxRecDepth 100000 in
set_option maxHeartbeats 8000000 in
theorem has_any (b : Nat) (r d m s : Int) (hr : rightB (b : Int) r d m = true) (v : Value) (n : Nat) (ks : Nat → Nat) (ds : Nat → Int) (pn pi : Nat) (hpn : pn ≤ b) (hpi : pi < 18446744073709551616) (w : World) (hl : UpdsAt w v n ks ds) :
    Calls Try.prog 12 #[.agg #[.int .i64 (b : Int), .int .i64 r, .int .i64 d, .int .i64 m, .int .u64 s], v, .agg #[.int .i64 (pn : Int), .int .u64 (pi : Int)]] w fun e w' => e = .returned (.int .i64 (hasZ (fedKK (b : Int) r d m ks) (fedXX m ds) pn pi (min n 60))) ∧ Below w.heap.size w w' := by
  have HL := Lib.hid hl
  obtain ⟨ao, cap, rfl, hmx, hd64, hcells⟩ := hl
  have HD64 := Lib.hid hd64
  clear hcells hd64
  have hbb := right_of hr
  have PC := Lib.hid (fun (k : Nat) (hk : k < 18446744073709551616) (x : Int) (hx : In64 x) w => cut_upd (b : Int) r d m s hr k hk x hx w)
  have HKB := Lib.hid (fun t => fed_key hr ks t)
  have HKI := Lib.hid (keysI_bd (b : Int) r d m 0)
  have HXB := Lib.hid (fun t => cutD_bd m (ds t))
  have HBD := Lib.hid (fun T => grp_bd (kk := fedKK (b : Int) r d m ks) (xx := fedXX m ds) (fun k => decide (k / 2 ^ pn = pi)) (fun t => ⟨(cutD_bd m (ds t)).1, (cutD_bd m (ds t)).2.1⟩) T)
  obtain ⟨g1, g2, hb1, hsz1⟩ := news2 w (.cells #[.int .i64 (b : Int), .int .i64 r, .int .i64 d, .int .i64 m, .int .u64 s] 24) (.cells #[.int .i64 (pn : Int), .int .u64 (pi : Int)] 42)
  have HX1 : Hid (Blk _ w.heap.size 24 #[.int .i64 (b : Int), .int .i64 r, .int .i64 d, .int .i64 m, .int .u64 s]) := Lib.hid g1
  have HX2 : Hid (Blk _ (w.heap.size + 1) 42 #[.int .i64 (pn : Int), .int .u64 (pi : Int)]) := Lib.hid g2
  have HB1 := Lib.hid hb1
  clear g1 g2 hb1 hsz1 hr
  go_enter Try.func12, Try.ntmps12
  go_wp2_with fail
  generalize ((w.alloc (.cells #[.int .i64 (b : Int), .int .i64 r, .int .i64 d, .int .i64 m, .int .u64 s] 24)).alloc (.cells #[.int .i64 (pn : Int), .int .u64 (pi : Int)] 42)) = w1 at *
  have HL1 := Lib.hid (HL.out.kept HB1.out)
  obtain ⟨D, hD⟩ : ∃ D, D = w.heap.size := ⟨_, rfl⟩
  rw [← hD] at HX1 HX2 HB1 ⊢
  have HDW := Lib.hid hD
  clear HL hD
  go_loopw [7, 8] (fun sm i wr => ∃ t : Nat, i = .int .i64 (t : Int) ∧ t ≤ n ∧ t ≤ 60 ∧ sm = .int .i64 (hasZ (fedKK (b : Int) r d m ks) (fedXX m ds) pn pi t) ∧ Below w1.heap.size w1 wr) (fun _ i _ => 60 - (intOf i).toNat)
  case atStart => exact ⟨0, rfl, Nat.zero_le _, Nat.zero_le _, rfl, Below.refl _ _⟩
  case round =>
    obtain ⟨t, rfl, htn, ht6, rfl, hbw⟩ := hrel
    have HBW := Lib.hid hbw
    clear hbw
    generalize wr = w2 at *
    have hbd := HBD.out t
    rw [← show hasZ (fedKK (b : Int) r d m ks) (fedXX m ds) pn pi t = grpZ (fedKK (b : Int) r d m ks) (fedXX m ds) (fun k => decide (k / 2 ^ pn = pi)) t from rfl] at hbd
    have HNX := Lib.hid (has_next (kk := fedKK (b : Int) r d m ks) (xx := fedXX m ds) (n := pn) (i := pi) (t := t))
    have HFIN : Hid (¬ (t < n ∧ t < 60) → hasZ (fedKK (b : Int) r d m ks) (fedXX m ds) pn pi t = hasZ (fedKK (b : Int) r d m ks) (fedXX m ds) pn pi (min n 60)) := Lib.hid (fun h => by rw [show min n 60 = t by omega])
    obtain ⟨S, hS⟩ : ∃ S, S = hasZ (fedKK (b : Int) r d m ks) (fedXX m ds) pn pi t := ⟨_, rfl⟩
    rw [← hS] at hbd HNX HFIN ⊢
    clear hS
    by_cases hlt : t < n ∧ t < 60
    · have hz1 : (t : Int) < (n : Int) := by omega
      have hz2 : (t : Int) < 60 := by omega
      clear HFIN
      have HUA := Lib.hid (HL1.out.kept HBW.out)
      obtain ⟨gu, off, rfl, hgl, hrg⟩ := HUA.out.range hlt.1
      have HRG := Lib.hid hrg
      have HGL := Lib.hid hgl
      have PCT := Lib.hid (fun w => PC.out (ks t) (HD64.out t hlt.1).2 (ds t) (HD64.out t hlt.1).1 w)
      have hkb := HKB.out t
      have hkb2 := HKI.out
      have hyb := HXB.out t
      obtain ⟨k, hk⟩ : ∃ k, k = fedKK (b : Int) r d m ks t := ⟨_, rfl⟩
      obtain ⟨y, hy⟩ : ∃ y, y = fedXX m ds t := ⟨_, rfl⟩
      have hkq : cutK (keysI (b : Int) r d m 0) (ks t) = k := hk.symm
      have hyq : cutD m (ds t) = y := hy.symm
      rw [hkq, hyq] at PCT
      rw [hyq] at hyb
      rw [← hk] at hkb
      rw [← hk, ← hy] at HNX
      have hk59 : k < 18446744073709551616 := by omega
      clear hlt hgl hrg hk hy hkq hyq hkb hkb2
      go_upto_region 5 with fail
      go_cut [9] (fun u wx => ∃ U, u = .pointer (some ⟨U, 0, none⟩) ∧ Blk wx U 38 #[.int .u64 (k : Int), .int .i64 y] ∧ Below w2.heap.size w2 wx)
      case first =>
        refine wp_region_held_drew (S := fun w' => Below w2.heap.size w2 w') (by kernel_rfl) (by exact below_drewN (Below.refl _ _) 1) (fun hHeld => ?_)
        refine wpAnyH_take (i := 0) (v := ?_) rfl (by kernel_rfl) (by kernel_rfl) (by kernel_rfl) (fun _ _ _ h => h) (Or.inl ⟨by rfl, ?_⟩) (by assumption) ?_
        rotate_left
        · intro w hSw
          have q7 := range_block HRG.out (hSw.block _ HGL.out)
          try (first | refine (exec_load_row 24 _ rfl D rfl 24 _ (0, 0) _ ((HX1.out.kept HBW.out).kept hSw) Try.underlying24 rfl (by kernel_rfl)).trans ?_ | refine (exec_load_mid 38 _ rfl gu (off + t * 2) rfl [.int .u64 (ks t : Int), .int .i64 (ds t)] _ q7 Try.underlying38 rfl (by kernel_rfl)).trans ?_)
          go_simp
          try with_reducible rfl
        simp only [Act.put, List.setIfInBounds_toArray, List.set_cons_zero, List.set_cons_succ, List.getElem_toArray, List.getElem_cons_zero, List.getElem_cons_succ]
        refine wpAnyH_take (i := 1) (v := ?_) rfl (by kernel_rfl) (by kernel_rfl) (by kernel_rfl) (fun _ _ _ h => h) (Or.inl ⟨by rfl, ?_⟩) (by assumption) ?_
        rotate_left
        · intro w hSw
          try dsimp only at hSw
          go_simp
          try with_reducible rfl
        simp only [Act.put, List.setIfInBounds_toArray, List.set_cons_zero, List.set_cons_succ, List.getElem_toArray, List.getElem_cons_zero, List.getElem_cons_succ]
        refine wpAnyH_take (i := 2) (v := ?_) rfl (by kernel_rfl) (by kernel_rfl) (by kernel_rfl) (fun _ _ _ h => h) (Or.inl ⟨by rfl, ?_⟩) (by assumption) ?_
        rotate_left
        · intro w hSw
          try dsimp only at hSw
          go_simp
          try with_reducible rfl
        simp only [Act.put, List.setIfInBounds_toArray, List.set_cons_zero, List.set_cons_succ, List.getElem_toArray, List.getElem_cons_zero, List.getElem_cons_succ]
        refine wpAnyH_take (i := 3) (v := ?_) rfl (by kernel_rfl) (by kernel_rfl) (by kernel_rfl) (fun _ _ _ h => h) (Or.inl ⟨by rfl, ?_⟩) (by assumption) ?_
        rotate_left
        · intro w hSw
          try dsimp only at hSw
          go_simp
          try with_reducible rfl
        simp only [Act.put, List.setIfInBounds_toArray, List.set_cons_zero, List.set_cons_succ, List.getElem_toArray, List.getElem_cons_zero, List.getElem_cons_succ]
        refine wpAnyH_take (i := 4) (v := ?_) rfl (by kernel_rfl) (by kernel_rfl) (by kernel_rfl) (fun _ _ _ h => h) (Or.inl ⟨by rfl, ?_⟩) (by assumption) ?_
        rotate_left
        · intro w hSw
          have q7 := range_block HRG.out (hSw.block _ HGL.out)
          try (first | refine (exec_load_row 24 _ rfl D rfl 24 _ (0, 0) _ ((HX1.out.kept HBW.out).kept hSw) Try.underlying24 rfl (by kernel_rfl)).trans ?_ | refine (exec_load_mid 38 _ rfl gu (off + t * 2) rfl [.int .u64 (ks t : Int), .int .i64 (ds t)] _ q7 Try.underlying38 rfl (by kernel_rfl)).trans ?_)
          go_simp
          try with_reducible rfl
        simp only [Act.put, List.setIfInBounds_toArray, List.set_cons_zero, List.set_cons_succ, List.getElem_toArray, List.getElem_cons_zero, List.getElem_cons_succ]
        refine wpAnyH_ready (rs := [5, 6]) (by kernel_rfl) (by simp) ?_
        refine AllReadyH.cons rfl (fun Kc hKc => ?_) (AllReadyH.cons rfl (fun Kc hKc => ?_) AllReadyH.nil)
        · go_simp
          go_wp2_with ((with_reducible refine (PCT.out _).mono ?_; rintro e wq ⟨rfl, hb'⟩; try have HAQ := Lib.hid (HAQ.out.kept hb')))
          refine hKc.out _ _ ?_ (fun hHeld => ?_)
          · first | assumption | exact hHeld | exact btr hHeld hb' | exact hHeld.alloc hHeld.size _ | exact below_setRow hHeld hPrev.out _
          clear hKc Kc
          refine wpAnyH_ready (rs := [6]) (by kernel_rfl) (by simp) ?_
          refine AllReadyH.cons rfl (fun Kc hKc => ?_) AllReadyH.nil
          go_simp
          have hPrev := Lib.hid hHeld.size
          refine hKc.out _ _ ?_ (fun hHeld => ?_)
          · first | assumption | exact hHeld | exact btr hHeld hb' | exact hHeld.alloc hHeld.size _ | exact below_setRow hHeld hPrev.out _
          clear hKc Kc
          first | have HAQ := Lib.hid (fresh_of hHeld) | have HAQ := Lib.hid (fresh_drew hHeld)
          refine wpAnyH_ready (rs := [7]) (by kernel_rfl) (by simp) ?_
          refine AllReadyH.cons rfl (fun Kc hKc => ?_) AllReadyH.nil
          have HAR := Lib.hid (HAQ.out.rowNew (cs' := #[.int .u64 (k : Int), .int .i64 y])); refine wp_store_row 38 _ _ rfl _ #[.int .u64 (k : Int), .int .i64 y] rfl (by rfl) 38 _ HAQ.out (by kernel_rfl) rfl (by simp [Value.oneCell']) ?_
          refine hKc.out _ _ ?_ (fun hHeld => ?_)
          · first | assumption | exact hHeld | exact btr hHeld hb' | exact hHeld.alloc hHeld.size _ | exact below_setRow hHeld hPrev.out _
          clear hKc Kc
          refine wpAnyH_done (by kernel_rfl) ?_ _
          have HBZ := Lib.hid hHeld
          clear hHeld
          go_wp2_with fail
          go_meet
          exact ⟨_, rfl, HAR.out, HBZ.out⟩
        · go_simp
          have hPrev := Lib.hid hHeld.size
          refine hKc.out _ _ ?_ (fun hHeld => ?_)
          · first | assumption | exact hHeld | exact btr hHeld hb' | exact hHeld.alloc hHeld.size _ | exact below_setRow hHeld hPrev.out _
          clear hKc Kc
          first | have HAQ := Lib.hid (fresh_of hHeld) | have HAQ := Lib.hid (fresh_drew hHeld)
          refine wpAnyH_ready (rs := [5]) (by kernel_rfl) (by simp) ?_
          refine AllReadyH.cons rfl (fun Kc hKc => ?_) AllReadyH.nil
          go_simp
          go_wp2_with ((with_reducible refine (PCT.out _).mono ?_; rintro e wq ⟨rfl, hb'⟩; try have HAQ := Lib.hid (HAQ.out.kept hb')))
          refine hKc.out _ _ ?_ (fun hHeld => ?_)
          · first | assumption | exact hHeld | exact btr hHeld hb' | exact hHeld.alloc hHeld.size _ | exact below_setRow hHeld hPrev.out _
          clear hKc Kc
          refine wpAnyH_ready (rs := [7]) (by kernel_rfl) (by simp) ?_
          refine AllReadyH.cons rfl (fun Kc hKc => ?_) AllReadyH.nil
          have HAR := Lib.hid (HAQ.out.rowNew (cs' := #[.int .u64 (k : Int), .int .i64 y])); refine wp_store_row 38 _ _ rfl _ #[.int .u64 (k : Int), .int .i64 y] rfl (by rfl) 38 _ HAQ.out (by kernel_rfl) rfl (by simp [Value.oneCell']) ?_
          refine hKc.out _ _ ?_ (fun hHeld => ?_)
          · first | assumption | exact hHeld | exact btr hHeld hb' | exact hHeld.alloc hHeld.size _ | exact below_setRow hHeld hPrev.out _
          clear hKc Kc
          refine wpAnyH_done (by kernel_rfl) ?_ _
          have HBZ := Lib.hid hHeld
          clear hHeld
          go_wp2_with fail
          go_meet
          exact ⟨_, rfl, HAR.out, HBZ.out⟩
      case rest =>
        obtain ⟨U, rfl, hu, hb⟩ := hcut
        have HX4 := Lib.hid ((HX2.out.kept HBW.out).kept hb)
        have HB3 := Lib.hid (btr HBW.out hb)
        have u0 := hu.cell 0
        have u1 := hu.cell 1
        have p0 := HX4.out.cell 0
        have p1 := HX4.out.cell 1
        simp at u0 u1 p0 p1
        clear hu hb HUA HRG HGL HBW
        generalize wc = w3 at *
        have ew : IntKind.u64.wrap (pn : Int) = (pn : Int) := by rw [wrapU_mod]; omega
        have hsh : (k : Int) / 2 ^ pn = ((k / 2 ^ pn : Nat) : Int) := by rw [Int.natCast_ediv, Int.natCast_pow]; rfl
        obtain ⟨kq, hkq⟩ : ∃ kq, kq = k / 2 ^ pn := ⟨_, rfl⟩
        rw [← hkq] at hsh HNX
        have HN1 : Hid ((k : Int) / 2 ^ pn = (pi : Int) → Value.int .i64 (S + y) = .int .i64 (hasZ (fedKK (b : Int) r d m ks) (fedXX m ds) pn pi (t + 1))) := Lib.hid (fun h => by
          rw [hsh] at h
          rw [HNX.out, if_pos (by omega)])
        have HN0 : Hid (¬ (k : Int) / 2 ^ pn = (pi : Int) → Value.int .i64 S = .int .i64 (hasZ (fedKK (b : Int) r d m ks) (fedXX m ds) pn pi (t + 1))) := Lib.hid (fun h => by
          rw [hsh] at h
          rw [HNX.out, if_neg (by omega), Int.add_zero])
        have hw1 : wrap64 (S + y) = S + y := by unfold wrap64; omega
        clear hsh hkq HNX
        go_wp2_with fail
        · rename_i hh
          have HE := Lib.hid (HN1.out (by simpa using hh))
          clear hh
          go_roundw
          case rel => exact ⟨t + 1, by go_num, by omega, by omega, HE.out, HB3.out⟩
          case measure => simp [intOf]; omega
        · rename_i hh
          have HE := Lib.hid (HN0.out (by simpa using hh))
          clear hh
          go_roundw
          case rel => exact ⟨t + 1, by go_num, by omega, by omega, HE.out, HB3.out⟩
          case measure => simp [intOf]; omega
    · have HF : Hid (Ending.returned (Value.int .i64 S) = _) := Lib.hid (congrArg (fun z => Ending.returned (Value.int .i64 z)) (HFIN.out hlt))
      have HB4 := Lib.hid (HB1.out.trans (HBW.out.mono (by have := HX1.out.lt; omega)))
      clear HFIN HNX
      by_cases ht : t < n
      · have hz1 : (t : Int) < (n : Int) := by omega
        have hz2 : ¬ (t : Int) < 60 := by omega
        go_wp2_with fail
        go_ret
        exact ⟨HF.out, by rw [← HDW.out]; exact HB4.out⟩
      · have hz1 : ¬ (t : Int) < (n : Int) := by omega
        go_wp2_with fail
        go_ret
        exact ⟨HF.out, by rw [← HDW.out]; exact HB4.out⟩
def PlainPost (w : World) (kk : Nat → Nat) (xx : Nat → Int) (T : Nat) (e : Ending) (w' : World) : Prop := ∃ B : Bool, e = .returned (.bool B) ∧ (B = true → PlainZ kk xx T) ∧ Below w.heap.size w w'
theorem run_fieldU (a c : Value) (w : World) : (Instr.field 38 (.agg #[a, c]) 0).run Try.prog w = .ok a w := by kernel_rfl
set_option maxRecDepth 100000 in
set_option maxHeartbeats 8000000 in
theorem plain_any (b : Nat) (r d m s : Int) (hr : rightB (b : Int) r d m = true) (v : Value) (n : Nat) (ks : Nat → Nat) (ds : Nat → Int) (w : World) (hl : UpdsAt w v n ks ds) :
    Calls Try.prog 10 #[.agg #[.int .i64 (b : Int), .int .i64 r, .int .i64 d, .int .i64 m, .int .u64 s], v] w (PlainPost w (fedKK (b : Int) r d m ks) (fedXX m ds) (min n 60)) := by
  have HL := Lib.hid hl
  obtain ⟨ao, cap, rfl, hmx, hd64, hcells⟩ := hl
  have HD64 := Lib.hid hd64
  clear hcells hd64
  have hbb := right_of hr
  have PC := Lib.hid (fun (k : Nat) (hk : k < 18446744073709551616) (x : Int) (hx : In64 x) w => cut_upd (b : Int) r d m s hr k hk x hx w)
  have PH : Hid (∀ (k : Nat), k < 18446744073709551616 → ∀ w, UpdsAt w (.slice ao n cap) n ks ds → Calls Try.prog 12 #[.agg #[.int .i64 (b : Int), .int .i64 r, .int .i64 d, .int .i64 m, .int .u64 s], .slice ao n cap, .agg #[.int .i64 0, .int .u64 (k : Int)]] w fun e w' => e = .returned (.int .i64 (hasZ (fedKK (b : Int) r d m ks) (fedXX m ds) 0 k (min n 60))) ∧ Below w.heap.size w w') := Lib.hid (fun (k : Nat) (hk : k < 18446744073709551616) w hl => has_any b r d m s hr (.slice ao n cap) n ks ds 0 k (Nat.zero_le _) hk w hl)
  have HKB := Lib.hid (fun t => fed_key hr ks t)
  have HKI := Lib.hid (keysI_bd (b : Int) r d m 0)
  have HFX : Hid (∀ t, hasZ (fedKK (b : Int) r d m ks) (fedXX m ds) 0 t (min n 60) = grpZ (fedKK (b : Int) r d m ks) (fedXX m ds) (fun k => decide (k = t)) (min n 60)) := Lib.hid (fun t => by unfold hasZ; simp)
  obtain ⟨g1, hb1, hsz1⟩ := news1 w (.cells #[.int .i64 (b : Int), .int .i64 r, .int .i64 d, .int .i64 m, .int .u64 s] 24)
  have HX1 : Hid (Blk _ w.heap.size 24 #[.int .i64 (b : Int), .int .i64 r, .int .i64 d, .int .i64 m, .int .u64 s]) := Lib.hid g1
  have HB1 := Lib.hid hb1
  clear g1 hb1 hsz1 hr
  go_enter Try.func10, Try.ntmps10
  go_wp2_with fail
  generalize (w.alloc (.cells #[.int .i64 (b : Int), .int .i64 r, .int .i64 d, .int .i64 m, .int .u64 s] 24)) = w1 at *
  have HL1 := Lib.hid (HL.out.kept HB1.out)
  obtain ⟨D, hD⟩ : ∃ D, D = w.heap.size := ⟨_, rfl⟩
  rw [← hD] at HX1 HB1 ⊢
  have HDW := Lib.hid hD
  clear HL hD
  go_loopw [5] (fun i wr => ∃ t : Nat, i = .int .i64 (t : Int) ∧ t ≤ n ∧ t ≤ 60 ∧ (∀ j, j < t → 0 ≤ grpZ (fedKK (b : Int) r d m ks) (fedXX m ds) (fun k => decide (k = fedKK (b : Int) r d m ks j)) (min n 60)) ∧ Below w1.heap.size w1 wr) (fun i _ => 60 - (intOf i).toNat)
  case atStart => exact ⟨0, rfl, Nat.zero_le _, Nat.zero_le _, fun j hj => absurd hj (Nat.not_lt_zero _), Below.refl _ _⟩
  case round =>
    obtain ⟨t, rfl, htn, ht6, hall, hbw⟩ := hrel
    have HBW := Lib.hid hbw
    have HALL := Lib.hid hall
    clear hbw hall
    generalize wr = w2 at *
    by_cases hlt : t < n ∧ t < 60
    · have hz1 : (t : Int) < (n : Int) := by omega
      have hz2 : (t : Int) < 60 := by omega
      have HUA := Lib.hid (HL1.out.kept HBW.out)
      obtain ⟨gu, off, rfl, hgl, hrg⟩ := HUA.out.range hlt.1
      have HRG := Lib.hid hrg
      have HGL := Lib.hid hgl
      have PCT := Lib.hid (fun w => PC.out (ks t) (HD64.out t hlt.1).2 (ds t) (HD64.out t hlt.1).1 w)
      have hkb := HKB.out t
      have hkb2 := HKI.out
      have hfx := HFX.out (fedKK (b : Int) r d m ks t)
      obtain ⟨k, hk⟩ : ∃ k, k = fedKK (b : Int) r d m ks t := ⟨_, rfl⟩
      have HK := Lib.hid hk
      have hkq : cutK (keysI (b : Int) r d m 0) (ks t) = k := hk.symm
      rw [hkq] at PCT
      rw [← hk] at hkb hfx
      have hk59 : k < 18446744073709551616 := by omega
      have PHK := Lib.hid (fun w hl => PH.out k hk59 w hl)
      rw [hfx] at PHK
      obtain ⟨y, hy⟩ : ∃ y, y = cutD m (ds t) := ⟨_, rfl⟩
      rw [← hy] at PCT
      obtain ⟨S, hS⟩ : ∃ S, S = grpZ (fedKK (b : Int) r d m ks) (fedXX m ds) (fun q => decide (q = k)) (min n 60) := ⟨_, rfl⟩
      rw [← hS] at PHK
      have HS := Lib.hid hS
      clear hlt hgl hrg hk hkq hkb hkb2 hfx hS hy
      go_upto_region 4 with fail
      go_cut [27] (fun u wx => u = .bool (decide (S < 0)) ∧ Below w2.heap.size w2 wx)
      case first =>
        refine wp_region_held_drew (S := fun w' => Below w2.heap.size w2 w') (by kernel_rfl) (by exact below_drewN (Below.refl _ _) 1) (fun hHeld => ?_)
        refine wpAnyH_take (i := 0) (v := ?_) rfl (by kernel_rfl) (by kernel_rfl) (by kernel_rfl) (fun _ _ _ h => h) (Or.inl ⟨by rfl, ?_⟩) (by assumption) ?_
        rotate_left
        · intro w hSw
          have q7 := range_block HRG.out (hSw.block _ HGL.out)
          try (first | refine (exec_load_row 24 _ rfl D rfl 24 _ (0, 0) _ ((HX1.out.kept HBW.out).kept hSw) Try.underlying24 rfl (by kernel_rfl)).trans ?_ | refine (exec_load_mid 38 _ rfl gu (off + t * 2) rfl [.int .u64 (ks t : Int), .int .i64 (ds t)] _ q7 Try.underlying38 rfl (by kernel_rfl)).trans ?_)
          go_simp
          try with_reducible rfl
        simp only [Act.put, List.setIfInBounds_toArray, List.set_cons_zero, List.set_cons_succ, List.getElem_toArray, List.getElem_cons_zero, List.getElem_cons_succ]
        refine wpAnyH_take (i := 1) (v := ?_) rfl (by kernel_rfl) (by kernel_rfl) (by kernel_rfl) (fun _ _ _ h => h) (Or.inl ⟨by rfl, ?_⟩) (by assumption) ?_
        rotate_left
        · intro w hSw
          try dsimp only at hSw
          go_simp
          try with_reducible rfl
        simp only [Act.put, List.setIfInBounds_toArray, List.set_cons_zero, List.set_cons_succ, List.getElem_toArray, List.getElem_cons_zero, List.getElem_cons_succ]
        refine wpAnyH_take (i := 2) (v := ?_) rfl (by kernel_rfl) (by kernel_rfl) (by kernel_rfl) (fun _ _ _ h => h) (Or.inl ⟨by rfl, ?_⟩) (by assumption) ?_
        rotate_left
        · intro w hSw
          have q7 := range_block HRG.out (hSw.block _ HGL.out)
          try (first | refine (exec_load_row 24 _ rfl D rfl 24 _ (0, 0) _ ((HX1.out.kept HBW.out).kept hSw) Try.underlying24 rfl (by kernel_rfl)).trans ?_ | refine (exec_load_mid 38 _ rfl gu (off + t * 2) rfl [.int .u64 (ks t : Int), .int .i64 (ds t)] _ q7 Try.underlying38 rfl (by kernel_rfl)).trans ?_)
          go_simp
          try with_reducible rfl
        simp only [Act.put, List.setIfInBounds_toArray, List.set_cons_zero, List.set_cons_succ, List.getElem_toArray, List.getElem_cons_zero, List.getElem_cons_succ]
        refine wpAnyH_take (i := 3) (v := ?_) rfl (by kernel_rfl) (by kernel_rfl) (by kernel_rfl) (fun _ _ _ h => h) (Or.inl ⟨by rfl, ?_⟩) (by assumption) ?_
        rotate_left
        · intro w hSw
          try dsimp only at hSw
          go_simp
          try with_reducible rfl
        simp only [Act.put, List.setIfInBounds_toArray, List.set_cons_zero, List.set_cons_succ, List.getElem_toArray, List.getElem_cons_zero, List.getElem_cons_succ]
        refine wpAnyH_take (i := 4) (v := ?_) rfl (by kernel_rfl) (by kernel_rfl) (by kernel_rfl) (fun _ _ _ h => h) (Or.inl ⟨by rfl, ?_⟩) (by assumption) ?_
        rotate_left
        · intro w hSw
          try dsimp only at hSw
          go_simp
          try with_reducible rfl
        simp only [Act.put, List.setIfInBounds_toArray, List.set_cons_zero, List.set_cons_succ, List.getElem_toArray, List.getElem_cons_zero, List.getElem_cons_succ]
        refine wpAnyH_take (i := 5) (v := ?_) rfl (by kernel_rfl) (by kernel_rfl) (by kernel_rfl) (fun _ _ _ h => h) (Or.inl ⟨by rfl, ?_⟩) (by assumption) ?_
        rotate_left
        · intro w hSw
          try dsimp only at hSw
          go_simp
          try with_reducible rfl
        simp only [Act.put, List.setIfInBounds_toArray, List.set_cons_zero, List.set_cons_succ, List.getElem_toArray, List.getElem_cons_zero, List.getElem_cons_succ]
        refine wpAnyH_take (i := 6) (v := ?_) rfl (by kernel_rfl) (by kernel_rfl) (by kernel_rfl) (fun _ _ _ h => h) (Or.inl ⟨by rfl, ?_⟩) (by assumption) ?_
        rotate_left
        · intro w hSw
          have q7 := range_block HRG.out (hSw.block _ HGL.out)
          try (first | refine (exec_load_row 24 _ rfl D rfl 24 _ (0, 0) _ ((HX1.out.kept HBW.out).kept hSw) Try.underlying24 rfl (by kernel_rfl)).trans ?_ | refine (exec_load_mid 38 _ rfl gu (off + t * 2) rfl [.int .u64 (ks t : Int), .int .i64 (ds t)] _ q7 Try.underlying38 rfl (by kernel_rfl)).trans ?_)
          go_simp
          try with_reducible rfl
        simp only [Act.put, List.setIfInBounds_toArray, List.set_cons_zero, List.set_cons_succ, List.getElem_toArray, List.getElem_cons_zero, List.getElem_cons_succ]
        refine wpAnyH_ready (rs := [7]) (by kernel_rfl) (by simp) ?_
        refine AllReadyH.cons rfl (fun Kc hKc => ?_) AllReadyH.nil
        go_simp
        go_wp2_with ((first | (with_reducible refine (PCT.out _).mono ?_; rintro e wq ⟨rfl, hb'⟩) | (with_reducible refine (PHK.out _ (HL1.out.kept (btr HBW.out hHeld))).mono ?_; rintro e wq ⟨rfl, hb'⟩)))
        refine hKc.out _ _ ?_ (fun hHeld => ?_)
        · first | assumption | exact hHeld | exact btr hHeld hb'
        clear hKc Kc
        refine wpAnyH_take (i := 8) (v := ?_) rfl (by kernel_rfl) (by kernel_rfl) (by kernel_rfl) (fun _ _ _ h => h) (Or.inl ⟨by rfl, ?_⟩) (by assumption) ?_
        rotate_left
        · intro w hSw
          try dsimp only at hSw
          go_simp
          (rw [run_fieldU]; rfl)
          try with_reducible rfl
        simp only [Act.put, List.setIfInBounds_toArray, List.set_cons_zero, List.set_cons_succ, List.getElem_toArray, List.getElem_cons_zero, List.getElem_cons_succ]
        refine wpAnyH_take (i := 9) (v := ?_) rfl (by kernel_rfl) (by kernel_rfl) (by kernel_rfl) (fun _ _ _ h => h) (Or.inl ⟨by rfl, ?_⟩) (by assumption) ?_
        rotate_left
        · intro w hSw
          try dsimp only at hSw
          go_simp
          try with_reducible rfl
        simp only [Act.put, List.setIfInBounds_toArray, List.set_cons_zero, List.set_cons_succ, List.getElem_toArray, List.getElem_cons_zero, List.getElem_cons_succ]
        refine wpAnyH_ready (rs := [10]) (by kernel_rfl) (by simp) ?_
        refine AllReadyH.cons rfl (fun Kc hKc => ?_) AllReadyH.nil
        go_simp
        go_wp2_with ((first | (with_reducible refine (PCT.out _).mono ?_; rintro e wq ⟨rfl, hb'⟩) | (with_reducible refine (PHK.out _ (HL1.out.kept (btr HBW.out hHeld))).mono ?_; rintro e wq ⟨rfl, hb'⟩)))
        refine hKc.out _ _ ?_ (fun hHeld => ?_)
        · first | assumption | exact hHeld | exact btr hHeld hb'
        clear hKc Kc
        refine wpAnyH_take (i := 11) (v := ?_) rfl (by kernel_rfl) (by kernel_rfl) (by kernel_rfl) (fun _ _ _ h => h) (Or.inl ⟨by rfl, ?_⟩) (by assumption) ?_
        rotate_left
        · intro w hSw
          try dsimp only at hSw
          go_simp
          try with_reducible rfl
        simp only [Act.put, List.setIfInBounds_toArray, List.set_cons_zero, List.set_cons_succ, List.getElem_toArray, List.getElem_cons_zero, List.getElem_cons_succ]
        refine wpAnyH_done (by kernel_rfl) ?_ _
        have HBZ := Lib.hid hHeld
        clear hHeld
        go_wp2_with fail
        go_meet
        exact ⟨rfl, HBZ.out⟩
      case rest =>
        obtain ⟨rfl, hb⟩ := hcut
        have HB3 := Lib.hid (btr HBW.out hb)
        have HB4 := Lib.hid (HB1.out.trans (HB3.out.mono (by have := HX1.out.lt; omega)))
        clear hb HUA HRG HGL HBW
        generalize wc = w3 at *
        by_cases hin : S < 0
        · rw [decide_eq_true hin]
          go_wp2_with fail
          go_ret
          exact ⟨false, rfl, fun h => (nomatch h), by rw [← HDW.out]; exact HB4.out⟩
        · rw [decide_eq_false hin]
          have HALL2 : Hid (∀ j, j < t + 1 → 0 ≤ grpZ (fedKK (b : Int) r d m ks) (fedXX m ds) (fun k => decide (k = fedKK (b : Int) r d m ks j)) (min n 60)) := Lib.hid (fun j hj => by
            by_cases e : j = t
            · subst e
              rw [← HK.out, ← HS.out]
              omega
            · exact HALL.out j (by omega))
          go_wp2_with fail
          go_roundw
          case rel => exact ⟨t + 1, by go_num, by omega, by omega, HALL2.out, HB3.out⟩
          case measure => simp [intOf]; omega
    · have HB4 := Lib.hid (HB1.out.trans (HBW.out.mono (by have := HX1.out.lt; omega)))
      have HFIN : Hid (PlainZ (fedKK (b : Int) r d m ks) (fedXX m ds) (min n 60)) := Lib.hid (fun j hj => HALL.out j (by omega))
      by_cases ht : t < n
      · have hz1 : (t : Int) < (n : Int) := by omega
        have hz2 : ¬ (t : Int) < 60 := by omega
        go_wp2_with fail
        go_ret
        exact ⟨true, rfl, fun _ => HFIN.out, by rw [← HDW.out]; exact HB4.out⟩
      · have hz1 : ¬ (t : Int) < (n : Int) := by omega
        go_wp2_with fail
        go_ret
        exact ⟨true, rfl, fun _ => HFIN.out, by rw [← HDW.out]; exact HB4.out⟩
end Go.Proofs.Ythbkljeibmkimaa

/-
  The walk of HeavyAll. Conditions: none beyond those stated at each theorem.
-/
namespace Go.Proofs.Ythbkljeibmkimaa
open Go.RowKit
set_option linter.unusedVariables false
set_option linter.unusedSimpArgs false

theorem and1 (n : Int) : bits BinOp.and IntKind.i64 n 1 = n % 2 := by
  have h16 : (BitVec.ofInt 64 1).toNat = 2 ^ 1 - 1 := by decide
  have key : (BitVec.ofInt 64 n &&& BitVec.ofInt 64 1).toNat = (n % ((2 ^ 64 : Nat) : Int)).toNat % 2 ^ 1 := by
    rw [BitVec.toNat_and, BitVec.toNat_ofInt, h16, Nat.and_two_pow_sub_one_eq_mod]
  show IntKind.i64.wrap ((BitVec.ofInt 64 n &&& BitVec.ofInt 64 1).toNat : Nat) = n % 2
  rw [key, IntKind.wrap_i64]
  omega
/-- is a piece among the first k of those told? -/
def fndB (lo : List (Nat × Nat)) (j i k : Nat) : Bool := (lo.take k).any fun p => decide (p.1 = j) && decide (p.2 = i)
theorem fndB_next {lo : List (Nat × Nat)} {j i k kn ki : Nat} (h : lo[k]? = some (kn, ki)) : fndB lo j i (k + 1) = (fndB lo j i k || (decide (kn = j) && decide (ki = i))) := by
  unfold fndB
  rw [List.take_add_one, h, List.any_append]
  simp
theorem fndB_of {lo : List (Nat × Nat)} {j i N : Nat} (hN : N = lo.length) (h : (j, i) ∈ lo) : fndB lo j i N = true := by
  unfold fndB
  rw [hN, List.take_length, List.any_eq_true]
  exact ⟨_, h, by simp⟩
set_option maxRecDepth 100000 in
set_option maxHeartbeats 8000000 in
theorem all_walk (xb xr xd xm s : Int) (l : Value) (n : Nat) (ks : Nat → Nat) (ds : Nat → Int) (s0 : 0 ≤ s) (s1 : s ≤ 18446744073709551615) (least b0 : Int) (h0 : In64 b0) (hl64 : In64 least) (w : World) (hl : UpdsAt w l n ks ds) :
    Calls Try.prog 3 #[.agg #[.int .i64 xb, .int .i64 xr, .int .i64 xd, .int .i64 xm, .int .u64 s, l], .int .i64 least, .int .i64 b0] w fun e w' => e = .returned (.bool true) ∧ Below w.heap.size w w' := by
  have HL := Lib.hid hl
  obtain ⟨ao, cap, rfl, hmx, hd64, hcells⟩ := hl
  have HD64 := Lib.hid hd64
  clear hcells hd64
  have PS := Lib.hid (fun w => shown18 w)
  have hxm : 0 ≤ xm % 2 ∧ xm % 2 < 2 := by omega
  obtain ⟨m, hm⟩ : ∃ m : Int, m = if xm % 2 = 1 then 2 else 1 := ⟨_, rfl⟩
  have hm2 : m = 1 ∨ m = 2 := by rw [hm]; split <;> omega
  have PF := Lib.hid (fun w hl => fed_any xb xr xd xm s (.slice ao n cap) n ks ds 10 m (by decide) (by decide) (by omega) s0 s1 w hl)
  rw [show fedM xm m = m by unfold fedM; rw [if_pos (by omega)]] at PF
  have hbb := anyI_bd xb 10 (by decide)
  have hrb := anyI_bd xr 4 (by decide)
  have hdb := anyI_bd xd 9 (by decide)
  obtain ⟨b, hb⟩ : ∃ b, b = (anyI xb 10).toNat := ⟨_, rfl⟩
  obtain ⟨r, hr⟩ : ∃ r, r = anyI xr 4 := ⟨_, rfl⟩
  obtain ⟨d, hd⟩ : ∃ d, d = anyI xd 9 := ⟨_, rfl⟩
  rw [← hb, ← hr, ← hd] at PF
  have HR : Hid (rightB (b : Int) r d m = true) := Lib.hid (right_mk (by omega))
  have hb6 : 1 ≤ b ∧ b ≤ 10 := by omega
  obtain ⟨Z, hZ⟩ : ∃ Z, Z = fedZ (b : Int) r d m s (fedKK (b : Int) r d m ks) (fedXX m ds) (min n 60) := ⟨_, rfl⟩
  obtain ⟨pt, hpt⟩ : ∃ pt, pt = ptOf b r d m s Z := ⟨_, rfl⟩
  obtain ⟨q, hq⟩ : ∃ q, q = leastI least := ⟨_, rfl⟩
  have hqb := leastI_bd least
  rw [← hq] at hqb
  have PV : Hid (∀ (w : World) (base S L : Nat) (X : Nat → Value) (A G C : Nat → Nat), StIs w base S L (b : Int) r d m s X A G C Z → ∀ budget, In64 budget → Calls Try.prog 9 #[.pointer (some ⟨S, 0, none⟩), .int .i64 q, .int .i64 budget] w (HvPost w pt q budget b)) := Lib.hid (fun w base S L X A G C h budget h2 => by
    rw [hpt]
    exact hvheavy w S b r d m s _ (ptis_of h s0 s1) (by omega) (by omega) q budget (by unfold In64; omega) h2)
  have HTOLD : Hid (PlainZ (fedKK (b : Int) r d m ks) (fedXX m ds) (min n 60) → ∀ j i, j ≤ b → i < 2 ^ (b - j) → q ≤ hasZ (fedKK (b : Int) r d m ks) (fedXX m ds) j i (min n 60) → (j, i) ∈ hvOut pt q b (b + 1)) := Lib.hid (fun hp j i hj hi h => by
    rw [hpt, hZ]
    exact all_told HR.out hm2 (fed_key HR.out ks) (fun t => cutD_bd m (ds t)) (by omega) hp (b - j) j i (by omega) hi h)
  have PC := Lib.hid (fun (k : Nat) (hk : k < 18446744073709551616) (x : Int) (hx : In64 x) w => cut_upd (b : Int) r d m s HR.out k hk x hx w)
  have PPL := Lib.hid (fun w hl => plain_any b r d m s HR.out (.slice ao n cap) n ks ds w hl)
  have PHAS := Lib.hid (fun w hl (pn pi : Nat) (h1 : pn ≤ b) (h2 : pi < 18446744073709551616) => has_any b r d m s HR.out (.slice ao n cap) n ks ds pn pi h1 h2 w hl)
  have HKB := Lib.hid (fun t => fed_key HR.out ks t)
  have HZ := Lib.hid hZ
  have HB6 := Lib.hid hb6
  have e40 := and40 least
  have e1 := and1 xm
  obtain ⟨a, ha⟩ : ∃ a, a = (b0 % 65536) % 301 := ⟨_, rfl⟩
  have hab : 0 ≤ a ∧ a ≤ 300 := by omega
  have f0 := and16 b0
  have t0 : (b0 % 65536).tmod 301 = a := by rw [ha]; exact Int.tmod_eq_emod_of_nonneg (by omega)
  obtain ⟨g1, hb1, hsz1⟩ := news1 w (.cells #[.int .i64 xb, .int .i64 xr, .int .i64 xd, .int .i64 xm, .int .u64 s, .slice ao n cap] 27)
  have HX1 : Hid (Blk _ w.heap.size 27 #[.int .i64 xb, .int .i64 xr, .int .i64 xd, .int .i64 xm, .int .u64 s, .slice ao n cap]) := Lib.hid g1
  have HB1 := Lib.hid hb1
  have hlq : 1 + least % 1099511627776 = q := by rw [hq]; rfl
  have HAC := Lib.hid hab
  have HQB := Lib.hid hqb
  have HM := Lib.hid hm
  clear g1 hb1 hsz1 hb hr hd hZ hpt hq hb6 hbb hrb hdb ha hab h0 hl64 hqb hm hm2
  go_enter Try.func3, Try.ntmps3
  go_wp2_with fail
  generalize (w.alloc (.cells #[.int .i64 xb, .int .i64 xr, .int .i64 xd, .int .i64 xm, .int .u64 s, .slice ao n cap] 27)) = w1 at *
  with_reducible refine (PS.out _).mono ?_
  rintro e w2 ⟨rfl, hb⟩
  have HX2 := Lib.hid (HX1.out.kept hb)
  have HB2 := Lib.hid (btr HB1.out hb)
  clear hb HX1 HB1
  have x3 := HX2.out.cell 3
  simp at x3
  go_upto_if 23 with fail
  go_cut [8] (fun v wx => v = .int .i64 m ∧ w2 = wx)
  case first =>
    by_cases hx1 : xm % 2 = 1
    · have HR2 : Hid (m = 2) := Lib.hid (by rw [HM.out, if_pos hx1])
      go_wp2_with fail
      go_meet
      exact ⟨by rw [HR2.out], rfl⟩
    · have HR2 : Hid (m = 1) := Lib.hid (by rw [HM.out, if_neg hx1])
      go_wp2_with fail
      go_meet
      exact ⟨by rw [HR2.out], rfl⟩
  case rest =>
    obtain ⟨rfl, hw⟩ := hcut
    subst hw
    clear x3 e1 HM hxm
    have hx3 := HX2.out
    go_wp2_with (refine wpList_load_row rfl 27 _ rfl w.heap.size rfl 27 _ (0, 0) _ hx3 Try.underlying27 rfl (by kernel_rfl) ?_)
    with_reducible refine (PF.out _ (HL.out.kept HB2.out)).mono ?_
    rintro e w3 ⟨S, L, X, A', G, C, rfl, hS, hst, hb⟩
    obtain ⟨g3, hb3, hsz3⟩ := news1 w3 (.cells #[.int .i64 (b : Int), .int .i64 r, .int .i64 d, .int .i64 m, .int .u64 s] 24)
    have HCC : Hid (Blk _ w3.heap.size 24 #[.int .i64 (b : Int), .int .i64 r, .int .i64 d, .int .i64 m, .int .u64 s]) := Lib.hid g3
    have HST := Lib.hid (hst.kept hb3)
    rw [← HZ.out] at HST
    have HX4 := Lib.hid ((HX2.out.kept hb).kept hb3)
    have HB3 := Lib.hid (btr (btr HB2.out hb) hb3)
    clear g3 hb3 hsz3 hst hb hS HX2 hx3
    go_wp2_with fail
    have HERR : Hid (∀ x : Int, x ≤ 4096 → hvErr pt q x b = if x < (askedUp pt q b (b + 1) : Int) then 7 else 0) := Lib.hid (fun x hx => by unfold hvErr; rw [if_neg (by have := HQB.out; omega)])
    generalize (w3.alloc (.cells #[.int .i64 (b : Int), .int .i64 r, .int .i64 d, .int .i64 m, .int .u64 s] 24)) = w4 at *
    generalize w3.heap.size = D at *
    with_reducible refine (PV.out _ _ _ _ _ _ _ _ HST.out a (by have := HAC.out; unfold In64; omega)).mono ?_
    rintro e w5 ⟨v1, rfl, hv1, hn1, hb⟩
    have HV1 := Lib.hid hv1
    have HN1 := Lib.hid hn1
    have HCC2 := Lib.hid (HCC.out.kept hb)
    have HX5 := Lib.hid (HX4.out.kept hb)
    have HB4 := Lib.hid (btr HB3.out hb)
    have HE1 := Lib.hid (HERR.out a (by have := HAC.out; omega))
    clear hb hv1 hn1 HST HCC HB3 PV PF PS HZ
    by_cases hE : hvErr pt q a b = 0
    · have HASK : Hid (askedUp pt q b (b + 1) ≤ 300) := Lib.hid (by
        have h1 := HE1.out
        have h2 := HAC.out
        rw [hE] at h1
        split at h1
        · cases h1
        · omega)
      have HV := Lib.hid (HV1.out hE)
      rw [hE]
      clear hE HV1 HN1 HE1 HERR
      have HSML := Lib.hid (hvOut_small pt q b (by have := HB6.out; omega))
      have HLEN := Lib.hid (hvOut_len pt q b (b + 1))
      obtain ⟨lo, hlo⟩ : ∃ lo, lo = hvOut pt q b (b + 1) := ⟨_, rfl⟩
      rw [← hlo] at HV HSML HLEN HTOLD
      obtain ⟨N, hN⟩ : ∃ N, N = lo.length := ⟨_, rfl⟩
      have HN := Lib.hid hN
      have hNs : N ≤ 300 := by have := HLEN.out; have := HASK.out; omega
      have HL5 := Lib.hid (HL.out.kept HB4.out)
      have hc5 := HCC2.out
      have x5 := HX5.out.cell 5
      simp at x5
      obtain ⟨ao3, cap3, h3, -, -⟩ := own_open HV.out
      rw [← hN] at h3
      subst h3
      clear hlo hN HX4
      go_wp2_with (refine wpList_load_row rfl 24 _ rfl D rfl 24 _ (0, 0) _ hc5 Try.underlying24 rfl (by kernel_rfl) ?_)
      with_reducible refine (PPL.out _ HL5.out).mono ?_
      rintro e w6 ⟨B, rfl, hB, hb⟩
      have HB6' := Lib.hid (btr HB4.out hb)
      cases B with
      | false =>
        clear hb hB x5 hc5
        go_wp2_with fail
        go_ret
        exact ⟨rfl, HB6'.out⟩
      | true =>
        have HTLD := Lib.hid (HTOLD.out (hB rfl))
        have HX6 := Lib.hid (HX5.out.kept hb)
        have HC6 := Lib.hid (HCC2.out.kept hb)
        have HL6 := Lib.hid (HL5.out.kept hb)
        have HV6 := Lib.hid (HV.out.kept hb)
        clear hb hB x5 hc5 HX5 HCC2 HL5 HV HB4 HTOLD PPL
        go_wp2_with fail
        go_loopw [13] (fun i wr => ∃ t : Nat, i = .int .i64 (t : Int) ∧ t ≤ n ∧ t ≤ 60 ∧ Below w6.heap.size w6 wr) (fun i _ => 60 - (intOf i).toNat)
        case atStart => exact ⟨0, rfl, Nat.zero_le _, Nat.zero_le _, Below.refl _ _⟩
        case round =>
          obtain ⟨t, rfl, htn, ht6, hbw⟩ := hrel
          have HBW := Lib.hid hbw
          clear hbw
          by_cases hlt : t < n ∧ t < 60
          · have hz1 : (t : Int) < (n : Int) := by omega
            have hz2 : (t : Int) < 60 := by omega
            have HUA := Lib.hid (HL6.out.kept HBW.out)
            obtain ⟨gu, off, hao, hgl0, hrg0⟩ := HUA.out.range hlt.1
            subst hao
            have HRG0 := Lib.hid hrg0
            have HGL0 := Lib.hid hgl0
            have PCT := Lib.hid (fun w => PC.out (ks t) (HD64.out t hlt.1).2 (ds t) (HD64.out t hlt.1).1 w)
            obtain ⟨k, hk⟩ : ∃ k, k = fedKK (b : Int) r d m ks t := ⟨_, rfl⟩
            obtain ⟨y, hy⟩ : ∃ y, y = fedXX m ds t := ⟨_, rfl⟩
            have hkq : cutK (keysI (b : Int) r d m 0) (ks t) = k := hk.symm
            have hyq : cutD m (ds t) = y := hy.symm
            rw [hkq, hyq] at PCT
            have HKD : Hid (∀ j, j ≤ b → k / 2 ^ j < 2 ^ (b - j)) := Lib.hid (fun j hj => by
              have h1 := key_down (n := j) HR.out (HKB.out t) (by simpa using hj)
              rw [keysI_nat HR.out hj, ← hk] at h1
              omega)
            have HK59 : Hid (k < 18446744073709551616) := Lib.hid (by
              have h1 := HKB.out t
              have h2 := keysI_bd (b : Int) r d m 0
              rw [← hk] at h1
              omega)
            clear hgl0 hrg0 hk hy hkq hyq HUA
            generalize wr = w7 at *
            have HX7 := Lib.hid (HX6.out.kept HBW.out)
            have HC7 := Lib.hid (HC6.out.kept HBW.out)
            have HF7 := Lib.hid (HV6.out.kept HBW.out)
            have HL7 := Lib.hid (HL6.out.kept HBW.out)
            have q5 := HX7.out.cell 5
            simp at q5
            go_wp2_with fail
            clear q5
            go_loopw [14] (fun lv wr => ∃ j : Nat, lv = .int .i64 (j : Int) ∧ j ≤ b + 1 ∧ Below w7.heap.size w7 wr) (fun lv _ => b + 1 - (intOf lv).toNat)
            case atStart => exact ⟨0, rfl, Nat.zero_le _, Below.refl _ _⟩
            case round =>
              obtain ⟨j, rfl, hj, hbl⟩ := hrel
              have HBL := Lib.hid hbl
              clear hbl
              generalize wr = w8 at *
              have HX8 := Lib.hid (HX7.out.kept HBL.out)
              have HC8 := Lib.hid (HC7.out.kept HBL.out)
              have HF8 := Lib.hid (HF7.out.kept HBL.out)
              have HL8 := Lib.hid (HL7.out.kept HBL.out)
              have HRG : Hid (w8.rangeAt gu (off + t * 2) [.int .u64 (ks t : Int), .int .i64 (ds t)]) := Lib.hid (range_block HRG0.out (HBL.out.block _ HGL0.out))
              have HGL : Hid (gu < w8.heap.size) := Lib.hid (Nat.lt_of_lt_of_le HGL0.out HBL.out.size)
              have c0 := HC8.out.cell 0
              simp at c0
              by_cases hjb : j ≤ b
              · have hjz : (j : Int) ≤ (b : Int) := by omega
                go_wp2_with fail
                clear c0
                have hjb59 : j ≤ 59 := by have := HB6.out; omega
                have ew : IntKind.u64.wrap (j : Int) = (j : Int) := by rw [wrapU_mod]; omega
                have HIQ0 := Lib.hid (show k / 2 ^ j < 2 ^ (b - j) ∧ k / 2 ^ j < 18446744073709551616 from ⟨HKD.out j (by omega), Nat.lt_of_le_of_lt (Nat.div_le_self _ _) HK59.out⟩)
                go_upto_region 21 with fail
                go_cut [15] (fun u wx => ∃ U, u = .pointer (some ⟨U, 0, none⟩) ∧ Blk wx U 42 #[.int .i64 (j : Int), .int .u64 ((k : Int) / 2 ^ j)] ∧ Below w8.heap.size w8 wx)
                case first =>
                  refine wp_region_held_drew (S := fun w' => Below w8.heap.size w8 w') (by kernel_rfl) (by exact below_drewN (Below.refl _ _) 1) (fun hHeld => ?_)
                  refine wpAnyH_take (i := 0) (v := ?_) rfl (by kernel_rfl) (by kernel_rfl) (by kernel_rfl) (fun _ _ _ h => h) (Or.inl ⟨by rfl, ?_⟩) (by assumption) ?_
                  rotate_left
                  · intro w hSw
                    try dsimp only at hSw
                    go_simp
                    try with_reducible rfl
                  simp only [Act.put, List.setIfInBounds_toArray, List.set_cons_zero, List.set_cons_succ, List.getElem_toArray, List.getElem_cons_zero, List.getElem_cons_succ]
                  refine wpAnyH_take (i := 1) (v := ?_) rfl (by kernel_rfl) (by kernel_rfl) (by kernel_rfl) (fun _ _ _ h => h) (Or.inl ⟨by rfl, ?_⟩) (by assumption) ?_
                  rotate_left
                  · intro w hSw
                    have q6 := (HX8.out.kept hSw).cell 5
                    have q7 := range_block HRG.out (hSw.block _ HGL.out)
                    simp at q6
                    try (first | refine (exec_load_row 24 _ rfl D rfl 24 _ (0, 0) _ (HC8.out.kept hSw) Try.underlying24 rfl (by kernel_rfl)).trans ?_ | refine (exec_load_mid 38 _ rfl gu (off + t * 2) rfl [.int .u64 (ks t : Int), .int .i64 (ds t)] _ q7 Try.underlying38 rfl (by kernel_rfl)).trans ?_)
                    go_simp
                    try with_reducible rfl
                  simp only [Act.put, List.setIfInBounds_toArray, List.set_cons_zero, List.set_cons_succ, List.getElem_toArray, List.getElem_cons_zero, List.getElem_cons_succ]
                  refine wpAnyH_take (i := 2) (v := ?_) rfl (by kernel_rfl) (by kernel_rfl) (by kernel_rfl) (fun _ _ _ h => h) (Or.inl ⟨by rfl, ?_⟩) (by assumption) ?_
                  rotate_left
                  · intro w hSw
                    try dsimp only at hSw
                    go_simp
                    try with_reducible rfl
                  simp only [Act.put, List.setIfInBounds_toArray, List.set_cons_zero, List.set_cons_succ, List.getElem_toArray, List.getElem_cons_zero, List.getElem_cons_succ]
                  refine wpAnyH_take (i := 3) (v := ?_) rfl (by kernel_rfl) (by kernel_rfl) (by kernel_rfl) (fun _ _ _ h => h) (Or.inl ⟨by rfl, ?_⟩) (by assumption) ?_
                  rotate_left
                  · intro w hSw
                    have q6 := (HX8.out.kept hSw).cell 5
                    have q7 := range_block HRG.out (hSw.block _ HGL.out)
                    simp at q6
                    try (first | refine (exec_load_row 24 _ rfl D rfl 24 _ (0, 0) _ (HC8.out.kept hSw) Try.underlying24 rfl (by kernel_rfl)).trans ?_ | refine (exec_load_mid 38 _ rfl gu (off + t * 2) rfl [.int .u64 (ks t : Int), .int .i64 (ds t)] _ q7 Try.underlying38 rfl (by kernel_rfl)).trans ?_)
                    go_simp
                    try with_reducible rfl
                  simp only [Act.put, List.setIfInBounds_toArray, List.set_cons_zero, List.set_cons_succ, List.getElem_toArray, List.getElem_cons_zero, List.getElem_cons_succ]
                  refine wpAnyH_take (i := 4) (v := ?_) rfl (by kernel_rfl) (by kernel_rfl) (by kernel_rfl) (fun _ _ _ h => h) (Or.inl ⟨by rfl, ?_⟩) (by assumption) ?_
                  rotate_left
                  · intro w hSw
                    try dsimp only at hSw
                    go_simp
                    try with_reducible rfl
                  simp only [Act.put, List.setIfInBounds_toArray, List.set_cons_zero, List.set_cons_succ, List.getElem_toArray, List.getElem_cons_zero, List.getElem_cons_succ]
                  refine wpAnyH_take (i := 5) (v := ?_) rfl (by kernel_rfl) (by kernel_rfl) (by kernel_rfl) (fun _ _ _ h => h) (Or.inl ⟨by rfl, ?_⟩) (by assumption) ?_
                  rotate_left
                  · intro w hSw
                    try dsimp only at hSw
                    go_simp
                    try with_reducible rfl
                  simp only [Act.put, List.setIfInBounds_toArray, List.set_cons_zero, List.set_cons_succ, List.getElem_toArray, List.getElem_cons_zero, List.getElem_cons_succ]
                  refine wpAnyH_take (i := 6) (v := ?_) rfl (by kernel_rfl) (by kernel_rfl) (by kernel_rfl) (fun _ _ _ h => h) (Or.inl ⟨by rfl, ?_⟩) (by assumption) ?_
                  rotate_left
                  · intro w hSw
                    have q6 := (HX8.out.kept hSw).cell 5
                    have q7 := range_block HRG.out (hSw.block _ HGL.out)
                    simp at q6
                    try (first | refine (exec_load_row 24 _ rfl D rfl 24 _ (0, 0) _ (HC8.out.kept hSw) Try.underlying24 rfl (by kernel_rfl)).trans ?_ | refine (exec_load_mid 38 _ rfl gu (off + t * 2) rfl [.int .u64 (ks t : Int), .int .i64 (ds t)] _ q7 Try.underlying38 rfl (by kernel_rfl)).trans ?_)
                    go_simp
                    try with_reducible rfl
                  simp only [Act.put, List.setIfInBounds_toArray, List.set_cons_zero, List.set_cons_succ, List.getElem_toArray, List.getElem_cons_zero, List.getElem_cons_succ]
                  refine wpAnyH_take (i := 9) (v := ?_) rfl (by kernel_rfl) (by kernel_rfl) (by kernel_rfl) (fun _ _ _ h => h) (Or.inl ⟨by rfl, ?_⟩) (by assumption) ?_
                  rotate_left
                  · intro w hSw
                    try dsimp only at hSw
                    go_simp
                    try with_reducible rfl
                  simp only [Act.put, List.setIfInBounds_toArray, List.set_cons_zero, List.set_cons_succ, List.getElem_toArray, List.getElem_cons_zero, List.getElem_cons_succ]
                  refine wpAnyH_take (i := 10) (v := ?_) rfl (by kernel_rfl) (by kernel_rfl) (by kernel_rfl) (fun _ _ _ h => h) (Or.inl ⟨by rfl, ?_⟩) (by assumption) ?_
                  rotate_left
                  · intro w hSw
                    try dsimp only at hSw
                    go_simp
                    try with_reducible rfl
                  simp only [Act.put, List.setIfInBounds_toArray, List.set_cons_zero, List.set_cons_succ, List.getElem_toArray, List.getElem_cons_zero, List.getElem_cons_succ]
                  refine wpAnyH_ready (rs := [7, 13]) (by kernel_rfl) (by simp) ?_
                  refine AllReadyH.cons rfl (fun Kc hKc => ?_) (AllReadyH.cons rfl (fun Kc hKc => ?_) AllReadyH.nil)
                  · go_simp
                    go_wp2_with ((with_reducible refine (PCT.out _).mono ?_; rintro e wq ⟨rfl, hb'⟩; try have HAQ := Lib.hid (HAQ.out.kept hb')))
                    refine hKc.out _ _ ?_ (fun hHeld => ?_)
                    · first | assumption | exact hHeld | exact btr hHeld hb' | exact hHeld.alloc hHeld.size _ | exact below_setRow hHeld hPrev.out _
                    clear hKc Kc
                    refine wpAnyH_take (i := 8) (v := ?_) rfl (by kernel_rfl) (by kernel_rfl) (by kernel_rfl) (fun _ _ _ h => h) (Or.inl ⟨by rfl, ?_⟩) (by assumption) ?_
                    rotate_left
                    · intro w hSw
                      try dsimp only at hSw
                      go_simp
                      (rw [run_fieldU]; rfl)
                      try with_reducible rfl
                    simp only [Act.put, List.setIfInBounds_toArray, List.set_cons_zero, List.set_cons_succ, List.getElem_toArray, List.getElem_cons_zero, List.getElem_cons_succ]
                    refine wpAnyH_take (i := 11) (v := ?_) rfl (by kernel_rfl) (by kernel_rfl) (by kernel_rfl) (fun _ _ _ h => h) (Or.inl ⟨by rfl, ?_⟩) (by assumption) ?_
                    rotate_left
                    · intro w hSw
                      try dsimp only at hSw
                      go_simp
                      try with_reducible rfl
                    simp only [Act.put, List.setIfInBounds_toArray, List.set_cons_zero, List.set_cons_succ, List.getElem_toArray, List.getElem_cons_zero, List.getElem_cons_succ]
                    refine wpAnyH_take (i := 12) (v := ?_) rfl (by kernel_rfl) (by kernel_rfl) (by kernel_rfl) (fun _ _ _ h => h) (Or.inl ⟨by rfl, ?_⟩) (by assumption) ?_
                    rotate_left
                    · intro w hSw
                      try dsimp only at hSw
                      go_simp
                      try with_reducible rfl
                    simp only [Act.put, List.setIfInBounds_toArray, List.set_cons_zero, List.set_cons_succ, List.getElem_toArray, List.getElem_cons_zero, List.getElem_cons_succ]
                    refine wpAnyH_ready (rs := [13]) (by kernel_rfl) (by simp) ?_
                    refine AllReadyH.cons rfl (fun Kc hKc => ?_) AllReadyH.nil
                    go_simp
                    have hPrev := Lib.hid hHeld.size
                    refine hKc.out _ _ ?_ (fun hHeld => ?_)
                    · first | assumption | exact hHeld | exact btr hHeld hb' | exact hHeld.alloc hHeld.size _ | exact below_setRow hHeld hPrev.out _
                    clear hKc Kc
                    first | have HAQ := Lib.hid (fresh_of hHeld) | have HAQ := Lib.hid (fresh_drew hHeld)
                    refine wpAnyH_ready (rs := [14]) (by kernel_rfl) (by simp) ?_
                    refine AllReadyH.cons rfl (fun Kc hKc => ?_) AllReadyH.nil
                    have HAR := Lib.hid (HAQ.out.rowNew (cs' := #[.int .i64 (j : Int), .int .u64 ((k : Int) / 2 ^ j)])); refine wp_store_row 42 _ _ rfl _ #[.int .i64 (j : Int), .int .u64 ((k : Int) / 2 ^ j)] rfl (by rfl) 42 _ HAQ.out (by kernel_rfl) rfl (by simp [Value.oneCell']) ?_
                    refine hKc.out _ _ ?_ (fun hHeld => ?_)
                    · first | assumption | exact hHeld | exact btr hHeld hb' | exact hHeld.alloc hHeld.size _ | exact below_setRow hHeld hPrev.out _
                    clear hKc Kc
                    refine wpAnyH_done (by kernel_rfl) ?_ _
                    have HBZ := Lib.hid hHeld
                    clear hHeld
                    go_wp2_with fail
                    go_meet
                    exact ⟨_, rfl, HAR.out, HBZ.out⟩
                  · go_simp
                    have hPrev := Lib.hid hHeld.size
                    refine hKc.out _ _ ?_ (fun hHeld => ?_)
                    · first | assumption | exact hHeld | exact btr hHeld hb' | exact hHeld.alloc hHeld.size _ | exact below_setRow hHeld hPrev.out _
                    clear hKc Kc
                    first | have HAQ := Lib.hid (fresh_of hHeld) | have HAQ := Lib.hid (fresh_drew hHeld)
                    refine wpAnyH_ready (rs := [7]) (by kernel_rfl) (by simp) ?_
                    refine AllReadyH.cons rfl (fun Kc hKc => ?_) AllReadyH.nil
                    go_simp
                    go_wp2_with ((with_reducible refine (PCT.out _).mono ?_; rintro e wq ⟨rfl, hb'⟩; try have HAQ := Lib.hid (HAQ.out.kept hb')))
                    refine hKc.out _ _ ?_ (fun hHeld => ?_)
                    · first | assumption | exact hHeld | exact btr hHeld hb' | exact hHeld.alloc hHeld.size _ | exact below_setRow hHeld hPrev.out _
                    clear hKc Kc
                    refine wpAnyH_take (i := 8) (v := ?_) rfl (by kernel_rfl) (by kernel_rfl) (by kernel_rfl) (fun _ _ _ h => h) (Or.inl ⟨by rfl, ?_⟩) (by assumption) ?_
                    rotate_left
                    · intro w hSw
                      try dsimp only at hSw
                      go_simp
                      (rw [run_fieldU]; rfl)
                      try with_reducible rfl
                    simp only [Act.put, List.setIfInBounds_toArray, List.set_cons_zero, List.set_cons_succ, List.getElem_toArray, List.getElem_cons_zero, List.getElem_cons_succ]
                    refine wpAnyH_take (i := 11) (v := ?_) rfl (by kernel_rfl) (by kernel_rfl) (by kernel_rfl) (fun _ _ _ h => h) (Or.inl ⟨by rfl, ?_⟩) (by assumption) ?_
                    rotate_left
                    · intro w hSw
                      try dsimp only at hSw
                      go_simp
                      try with_reducible rfl
                    simp only [Act.put, List.setIfInBounds_toArray, List.set_cons_zero, List.set_cons_succ, List.getElem_toArray, List.getElem_cons_zero, List.getElem_cons_succ]
                    refine wpAnyH_take (i := 12) (v := ?_) rfl (by kernel_rfl) (by kernel_rfl) (by kernel_rfl) (fun _ _ _ h => h) (Or.inl ⟨by rfl, ?_⟩) (by assumption) ?_
                    rotate_left
                    · intro w hSw
                      try dsimp only at hSw
                      go_simp
                      try with_reducible rfl
                    simp only [Act.put, List.setIfInBounds_toArray, List.set_cons_zero, List.set_cons_succ, List.getElem_toArray, List.getElem_cons_zero, List.getElem_cons_succ]
                    refine wpAnyH_ready (rs := [14]) (by kernel_rfl) (by simp) ?_
                    refine AllReadyH.cons rfl (fun Kc hKc => ?_) AllReadyH.nil
                    have HAR := Lib.hid (HAQ.out.rowNew (cs' := #[.int .i64 (j : Int), .int .u64 ((k : Int) / 2 ^ j)])); refine wp_store_row 42 _ _ rfl _ #[.int .i64 (j : Int), .int .u64 ((k : Int) / 2 ^ j)] rfl (by rfl) 42 _ HAQ.out (by kernel_rfl) rfl (by simp [Value.oneCell']) ?_
                    refine hKc.out _ _ ?_ (fun hHeld => ?_)
                    · first | assumption | exact hHeld | exact btr hHeld hb' | exact hHeld.alloc hHeld.size _ | exact below_setRow hHeld hPrev.out _
                    clear hKc Kc
                    refine wpAnyH_done (by kernel_rfl) ?_ _
                    have HBZ := Lib.hid hHeld
                    clear hHeld
                    go_wp2_with fail
                    go_meet
                    exact ⟨_, rfl, HAR.out, HBZ.out⟩
                case rest =>
                  obtain ⟨U, rfl, hu, hb⟩ := hcut
                  have HBP := Lib.hid (HBL.out.trans (hb.mono HBL.out.size))
                  have HC9 := Lib.hid (HC8.out.kept hb)
                  have HX9 := Lib.hid (HX8.out.kept hb)
                  have HF9 := Lib.hid (HF8.out.kept hb)
                  have HL9 := Lib.hid (HL8.out.kept hb)
                  rw [show (k : Int) / 2 ^ j = ((k / 2 ^ j : Nat) : Int) by rw [Int.natCast_ediv, Int.natCast_pow]; rfl] at hu
                  obtain ⟨iq, hiq⟩ : ∃ iq, iq = k / 2 ^ j := ⟨_, rfl⟩
                  rw [← hiq] at hu
                  have HIQ : Hid (iq < 2 ^ (b - j) ∧ iq < 18446744073709551616) := Lib.hid (by rw [hiq]; exact HIQ0.out)
                  have HP9 := Lib.hid hu
                  clear hu hb hiq HIQ0 HBL HC8 HX8 HF8 HL8 HRG HGL PCT
                  generalize wc = w9 at *
                  go_wp2_with fail
                  go_loopw [16, 17] (fun f k wr => ∃ k' : Nat, k = .int .i64 (k' : Int) ∧ k' ≤ N ∧ f = .bool (fndB lo j iq k') ∧ Below w9.heap.size w9 wr) (fun _ k _ => N - (intOf k).toNat)
                  case atStart => exact ⟨0, rfl, Nat.zero_le _, rfl, Below.refl _ _⟩
                  case round =>
                    obtain ⟨k, rfl, hk, rfl, hbk⟩ := hrel
                    have HBK := Lib.hid hbk
                    clear hbk
                    generalize wr = w10 at *
                    by_cases hkt : k < N
                    · have hkz : (k : Int) < (N : Int) := by omega
                      obtain ⟨⟨kn, ki⟩, hkp⟩ : ∃ p, lo[k]? = some p := ⟨_, List.getElem?_eq_getElem (by have := HN.out; omega)⟩
                      have HKN := Lib.hid (fndB_next (j := j) (i := iq) hkp)
                      have HKB := Lib.hid (HSML.out _ (List.mem_of_getElem? hkp))
                      obtain ⟨g, c3', he, -, hl3, -, -, HR⟩ := HF9.out.range hkp
                      simp only [Value.slice.injEq] at he
                      obtain ⟨rfl, -, rfl⟩ := he
                      have HRK : Hid (w9.rangeAt g (k * 3) [.int .i64 (kn : Int), .int .u64 (ki : Int)]) := Lib.hid (fun j u hu => by
                        match j, hu with
                        | 0, hu => exact HR 0 u (by simpa using hu)
                        | 1, hu => exact HR 1 u (by simpa using hu)
                        | j + 2, hu => simp at hu)
                      have HGK : Hid (g < w9.heap.size) := Lib.hid hl3
                      clear hkp HR hl3
                      rcases hab : fndB lo j iq k with _ | _
                      · rw [hab] at HKN
                        by_cases e1 : kn = j ∧ ki = iq
                        · obtain ⟨rfl, rfl⟩ := e1
                          have HKM : Hid (fndB lo kn ki (k + 1) = true) := Lib.hid (by rw [HKN.out]; simp)
                          clear hab
                          go_wp2_with fail
                          refine wp_region_held_drew (S := fun w' => Below w9.heap.size w9 w') (by kernel_rfl) (by exact HBK.out.trans (below_drewN (Below.refl _ _) 1)) (fun hHeld => ?_)
                          refine wpAnyH_take (i := 0) (v := ?_) rfl (by kernel_rfl) (by kernel_rfl) (by kernel_rfl) (fun _ _ _ h => h) (Or.inl ⟨by rfl, ?_⟩) (by assumption) ?_
                          rotate_left
                          · intro w hSw
                            try dsimp only at hSw
                            go_simp
                            try with_reducible rfl
                          simp only [Act.put, List.setIfInBounds_toArray, List.set_cons_zero, List.set_cons_succ, List.getElem_toArray, List.getElem_cons_zero, List.getElem_cons_succ]
                          refine wpAnyH_take (i := 1) (v := ?_) rfl (by kernel_rfl) (by kernel_rfl) (by kernel_rfl) (fun _ _ _ h => h) (Or.inl ⟨by rfl, ?_⟩) (by assumption) ?_
                          rotate_left
                          · intro w hSw
                            try dsimp only at hSw
                            go_simp
                            try with_reducible rfl
                          simp only [Act.put, List.setIfInBounds_toArray, List.set_cons_zero, List.set_cons_succ, List.getElem_toArray, List.getElem_cons_zero, List.getElem_cons_succ]
                          refine wpAnyH_take (i := 2) (v := ?_) rfl (by kernel_rfl) (by kernel_rfl) (by kernel_rfl) (fun _ _ _ h => h) (Or.inl ⟨by rfl, ?_⟩) (by assumption) ?_
                          rotate_left
                          · intro w hSw
                            try dsimp only at hSw
                            go_simp
                            try with_reducible rfl
                          simp only [Act.put, List.setIfInBounds_toArray, List.set_cons_zero, List.set_cons_succ, List.getElem_toArray, List.getElem_cons_zero, List.getElem_cons_succ]
                          refine wpAnyH_take (i := 3) (v := ?_) rfl (by kernel_rfl) (by kernel_rfl) (by kernel_rfl) (fun _ _ _ h => h) (Or.inl ⟨by rfl, ?_⟩) (by assumption) ?_
                          rotate_left
                          · intro w hSw
                            try dsimp only at hSw
                            go_simp
                            try with_reducible rfl
                          simp only [Act.put, List.setIfInBounds_toArray, List.set_cons_zero, List.set_cons_succ, List.getElem_toArray, List.getElem_cons_zero, List.getElem_cons_succ]
                          refine wpAnyH_take (i := 4) (v := ?_) rfl (by kernel_rfl) (by kernel_rfl) (by kernel_rfl) (fun _ _ _ h => h) (Or.inl ⟨by rfl, ?_⟩) (by assumption) ?_
                          rotate_left
                          · intro w hSw
                            try dsimp only at hSw
                            go_simp
                            try with_reducible rfl
                          simp only [Act.put, List.setIfInBounds_toArray, List.set_cons_zero, List.set_cons_succ, List.getElem_toArray, List.getElem_cons_zero, List.getElem_cons_succ]
                          refine wpAnyH_take (i := 5) (v := ?_) rfl (by kernel_rfl) (by kernel_rfl) (by kernel_rfl) (fun _ _ _ h => h) (Or.inl ⟨by rfl, ?_⟩) (by assumption) ?_
                          rotate_left
                          · intro w hSw
                            try dsimp only at hSw
                            go_simp
                            try with_reducible rfl
                          simp only [Act.put, List.setIfInBounds_toArray, List.set_cons_zero, List.set_cons_succ, List.getElem_toArray, List.getElem_cons_zero, List.getElem_cons_succ]
                          refine wpAnyH_take (i := 6) (v := ?_) rfl (by kernel_rfl) (by kernel_rfl) (by kernel_rfl) (fun _ _ _ h => h) (Or.inl ⟨by rfl, ?_⟩) (by assumption) ?_
                          rotate_left
                          · intro w hSw
                            have q1 := range_block HRK.out (hSw.block _ HGK.out)
                            have hx9 := HP9.out.kept hSw
                            try (first | refine (exec_load_row 42 _ rfl U rfl 42 _ (0, 0) _ hx9 Try.underlying42 rfl (by kernel_rfl)).trans ?_ | refine (exec_load_mid 42 _ rfl g (k * 3) rfl [.int .i64 (kn : Int), .int .u64 (ki : Int)] _ q1 Try.underlying42 rfl (by kernel_rfl)).trans ?_)
                            go_simp
                            try with_reducible rfl
                          simp only [Act.put, List.setIfInBounds_toArray, List.set_cons_zero, List.set_cons_succ, List.getElem_toArray, List.getElem_cons_zero, List.getElem_cons_succ]
                          refine wpAnyH_take (i := 7) (v := ?_) rfl (by kernel_rfl) (by kernel_rfl) (by kernel_rfl) (fun _ _ _ h => h) (Or.inl ⟨by rfl, ?_⟩) (by assumption) ?_
                          rotate_left
                          · intro w hSw
                            have q1 := range_block HRK.out (hSw.block _ HGK.out)
                            have hx9 := HP9.out.kept hSw
                            try (first | refine (exec_load_row 42 _ rfl U rfl 42 _ (0, 0) _ hx9 Try.underlying42 rfl (by kernel_rfl)).trans ?_ | refine (exec_load_mid 42 _ rfl g (k * 3) rfl [.int .i64 (kn : Int), .int .u64 (ki : Int)] _ q1 Try.underlying42 rfl (by kernel_rfl)).trans ?_)
                            go_simp
                            try with_reducible rfl
                          simp only [Act.put, List.setIfInBounds_toArray, List.set_cons_zero, List.set_cons_succ, List.getElem_toArray, List.getElem_cons_zero, List.getElem_cons_succ]
                          refine wpAnyH_take (i := 8) (v := ?_) rfl (by kernel_rfl) (by kernel_rfl) (by kernel_rfl) (fun _ _ _ h => h) (Or.inl ⟨by rfl, ?_⟩) (by assumption) ?_
                          rotate_left
                          · intro w hSw
                            try dsimp only at hSw
                            go_simp
                            try with_reducible rfl
                          simp only [Act.put, List.setIfInBounds_toArray, List.set_cons_zero, List.set_cons_succ, List.getElem_toArray, List.getElem_cons_zero, List.getElem_cons_succ]
                          refine wpAnyH_take (i := 9) (v := ?_) rfl (by kernel_rfl) (by kernel_rfl) (by kernel_rfl) (fun _ _ _ h => h) (Or.inl ⟨by rfl, ?_⟩) (by assumption) ?_
                          rotate_left
                          · intro w hSw
                            try dsimp only at hSw
                            go_simp
                            try with_reducible rfl
                          simp only [Act.put, List.setIfInBounds_toArray, List.set_cons_zero, List.set_cons_succ, List.getElem_toArray, List.getElem_cons_zero, List.getElem_cons_succ]
                          refine wpAnyH_take (i := 10) (v := ?_) rfl (by kernel_rfl) (by kernel_rfl) (by kernel_rfl) (fun _ _ _ h => h) (Or.inl ⟨by rfl, ?_⟩) (by assumption) ?_
                          rotate_left
                          · intro w hSw
                            try dsimp only at hSw
                            go_simp
                            try with_reducible rfl
                          simp only [Act.put, List.setIfInBounds_toArray, List.set_cons_zero, List.set_cons_succ, List.getElem_toArray, List.getElem_cons_zero, List.getElem_cons_succ]
                          refine wpAnyH_done (by kernel_rfl) ?_ _
                          have HBD := Lib.hid hHeld
                          clear hHeld
                          go_wp2_with fail
                          go_roundw
                          case rel => exact ⟨k + 1, by go_num, by omega, by rw [HKM.out], HBD.out⟩
                          case measure => simp [intOf]; omega
                        · have HKM : Hid (fndB lo j iq (k + 1) = false) := Lib.hid (by rw [HKN.out]; simp; intro e2 e3; exact e1 ⟨e2, e3⟩)
                          clear hab
                          by_cases e2 : kn = j
                          · subst e2
                            have hne : ¬ (ki : Int) = (iq : Int) := by omega
                            go_wp2_with fail
                            refine wp_region_held_drew (S := fun w' => Below w9.heap.size w9 w') (by kernel_rfl) (by exact HBK.out.trans (below_drewN (Below.refl _ _) 1)) (fun hHeld => ?_)
                            refine wpAnyH_take (i := 0) (v := ?_) rfl (by kernel_rfl) (by kernel_rfl) (by kernel_rfl) (fun _ _ _ h => h) (Or.inl ⟨by rfl, ?_⟩) (by assumption) ?_
                            rotate_left
                            · intro w hSw
                              try dsimp only at hSw
                              go_simp
                              try with_reducible rfl
                            simp only [Act.put, List.setIfInBounds_toArray, List.set_cons_zero, List.set_cons_succ, List.getElem_toArray, List.getElem_cons_zero, List.getElem_cons_succ]
                            refine wpAnyH_take (i := 1) (v := ?_) rfl (by kernel_rfl) (by kernel_rfl) (by kernel_rfl) (fun _ _ _ h => h) (Or.inl ⟨by rfl, ?_⟩) (by assumption) ?_
                            rotate_left
                            · intro w hSw
                              try dsimp only at hSw
                              go_simp
                              try with_reducible rfl
                            simp only [Act.put, List.setIfInBounds_toArray, List.set_cons_zero, List.set_cons_succ, List.getElem_toArray, List.getElem_cons_zero, List.getElem_cons_succ]
                            refine wpAnyH_take (i := 2) (v := ?_) rfl (by kernel_rfl) (by kernel_rfl) (by kernel_rfl) (fun _ _ _ h => h) (Or.inl ⟨by rfl, ?_⟩) (by assumption) ?_
                            rotate_left
                            · intro w hSw
                              try dsimp only at hSw
                              go_simp
                              try with_reducible rfl
                            simp only [Act.put, List.setIfInBounds_toArray, List.set_cons_zero, List.set_cons_succ, List.getElem_toArray, List.getElem_cons_zero, List.getElem_cons_succ]
                            refine wpAnyH_take (i := 3) (v := ?_) rfl (by kernel_rfl) (by kernel_rfl) (by kernel_rfl) (fun _ _ _ h => h) (Or.inl ⟨by rfl, ?_⟩) (by assumption) ?_
                            rotate_left
                            · intro w hSw
                              try dsimp only at hSw
                              go_simp
                              try with_reducible rfl
                            simp only [Act.put, List.setIfInBounds_toArray, List.set_cons_zero, List.set_cons_succ, List.getElem_toArray, List.getElem_cons_zero, List.getElem_cons_succ]
                            refine wpAnyH_take (i := 4) (v := ?_) rfl (by kernel_rfl) (by kernel_rfl) (by kernel_rfl) (fun _ _ _ h => h) (Or.inl ⟨by rfl, ?_⟩) (by assumption) ?_
                            rotate_left
                            · intro w hSw
                              try dsimp only at hSw
                              go_simp
                              try with_reducible rfl
                            simp only [Act.put, List.setIfInBounds_toArray, List.set_cons_zero, List.set_cons_succ, List.getElem_toArray, List.getElem_cons_zero, List.getElem_cons_succ]
                            refine wpAnyH_take (i := 5) (v := ?_) rfl (by kernel_rfl) (by kernel_rfl) (by kernel_rfl) (fun _ _ _ h => h) (Or.inl ⟨by rfl, ?_⟩) (by assumption) ?_
                            rotate_left
                            · intro w hSw
                              try dsimp only at hSw
                              go_simp
                              try with_reducible rfl
                            simp only [Act.put, List.setIfInBounds_toArray, List.set_cons_zero, List.set_cons_succ, List.getElem_toArray, List.getElem_cons_zero, List.getElem_cons_succ]
                            refine wpAnyH_take (i := 6) (v := ?_) rfl (by kernel_rfl) (by kernel_rfl) (by kernel_rfl) (fun _ _ _ h => h) (Or.inl ⟨by rfl, ?_⟩) (by assumption) ?_
                            rotate_left
                            · intro w hSw
                              have q1 := range_block HRK.out (hSw.block _ HGK.out)
                              have hx9 := HP9.out.kept hSw
                              try (first | refine (exec_load_row 42 _ rfl U rfl 42 _ (0, 0) _ hx9 Try.underlying42 rfl (by kernel_rfl)).trans ?_ | refine (exec_load_mid 42 _ rfl g (k * 3) rfl [.int .i64 (kn : Int), .int .u64 (ki : Int)] _ q1 Try.underlying42 rfl (by kernel_rfl)).trans ?_)
                              go_simp
                              try with_reducible rfl
                            simp only [Act.put, List.setIfInBounds_toArray, List.set_cons_zero, List.set_cons_succ, List.getElem_toArray, List.getElem_cons_zero, List.getElem_cons_succ]
                            refine wpAnyH_take (i := 7) (v := ?_) rfl (by kernel_rfl) (by kernel_rfl) (by kernel_rfl) (fun _ _ _ h => h) (Or.inl ⟨by rfl, ?_⟩) (by assumption) ?_
                            rotate_left
                            · intro w hSw
                              have q1 := range_block HRK.out (hSw.block _ HGK.out)
                              have hx9 := HP9.out.kept hSw
                              try (first | refine (exec_load_row 42 _ rfl U rfl 42 _ (0, 0) _ hx9 Try.underlying42 rfl (by kernel_rfl)).trans ?_ | refine (exec_load_mid 42 _ rfl g (k * 3) rfl [.int .i64 (kn : Int), .int .u64 (ki : Int)] _ q1 Try.underlying42 rfl (by kernel_rfl)).trans ?_)
                              go_simp
                              try with_reducible rfl
                            simp only [Act.put, List.setIfInBounds_toArray, List.set_cons_zero, List.set_cons_succ, List.getElem_toArray, List.getElem_cons_zero, List.getElem_cons_succ]
                            refine wpAnyH_take (i := 8) (v := ?_) rfl (by kernel_rfl) (by kernel_rfl) (by kernel_rfl) (fun _ _ _ h => h) (Or.inl ⟨by rfl, ?_⟩) (by assumption) ?_
                            rotate_left
                            · intro w hSw
                              try dsimp only at hSw
                              go_simp
                              try with_reducible rfl
                            simp only [Act.put, List.setIfInBounds_toArray, List.set_cons_zero, List.set_cons_succ, List.getElem_toArray, List.getElem_cons_zero, List.getElem_cons_succ]
                            refine wpAnyH_take (i := 9) (v := ?_) rfl (by kernel_rfl) (by kernel_rfl) (by kernel_rfl) (fun _ _ _ h => h) (Or.inl ⟨by rfl, ?_⟩) (by assumption) ?_
                            rotate_left
                            · intro w hSw
                              try dsimp only at hSw
                              go_simp
                              try with_reducible rfl
                            simp only [Act.put, List.setIfInBounds_toArray, List.set_cons_zero, List.set_cons_succ, List.getElem_toArray, List.getElem_cons_zero, List.getElem_cons_succ]
                            refine wpAnyH_take (i := 10) (v := ?_) rfl (by kernel_rfl) (by kernel_rfl) (by kernel_rfl) (fun _ _ _ h => h) (Or.inl ⟨by rfl, ?_⟩) (by assumption) ?_
                            rotate_left
                            · intro w hSw
                              try dsimp only at hSw
                              go_simp
                              try with_reducible rfl
                            simp only [Act.put, List.setIfInBounds_toArray, List.set_cons_zero, List.set_cons_succ, List.getElem_toArray, List.getElem_cons_zero, List.getElem_cons_succ]
                            refine wpAnyH_done (by kernel_rfl) ?_ _
                            have HBD := Lib.hid hHeld
                            clear hHeld
                            go_wp2_with fail
                            go_roundw
                            case rel => exact ⟨k + 1, by go_num, by omega, by rw [HKM.out], HBD.out⟩
                            case measure => simp [intOf]; omega
                          · have hne : ¬ (kn : Int) = (j : Int) := by omega
                            go_wp2_with fail
                            refine wp_region_held_drew (S := fun w' => Below w9.heap.size w9 w') (by kernel_rfl) (by exact HBK.out.trans (below_drewN (Below.refl _ _) 1)) (fun hHeld => ?_)
                            refine wpAnyH_take (i := 0) (v := ?_) rfl (by kernel_rfl) (by kernel_rfl) (by kernel_rfl) (fun _ _ _ h => h) (Or.inl ⟨by rfl, ?_⟩) (by assumption) ?_
                            rotate_left
                            · intro w hSw
                              try dsimp only at hSw
                              go_simp
                              try with_reducible rfl
                            simp only [Act.put, List.setIfInBounds_toArray, List.set_cons_zero, List.set_cons_succ, List.getElem_toArray, List.getElem_cons_zero, List.getElem_cons_succ]
                            refine wpAnyH_take (i := 1) (v := ?_) rfl (by kernel_rfl) (by kernel_rfl) (by kernel_rfl) (fun _ _ _ h => h) (Or.inl ⟨by rfl, ?_⟩) (by assumption) ?_
                            rotate_left
                            · intro w hSw
                              try dsimp only at hSw
                              go_simp
                              try with_reducible rfl
                            simp only [Act.put, List.setIfInBounds_toArray, List.set_cons_zero, List.set_cons_succ, List.getElem_toArray, List.getElem_cons_zero, List.getElem_cons_succ]
                            refine wpAnyH_take (i := 2) (v := ?_) rfl (by kernel_rfl) (by kernel_rfl) (by kernel_rfl) (fun _ _ _ h => h) (Or.inl ⟨by rfl, ?_⟩) (by assumption) ?_
                            rotate_left
                            · intro w hSw
                              try dsimp only at hSw
                              go_simp
                              try with_reducible rfl
                            simp only [Act.put, List.setIfInBounds_toArray, List.set_cons_zero, List.set_cons_succ, List.getElem_toArray, List.getElem_cons_zero, List.getElem_cons_succ]
                            refine wpAnyH_take (i := 3) (v := ?_) rfl (by kernel_rfl) (by kernel_rfl) (by kernel_rfl) (fun _ _ _ h => h) (Or.inl ⟨by rfl, ?_⟩) (by assumption) ?_
                            rotate_left
                            · intro w hSw
                              try dsimp only at hSw
                              go_simp
                              try with_reducible rfl
                            simp only [Act.put, List.setIfInBounds_toArray, List.set_cons_zero, List.set_cons_succ, List.getElem_toArray, List.getElem_cons_zero, List.getElem_cons_succ]
                            refine wpAnyH_take (i := 4) (v := ?_) rfl (by kernel_rfl) (by kernel_rfl) (by kernel_rfl) (fun _ _ _ h => h) (Or.inl ⟨by rfl, ?_⟩) (by assumption) ?_
                            rotate_left
                            · intro w hSw
                              try dsimp only at hSw
                              go_simp
                              try with_reducible rfl
                            simp only [Act.put, List.setIfInBounds_toArray, List.set_cons_zero, List.set_cons_succ, List.getElem_toArray, List.getElem_cons_zero, List.getElem_cons_succ]
                            refine wpAnyH_take (i := 5) (v := ?_) rfl (by kernel_rfl) (by kernel_rfl) (by kernel_rfl) (fun _ _ _ h => h) (Or.inl ⟨by rfl, ?_⟩) (by assumption) ?_
                            rotate_left
                            · intro w hSw
                              try dsimp only at hSw
                              go_simp
                              try with_reducible rfl
                            simp only [Act.put, List.setIfInBounds_toArray, List.set_cons_zero, List.set_cons_succ, List.getElem_toArray, List.getElem_cons_zero, List.getElem_cons_succ]
                            refine wpAnyH_take (i := 6) (v := ?_) rfl (by kernel_rfl) (by kernel_rfl) (by kernel_rfl) (fun _ _ _ h => h) (Or.inl ⟨by rfl, ?_⟩) (by assumption) ?_
                            rotate_left
                            · intro w hSw
                              have q1 := range_block HRK.out (hSw.block _ HGK.out)
                              have hx9 := HP9.out.kept hSw
                              try (first | refine (exec_load_row 42 _ rfl U rfl 42 _ (0, 0) _ hx9 Try.underlying42 rfl (by kernel_rfl)).trans ?_ | refine (exec_load_mid 42 _ rfl g (k * 3) rfl [.int .i64 (kn : Int), .int .u64 (ki : Int)] _ q1 Try.underlying42 rfl (by kernel_rfl)).trans ?_)
                              go_simp
                              try with_reducible rfl
                            simp only [Act.put, List.setIfInBounds_toArray, List.set_cons_zero, List.set_cons_succ, List.getElem_toArray, List.getElem_cons_zero, List.getElem_cons_succ]
                            refine wpAnyH_take (i := 7) (v := ?_) rfl (by kernel_rfl) (by kernel_rfl) (by kernel_rfl) (fun _ _ _ h => h) (Or.inl ⟨by rfl, ?_⟩) (by assumption) ?_
                            rotate_left
                            · intro w hSw
                              have q1 := range_block HRK.out (hSw.block _ HGK.out)
                              have hx9 := HP9.out.kept hSw
                              try (first | refine (exec_load_row 42 _ rfl U rfl 42 _ (0, 0) _ hx9 Try.underlying42 rfl (by kernel_rfl)).trans ?_ | refine (exec_load_mid 42 _ rfl g (k * 3) rfl [.int .i64 (kn : Int), .int .u64 (ki : Int)] _ q1 Try.underlying42 rfl (by kernel_rfl)).trans ?_)
                              go_simp
                              try with_reducible rfl
                            simp only [Act.put, List.setIfInBounds_toArray, List.set_cons_zero, List.set_cons_succ, List.getElem_toArray, List.getElem_cons_zero, List.getElem_cons_succ]
                            refine wpAnyH_take (i := 8) (v := ?_) rfl (by kernel_rfl) (by kernel_rfl) (by kernel_rfl) (fun _ _ _ h => h) (Or.inl ⟨by rfl, ?_⟩) (by assumption) ?_
                            rotate_left
                            · intro w hSw
                              try dsimp only at hSw
                              go_simp
                              try with_reducible rfl
                            simp only [Act.put, List.setIfInBounds_toArray, List.set_cons_zero, List.set_cons_succ, List.getElem_toArray, List.getElem_cons_zero, List.getElem_cons_succ]
                            refine wpAnyH_take (i := 9) (v := ?_) rfl (by kernel_rfl) (by kernel_rfl) (by kernel_rfl) (fun _ _ _ h => h) (Or.inl ⟨by rfl, ?_⟩) (by assumption) ?_
                            rotate_left
                            · intro w hSw
                              try dsimp only at hSw
                              go_simp
                              try with_reducible rfl
                            simp only [Act.put, List.setIfInBounds_toArray, List.set_cons_zero, List.set_cons_succ, List.getElem_toArray, List.getElem_cons_zero, List.getElem_cons_succ]
                            refine wpAnyH_take (i := 10) (v := ?_) rfl (by kernel_rfl) (by kernel_rfl) (by kernel_rfl) (fun _ _ _ h => h) (Or.inl ⟨by rfl, ?_⟩) (by assumption) ?_
                            rotate_left
                            · intro w hSw
                              try dsimp only at hSw
                              go_simp
                              try with_reducible rfl
                            simp only [Act.put, List.setIfInBounds_toArray, List.set_cons_zero, List.set_cons_succ, List.getElem_toArray, List.getElem_cons_zero, List.getElem_cons_succ]
                            refine wpAnyH_done (by kernel_rfl) ?_ _
                            have HBD := Lib.hid hHeld
                            clear hHeld
                            go_wp2_with fail
                            go_roundw
                            case rel => exact ⟨k + 1, by go_num, by omega, by rw [HKM.out], HBD.out⟩
                            case measure => simp [intOf]; omega
                      · have HKM : Hid (fndB lo j iq (k + 1) = true) := Lib.hid (by rw [HKN.out, hab]; simp)
                        clear hab
                        go_wp2_with fail
                        refine wp_region_held_drew (S := fun w' => Below w9.heap.size w9 w') (by kernel_rfl) (by exact HBK.out.trans (below_drewN (Below.refl _ _) 1)) (fun hHeld => ?_)
                        refine wpAnyH_take (i := 0) (v := ?_) rfl (by kernel_rfl) (by kernel_rfl) (by kernel_rfl) (fun _ _ _ h => h) (Or.inl ⟨by rfl, ?_⟩) (by assumption) ?_
                        rotate_left
                        · intro w hSw
                          try dsimp only at hSw
                          go_simp
                          try with_reducible rfl
                        simp only [Act.put, List.setIfInBounds_toArray, List.set_cons_zero, List.set_cons_succ, List.getElem_toArray, List.getElem_cons_zero, List.getElem_cons_succ]
                        refine wpAnyH_take (i := 1) (v := ?_) rfl (by kernel_rfl) (by kernel_rfl) (by kernel_rfl) (fun _ _ _ h => h) (Or.inl ⟨by rfl, ?_⟩) (by assumption) ?_
                        rotate_left
                        · intro w hSw
                          try dsimp only at hSw
                          go_simp
                          try with_reducible rfl
                        simp only [Act.put, List.setIfInBounds_toArray, List.set_cons_zero, List.set_cons_succ, List.getElem_toArray, List.getElem_cons_zero, List.getElem_cons_succ]
                        refine wpAnyH_take (i := 2) (v := undef) rfl (by kernel_rfl) (by kernel_rfl) (by kernel_rfl) (fun _ _ _ h => h) (Or.inr ⟨by rfl, rfl⟩) (by assumption) ?_
                        simp only [Act.put, List.setIfInBounds_toArray, List.set_cons_zero, List.set_cons_succ, List.getElem_toArray, List.getElem_cons_zero, List.getElem_cons_succ]
                        refine wpAnyH_take (i := 3) (v := undef) rfl (by kernel_rfl) (by kernel_rfl) (by kernel_rfl) (fun _ _ _ h => h) (Or.inr ⟨by rfl, rfl⟩) (by assumption) ?_
                        simp only [Act.put, List.setIfInBounds_toArray, List.set_cons_zero, List.set_cons_succ, List.getElem_toArray, List.getElem_cons_zero, List.getElem_cons_succ]
                        refine wpAnyH_take (i := 4) (v := undef) rfl (by kernel_rfl) (by kernel_rfl) (by kernel_rfl) (fun _ _ _ h => h) (Or.inr ⟨by rfl, rfl⟩) (by assumption) ?_
                        simp only [Act.put, List.setIfInBounds_toArray, List.set_cons_zero, List.set_cons_succ, List.getElem_toArray, List.getElem_cons_zero, List.getElem_cons_succ]
                        refine wpAnyH_take (i := 5) (v := undef) rfl (by kernel_rfl) (by kernel_rfl) (by kernel_rfl) (fun _ _ _ h => h) (Or.inr ⟨by rfl, rfl⟩) (by assumption) ?_
                        simp only [Act.put, List.setIfInBounds_toArray, List.set_cons_zero, List.set_cons_succ, List.getElem_toArray, List.getElem_cons_zero, List.getElem_cons_succ]
                        refine wpAnyH_take (i := 6) (v := undef) rfl (by kernel_rfl) (by kernel_rfl) (by kernel_rfl) (fun _ _ _ h => h) (Or.inr ⟨by rfl, rfl⟩) (by assumption) ?_
                        simp only [Act.put, List.setIfInBounds_toArray, List.set_cons_zero, List.set_cons_succ, List.getElem_toArray, List.getElem_cons_zero, List.getElem_cons_succ]
                        refine wpAnyH_take (i := 7) (v := undef) rfl (by kernel_rfl) (by kernel_rfl) (by kernel_rfl) (fun _ _ _ h => h) (Or.inr ⟨by rfl, rfl⟩) (by assumption) ?_
                        simp only [Act.put, List.setIfInBounds_toArray, List.set_cons_zero, List.set_cons_succ, List.getElem_toArray, List.getElem_cons_zero, List.getElem_cons_succ]
                        refine wpAnyH_take (i := 8) (v := undef) rfl (by kernel_rfl) (by kernel_rfl) (by kernel_rfl) (fun _ _ _ h => h) (Or.inr ⟨by rfl, rfl⟩) (by assumption) ?_
                        simp only [Act.put, List.setIfInBounds_toArray, List.set_cons_zero, List.set_cons_succ, List.getElem_toArray, List.getElem_cons_zero, List.getElem_cons_succ]
                        refine wpAnyH_take (i := 9) (v := ?_) rfl (by kernel_rfl) (by kernel_rfl) (by kernel_rfl) (fun _ _ _ h => h) (Or.inl ⟨by rfl, ?_⟩) (by assumption) ?_
                        rotate_left
                        · intro w hSw
                          try dsimp only at hSw
                          go_simp
                          try with_reducible rfl
                        simp only [Act.put, List.setIfInBounds_toArray, List.set_cons_zero, List.set_cons_succ, List.getElem_toArray, List.getElem_cons_zero, List.getElem_cons_succ]
                        refine wpAnyH_take (i := 10) (v := ?_) rfl (by kernel_rfl) (by kernel_rfl) (by kernel_rfl) (fun _ _ _ h => h) (Or.inl ⟨by rfl, ?_⟩) (by assumption) ?_
                        rotate_left
                        · intro w hSw
                          try dsimp only at hSw
                          go_simp
                          try with_reducible rfl
                        simp only [Act.put, List.setIfInBounds_toArray, List.set_cons_zero, List.set_cons_succ, List.getElem_toArray, List.getElem_cons_zero, List.getElem_cons_succ]
                        refine wpAnyH_done (by kernel_rfl) ?_ _
                        have HBD := Lib.hid hHeld
                        clear hHeld
                        go_wp2_with fail
                        go_roundw
                        case rel => exact ⟨k + 1, by go_num, by omega, by rw [HKM.out], HBD.out⟩
                        case measure => simp [intOf]; omega
                    · have hkz : ¬ (k : Int) < (N : Int) := by omega
                      have hke : k = N := by omega
                      subst hke
                      have HC10 := Lib.hid (HC9.out.kept HBK.out)
                      have HX10 := Lib.hid (HX9.out.kept HBK.out)
                      have HP10 := Lib.hid (HP9.out.kept HBK.out)
                      have PHK := Lib.hid (PHAS.out w10 (HL9.out.kept HBK.out) j iq (by omega) HIQ.out.2)
                      have HFD : Hid (fndB lo j iq k = false → hasZ (fedKK (b : Int) r d m ks) (fedXX m ds) j iq (min n 60) < q) := Lib.hid (fun h => by
                        by_cases h1 : hasZ (fedKK (b : Int) r d m ks) (fedXX m ds) j iq (min n 60) < q
                        · exact h1
                        · rw [fndB_of HN.out (HTLD.out j iq (by omega) HIQ.out.1 (by omega))] at h
                          cases h)
                      have hc10 := HC10.out
                      have hp10 := HP10.out
                      have q5 := HX10.out.cell 5
                      simp at q5
                      go_wp2_with (first | refine wpList_load_row rfl 24 _ rfl D rfl 24 _ (0, 0) _ hc10 Try.underlying24 rfl (by kernel_rfl) ?_ | refine wpList_load_row rfl 42 _ rfl U rfl 42 _ (0, 0) _ hp10 Try.underlying42 rfl (by kernel_rfl) ?_)
                      with_reducible refine PHK.out.mono ?_
                      rintro e w11 ⟨rfl, hb⟩
                      have HB11 := Lib.hid (HBP.out.trans ((HBK.out.trans (hb.mono HBK.out.size)).mono HBP.out.size))
                      clear hb hc10 hp10 q5 PHK HC10 HX10 HP10
                      obtain ⟨hz, hhz⟩ : ∃ hz, hz = hasZ (fedKK (b : Int) r d m ks) (fedXX m ds) j iq (min n 60) := ⟨_, rfl⟩
                      rw [← hhz] at HFD ⊢
                      clear hhz
                      rcases hab : fndB lo j iq k with _ | _
                      · have hlt : ¬ q ≤ hz := by have := HFD.out hab; omega
                        clear HFD hab
                        go_wp2_with fail
                        go_roundw
                        case rel => exact ⟨j + 1, by go_num, by omega, HB11.out⟩
                        case measure => simp [intOf]; omega
                      · clear HFD hab
                        by_cases hlt : q ≤ hz
                        · go_wp2_with fail
                          go_roundw
                          case rel => exact ⟨j + 1, by go_num, by omega, HB11.out⟩
                          case measure => simp [intOf]; omega
                        · go_wp2_with fail
                          go_roundw
                          case rel => exact ⟨j + 1, by go_num, by omega, HB11.out⟩
                          case measure => simp [intOf]; omega
              · have hjz : ¬ (j : Int) ≤ (b : Int) := by omega
                have HBE := Lib.hid (HBW.out.trans (HBL.out.mono HBW.out.size))
                go_wp2_with fail
                go_roundw
                case rel => exact ⟨t + 1, by go_num, by omega, by omega, HBE.out⟩
                case measure => simp [intOf]; omega
          · have HB8 := Lib.hid (btr HB6'.out HBW.out)
            have x7 := (HX6.out.kept HBW.out).cell 5
            simp at x7
            by_cases ht : t < n
            · have hz1 : (t : Int) < (n : Int) := by omega
              have hz2 : ¬ (t : Int) < 60 := by omega
              go_wp2_with fail
              go_ret
              exact ⟨rfl, HB8.out⟩
            · have hz1 : ¬ (t : Int) < (n : Int) := by omega
              go_wp2_with fail
              go_ret
              exact ⟨rfl, HB8.out⟩
    · have hv := HN1.out hE
      subst hv
      have h7 : hvErr pt q a b = 7 := by
        have h1 := HE1.out
        split at h1
        · exact h1
        · exact absurd h1 hE
      rw [h7]
      clear h7 hE HV1 HN1 HE1 HERR
      go_wp2_with fail
      go_ret
      exact ⟨rfl, HB4.out⟩
end Go.Proofs.Ythbkljeibmkimaa

/-
  The law HeavyAll, of any arguments. Conditions: none beyond those stated at each theorem.
-/
namespace Go.Proofs.Ythbkljeibmkimaa
open Go.RowKit
set_option linter.unusedVariables false
set_option linter.unusedSimpArgs false

theorem HeavyAll_walk (v0 v1 v2 : Value) (w : World) (h0 : shPlay.Val w v0) (h1 : (Sh.int .i64).Val w v1) (h2 : (Sh.int .i64).Val w v2) :
    Calls Try.prog 3 #[v0, v1, v2] w fun e w' => e = .returned (.bool true) ∧ Below w.heap.size w w' := by
  obtain ⟨xb, xr, xd, xm, s, l, n, ks, ds, rfl, hl, -, -, -, -, s0, s1⟩ := valPlay h0
  obtain ⟨a, rfl, ha⟩ := valI64 h1
  obtain ⟨b, rfl, hb⟩ := valI64 h2
  exact all_walk xb xr xd xm s l n ks ds s0 s1 a b hb ha w hl
end Go.Proofs.Ythbkljeibmkimaa
