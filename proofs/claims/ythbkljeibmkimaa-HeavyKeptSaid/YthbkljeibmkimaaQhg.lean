import Derived.Test.YthbkljeibmkimaaQhf
/-
  Plain: what is told stands in order, each behind what it lies in, and how many were asked. Conditions: none beyond those stated at each theorem.
-/
namespace Go.Proofs.Ythbkljeibmkimaa
open Go.RowKit
set_option linter.unusedVariables false
set_option linter.unusedSimpArgs false

theorem asked_told (pt : Nat → Nat → Int) (least : Int) (b : Nat) : ∀ j, askedUp pt least b (j + 1) = 1 + 2 * (hvOut pt least b j).length
  | 0 => rfl
  | j + 1 => by
    rw [askedUp, asked_told pt least b j, rowAt, kids_len, hvOut, List.length_append, foundR, List.length_map]
    omega
theorem row_up (pt : Nat → Nat → Int) (least : Int) (b : Nat) : ∀ j, (rowAt pt least b j).Pairwise (· < ·)
  | 0 => List.pairwise_singleton _ _
  | j + 1 => by
    rw [rowAt]
    unfold kids
    rw [List.pairwise_flatMap]
    refine ⟨fun a _ => by simp, ((row_up pt least b j).filter _).imp (fun {u v} h x hx y hy => ?_)⟩
    simp at hx hy
    omega
def Ordd (u v : Nat × Nat) : Prop := v.1 < u.1 ∨ u.1 = v.1 ∧ u.2 < v.2
theorem hv_level {pt : Nat → Nat → Int} {least : Int} {b : Nat} : ∀ {j : Nat} {p : Nat × Nat}, p ∈ hvOut pt least b j → ∃ q, q < j ∧ p.1 = b - q
  | 0, p, h => by simp [hvOut] at h
  | j + 1, p, h => by
    rw [hvOut, List.mem_append] at h
    rcases h with h | h
    · obtain ⟨q, h1, h2⟩ := hv_level h
      exact ⟨q, by omega, h2⟩
    · unfold foundR at h
      rw [List.mem_map] at h
      obtain ⟨i, -, rfl⟩ := h
      exact ⟨j, by omega, rfl⟩
theorem hv_ord (pt : Nat → Nat → Int) (least : Int) (b : Nat) : ∀ j, j ≤ b + 1 → (hvOut pt least b j).Pairwise Ordd
  | 0, _ => List.Pairwise.nil
  | j + 1, hj => by
    rw [hvOut, List.pairwise_append]
    refine ⟨hv_ord pt least b j (by omega), ?_, fun u hu v hv => ?_⟩
    · unfold foundR
      rw [List.pairwise_map]
      exact ((row_up pt least b j).filter _).imp (fun {u v} h => .inr ⟨rfl, h⟩)
    · obtain ⟨q, h1, h2⟩ := hv_level hu
      unfold foundR at hv
      rw [List.mem_map] at hv
      obtain ⟨i, -, rfl⟩ := hv
      left
      show b - j < u.1
      omega
/-- how many lie above the keys -/
def tops (l : List (Nat × Nat)) : Nat := l.countP fun p => decide (0 < p.1)
theorem tops_hv (pt : Nat → Nat → Int) (least : Int) (b : Nat) : tops (hvOut pt least b (b + 1)) = (hvOut pt least b b).length := by
  unfold tops
  rw [hvOut, List.countP_append]
  have h1 : (hvOut pt least b b).countP (fun p => decide (0 < p.1)) = (hvOut pt least b b).length := by
    rw [List.countP_eq_length]
    intro p hp
    obtain ⟨q, h1, h2⟩ := hv_level hp
    simp
    omega
  have h2 : (foundR pt least (b - b) (rowAt pt least b b)).countP (fun p => decide (0 < p.1)) = 0 := by
    rw [List.countP_eq_zero]
    intro p hp
    unfold foundR at hp
    rw [List.mem_map] at hp
    obtain ⟨i, -, rfl⟩ := hp
    simp
  omega
theorem tops_snoc {l : List (Nat × Nat)} {t : Nat} {p : Nat × Nat} (h : l[t]? = some p) : tops (l.take (t + 1)) = tops (l.take t) + (if 0 < p.1 then 1 else 0) := by
  unfold tops
  rw [List.take_add_one, h, List.countP_append]
  simp [List.countP_cons]
theorem tops_le (l : List (Nat × Nat)) : tops l ≤ l.length := List.countP_le_length
/-- neighbours -/
theorem ord_at {l : List (Nat × Nat)} (h : l.Pairwise Ordd) {i j : Nat} {u v : Nat × Nat} (hi : l[i]? = some u) (hj : l[j]? = some v) (hij : i < j) : Ordd u v := by
  rw [List.pairwise_iff_getElem] at h
  obtain ⟨h1, rfl⟩ := List.getElem?_eq_some_iff.1 hi
  obtain ⟨h2, rfl⟩ := List.getElem?_eq_some_iff.1 hj
  exact h i j h1 h2 hij
/-- the piece in which one lies is told ahead of it -/
theorem above_at {pt : Nat → Nat → Int} {least : Int} {b t n i : Nat} (h : (hvOut pt least b (b + 1))[t]? = some (n, i)) (hn : n < b) : ∃ k, k < t ∧ (hvOut pt least b (b + 1))[k]? = some (n + 1, i / 2) := by
  obtain ⟨k, hk⟩ := List.getElem?_of_mem (hv_up (List.mem_of_getElem? h) hn)
  refine ⟨k, ?_, hk⟩
  rcases Nat.lt_trichotomy k t with h1 | h1 | h1
  · exact h1
  · subst h1
    rw [h] at hk
    simp at hk
  · have := ord_at (hv_ord pt least b (b + 1) (Nat.le_refl _)) h hk h1
    unfold Ordd at this
    simp at this
    omega
theorem hv_told {pt : Nat → Nat → Int} {least : Int} {b n i : Nat} (h : (n, i) ∈ hvOut pt least b (b + 1)) : least ≤ pt n i := by
  rw [hvOut_mem] at h
  simpa using (List.mem_filter.1 h.2).2
end Go.Proofs.Ythbkljeibmkimaa

/-
  Plain: where no key has less than 0, each prefix that has not less than least is told. Conditions: none beyond those stated at each theorem.
-/
namespace Go.Proofs.Ythbkljeibmkimaa
open Go.RowKit
set_option linter.unusedVariables false
set_option linter.unusedSimpArgs false

/-- what those of the updates have whose keys are so -/
def grpZ (kk : Nat → Nat) (xx : Nat → Int) (P : Nat → Bool) : Nat → Int
  | 0 => 0
  | t + 1 => grpZ kk xx P t + (if P (kk t) = true then xx t else 0)
theorem grp_split {kk : Nat → Nat} {xx : Nat → Int} {A B C : Nat → Bool} (h1 : ∀ k, A k = (B k || C k)) (h2 : ∀ k, B k = true → C k = true → False) : ∀ T, grpZ kk xx A T = grpZ kk xx B T + grpZ kk xx C T
  | 0 => rfl
  | t + 1 => by
    unfold grpZ
    rw [grp_split h1 h2 t]
    have e1 := h1 (kk t)
    have e2 := h2 (kk t)
    cases hB : B (kk t) <;> cases hC : C (kk t) <;> rw [hB, hC] at e1 <;> simp [e1, hB, hC] at e2 ⊢ <;> omega
theorem grp_congr {kk : Nat → Nat} {xx : Nat → Int} {A B : Nat → Bool} : ∀ T, (∀ t, t < T → A (kk t) = B (kk t)) → grpZ kk xx A T = grpZ kk xx B T
  | 0, _ => rfl
  | t + 1, h => by
    unfold grpZ
    rw [grp_congr t (fun q hq => h q (by omega)), h t (by omega)]
theorem grp_none {kk : Nat → Nat} {xx : Nat → Int} : ∀ T, grpZ kk xx (fun _ => false) T = 0
  | 0 => rfl
  | t + 1 => by unfold grpZ; rw [grp_none t]; simp
theorem grp_bd {kk : Nat → Nat} {xx : Nat → Int} (P : Nat → Bool) (hx : ∀ t, -1099511627776 ≤ xx t ∧ xx t ≤ 1099511627776) : ∀ T : Nat, -(1099511627776 * (T : Int)) ≤ grpZ kk xx P T ∧ grpZ kk xx P T ≤ 1099511627776 * (T : Int)
  | 0 => by simp [grpZ]
  | t + 1 => by
    have h := grp_bd (kk := kk) P hx t
    have h2 := hx t
    unfold grpZ
    split <;> omega
/-- no key of the updates has less than 0 -/
def PlainZ (kk : Nat → Nat) (xx : Nat → Int) (T : Nat) : Prop := ∀ t, t < T → 0 ≤ grpZ kk xx (fun k => decide (k = kk t)) T
theorem grp_key {kk : Nat → Nat} {xx : Nat → Int} {T : Nat} (h : PlainZ kk xx T) (q : Nat) : 0 ≤ grpZ kk xx (fun k => decide (k = q)) T := by
  by_cases e : ∃ t, t < T ∧ kk t = q
  · obtain ⟨t, ht, rfl⟩ := e
    exact h t ht
  · rw [grp_congr (B := fun _ => false) T (fun t ht => by
      simp only [decide_eq_false_iff_not]
      exact fun k => e ⟨t, ht, k⟩), grp_none]
    exact Int.le_refl _
theorem grp_pos {kk : Nat → Nat} {xx : Nat → Int} {T : Nat} (h : PlainZ kk xx T) (P : Nat → Bool) : 0 ≤ grpZ kk xx P T := by
  have key : ∀ M, 0 ≤ grpZ kk xx (fun k => P k && decide (k < M)) T := by
    intro M
    induction M with
    | zero =>
      rw [grp_congr (B := fun _ => false) T (fun t _ => by simp), grp_none]
      exact Int.le_refl _
    | succ M ih =>
      rw [grp_split (A := fun k => P k && decide (k < M + 1)) (B := fun k => P k && decide (k < M)) (C := fun k => P M && decide (k = M)) (fun k => by
          rcases Nat.lt_trichotomy k M with h1 | h1 | h1
          · simp [h1, show k < M + 1 by omega, show ¬ k = M by omega]
          · subst h1; simp
          · simp [show ¬ k < M by omega, show ¬ k < M + 1 by omega, show ¬ k = M by omega]) (fun k h1 h2 => by
          simp at h1 h2; omega)]
      have h2 : 0 ≤ grpZ kk xx (fun k => P M && decide (k = M)) T := by
        cases hP : P M with
        | true => simpa using grp_key h M
        | false =>
          rw [grp_congr (B := fun _ => false) T (fun t _ => by simp), grp_none]
          exact Int.le_refl _
      omega
  have hM : ∀ T', ∃ M, ∀ t, t < T' → kk t < M := by
    intro T'
    induction T' with
    | zero => exact ⟨0, fun t ht => absurd ht (Nat.not_lt_zero _)⟩
    | succ T' ih =>
      obtain ⟨M, hM⟩ := ih
      refine ⟨M + kk T' + 1, fun t ht => ?_⟩
      by_cases e : t = T'
      · subst e; omega
      · have := hM t (by omega); omega
  obtain ⟨M, hM⟩ := hM T
  rw [grp_congr (B := fun k => P k && decide (k < M)) T (fun t ht => by simp [hM t ht])]
  exact key M
/-- what the keys of a prefix have -/
def hasZ (kk : Nat → Nat) (xx : Nat → Int) (n i T : Nat) : Int := grpZ kk xx (fun k => decide (k / 2 ^ n = i)) T
theorem has_up {kk : Nat → Nat} {xx : Nat → Int} {T : Nat} (h : PlainZ kk xx T) (n i : Nat) : hasZ kk xx n i T ≤ hasZ kk xx (n + 1) (i / 2) T := by
  unfold hasZ
  have e : ∀ k : Nat, k / 2 ^ (n + 1) = k / 2 ^ n / 2 := fun k => by rw [Nat.pow_succ, Nat.div_div_eq_div_mul]
  rw [grp_split (A := fun k => decide (k / 2 ^ (n + 1) = i / 2)) (B := fun k => decide (k / 2 ^ n = i)) (C := fun k => !decide (k / 2 ^ n = i) && decide (k / 2 ^ n / 2 = i / 2)) (fun k => by
      rw [e k]
      by_cases h1 : k / 2 ^ n = i
      · simp [h1]
      · simp [h1]) (fun k h1 h2 => by simp at h1 h2; exact h2.1 h1)]
  have := grp_pos h (fun k => !decide (k / 2 ^ n = i) && decide (k / 2 ^ n / 2 = i / 2))
  omega
theorem min_of : ∀ (l : List Int), l ≠ [] → ∃ v, v ∈ l ∧ ∀ x ∈ l, v ≤ x
  | [], h => absurd rfl h
  | [a], _ => ⟨a, by simp, by simp⟩
  | a :: c :: l, _ => by
    obtain ⟨v, h1, h2⟩ := min_of (c :: l) (by simp)
    by_cases e : a ≤ v
    · refine ⟨a, by simp, fun x hx => ?_⟩
      rw [List.mem_cons] at hx
      rcases hx with rfl | hx
      · exact Int.le_refl _
      · have := h2 x hx; omega
    · refine ⟨v, List.mem_cons_of_mem _ h1, fun x hx => ?_⟩
      rw [List.mem_cons] at hx
      rcases hx with rfl | hx
      · omega
      · exact h2 x hx
theorem kthL_min {l : List Int} (h : l ≠ []) : kthL l 0 ∈ l ∧ ∀ x ∈ l, kthL l 0 ≤ x := by
  obtain ⟨v, h1, h2⟩ := min_of l h
  rw [kthL_of (kth_zero_of h1 h2)]
  exact ⟨h1, h2⟩
theorem readZ_ne {D : Nat} {zs cs : List Int} (h : 0 < cs.length) : readZ D zs cs ≠ [] := fun e => by
  have : (readZ D zs cs).length = 0 := by rw [e]; rfl
  rw [readZ, List.length_map, List.length_range] at this
  omega
theorem change_at {R W : Nat} {zs cs : List Int} {d : Int} (hl : zs.length = R * W) (hm : meetB R W cs = true) (r c : Nat) (hr : r < R) (hc : c < W) :
    cellD (changeZ W zs cs d) (r * W + c) = if c = colN cs r then cellD zs (r * W + c) + d else cellD zs (r * W + c) := by
  obtain ⟨h0, hlen, hcol⟩ := meetB_of hm
  rw [changeZ, hlen, setsZ_get hl (fun r hr => (hcol r hr).2) R (Nat.le_refl _) r c hr hc]
  by_cases e : c = colN cs r
  · rw [if_pos ⟨hr, e⟩, if_pos e, e]
  · rw [if_neg (fun k => e k.2), if_neg e]
theorem raise_at {R W : Nat} {zs cs : List Int} {n : Int} (hl : zs.length = R * W) (hm : meetB R W cs = true) (r c : Nat) (hr : r < R) (hc : c < W) :
    cellD (raiseZ W zs cs n) (r * W + c) = if c = colN cs r then (if cellD zs (r * W + c) < n then n else cellD zs (r * W + c)) else cellD zs (r * W + c) := by
  obtain ⟨h0, hlen, hcol⟩ := meetB_of hm
  rw [raiseZ, hlen, setsZ_get hl (fun r hr => (hcol r hr).2) R (Nat.le_refl _) r c hr hc]
  by_cases e : c = colN cs r
  · rw [if_pos ⟨hr, e⟩, if_pos e, e]; rfl
  · rw [if_neg (fun k => e k.2), if_neg e]
theorem lvUpd_len {b r d m s l : Int} {zs : List Int} {k : Nat} {x : Int} : (lvUpd b r d m s l zs k x).length = zs.length := by
  unfold lvUpd
  split
  · unfold updZ; split
    · rw [List.length_set]
    · rfl
  · unfold skUpd; split
    · split
      · rw [raiseZ, setsZ_len]
      · rw [changeZ, setsZ_len]
    · rfl
theorem fedZ_len (b r d m s : Int) (kk : Nat → Nat) (xx : Nat → Int) : ∀ t n, (fedZ b r d m s kk xx t n).length = cellsN b r d m (n : Int)
  | 0, n => by unfold fedZ zeroZ; rw [List.length_replicate]
  | t + 1, n => by
    unfold fedZ stUpd
    split
    · rw [lvUpd_len, fedZ_len]
    · exact fedZ_len b r d m s kk xx t n
theorem zeroZ_at (b r d m : Int) (n i : Nat) : cellD (zeroZ b r d m n) i = 0 := by
  unfold cellD zeroZ
  rw [List.getElem?_replicate]
  split <;> rfl
/-- an exact level: each cell is what its key has -/
theorem fed_exact {b : Nat} {r d m s : Int} {kk : Nat → Nat} {xx : Nat → Int} {T n : Nat} (hn : n ≤ b) (he : exactB (b : Int) r d m (n : Int) = true) (hok : ∀ t, t < T → stErr (b : Int) r d m s (fedZ (b : Int) r d m s kk xx t) (kk t) (xx t) = 0) :
    ∀ t, t ≤ T → ∀ i, i < (keysI (b : Int) r d m (n : Int)).toNat → cellD (fedZ (b : Int) r d m s kk xx t n) i = hasZ kk xx n i t
  | 0, _, i, hi => by rw [fedZ, zeroZ_at]; rfl
  | t + 1, ht, i, hi => by
    have h0 := hok t (by omega)
    have ih := fed_exact hn he hok t (by omega)
    have hlen := fedZ_len (b : Int) r d m s kk xx t n
    unfold cellsN at hlen
    rw [if_pos he] at hlen
    have h1 := (stErr_ok h0).2.2 n (by simpa using hn)
    rw [lvErr_ex he] at h1
    rw [fedZ, stUpd_ok h0, lvUpd_ex he]
    unfold updZ hasZ grpZ
    rw [if_pos h1]
    have hk : kk t / 2 ^ n < (keysI (b : Int) r d m (n : Int)).toNat := by
      unfold chkI at h1
      split at h1
      · cases h1
      · omega
    rw [← show hasZ kk xx n i t = grpZ kk xx (fun k => decide (k / 2 ^ n = i)) t from rfl, ← ih i hi]
    by_cases e : kk t / 2 ^ n = i
    · subst e
      have hl2 : kk t / 2 ^ n < (fedZ (b : Int) r d m s kk xx t n).length := by rw [hlen]; exact hk
      simp [cellD, List.getElem?_set, hl2]
    · simp [cellD, List.getElem?_set, e]
theorem sk_ok {b r d m s l : Int} {zs : List Int} {k x : Int} (h : skErr b r d m s l zs k x = 0) : skUpd b r d m s l zs k x = if m = 2 then raiseZ d.toNat zs (colsZ d s l k r.toNat) (kthL (readZ d.toNat zs (colsZ d s l k r.toNat)) 0 + x) else changeZ d.toNat zs (colsZ d s l k r.toNat) x := by
  unfold skUpd
  rw [if_pos h]
/-- a sketch, Linear: each cell is what all have that name it -/
theorem fed_linear {b : Nat} {r d m s : Int} {kk : Nat → Nat} {xx : Nat → Int} {T n : Nat} (hr : rightB (b : Int) r d m = true) (hm : m ≠ 2) (hn : n ≤ b) (he : exactB (b : Int) r d m (n : Int) ≠ true) (hok : ∀ t, t < T → stErr (b : Int) r d m s (fedZ (b : Int) r d m s kk xx t) (kk t) (xx t) = 0) :
    ∀ t, t ≤ T → ∀ q c, q < r.toNat → c < d.toNat → cellD (fedZ (b : Int) r d m s kk xx t n) (q * d.toNat + c) = grpZ kk xx (fun k => decide (c = colN (colsZ d s (n : Int) ((k / 2 ^ n : Nat) : Int) r.toNat) q)) t
  | 0, _, q, c, hq, hc => by rw [fedZ, zeroZ_at]; rfl
  | t + 1, ht, q, c, hq, hc => by
    have h0 := hok t (by omega)
    have ih := fed_linear hr hm hn he hok t (by omega) q c hq hc
    have hR := right_of hr
    have hlen := fedZ_len (b : Int) r d m s kk xx t n
    unfold cellsN at hlen
    rw [if_neg he] at hlen
    have h1 := (stErr_ok h0).2.2 n (by simpa using hn)
    unfold lvErr at h1
    rw [if_neg he] at h1
    rw [fedZ, stUpd_ok h0]
    unfold lvUpd
    rw [if_neg he, sk_ok h1, if_neg hm, change_at hlen (colsZ_meet (by omega) (by omega)) q c hq hc, ih]
    conv => rhs; unfold grpZ
    by_cases e : c = colN (colsZ d s (n : Int) ((kk t / 2 ^ n : Nat) : Int) r.toNat) q
    · rw [if_pos e, if_pos (by simpa using e)]
    · rw [if_neg e, if_neg (by simpa using e)]
      omega
/-- a sketch, Conservative: no cell of a key has less than it has -/
theorem fed_cons {b : Nat} {r d s : Int} {kk : Nat → Nat} {xx : Nat → Int} {T n : Nat} (hr : rightB (b : Int) r d 2 = true) (hn : n ≤ b) (he : exactB (b : Int) r d 2 (n : Int) ≠ true) (hok : ∀ t, t < T → stErr (b : Int) r d 2 s (fedZ (b : Int) r d 2 s kk xx t) (kk t) (xx t) = 0) :
    ∀ t, t ≤ T → ∀ i q : Nat, q < r.toNat → hasZ kk xx n i t ≤ cellD (fedZ (b : Int) r d 2 s kk xx t n) (q * d.toNat + colN (colsZ d s (n : Int) (i : Int) r.toNat) q)
  | 0, _, i, q, hq => by rw [fedZ, zeroZ_at]; exact Int.le_refl _
  | t + 1, ht, i, q, hq => by
    have h0 := hok t (by omega)
    have ih := fed_cons hr hn he hok t (by omega)
    have hR := right_of hr
    have hlen := fedZ_len (b : Int) r d 2 s kk xx t n
    unfold cellsN at hlen
    rw [if_neg he] at hlen
    obtain ⟨-, h2, h3⟩ := stErr_ok h0
    have h1 := h3 n (by simpa using hn)
    unfold lvErr at h1
    rw [if_neg he] at h1
    rw [fedZ, stUpd_ok h0]
    unfold lvUpd
    have hm1 : meetB r.toNat d.toNat (colsZ d s (n : Int) ((kk t / 2 ^ n : Nat) : Int) r.toNat) = true := colsZ_meet (by omega) (by omega)
    have hm2 : meetB r.toNat d.toNat (colsZ d s (n : Int) (i : Int) r.toNat) = true := colsZ_meet (by omega) (by omega)
    have hx : 0 ≤ xx t := by have : ¬ xx t < 0 := fun h => h2 ⟨rfl, h⟩; omega
    rw [if_neg he, sk_ok h1, if_pos rfl, raise_at hlen hm1 q _ hq ((meetB_of hm2).2.2 q hq).2]
    have ihi := ih i q hq
    have hhas : hasZ kk xx n i (t + 1) = hasZ kk xx n i t + (if kk t / 2 ^ n = i then xx t else 0) := by
      unfold hasZ
      conv => lhs; unfold grpZ
      simp
    rw [hhas]
    by_cases e : kk t / 2 ^ n = i
    · subst e
      obtain ⟨hmem, -⟩ := kthL_min (readZ_ne (D := d.toNat) (zs := fedZ (b : Int) r d 2 s kk xx t n) (cs := colsZ d s (n : Int) ((kk t / 2 ^ n : Nat) : Int) r.toNat) (by rw [colsZ_len]; omega))
      have hle : hasZ kk xx n (kk t / 2 ^ n) t ≤ kthL (readZ d.toNat (fedZ (b : Int) r d 2 s kk xx t n) (colsZ d s (n : Int) ((kk t / 2 ^ n : Nat) : Int) r.toNat)) 0 := by
        simp only [readZ, List.mem_map, List.mem_range] at hmem
        obtain ⟨j, hj, e2⟩ := hmem
        rw [colsZ_len] at hj
        have := ih (kk t / 2 ^ n) j hj
        rw [e2] at this
        simpa [readZ] using this
      rw [if_pos rfl, if_pos rfl]
      split <;> omega
    · rw [if_neg e]
      split
      · split <;> omega
      · omega
/-- what is told of a prefix is not less than what it has -/
theorem pt_has {b : Nat} {r d m s : Int} {kk : Nat → Nat} {xx : Nat → Int} {T n i : Nat} (hr : rightB (b : Int) r d m = true) (hm : m = 1 ∨ m = 2) (hk : ∀ t : Nat, (kk t : Int) < keysI (b : Int) r d m 0) (hx : ∀ t : Nat, -1099511627776 ≤ xx t ∧ xx t ≤ 1099511627776 ∧ ¬ (m = 2 ∧ xx t < 0)) (hT : T ≤ 60)
    (hp : PlainZ kk xx T) (hn : n ≤ b) (hi : i < 2 ^ (b - n)) : hasZ kk xx n i T ≤ ptOf b r d m s (fedZ (b : Int) r d m s kk xx T) n i := by
  have hok : ∀ t, t < T → stErr (b : Int) r d m s (fedZ (b : Int) r d m s kk xx t) (kk t) (xx t) = 0 := fun t ht => (fed_bd hr hk hx t (by omega)).2 (by omega)
  have hR := right_of hr
  rw [ptOf_in hn hi]
  unfold lvPt
  by_cases he : exactB (b : Int) r d m (n : Int) = true
  · rw [if_pos he, fed_exact hn he hok T (Nat.le_refl _) i (by rw [keysI_nat hr hn]; exact hi)]
    exact Int.le_refl _
  · rw [if_neg he, if_neg (by omega)]
    obtain ⟨hmem, -⟩ := kthL_min (readZ_ne (D := d.toNat) (zs := fedZ (b : Int) r d m s kk xx T n) (cs := colsZ d s (n : Int) (i : Int) r.toNat) (by rw [colsZ_len]; omega))
    have hm2 : meetB r.toNat d.toNat (colsZ d s (n : Int) (i : Int) r.toNat) = true := colsZ_meet (by omega) (by omega)
    have hall : ∀ q, q < r.toNat → hasZ kk xx n i T ≤ cellD (fedZ (b : Int) r d m s kk xx T n) (q * d.toNat + colN (colsZ d s (n : Int) (i : Int) r.toNat) q) := fun q hq => by
      rcases hm with rfl | rfl
      · rw [fed_linear hr (by decide) hn he hok T (Nat.le_refl _) q _ hq ((meetB_of hm2).2.2 q hq).2]
        unfold hasZ
        rw [grp_split (A := fun k => decide (colN (colsZ d s (n : Int) (i : Int) r.toNat) q = colN (colsZ d s (n : Int) ((k / 2 ^ n : Nat) : Int) r.toNat) q)) (B := fun k => decide (k / 2 ^ n = i)) (C := fun k => !decide (k / 2 ^ n = i) && decide (colN (colsZ d s (n : Int) (i : Int) r.toNat) q = colN (colsZ d s (n : Int) ((k / 2 ^ n : Nat) : Int) r.toNat) q)) (fun k => by
            by_cases h1 : k / 2 ^ n = i
            · simp [h1]
            · simp [h1]) (fun k h1 h2 => by simp at h1 h2; exact h2.1 h1)]
        have := grp_pos hp (fun k => !decide (k / 2 ^ n = i) && decide (colN (colsZ d s (n : Int) (i : Int) r.toNat) q = colN (colsZ d s (n : Int) ((k / 2 ^ n : Nat) : Int) r.toNat) q))
        omega
      · exact fed_cons hr hn he hok T (Nat.le_refl _) i q hq
    generalize hv : kthL (readZ d.toNat (fedZ (b : Int) r d m s kk xx T n) (colsZ d s (n : Int) (i : Int) r.toNat)) 0 = v at *
    simp only [readZ, List.mem_map, List.mem_range] at hmem
    obtain ⟨j, hj, e2⟩ := hmem
    rw [colsZ_len] at hj
    rw [← e2]
    exact hall j hj
/-- where no key has less than 0, each prefix that has not less than least is told -/
theorem all_told {b : Nat} {r d m s : Int} {kk : Nat → Nat} {xx : Nat → Int} {T : Nat} {least : Int} (hr : rightB (b : Int) r d m = true) (hm : m = 1 ∨ m = 2) (hk : ∀ t : Nat, (kk t : Int) < keysI (b : Int) r d m 0) (hx : ∀ t : Nat, -1099511627776 ≤ xx t ∧ xx t ≤ 1099511627776 ∧ ¬ (m = 2 ∧ xx t < 0)) (hT : T ≤ 60)
    (hp : PlainZ kk xx T) : ∀ (j n i : Nat), n + j = b → i < 2 ^ j → least ≤ hasZ kk xx n i T → (n, i) ∈ hvOut (ptOf b r d m s (fedZ (b : Int) r d m s kk xx T)) least b (b + 1)
  | 0, n, i, hn, hi, h => by
    have hpt := pt_has (s := s) (n := n) (i := i) hr hm hk hx hT hp (by omega) (by rw [show b - n = 0 by omega]; exact hi)
    rw [hvOut_mem]
    refine ⟨by omega, List.mem_filter.2 ⟨?_, by simp; omega⟩⟩
    rw [show b - n = 0 by omega, rowAt]
    simp at hi ⊢
    omega
  | j + 1, n, i, hn, hi, h => by
    have hpt := pt_has (s := s) (n := n) (i := i) hr hm hk hx hT hp (by omega) (by rw [show b - n = j + 1 by omega]; exact hi)
    have hup := has_up hp n i
    have ih := all_told (s := s) (least := least) hr hm hk hx hT hp j (n + 1) (i / 2) (by omega) (by rw [Nat.pow_succ] at hi; omega) (by omega)
    rw [hvOut_mem] at ih ⊢
    refine ⟨by omega, List.mem_filter.2 ⟨?_, by simp; omega⟩⟩
    rw [show b - n = b - (n + 1) + 1 by omega, rowAt, mem_kids, show b - (b - (n + 1)) = n + 1 by omega]
    exact ih.2
end Go.Proofs.Ythbkljeibmkimaa

/-
  Plain: what is kept of the pieces that are told, pair by pair, as the law counts it. Conditions: none beyond those stated at each theorem.
-/
namespace Go.Proofs.Ythbkljeibmkimaa
open Go.RowKit
set_option linter.unusedVariables false
set_option linter.unusedSimpArgs false

def posL (H : List (Nat × Nat × Int)) : List (Nat × Nat) := H.map fun q => (q.1, q.2.1)
/-- in order by level, and none twice -/
def Lvd (u v : Nat × Nat) : Prop := u.1 ≤ v.1 ∧ u ≠ v
theorem byKey_lvd {x : List (Nat × Nat)} {b : Nat} (h : x.Pairwise Ordd) : (byKey lvK b x).Pairwise Lvd := by
  unfold byKey
  rw [List.pairwise_flatMap]
  constructor
  · intro n hn
    have h2 := List.Pairwise.filter (fun e : Nat × Nat => decide (lvK e = (n : Int))) h
    refine (List.Pairwise.and_mem.1 h2).imp (fun {u v} hh => ?_)
    obtain ⟨hu, hv, ho⟩ := hh
    have e1 : lvK u = (n : Int) := by simpa using (List.mem_filter.1 hu).2
    have e2 : lvK v = (n : Int) := by simpa using (List.mem_filter.1 hv).2
    unfold lvK at e1 e2
    refine ⟨by omega, fun e => ?_⟩
    subst e
    unfold Ordd at ho
    omega
  · refine List.pairwise_lt_range.imp (fun {m n} hmn u hu v hv => ?_)
    have e1 : lvK u = (m : Int) := by simpa using (List.mem_filter.1 hu).2
    have e2 : lvK v = (n : Int) := by simpa using (List.mem_filter.1 hv).2
    unfold lvK at e1 e2
    refine ⟨by omega, fun e => ?_⟩
    subst e
    omega
theorem hiT_lvd (pt : Nat → Nat → Int) (least : Int) (b : Nat) : (hiT pt least b).Pairwise Lvd := byKey_lvd (hv_ord pt least b (b + 1) (Nat.le_refl _))
theorem hiT_mem {pt : Nat → Nat → Int} {least : Int} {b : Nat} {p : Nat × Nat} : p ∈ hiT pt least b ↔ p ∈ hvOut pt least b (b + 1) := by
  unfold hiT
  rw [byKey_mem]
  refine ⟨fun h => h.1, fun h => ⟨h, ?_⟩⟩
  have := (hv_in (pt := pt) (least := least) (b := b) (n := p.1) (i := p.2) h).1
  omega
theorem lvd_nodup {l : List (Nat × Nat)} (h : l.Pairwise Lvd) : l.Nodup := h.imp (fun hh => hh.2)
theorem hiT_count (pt : Nat → Nat → Int) (least : Int) (b : Nat) : (hiT pt least b).countP (fun p => decide (p.1 = 0)) = (hvOut pt least b (b + 1)).countP (fun p => decide (p.1 = 0)) := by
  unfold hiT byKey
  rw [List.range_succ_eq_map, List.flatMap_cons, List.countP_append]
  have e1 : ((hvOut pt least b (b + 1)).filter fun e => decide (lvK e = ((0 : Nat) : Int))).countP (fun p => decide (p.1 = 0)) = (hvOut pt least b (b + 1)).countP (fun p => decide (p.1 = 0)) := by
    rw [List.countP_filter]
    congr 1
    funext p
    by_cases h : p.1 = 0 <;> simp [lvK, h]
  have e2 : (((List.range b).map Nat.succ).flatMap fun (n : Nat) => (hvOut pt least b (b + 1)).filter fun e => decide (lvK e = (n : Int))).countP (fun p => decide (p.1 = 0)) = 0 := by
    rw [List.countP_eq_zero]
    intro p hp
    rw [List.mem_flatMap] at hp
    obtain ⟨n, hn, hp⟩ := hp
    rw [List.mem_map] at hn
    obtain ⟨m, -, rfl⟩ := hn
    have e1 : lvK p = ((m + 1 : Nat) : Int) := by simpa using (List.mem_filter.1 hp).2
    unfold lvK at e1
    simp
    omega
  rw [e1, e2, Nat.add_zero]
/-- each that is kept has the rest beside what was kept ahead of it -/
theorem keptAt_rest {pt : Nat → Nat → Int} {least : Int} {T : List (Nat × Nat)} : ∀ {j : Nat} {out : List (Nat × Nat × Int)}, keptAt pt least T j = some out → ∀ (t n i : Nat) (x : Int), out[t]? = some (n, i, x) → x = rest pt (posL (out.take t)) (n, i) ∧ least ≤ x
  | 0, out, h => by
    simp only [keptAt, Option.some.injEq] at h
    subst h
    intro t n i x hx
    simp at hx
  | j + 1, out, h => by
    cases h1 : keptAt pt least T j with
    | none => unfold keptAt at h; rw [h1] at h; cases h
    | some o =>
      cases h2 : T[j]? with
      | none => unfold keptAt at h; rw [h1, h2] at h; cases h
      | some p =>
        rw [keptAt_next h1 h2] at h
        have ih := keptAt_rest h1
        split at h
        · rename_i hf
          rw [Option.some.injEq] at h
          subst h
          split
          · rename_i hx
            intro t n i x ht
            rcases Nat.lt_or_ge t o.length with h3 | h3
            · rw [List.getElem?_append_left h3] at ht
              rw [List.take_append_of_le_length (by omega)]
              exact ih t n i x ht
            · rw [List.getElem?_append_right h3] at ht
              have h4 : t - o.length = 0 := by
                rcases Nat.eq_zero_or_pos (t - o.length) with h5 | h5
                · exact h5
                · rw [List.getElem?_eq_none (by simp; omega)] at ht; cases ht
              rw [h4] at ht
              simp at ht
              obtain ⟨rfl, rfl, rfl⟩ := ht
              rw [show t = o.length by omega, List.take_left']
              · exact ⟨rfl, hx⟩
              · rfl
          · exact ih
        · cases h
/-- what is kept within one is not much -/
theorem wI_small {pt : Nat → Nat → Int} {K : List (Nat × Nat)} {B : Int} (hp : ∀ n i, -B ≤ pt n i ∧ pt n i ≤ B) (h0 : 0 ≤ B) : ∀ n i : Nat, -(B * 2 ^ n) ≤ wI pt K n i ∧ wI pt K n i ≤ B * 2 ^ n
  | 0, i => by
    unfold wI
    have := hp 0 i
    split <;> simp <;> omega
  | n + 1, i => by
    unfold wI
    have h1 := hp (n + 1) i
    have h2 := wI_small (K := K) hp h0 n (2 * i)
    have h3 := wI_small (K := K) hp h0 n (2 * i + 1)
    have h4 : (1 : Int) ≤ 2 ^ n := by
      have := Nat.two_pow_pos n
      have e : (2 : Int) ^ n = ((2 ^ n : Nat) : Int) := by simp
      omega
    have h5 : B * (2 : Int) ^ (n + 1) = 2 * (B * 2 ^ n) := by rw [Int.pow_succ, ← Int.mul_assoc]; omega
    have h6 : B * 1 ≤ B * 2 ^ n := Int.mul_le_mul_of_nonneg_left h4 h0
    split <;> omega
theorem rest_small {pt : Nat → Nat → Int} {K : List (Nat × Nat)} (hp : ∀ n i, -70368744177664 ≤ pt n i ∧ pt n i ≤ 70368744177664) {n i : Nat} (hn : n ≤ 8) : -18084767253659648 ≤ rest pt K (n, i) ∧ rest pt K (n, i) ≤ 18084767253659648 := by
  unfold rest
  have h1 := hp n i
  have h2 := wI_small (K := K) hp (by decide) n i
  have h3 : (2 : Nat) ^ n ≤ 2 ^ 8 := Nat.pow_le_pow_right (by decide) hn
  have e : (2 : Int) ^ n = ((2 ^ n : Nat) : Int) := by simp
  rw [e] at h2
  generalize (2 : Nat) ^ n = P at *
  simp at h3 ⊢
  omega
theorem kept_some {pt : Nat → Nat → Int} {least : Int} {T : List (Nat × Nat)} (hp : ∀ n i, -70368744177664 ≤ pt n i ∧ pt n i ≤ 70368744177664) (hT : ∀ p ∈ T, p.1 ≤ 8) : ∀ j, j ≤ T.length → ∃ out, keptAt pt least T j = some out
  | 0, _ => ⟨[], rfl⟩
  | j + 1, hj => by
    obtain ⟨o, ho⟩ := kept_some (least := least) hp hT j (by omega)
    obtain ⟨p, h2⟩ : ∃ p, T[j]? = some p := ⟨_, List.getElem?_eq_getElem hj⟩
    obtain ⟨n, i⟩ := p
    rw [keptAt_next ho h2, if_pos]
    · exact ⟨_, rfl⟩
    · have h3 : n ≤ 8 := hT _ (List.mem_of_getElem? h2)
      have := rest_small (K := o.map fun q => (q.1, q.2.1)) (i := i) hp h3
      rw [fits_iff]
      omega
/-- each key that is told is kept -/
theorem kept_keys {pt : Nat → Nat → Int} {least : Int} {T : List (Nat × Nat)} (hT : T.Pairwise Lvd) (hl : ∀ p ∈ T, least ≤ pt p.1 p.2) : ∀ {j : Nat} {out : List (Nat × Nat × Int)}, keptAt pt least T j = some out → out.countP (fun q => decide (q.1 = 0)) = (T.take j).countP (fun p => decide (p.1 = 0))
  | 0, out, h => by
    simp only [keptAt, Option.some.injEq] at h
    subst h
    simp
  | j + 1, out, h => by
    cases h1 : keptAt pt least T j with
    | none => unfold keptAt at h; rw [h1] at h; cases h
    | some o =>
      cases h2 : T[j]? with
      | none => unfold keptAt at h; rw [h1, h2] at h; cases h
      | some p =>
        obtain ⟨n, i⟩ := p
        rw [keptAt_next h1 h2] at h
        have ih := kept_keys hT hl h1
        have hsub := (keptAt_sub h1).1
        have ht : T.take (j + 1) = T.take j ++ [(n, i)] := by rw [List.take_add_one, h2]; rfl
        have hno : n = 0 → rest pt (o.map fun q => (q.1, q.2.1)) (n, i) = pt n i := by
          intro e
          subst e
          unfold rest wI
          rw [if_neg]
          · simp
          · intro hm
            have h3 := hsub.subset hm
            rw [List.mem_take_iff_getElem] at h3
            obtain ⟨k, hk, e⟩ := h3
            have h4 : T[k]? = some (0, i) := by rw [← e]; exact List.getElem?_eq_getElem (by omega)
            have h5 := (List.pairwise_iff_getElem.1 hT) k j (by omega) (List.getElem?_eq_some_iff.1 h2).1 (by omega)
            exact h5.2 (by rw [e, (List.getElem?_eq_some_iff.1 h2).2])
        have hlp := hl _ (List.mem_of_getElem? h2)
        split at h
        · rw [Option.some.injEq] at h
          subst h
          rw [ht, List.countP_append]
          by_cases e : n = 0
          · rw [if_pos (by rw [hno e]; exact hlp), List.countP_append, ih]
            simp [e]
          · split
            · rw [List.countP_append, ih]
              simp [e]
            · rw [ih]
              simp [e]
        · cases h
theorem sorted_zero : ∀ {H : List (Nat × Nat × Int)}, H.Pairwise (fun u v => u.1 ≤ v.1) → ∀ (t n i : Nat) (x : Int), H[t]? = some (n, i, x) → (t < H.countP (fun q => decide (q.1 = 0)) ↔ n = 0)
  | [], _, t, n, i, x, h => by simp at h
  | a :: H, hp, t, n, i, x, h => by
    rw [List.pairwise_cons] at hp
    rw [List.countP_cons]
    match t, h with
    | 0, h =>
      simp at h
      subst h
      by_cases e : n = 0
      · simp [e]
      · have hz : H.countP (fun q => decide (q.1 = 0)) = 0 := by
          rw [List.countP_eq_zero]
          intro q hq
          have := hp.1 q hq
          simp at this ⊢
          omega
        rw [hz]
        simp [e]
    | t + 1, h =>
      have h' : H[t]? = some (n, i, x) := by simpa using h
      have ih := sorted_zero hp.2 t n i x h'
      have h1 := hp.1 _ (List.mem_of_getElem? h')
      by_cases e : a.1 = 0
      · simp [e]; exact ih
      · simp at h1
        have hz : H.countP (fun q => decide (q.1 = 0)) = 0 := by
          rw [List.countP_eq_zero]
          intro q hq
          have := hp.1 q hq
          simp at this ⊢
          omega
        rw [hz]
        simp [e]
        omega
/-- does the k-th of those kept lie in the t-th, and in none that stands between them, of those below m -/
def aloneB (H : List (Nat × Nat × Int)) (k t : Nat) : Nat → Bool
  | 0 => match H[k]?, H[t]? with
    | some a, some c => liesB (a.1, a.2.1) (c.1, c.2.1)
    | _, _ => false
  | j + 1 => aloneB H k t j && !(match H[k]?, H[k + 1 + j]?, H[t]? with
    | some a, some m, some c => liesB (a.1, a.2.1) (m.1, m.2.1) && liesB (m.1, m.2.1) (c.1, c.2.1)
    | _, _, _ => false)
/-- the law's sum: the rest, and what those have that lie in it and in none between -/
def sumK (pt : Nat → Nat → Int) (H : List (Nat × Nat × Int)) (t : Nat) (x : Int) : Nat → Int
  | 0 => x
  | k + 1 => sumK pt H t x k + (if aloneB H k t (t - (k + 1)) = true then (match H[k]? with | some a => pt a.1 a.2.1 | none => 0) else 0)
theorem sumK_bd {pt : Nat → Nat → Int} {H : List (Nat × Nat × Int)} {t : Nat} {x : Int} (hp : ∀ n i, -70368744177664 ≤ pt n i ∧ pt n i ≤ 70368744177664) (hx : -18084767253659648 ≤ x ∧ x ≤ 18084767253659648) : ∀ k : Nat, -(18084767253659648 + 70368744177664 * (k : Int)) ≤ sumK pt H t x k ∧ sumK pt H t x k ≤ 18084767253659648 + 70368744177664 * (k : Int)
  | 0 => by simp [sumK]; omega
  | k + 1 => by
    have ih := sumK_bd (H := H) (t := t) hp hx k
    unfold sumK
    have h2 : -70368744177664 ≤ (match H[k]? with | some a => pt a.1 a.2.1 | none => 0) ∧ (match H[k]? with | some a => pt a.1 a.2.1 | none => 0) ≤ 70368744177664 := by
      split
      · exact hp _ _
      · omega
    split <;> omega
theorem posL_get {H : List (Nat × Nat × Int)} {k : Nat} {a : Nat × Nat × Int} (h : H[k]? = some a) : (posL H)[k]? = some (a.1, a.2.1) := by
  unfold posL
  rw [List.getElem?_map, h]
  rfl
theorem aloneB_iff {H : List (Nat × Nat × Int)} {k t : Nat} {a c : Nat × Nat × Int} (hk : H[k]? = some a) (ht : H[t]? = some c) : ∀ j, aloneB H k t j = true ↔ liesB (a.1, a.2.1) (c.1, c.2.1) = true ∧ ∀ m u, k < m → m < k + 1 + j → H[m]? = some u → liesB (a.1, a.2.1) (u.1, u.2.1) = true → liesB (u.1, u.2.1) (c.1, c.2.1) = true → False
  | 0 => by
    unfold aloneB
    rw [hk, ht]
    refine ⟨fun h => ⟨h, fun m u h1 h2 => by omega⟩, fun h => h.1⟩
  | j + 1 => by
    unfold aloneB
    rw [Bool.and_eq_true, aloneB_iff hk ht j, hk, ht]
    constructor
    · rintro ⟨⟨h1, h2⟩, h3⟩
      refine ⟨h1, fun m u g1 g2 g3 g4 g5 => ?_⟩
      by_cases e : m = k + 1 + j
      · subst e
        rw [g3] at h3
        simp only [g4, g5] at h3
        simp at h3
      · exact h2 m u g1 (by omega) g3 g4 g5
    · rintro ⟨h1, h2⟩
      refine ⟨⟨h1, fun m u g1 g2 => h2 m u g1 (by omega)⟩, ?_⟩
      cases e : H[k + 1 + j]? with
      | none => simp
      | some u =>
        have h3 := h2 (k + 1 + j) u (by omega) (by omega) e
        cases e1 : liesB (a.1, a.2.1) (u.1, u.2.1) with
        | false => simp [e1]
        | true =>
          cases e2 : liesB (u.1, u.2.1) (c.1, c.2.1) with
          | false => simp [e2]
          | true => exact (h3 e1 e2).elim
theorem sum_take {β : Type} (f : β → Int) (K : List β) : ∀ (j : Nat) (q : β), K[j]? = some q → ((K.take (j + 1)).map f).sum = ((K.take j).map f).sum + f q := by
  intro j q h
  rw [List.take_add_one, h, List.map_append, List.sum_append]
  simp
/-- the law's sum is what is told -/
theorem sum_told {pt : Nat → Nat → Int} {H : List (Nat × Nat × Int)} {t n i : Nat} {x : Int} (hl : (posL H).Pairwise Lvd) (ht : H[t]? = some (n, i, x)) (hx : x = rest pt (posL (H.take t)) (n, i)) : sumK pt H t x t = pt n i := by
  have hlt : t < H.length := (List.getElem?_eq_some_iff.1 ht).1
  obtain ⟨K, hK⟩ : ∃ K, K = posL (H.take t) := ⟨_, rfl⟩
  have hKs : K = (posL H).take t := by rw [hK]; unfold posL; rw [List.map_take]
  have hnd : K.Nodup := by rw [hKs]; exact (lvd_nodup hl).sublist (List.take_sublist _ _)
  have key : ∀ k, k ≤ t → sumK pt H t x k = x + ((K.take k).map (sTerm pt K (n, i))).sum := by
    intro k
    induction k with
    | zero => intro _; simp [sumK]
    | succ k ih =>
      intro hk
      obtain ⟨a, ha⟩ : ∃ a, H[k]? = some a := ⟨_, List.getElem?_eq_getElem (by omega)⟩
      have hKk : K[k]? = some (a.1, a.2.1) := by
        rw [hKs, List.getElem?_take, if_pos (by omega)]
        exact posL_get ha
      unfold sumK
      rw [ih (by omega), sum_take _ K k _ hKk, ha]
      have e : aloneB H k t (t - (k + 1)) = (liesB (a.1, a.2.1) (n, i) && alone K (a.1, a.2.1) (n, i)) := by
        rw [Bool.eq_iff_iff, aloneB_iff ha ht, Bool.and_eq_true, alone_iff]
        refine and_congr_right (fun hlie => ⟨fun h m hm hne h1 h2 => ?_, fun h m u g1 g2 g3 g4 g5 => ?_⟩)
        · obtain ⟨j, hj⟩ := List.getElem?_of_mem hm
          have hj2 : (posL H)[j]? = some m ∧ j < t := by
            rw [hKs, List.getElem?_take] at hj
            split at hj
            · exact ⟨hj, by assumption⟩
            · cases hj
          have hjl : j < H.length := by omega
          obtain ⟨u, hu⟩ : ∃ u, H[j]? = some u := ⟨_, List.getElem?_eq_getElem hjl⟩
          have hm2 : m = (u.1, u.2.1) := by
            have := posL_get hu
            rw [hj2.1] at this
            exact Option.some.inj this
          rcases Nat.lt_trichotomy k j with h3 | h3 | h3
          · exact h j u h3 (by omega) hu (hm2 ▸ h1) (hm2 ▸ h2)
          · subst h3
            rw [ha] at hu
            cases hu
            exact hne hm2
          · have h4 := posL_get ha
            obtain ⟨l1, e1⟩ := List.getElem?_eq_some_iff.1 hj2.1
            obtain ⟨l2, e2⟩ := List.getElem?_eq_some_iff.1 h4
            have h5 := (List.pairwise_iff_getElem.1 hl) j k l1 l2 h3
            rw [e1, e2] at h5
            exact hne (liesB_same h1 h5.1).symm
        · have hmK : (u.1, u.2.1) ∈ K := by
            rw [hKs]
            refine List.mem_of_getElem? (i := m) ?_
            rw [List.getElem?_take, if_pos (by omega)]
            exact posL_get g3
          refine h _ hmK (fun e => ?_) g4 g5
          have h4 := posL_get ha
          have h5 := posL_get g3
          obtain ⟨l1, e1⟩ := List.getElem?_eq_some_iff.1 h4
          obtain ⟨l2, e2⟩ := List.getElem?_eq_some_iff.1 h5
          have h6 := (List.pairwise_iff_getElem.1 hl) k m l1 l2 g1
          rw [e1, e2] at h6
          exact h6.2 e.symm
      rw [e]
      unfold sTerm
      simp only
      split <;> omega
  rw [key t (Nat.le_refl _)]
  have hKl : K.take t = K := by rw [hKs, List.take_take, Nat.min_self]
  rw [hKl, ← show sAl pt K (n, i) = (K.map (sTerm pt K (n, i))).sum from rfl, sAl_eq pt K hnd, hx, ← hK]
  unfold rest
  simp
theorem sub_len {β : Type} [DecidableEq β] : ∀ {l m : List β}, l.Nodup → (∀ x ∈ l, x ∈ m) → l.length ≤ m.length
  | [], _, _, _ => Nat.zero_le _
  | a :: l, m, hn, h => by
    rw [List.nodup_cons] at hn
    have ha := h a (List.mem_cons_self ..)
    have ih := sub_len (l := l) (m := m.erase a) hn.2 (fun x hx => by
      rw [List.mem_erase_of_ne (show x ≠ a from fun e => hn.1 (e ▸ hx))]
      exact h x (List.mem_cons_of_mem _ hx))
    rw [List.length_erase_of_mem ha] at ih
    have := List.length_pos_of_mem ha
    rw [List.length_cons]
    omega
/-- all that the law asks of what is kept -/
structure KeptOk (pt : Nat → Nat → Int) (least : Int) (lo : List (Nat × Nat)) (H : List (Nat × Nat × Int)) : Prop where
  len : H.length ≤ lo.length
  mem : ∀ (t n i : Nat) (x : Int), H[t]? = some (n, i, x) → (n, i) ∈ lo ∧ least ≤ x ∧ (n = 0 → x = pt n i) ∧ sumK pt H t x t = pt n i ∧ (t < lo.countP (fun p => decide (p.1 = 0)) ↔ n = 0) ∧ -18084767253659648 ≤ x ∧ x ≤ 18084767253659648
  ord : ∀ (t n i n' i' : Nat) (x x' : Int), H[t]? = some (n, i, x) → H[t + 1]? = some (n', i', x') → n ≤ n'
  keys : lo.countP (fun p => decide (p.1 = 0)) ≤ H.length
theorem kept_ok {pt : Nat → Nat → Int} {least : Int} {b : Nat} (hb : b ≤ 8) (hp : ∀ n i, -70368744177664 ≤ pt n i ∧ pt n i ≤ 70368744177664) : ∃ H, hiKept pt least b = some H ∧ KeptOk pt least (hvOut pt least b (b + 1)) H := by
  have hTl : ∀ p ∈ hiT pt least b, p.1 ≤ 8 := fun p hp2 => by
    have := (hv_in (pt := pt) (least := least) (b := b) (n := p.1) (i := p.2) (hiT_mem.1 hp2)).1
    omega
  obtain ⟨H, hH⟩ := kept_some (least := least) hp hTl (hiT pt least b).length (Nat.le_refl _)
  have hL := hiT_lvd pt least b
  have hsub := (keptAt_sub hH).1
  rw [List.take_length] at hsub
  have hHl : (posL H).Pairwise Lvd := hL.sublist hsub
  have hrest := keptAt_rest hH
  have hkeys := kept_keys hL (fun p hp2 => hv_told (n := p.1) (i := p.2) (hiT_mem.1 hp2)) hH
  rw [List.take_length, hiT_count] at hkeys
  have hsort : H.Pairwise (fun u v => u.1 ≤ v.1) := by
    have h2 := hHl
    unfold posL at h2
    rw [List.pairwise_map] at h2
    exact h2.imp (fun hh => hh.1)
  refine ⟨H, hH, ⟨?_, fun t n i x ht => ?_, fun t n i n' i' x x' h1 h2 => ?_, ?_⟩⟩
  · have h1 := hsub.length_le
    rw [List.length_map] at h1
    have h2 : (hiT pt least b).length ≤ (hvOut pt least b (b + 1)).length := sub_len (lvd_nodup hL) (fun p hp2 => hiT_mem.1 hp2)
    omega
  · obtain ⟨hx, hle⟩ := hrest t n i x ht
    have hmem : (n, i) ∈ hvOut pt least b (b + 1) := hiT_mem.1 (hsub.subset (List.mem_map.2 ⟨(n, i, x), List.mem_of_getElem? ht, rfl⟩))
    refine ⟨hmem, hle, fun e => ?_, sum_told hHl ht hx, ?_, ?_⟩
    · subst e
      rw [hx]
      unfold rest wI
      rw [if_neg]
      · simp
      · intro hm
        unfold posL at hm
        rw [List.map_take, List.mem_take_iff_getElem] at hm
        obtain ⟨k, hk, e⟩ := hm
        have h4 := posL_get ht
        obtain ⟨l2, e2⟩ := List.getElem?_eq_some_iff.1 h4
        have h6 := (List.pairwise_iff_getElem.1 hHl) k t (by unfold posL; omega) l2 (by omega)
        exact h6.2 (by rw [e2]; exact e)
    · rw [← hkeys]
      exact sorted_zero hsort t n i x ht
    · rw [hx]
      exact rest_small hp (by have := (hv_in hmem).1; omega)
  · obtain ⟨l1, e1⟩ := List.getElem?_eq_some_iff.1 h1
    obtain ⟨l2, e2⟩ := List.getElem?_eq_some_iff.1 h2
    have := (List.pairwise_iff_getElem.1 hsort) t (t + 1) l1 l2 (by omega)
    rw [e1, e2] at this
    exact this
  · rw [← hkeys]
    exact List.countP_le_length
end Go.Proofs.Ythbkljeibmkimaa

/-
  The walks of gaugerref14.two and Is. Conditions: none beyond those stated at each theorem.
-/
namespace Go.Proofs.Ythbkljeibmkimaa
open Go.RowKit
set_option linter.unusedVariables false
set_option linter.unusedSimpArgs false

set_option maxRecDepth 100000 in
set_option maxHeartbeats 4000000 in
theorem two_any (n : Nat) (hn : n ≤ 59) (w : World) : Calls Try.prog 24 #[.int .i64 (n : Int)] w fun e w' => e = .returned (.int .u64 ((2 ^ n : Nat) : Int)) ∧ w = w' := by
  go_enter Try.func24, Try.ntmps24
  go_wp2_with fail
  go_loopw [3, 4] (fun o i wr => ∃ t P : Nat, i = .int .i64 (t : Int) ∧ o = .int .u64 (P : Int) ∧ P = 2 ^ t ∧ t ≤ n ∧ w = wr) (fun _ i _ => n - (intOf i).toNat)
  case atStart => exact ⟨0, 1, rfl, rfl, rfl, Nat.zero_le _, rfl⟩
  case round =>
    obtain ⟨t, P, rfl, rfl, hP, ht, hw⟩ := hrel
    subst hw
    have h2 := two_lt (n := t) (by omega)
    have e2 : ((2 ^ t : Nat) : Int) = (2 : Int) ^ t := by simp
    have hPb : P ≤ 576460752303423488 := by omega
    have HP := Lib.hid hP
    clear h2 e2 hP
    by_cases hlt : t < n
    · have hlz : (t : Int) < (n : Int) := by omega
      obtain ⟨Q, hQ⟩ : ∃ Q, Q = P + P := ⟨_, rfl⟩
      have hQz : (P : Int) + (P : Int) = (Q : Int) := by omega
      have hQw : IntKind.u64.wrap (Q : Int) = (Q : Int) := by rw [wrapU_mod]; omega
      have HQ := Lib.hid hQ
      clear hQ
      go_wp2_with fail
      go_roundw
      case rel => exact ⟨t + 1, Q, by go_num, by first | rfl | go_num, by rw [HQ.out, HP.out, Nat.pow_succ]; omega, by omega, by first | rfl | trivial⟩
      case measure => simp [intOf]; omega
    · have hlz : ¬ (t : Int) < (n : Int) := by omega
      have HR : Hid (Ending.returned (.int .u64 (P : Int)) = .returned (.int .u64 ((2 ^ n : Nat) : Int))) := Lib.hid (by rw [HP.out, show t = n by omega])
      go_wp2
      go_ret
      exact ⟨HR.out, rfl⟩
set_option maxRecDepth 100000 in
set_option maxHeartbeats 4000000 in
theorem is_yes (b n i : Nat) (hb1 : 1 ≤ b) (hb : b ≤ 59) (hn : n ≤ b) (hi : i < 2 ^ (b - n)) (w : World) :
    Calls Try.prog 14 #[.int .i64 (b : Int), .agg #[.int .i64 (n : Int), .int .u64 (i : Int)]] w fun e w' => e = .returned (.bool true) ∧ Below w.heap.size w w' := by
  have PT := Lib.hid (fun w => two_any (b - n) (by omega) w)
  obtain ⟨t, ht⟩ : ∃ t, t = b - n := ⟨_, rfl⟩
  have htz : (b : Int) - (n : Int) = (t : Int) := by omega
  rw [← ht] at PT hi
  obtain ⟨P, hP⟩ : ∃ P, P = 2 ^ t := ⟨_, rfl⟩
  rw [← hP] at PT hi
  have d1 : decide ((1 : Int) ≤ (b : Int)) = true := decide_eq_true (by omega)
  have d2 : decide ((b : Int) ≤ 59) = true := decide_eq_true (by omega)
  have d3 : decide ((0 : Int) ≤ (n : Int)) = true := decide_eq_true (by omega)
  have d4 : decide ((n : Int) ≤ (b : Int)) = true := decide_eq_true (by omega)
  have d5 : decide ((i : Int) < (P : Int)) = true := decide_eq_true (by omega)
  have hbz : (1 : Int) ≤ (b : Int) := by omega
  obtain ⟨g1, hb1', hsz1⟩ := news1 w (.cells #[.int .i64 (n : Int), .int .u64 (i : Int)] 42)
  have HX : Hid (Blk _ w.heap.size 42 #[.int .i64 (n : Int), .int .u64 (i : Int)]) := Lib.hid g1
  have HB := Lib.hid hb1'
  have htw : IntKind.i64.wrap (t : Int) = (t : Int) := wrapI_of _ (by omega) (by omega)
  clear g1 hb1' hsz1 ht hP hb1
  go_enter Try.func14, Try.ntmps14
  go_wp2_with fail
  generalize (w.alloc (.cells #[.int .i64 (n : Int), .int .u64 (i : Int)] 42)) = w1 at *
  obtain ⟨A, hA⟩ : ∃ A, A = w.heap.size := ⟨_, rfl⟩
  rw [← hA] at HX HB ⊢
  have HAW := Lib.hid hA
  clear hA
  refine wp_region_held_drew (S := fun w' => Below w1.heap.size w1 w') (by kernel_rfl) (by exact below_drewN (Below.refl _ _) 1) (fun hHeld => ?_)
  refine wpAnyH_take (i := 0) (v := ?_) rfl (by kernel_rfl) (by kernel_rfl) (by kernel_rfl) (fun _ _ _ h => h) (Or.inl ⟨by rfl, ?_⟩) (by assumption) ?_
  rotate_left
  · intro w hSw
    try dsimp only at hSw
    go_simp
    try with_reducible rfl
  simp only [Act.put, List.setIfInBounds_toArray, List.set_cons_zero, List.set_cons_succ, List.getElem_toArray, List.getElem_cons_zero, List.getElem_cons_succ]
  refine wpAnyH_take (i := 1) (v := ?_) rfl (by kernel_rfl) (by kernel_rfl) (by kernel_rfl) (fun _ _ _ h => h) (Or.inl ⟨by rfl, ?_⟩) (by assumption) ?_
  rotate_left
  · intro w hSw
    try dsimp only at hSw
    go_simp
    try with_reducible rfl
  simp only [Act.put, List.setIfInBounds_toArray, List.set_cons_zero, List.set_cons_succ, List.getElem_toArray, List.getElem_cons_zero, List.getElem_cons_succ]
  refine wpAnyH_take (i := 2) (v := ?_) rfl (by kernel_rfl) (by kernel_rfl) (by kernel_rfl) (fun _ _ _ h => h) (Or.inl ⟨by rfl, ?_⟩) (by assumption) ?_
  rotate_left
  · intro w hSw
    try dsimp only at hSw
    go_simp
    try with_reducible rfl
  simp only [Act.put, List.setIfInBounds_toArray, List.set_cons_zero, List.set_cons_succ, List.getElem_toArray, List.getElem_cons_zero, List.getElem_cons_succ]
  refine wpAnyH_take (i := 3) (v := ?_) rfl (by kernel_rfl) (by kernel_rfl) (by kernel_rfl) (fun _ _ _ h => h) (Or.inl ⟨by rfl, ?_⟩) (by assumption) ?_
  rotate_left
  · intro w hSw
    try dsimp only at hSw
    go_simp
    try with_reducible rfl
  simp only [Act.put, List.setIfInBounds_toArray, List.set_cons_zero, List.set_cons_succ, List.getElem_toArray, List.getElem_cons_zero, List.getElem_cons_succ]
  refine wpAnyH_take (i := 4) (v := ?_) rfl (by kernel_rfl) (by kernel_rfl) (by kernel_rfl) (fun _ _ _ h => h) (Or.inl ⟨by rfl, ?_⟩) (by assumption) ?_
  rotate_left
  · intro w hSw
    try dsimp only at hSw
    go_simp
    try with_reducible rfl
  simp only [Act.put, List.setIfInBounds_toArray, List.set_cons_zero, List.set_cons_succ, List.getElem_toArray, List.getElem_cons_zero, List.getElem_cons_succ]
  refine wpAnyH_take (i := 5) (v := ?_) rfl (by kernel_rfl) (by kernel_rfl) (by kernel_rfl) (fun _ _ _ h => h) (Or.inl ⟨by rfl, ?_⟩) (by assumption) ?_
  rotate_left
  · intro w hSw
    try dsimp only at hSw
    go_simp
    try with_reducible rfl
  simp only [Act.put, List.setIfInBounds_toArray, List.set_cons_zero, List.set_cons_succ, List.getElem_toArray, List.getElem_cons_zero, List.getElem_cons_succ]
  refine wpAnyH_take (i := 6) (v := ?_) rfl (by kernel_rfl) (by kernel_rfl) (by kernel_rfl) (fun _ _ _ h => h) (Or.inl ⟨by rfl, ?_⟩) (by assumption) ?_
  rotate_left
  · intro w hSw
    try dsimp only at hSw
    go_simp
    try with_reducible rfl
  simp only [Act.put, List.setIfInBounds_toArray, List.set_cons_zero, List.set_cons_succ, List.getElem_toArray, List.getElem_cons_zero, List.getElem_cons_succ]
  refine wpAnyH_take (i := 7) (v := ?_) rfl (by kernel_rfl) (by kernel_rfl) (by kernel_rfl) (fun _ _ _ h => h) (Or.inl ⟨by rfl, ?_⟩) (by assumption) ?_
  rotate_left
  · intro w hSw
    try dsimp only at hSw
    go_simp
    try with_reducible rfl
  simp only [Act.put, List.setIfInBounds_toArray, List.set_cons_zero, List.set_cons_succ, List.getElem_toArray, List.getElem_cons_zero, List.getElem_cons_succ]
  refine wpAnyH_take (i := 8) (v := ?_) rfl (by kernel_rfl) (by kernel_rfl) (by kernel_rfl) (fun _ _ _ h => h) (Or.inl ⟨by rfl, ?_⟩) (by assumption) ?_
  rotate_left
  · intro w hSw
    have u0 := (HX.out.kept hSw).cell 0
    have u1 := (HX.out.kept hSw).cell 1
    simp at u0 u1
    go_simp
    try with_reducible rfl
  simp only [Act.put, List.setIfInBounds_toArray, List.set_cons_zero, List.set_cons_succ, List.getElem_toArray, List.getElem_cons_zero, List.getElem_cons_succ]
  refine wpAnyH_take (i := 9) (v := ?_) rfl (by kernel_rfl) (by kernel_rfl) (by kernel_rfl) (fun _ _ _ h => h) (Or.inl ⟨by rfl, ?_⟩) (by assumption) ?_
  rotate_left
  · intro w hSw
    try dsimp only at hSw
    go_simp
    try with_reducible rfl
  simp only [Act.put, List.setIfInBounds_toArray, List.set_cons_zero, List.set_cons_succ, List.getElem_toArray, List.getElem_cons_zero, List.getElem_cons_succ]
  refine wpAnyH_take (i := 10) (v := ?_) rfl (by kernel_rfl) (by kernel_rfl) (by kernel_rfl) (fun _ _ _ h => h) (Or.inl ⟨by rfl, ?_⟩) (by assumption) ?_
  rotate_left
  · intro w hSw
    try dsimp only at hSw
    go_simp
    try with_reducible rfl
  simp only [Act.put, List.setIfInBounds_toArray, List.set_cons_zero, List.set_cons_succ, List.getElem_toArray, List.getElem_cons_zero, List.getElem_cons_succ]
  refine wpAnyH_take (i := 11) (v := ?_) rfl (by kernel_rfl) (by kernel_rfl) (by kernel_rfl) (fun _ _ _ h => h) (Or.inl ⟨by rfl, ?_⟩) (by assumption) ?_
  rotate_left
  · intro w hSw
    try dsimp only at hSw
    go_simp
    try with_reducible rfl
  simp only [Act.put, List.setIfInBounds_toArray, List.set_cons_zero, List.set_cons_succ, List.getElem_toArray, List.getElem_cons_zero, List.getElem_cons_succ]
  refine wpAnyH_take (i := 12) (v := ?_) rfl (by kernel_rfl) (by kernel_rfl) (by kernel_rfl) (fun _ _ _ h => h) (Or.inl ⟨by rfl, ?_⟩) (by assumption) ?_
  rotate_left
  · intro w hSw
    try dsimp only at hSw
    go_simp
    try with_reducible rfl
  simp only [Act.put, List.setIfInBounds_toArray, List.set_cons_zero, List.set_cons_succ, List.getElem_toArray, List.getElem_cons_zero, List.getElem_cons_succ]
  refine wpAnyH_take (i := 13) (v := ?_) rfl (by kernel_rfl) (by kernel_rfl) (by kernel_rfl) (fun _ _ _ h => h) (Or.inl ⟨by rfl, ?_⟩) (by assumption) ?_
  rotate_left
  · intro w hSw
    have u0 := (HX.out.kept hSw).cell 0
    have u1 := (HX.out.kept hSw).cell 1
    simp at u0 u1
    go_simp
    try with_reducible rfl
  simp only [Act.put, List.setIfInBounds_toArray, List.set_cons_zero, List.set_cons_succ, List.getElem_toArray, List.getElem_cons_zero, List.getElem_cons_succ]
  refine wpAnyH_take (i := 14) (v := ?_) rfl (by kernel_rfl) (by kernel_rfl) (by kernel_rfl) (fun _ _ _ h => h) (Or.inl ⟨by rfl, ?_⟩) (by assumption) ?_
  rotate_left
  · intro w hSw
    try dsimp only at hSw
    go_simp
    try with_reducible rfl
  simp only [Act.put, List.setIfInBounds_toArray, List.set_cons_zero, List.set_cons_succ, List.getElem_toArray, List.getElem_cons_zero, List.getElem_cons_succ]
  refine wpAnyH_take (i := 15) (v := ?_) rfl (by kernel_rfl) (by kernel_rfl) (by kernel_rfl) (fun _ _ _ h => h) (Or.inl ⟨by rfl, ?_⟩) (by assumption) ?_
  rotate_left
  · intro w hSw
    try dsimp only at hSw
    go_simp
    try with_reducible rfl
  simp only [Act.put, List.setIfInBounds_toArray, List.set_cons_zero, List.set_cons_succ, List.getElem_toArray, List.getElem_cons_zero, List.getElem_cons_succ]
  refine wpAnyH_take (i := 16) (v := ?_) rfl (by kernel_rfl) (by kernel_rfl) (by kernel_rfl) (fun _ _ _ h => h) (Or.inl ⟨by rfl, ?_⟩) (by assumption) ?_
  rotate_left
  · intro w hSw
    try dsimp only at hSw
    go_simp
    try with_reducible rfl
  simp only [Act.put, List.setIfInBounds_toArray, List.set_cons_zero, List.set_cons_succ, List.getElem_toArray, List.getElem_cons_zero, List.getElem_cons_succ]
  refine wpAnyH_take (i := 17) (v := ?_) rfl (by kernel_rfl) (by kernel_rfl) (by kernel_rfl) (fun _ _ _ h => h) (Or.inl ⟨by rfl, ?_⟩) (by assumption) ?_
  rotate_left
  · intro w hSw
    try dsimp only at hSw
    go_simp
    try with_reducible rfl
  simp only [Act.put, List.setIfInBounds_toArray, List.set_cons_zero, List.set_cons_succ, List.getElem_toArray, List.getElem_cons_zero, List.getElem_cons_succ]
  refine wpAnyH_take (i := 18) (v := ?_) rfl (by kernel_rfl) (by kernel_rfl) (by kernel_rfl) (fun _ _ _ h => h) (Or.inl ⟨by rfl, ?_⟩) (by assumption) ?_
  rotate_left
  · intro w hSw
    try dsimp only at hSw
    go_simp
    try with_reducible rfl
  simp only [Act.put, List.setIfInBounds_toArray, List.set_cons_zero, List.set_cons_succ, List.getElem_toArray, List.getElem_cons_zero, List.getElem_cons_succ]
  refine wpAnyH_take (i := 19) (v := ?_) rfl (by kernel_rfl) (by kernel_rfl) (by kernel_rfl) (fun _ _ _ h => h) (Or.inl ⟨by rfl, ?_⟩) (by assumption) ?_
  rotate_left
  · intro w hSw
    have u0 := (HX.out.kept hSw).cell 0
    have u1 := (HX.out.kept hSw).cell 1
    simp at u0 u1
    go_simp
    try with_reducible rfl
  simp only [Act.put, List.setIfInBounds_toArray, List.set_cons_zero, List.set_cons_succ, List.getElem_toArray, List.getElem_cons_zero, List.getElem_cons_succ]
  refine wpAnyH_take (i := 20) (v := ?_) rfl (by kernel_rfl) (by kernel_rfl) (by kernel_rfl) (fun _ _ _ h => h) (Or.inl ⟨by rfl, ?_⟩) (by assumption) ?_
  rotate_left
  · intro w hSw
    try dsimp only at hSw
    go_simp
    try with_reducible rfl
  simp only [Act.put, List.setIfInBounds_toArray, List.set_cons_zero, List.set_cons_succ, List.getElem_toArray, List.getElem_cons_zero, List.getElem_cons_succ]
  refine wpAnyH_take (i := 21) (v := ?_) rfl (by kernel_rfl) (by kernel_rfl) (by kernel_rfl) (fun _ _ _ h => h) (Or.inl ⟨by rfl, ?_⟩) (by assumption) ?_
  rotate_left
  · intro w hSw
    try dsimp only at hSw
    go_simp
    try with_reducible rfl
  simp only [Act.put, List.setIfInBounds_toArray, List.set_cons_zero, List.set_cons_succ, List.getElem_toArray, List.getElem_cons_zero, List.getElem_cons_succ]
  refine wpAnyH_take (i := 22) (v := ?_) rfl (by kernel_rfl) (by kernel_rfl) (by kernel_rfl) (fun _ _ _ h => h) (Or.inl ⟨by rfl, ?_⟩) (by assumption) ?_
  rotate_left
  · intro w hSw
    have u0 := (HX.out.kept hSw).cell 0
    have u1 := (HX.out.kept hSw).cell 1
    simp at u0 u1
    go_simp
    try with_reducible rfl
  simp only [Act.put, List.setIfInBounds_toArray, List.set_cons_zero, List.set_cons_succ, List.getElem_toArray, List.getElem_cons_zero, List.getElem_cons_succ]
  refine wpAnyH_take (i := 23) (v := ?_) rfl (by kernel_rfl) (by kernel_rfl) (by kernel_rfl) (fun _ _ _ h => h) (Or.inl ⟨by rfl, ?_⟩) (by assumption) ?_
  rotate_left
  · intro w hSw
    try dsimp only at hSw
    go_simp
    try with_reducible rfl
  simp only [Act.put, List.setIfInBounds_toArray, List.set_cons_zero, List.set_cons_succ, List.getElem_toArray, List.getElem_cons_zero, List.getElem_cons_succ]
  refine wpAnyH_ready (rs := [24]) (by kernel_rfl) (by simp) ?_
  refine AllReadyH.cons rfl (fun Kc hKc => ?_) AllReadyH.nil
  go_simp
  go_wp2_with ((with_reducible refine (PT.out _).mono ?_; rintro e wq ⟨rfl, hw⟩; subst hw))
  refine hKc.out _ _ ?_ (fun hHeld => ?_)
  · first | assumption | exact hHeld
  clear hKc Kc
  refine wpAnyH_take (i := 25) (v := ?_) rfl (by kernel_rfl) (by kernel_rfl) (by kernel_rfl) (fun _ _ _ h => h) (Or.inl ⟨by rfl, ?_⟩) (by assumption) ?_
  rotate_left
  · intro w hSw
    try dsimp only at hSw
    go_simp
    try with_reducible rfl
  simp only [Act.put, List.setIfInBounds_toArray, List.set_cons_zero, List.set_cons_succ, List.getElem_toArray, List.getElem_cons_zero, List.getElem_cons_succ]
  refine wpAnyH_take (i := 26) (v := ?_) rfl (by kernel_rfl) (by kernel_rfl) (by kernel_rfl) (fun _ _ _ h => h) (Or.inl ⟨by rfl, ?_⟩) (by assumption) ?_
  rotate_left
  · intro w hSw
    try dsimp only at hSw
    go_simp
    try with_reducible rfl
  simp only [Act.put, List.setIfInBounds_toArray, List.set_cons_zero, List.set_cons_succ, List.getElem_toArray, List.getElem_cons_zero, List.getElem_cons_succ]
  refine wpAnyH_take (i := 27) (v := ?_) rfl (by kernel_rfl) (by kernel_rfl) (by kernel_rfl) (fun _ _ _ h => h) (Or.inl ⟨by rfl, ?_⟩) (by assumption) ?_
  rotate_left
  · intro w hSw
    try dsimp only at hSw
    go_simp
    try with_reducible rfl
  simp only [Act.put, List.setIfInBounds_toArray, List.set_cons_zero, List.set_cons_succ, List.getElem_toArray, List.getElem_cons_zero, List.getElem_cons_succ]
  refine wpAnyH_done (by kernel_rfl) ?_ _
  have HBR := Lib.hid hHeld
  clear hHeld
  go_wp2
  go_ret
  exact ⟨rfl, by rw [← HAW.out]; exact HB.out.trans (HBR.out.mono (by have := HX.out.lt; omega))⟩
end Go.Proofs.Ythbkljeibmkimaa

/-
  The walk of gaugerref18.In. Conditions: none beyond those stated at each theorem.
-/
namespace Go.Proofs.Ythbkljeibmkimaa
open Go.RowKit
set_option linter.unusedVariables false
set_option linter.unusedSimpArgs false

theorem lies_far {p1 p2 q1 q2 : Nat} (h : ¬ p1 ≤ q1) : liesB (p1, p2) (q1, q2) = false := by unfold liesB; simp [h]
theorem lies_near {p1 p2 q1 q2 t : Nat} (h : p1 + t = q1) : liesB (p1, p2) (q1, q2) = ((p2 : Int) / 2 ^ t == (q2 : Int)) := by
  have e : (p2 : Int) / 2 ^ t = ((p2 / 2 ^ t : Nat) : Int) := by rw [Int.natCast_ediv, Int.natCast_pow]; rfl
  rw [e]
  unfold liesB
  have h1 : p1 ≤ q1 := by omega
  have h2 : q1 - p1 = t := by omega
  simp only [h1, h2, decide_true, Bool.true_and]
  by_cases h3 : p2 / 2 ^ t = q2
  · rw [h3]; simp
  · rw [decide_eq_false h3]
    symm
    rw [beq_eq_false_iff_ne]
    intro h4
    exact h3 (by exact_mod_cast h4)
set_option maxRecDepth 100000 in
set_option maxHeartbeats 4000000 in
theorem in_any (p1 p2 q1 q2 : Nat) (h1 : p1 ≤ 59) (h2 : p2 < 18446744073709551616) (h3 : q1 ≤ 59) (h4 : q2 < 18446744073709551616) (w : World) :
    Calls Try.prog 16 #[.agg #[.int .i64 (p1 : Int), .int .u64 (p2 : Int)], .agg #[.int .i64 (q1 : Int), .int .u64 (q2 : Int)]] w fun e w' => e = .returned (.bool (liesB (p1, p2) (q1, q2))) ∧ Below w.heap.size w w' := by
  obtain ⟨g1, g2, hb1, hsz1⟩ := news2 w (.cells #[.int .i64 (p1 : Int), .int .u64 (p2 : Int)] 42) (.cells #[.int .i64 (q1 : Int), .int .u64 (q2 : Int)] 42)
  have HX1 : Hid (Blk _ w.heap.size 42 #[.int .i64 (p1 : Int), .int .u64 (p2 : Int)]) := Lib.hid g1
  have HX2 : Hid (Blk _ (w.heap.size + 1) 42 #[.int .i64 (q1 : Int), .int .u64 (q2 : Int)]) := Lib.hid g2
  have HB1 := Lib.hid hb1
  have u0 := HX1.out.cell 0
  have u1 := HX1.out.cell 1
  have v0 := HX2.out.cell 0
  have v1 := HX2.out.cell 1
  simp at u0 u1 v0 v1
  clear g1 g2 hb1 hsz1
  by_cases hpq : p1 ≤ q1
  · obtain ⟨t, ht⟩ : ∃ t, p1 + t = q1 := ⟨q1 - p1, by omega⟩
    have HR := Lib.hid (lies_near (p2 := p2) (q2 := q2) ht)
    have htz : (q1 : Int) - (p1 : Int) = (t : Int) := by omega
    have htb : t ≤ 59 := by omega
    have ew : IntKind.u64.wrap (t : Int) = (t : Int) := by rw [wrapU_mod]; omega
    have ei : IntKind.i64.wrap (t : Int) = (t : Int) := wrapI_of _ (by omega) (by omega)
    have hpz : (p1 : Int) ≤ (q1 : Int) := by omega
    clear ht
    rw [HR.out]
    go_enter Try.func16, Try.ntmps16
    go_wp2_with fail
    go_ret
    exact ⟨rfl, HB1.out⟩
  · have HR := Lib.hid (lies_far (p2 := p2) (q2 := q2) hpq)
    have hpz : ¬ (p1 : Int) ≤ (q1 : Int) := by omega
    rw [HR.out]
    go_enter Try.func16, Try.ntmps16
    go_wp2_with fail
    go_ret
    exact ⟨rfl, HB1.out⟩
end Go.Proofs.Ythbkljeibmkimaa
