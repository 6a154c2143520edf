/-
  Plain numbers, no program: the powers of a number of full order reach every residue (so Fermat's law holds), and P = 2^61 - 1 is such a modulus. Conditions: none beyond those stated at each theorem.
-/
namespace Go.Proofs.Ytbghchgmoiniiaa

/-! ### A map of the numbers below n into themselves that keeps unlike ones unlike reaches all of them -/
theorem reach : ∀ (n : Nat) (f : Nat → Nat), (∀ i, i < n → f i < n) → (∀ i j, i < n → j < n → f i = f j → i = j) → ∀ y, y < n → ∃ i, i < n ∧ f i = y
  | 0, _, _, _, y, hy => absurd hy (by omega)
  | n + 1, f, hf, hi, y, hy => by
    -- g: f with the value n sent to f n
    have hn := hf n (by omega)
    let g : Nat → Nat := fun i => if f i = n then f n else f i
    have hg : ∀ i, i < n → g i < n := by
      intro i h
      show (if f i = n then f n else f i) < n
      have h1 := hf i (by omega)
      by_cases c : f i = n
      · rw [if_pos c]
        have : f n ≠ n := by
          intro e
          have := hi i n (by omega) (by omega) (c.trans e.symm)
          omega
        omega
      · rw [if_neg c]; omega
    have hgi : ∀ i j, i < n → j < n → g i = g j → i = j := by
      intro i j h1 h2 e
      have e' : (if f i = n then f n else f i) = (if f j = n then f n else f j) := e
      by_cases ci : f i = n <;> by_cases cj : f j = n
      · exact hi i j (by omega) (by omega) (ci.trans cj.symm)
      · rw [if_pos ci, if_neg cj] at e'
        have := hi n j (by omega) (by omega) e'
        omega
      · rw [if_neg ci, if_pos cj] at e'
        have := hi i n (by omega) (by omega) e'
        omega
      · rw [if_neg ci, if_neg cj] at e'
        exact hi i j (by omega) (by omega) e'
    by_cases cy : y = f n
    · exact ⟨n, by omega, cy.symm⟩
    · by_cases cyn : y = n
      · -- some i below n has f i = n: else f n = n
        by_cases hfn : f n = n
        · exact absurd (cyn.trans hfn.symm) cy
        · obtain ⟨i, h1, h2⟩ := reach n g hg hgi (f n) (by omega)
          have e' : (if f i = n then f n else f i) = f n := h2
          by_cases ci : f i = n
          · exact ⟨i, by omega, by rw [ci, cyn]⟩
          · rw [if_neg ci] at e'
            have := hi i n (by omega) (by omega) e'
            omega
      · obtain ⟨i, h1, h2⟩ := reach n g hg hgi y (by omega)
        have e' : (if f i = n then f n else f i) = y := h2
        by_cases ci : f i = n
        · rw [if_pos ci] at e'; exact absurd e'.symm cy
        · rw [if_neg ci] at e'; exact ⟨i, by omega, e'⟩

theorem pow_mod_one (m g k : Nat) (hm : 1 < m) (h : g % m = 1) : g ^ k % m = 1 := by
  rw [Nat.pow_mod, h, Nat.one_pow, Nat.mod_eq_of_lt hm]

theorem mul_mod_one {m a b : Nat} (ha : a % m = 1) (hb : b % m = 1) (hm : 1 < m) : a * b % m = 1 := by
  rw [Nat.mul_mod, ha, hb, Nat.mul_one, Nat.mod_eq_of_lt hm]

/-- what is of full order reaches every residue but 0 -/
theorem powers_reach (m g : Nat) (hm : 1 < m) (h1 : g ^ (m - 1) % m = 1) (hd : ∀ d, 0 < d → d < m - 1 → g ^ d % m ≠ 1)
    (a : Nat) (ha : a % m ≠ 0) : ∃ i, i < m - 1 ∧ g ^ i % m = a % m := by
  have nz : ∀ i, i < m - 1 → g ^ i % m ≠ 0 := by
    intro i hi e
    have : g ^ i * g ^ (m - 1 - i) % m = 1 := by rw [← Nat.pow_add, show i + (m - 1 - i) = m - 1 by omega, h1]
    rw [Nat.mul_mod, e, Nat.zero_mul, Nat.zero_mod] at this
    omega
  have cancel : ∀ i j, i ≤ j → j < m - 1 → g ^ i % m = g ^ j % m → i = j := by
    intro i j hij hj e
    by_cases c : i = j
    · exact c
    exfalso
    refine hd (j - i) (by omega) (by omega) ?_
    -- g^(m-1-i) * g^i = 1; g^(m-1-i) * g^j = g^(m-1) * g^(j-i)
    have t1 : g ^ (m - 1 - i) * g ^ i % m = 1 := by rw [← Nat.pow_add, show (m - 1 - i) + i = m - 1 by omega, h1]
    have t2 : g ^ (m - 1 - i) * g ^ j % m = 1 := by rw [Nat.mul_mod, ← e, ← Nat.mul_mod, t1]
    rw [← Nat.pow_add, show (m - 1 - i) + j = (m - 1) + (j - i) by omega, Nat.pow_add, Nat.mul_mod, h1, Nat.one_mul, Nat.mod_mod] at t2
    exact t2
  have key := reach (m - 1) (fun i => g ^ i % m - 1)
    (by
      intro i hi
      have a1 := nz i hi
      have a2 : g ^ i % m < m := Nat.mod_lt _ (by omega)
      show g ^ i % m - 1 < m - 1
      omega)
    (by
      intro i j hi hj e
      have a1 := nz i hi
      have a2 := nz j hj
      have e' : g ^ i % m - 1 = g ^ j % m - 1 := e
      have e2 : g ^ i % m = g ^ j % m := by omega
      rcases Nat.le_total i j with c | c
      · exact cancel i j c hj e2
      · exact (cancel j i c hi e2.symm).symm)
    (a % m - 1)
    (by have : a % m < m := Nat.mod_lt _ (by omega)
        omega)
  obtain ⟨i, hi, e⟩ := key
  have a1 := nz i hi
  have e' : g ^ i % m - 1 = a % m - 1 := e
  exact ⟨i, hi, by omega⟩

theorem fermat_of (m g : Nat) (hm : 1 < m) (h1 : g ^ (m - 1) % m = 1) (hd : ∀ d, 0 < d → d < m - 1 → g ^ d % m ≠ 1)
    (a : Nat) (ha : a % m ≠ 0) : a ^ (m - 1) % m = 1 := by
  obtain ⟨i, _, e⟩ := powers_reach m g hm h1 hd a ha
  rw [Nat.pow_mod, ← e, ← Nat.pow_mod, ← Nat.pow_mul, Nat.mul_comm, Nat.pow_mul]
  exact pow_mod_one m _ i hm h1

/-! ### The order of g, by the prime factors of m - 1 -/
theorem gcd_exp (m g : Nat) (hm : 1 < m) : ∀ (a b : Nat), g ^ a % m = 1 → g ^ b % m = 1 → g ^ (Nat.gcd a b) % m = 1 := by
  intro a
  induction a using Nat.strongRecOn with
  | _ a ih =>
    intro b ha hb
    by_cases h0 : a = 0
    · subst h0; rw [Nat.gcd_zero_left]; exact hb
    · rw [Nat.gcd_rec]
      refine ih (b % a) (Nat.mod_lt _ (by omega)) a ?_ ha
      have e : b = a * (b / a) + b % a := (Nat.div_add_mod b a).symm
      have t : g ^ (a * (b / a)) % m = 1 := by rw [Nat.pow_mul]; exact pow_mod_one m _ _ hm ha
      have hb' : g ^ (a * (b / a) + b % a) % m = 1 := by rw [← e]; exact hb
      rw [Nat.pow_add, Nat.mul_mod, t, Nat.one_mul, Nat.mod_mod] at hb'
      exact hb'

/-- q has no divisors but 1 and itself -/
def PrimeN (q : Nat) : Prop := 1 < q ∧ ∀ d, d ∣ q → d = 1 ∨ d = q

theorem coprime_of {q k : Nat} (hq : PrimeN q) (h : ¬ q ∣ k) : Nat.gcd k q = 1 := by
  rcases hq.2 _ (Nat.gcd_dvd_right k q) with e | e
  · exact e
  · exact absurd (by rw [← e]; exact Nat.gcd_dvd_left k q) h

/-- a number that divides the product of a list of primes, and none of these divides it, is 1 -/
theorem coprime_prod : ∀ (l : List Nat) (k : Nat), (∀ q, q ∈ l → PrimeN q) → (∀ q, q ∈ l → ¬ q ∣ k) → Nat.gcd k (l.foldr (· * ·) 1) = 1
  | [], k, _, _ => by simp
  | q :: l, k, hp, hn => by
    have h1 : Nat.Coprime k q := coprime_of (hp q (by simp)) (hn q (by simp))
    have h2 : Nat.Coprime k (l.foldr (· * ·) 1) := coprime_prod l k (fun q h => hp q (by simp [h])) (fun q h => hn q (by simp [h]))
    exact Nat.Coprime.mul_right h1 h2

theorem full_order (m g : Nat) (l : List Nat) (hm : 1 < m) (hl : l.foldr (· * ·) 1 = m - 1) (hp : ∀ q, q ∈ l → PrimeN q)
    (h1 : g ^ (m - 1) % m = 1) (hq : ∀ q, q ∈ l → g ^ ((m - 1) / q) % m ≠ 1) : ∀ d, 0 < d → d < m - 1 → g ^ d % m ≠ 1 := by
  intro d h0 hd e
  have he := gcd_exp m g hm d (m - 1) e h1
  generalize hgd : Nat.gcd d (m - 1) = c at he
  have c1 : c ∣ m - 1 := by rw [← hgd]; exact Nat.gcd_dvd_right _ _
  have c2 : c ≤ d := by rw [← hgd]; exact Nat.gcd_le_left _ h0
  have c0 : 0 < c := by rw [← hgd]; exact Nat.gcd_pos_of_pos_left _ h0
  obtain ⟨k, hk⟩ := c1
  have hk1 : k ≠ 1 := by
    intro e1; subst e1; omega
  -- some q of l divides k
  have hex : ∃ q, q ∈ l ∧ q ∣ k := by
    refine Classical.byContradiction fun hno => hk1 ?_
    have hg := coprime_prod l k hp (fun q h1 h2 => hno ⟨q, h1, h2⟩)
    rw [hl] at hg
    have : k ∣ m - 1 := ⟨c, by rw [hk, Nat.mul_comm]⟩
    rw [Nat.gcd_eq_left this] at hg
    exact hg
  obtain ⟨q, hql, r, hr⟩ := hex
  have q1 := (hp q hql).1
  refine hq q hql ?_
  have : (m - 1) / q = c * r := by
    rw [hk, hr, Nat.mul_left_comm]
    exact Nat.mul_div_cancel_left _ (by omega)
  rw [this, Nat.pow_mul]
  exact pow_mod_one m _ r hm he

/-! ### Powers by squaring -/
def fpow (m : Nat) : Nat → Nat → Nat → Nat
  | 0, _, _ => 1 % m
  | f + 1, a, n => if n = 0 then 1 % m else if n % 2 = 1 then a * fpow m f (a * a % m) (n / 2) % m else fpow m f (a * a % m) (n / 2)

theorem fpow_eq (m : Nat) : ∀ (f a n : Nat), n < 2 ^ f → fpow m f a n = a ^ n % m
  | 0, a, n, h => by
    have : n = 0 := by simp at h; exact h
    subst this; simp [fpow]
  | f + 1, a, n, h => by
    unfold fpow
    have hp : 2 ^ (f + 1) = 2 * 2 ^ f := by rw [Nat.pow_succ, Nat.mul_comm]
    by_cases h0 : n = 0
    · subst h0; simp
    · rw [if_neg h0]
      have ih := fpow_eq m f (a * a % m) (n / 2) (by omega)
      have sq : (a * a % m) ^ (n / 2) % m = a ^ (2 * (n / 2)) % m := by
        rw [← Nat.pow_mod, Nat.pow_mul, show a ^ 2 = a * a by rw [Nat.pow_succ, Nat.pow_one]]
      by_cases ho : n % 2 = 1
      · rw [if_pos ho, ih, sq, Nat.mul_mod, Nat.mod_mod, ← Nat.mul_mod, Nat.mul_comm, ← Nat.pow_succ]
        rw [show (2 * (n / 2)).succ = n by omega]
      · rw [if_neg ho, ih, sq, show 2 * (n / 2) = n by omega]

/-! ### P -/
def PN : Nat := 2305843009213693951
/-- P - 1 -/
def EN : Nat := 2305843009213693950
theorem PN_sub : PN - 1 = EN := rfl
def facs : List Nat := [2, 3, 3, 5, 5, 7, 11, 13, 31, 41, 61, 151, 331, 1321]

theorem facs_prod : facs.foldr (· * ·) 1 = EN := by decide +kernel
theorem facs_prime : ∀ q, q ∈ facs → PrimeN q := by
  have h : ∀ q, q ∈ facs → 1 < q ∧ ∀ d, d < q + 1 → d ∣ q → d = 1 ∨ d = q := by decide +kernel
  intro q hq
  obtain ⟨a, b⟩ := h q hq
  exact ⟨a, fun d hd => b d (by have := Nat.le_of_dvd (by omega) hd; omega) hd⟩

theorem facs_div : ∀ q, q ∈ facs → fpow PN 61 37 (EN / q) ≠ 1 := by decide +kernel
theorem pow_full : fpow PN 61 37 EN = 1 := by decide +kernel

theorem EN_lt : EN < 2 ^ 61 := by decide +kernel

theorem fermatN (a : Nat) (ha : a % PN ≠ 0) : a ^ EN % PN = 1 := by
  have h1 : 37 ^ (PN - 1) % PN = 1 := by rw [PN_sub, ← fpow_eq PN 61 37 EN EN_lt]; exact pow_full
  have hm : 1 < PN := by decide +kernel
  have := fermat_of PN 37 hm h1
    (full_order PN 37 facs hm (facs_prod.trans PN_sub.symm) facs_prime h1 (by
      intro q hq
      rw [PN_sub, ← fpow_eq PN 61 37 (EN / q) (Nat.lt_of_le_of_lt (Nat.div_le_self _ _) EN_lt)]
      exact facs_div q hq)) a ha
  rw [PN_sub] at this
  exact this
end Go.Proofs.Ytbghchgmoiniiaa
