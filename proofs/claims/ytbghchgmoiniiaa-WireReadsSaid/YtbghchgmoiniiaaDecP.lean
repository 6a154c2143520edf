/-
  Plain: which bytes are a stack. Conditions: none beyond those stated at each theorem.
-/
import Derived.Test.YtbghchgmoiniiaaVarQ
import Derived.Test.YtbghchgmoiniiaaWirB
namespace Go.Proofs.Ytbghchgmoiniiaa
open Go.RowKit
set_option linter.unusedVariables false
set_option linter.unusedSimpArgs false

theorem putN_head {u v : Nat} {r s : List Int} (h : putN u ++ r = putN v ++ s) : u = v ∧ r = s := by
  have e := VL_prefix (putN_VL u) (putN_VL v) h
  have e2 := putN_inj e
  subst e2
  exact ⟨rfl, List.append_cancel_left h⟩
/-- what bytes tell, the lowest one first -/
def leV : List Int → Int
  | [] => 0
  | x :: l => x + 256 * leV l
theorem leV_bd {l : List Int} (h : Byts l) : 0 ≤ leV l ∧ leV l < 256 ^ l.length := by
  induction l with
  | nil => exact ⟨by simp [leV], by simp [leV]⟩
  | cons x l ih =>
    have hx := h x (by simp)
    obtain ⟨h1, h2⟩ := ih (fun u hu => h u (by simp [hu]))
    rw [leV, List.length_cons, Int.pow_succ]
    exact ⟨by omega, by omega⟩
theorem leV_append (l : List Int) (x : Int) : leV (l ++ [x]) = leV l + 256 ^ l.length * x := by
  induction l with
  | nil => simp [leV]
  | cons y l ih =>
    rw [List.cons_append, leV, ih, leV, List.length_cons, Int.pow_succ, Int.mul_add, Int.mul_comm (256 ^ l.length) 256, Int.mul_assoc]
    omega
theorem leB_cons (u : Int) (n : Nat) : leB u (n + 1) = (u % 256) :: leB (u / 256) n := by
  unfold leB
  rw [List.range_succ_eq_map, List.map_cons, List.map_map]
  congr 1
  · simp
  · apply List.map_congr_left
    intro i _
    simp only [Function.comp_apply, Nat.succ_eq_add_one]
    rw [Int.pow_succ, Int.mul_comm (256 ^ i) 256, ← Int.ediv_ediv_of_nonneg (by decide)]
theorem leB_leV {l : List Int} (h : Byts l) : leB (leV l) l.length = l := by
  induction l with
  | nil => rfl
  | cons x l ih =>
    have hx := h x (by simp)
    have e1 : (x + 256 * leV l) % 256 = x := by omega
    have e2 : (x + 256 * leV l) / 256 = leV l := by omega
    rw [List.length_cons, leV, leB_cons, e1, e2, ih (fun u hu => h u (by simp [hu]))]
theorem leV_leB (n : Nat) (u : Int) (h0 : 0 ≤ u) (h1 : u < 256 ^ n) : leV (leB u n) = u := by
  induction n generalizing u with
  | zero => simp [leB, leV] at h1 ⊢; omega
  | succ n ih =>
    rw [leB_cons, leV, ih (u / 256) (by omega) (by rw [Int.pow_succ] at h1; omega)]
    omega
theorem leB_head {s t : Int} {n : Nat} {r q : List Int} (hs : 0 ≤ s) (ht : 0 ≤ t) (hs1 : s < 256 ^ n) (ht1 : t < 256 ^ n) (h : leB s n ++ r = leB t n ++ q) : s = t ∧ r = q := by
  have e := List.append_inj h (by rw [leB_len, leB_len])
  refine ⟨?_, e.2⟩
  rw [← leV_leB n s hs hs1, e.1, leV_leB n t ht ht1]
theorem p256 : (256 : Int) ^ 8 = 18446744073709551616 := by decide
/-- bytes begin with a right config -/
def CfgS (bs : List Int) (b r d m s : Int) (rest : List Int) : Prop :=
  rightB b r d m = true ∧ 0 ≤ s ∧ s < 18446744073709551616 ∧ bs = putN b.toNat ++ (putN r.toNat ++ (putN d.toNat ++ (putN m.toNat ++ (leB s 8 ++ rest))))
theorem CfgS.unique {bs : List Int} {b r d m s b' r' d' m' s' : Int} {q q' : List Int} (h : CfgS bs b r d m s q) (k : CfgS bs b' r' d' m' s' q') : b = b' ∧ r = r' ∧ d = d' ∧ m = m' ∧ s = s' ∧ q = q' := by
  obtain ⟨h1, h2, h3, h4⟩ := h
  obtain ⟨k1, k2, k3, k4⟩ := k
  have hr := right_of h1
  have kr := right_of k1
  rw [h4] at k4
  obtain ⟨e1, k4⟩ := putN_head k4
  obtain ⟨e2, k4⟩ := putN_head k4
  obtain ⟨e3, k4⟩ := putN_head k4
  obtain ⟨e4, k4⟩ := putN_head k4
  obtain ⟨e5, e6⟩ := leB_head h2 k2 (by rw [p256]; exact h3) (by rw [p256]; exact k3) k4
  exact ⟨by omega, by omega, by omega, by omega, e5, e6⟩
/-- the bytes of the levels below one -/
def rowsB (Z : Nat → List Int) : Nat → List Int
  | 0 => []
  | j + 1 => rowsB Z j ++ rowB (Z j)
def allZ (Z : Nat → List Int) : Nat → List Int
  | 0 => []
  | j + 1 => allZ Z j ++ Z j
theorem rowsB_all (Z : Nat → List Int) (j : Nat) : rowsB Z j = rowB (allZ Z j) := by
  induction j with
  | zero => rfl
  | succ j ih => rw [rowsB, allZ, rowB_append, ih]
theorem rowsB_byts (Z : Nat → List Int) (j : Nat) : Byts (rowsB Z j) := by rw [rowsB_all]; exact rowB_byts _
theorem rowsB_congr {Z Y : Nat → List Int} {j : Nat} (h : ∀ n, n < j → Z n = Y n) : rowsB Z j = rowsB Y j := by
  induction j with
  | zero => rfl
  | succ j ih => rw [rowsB, rowsB, ih (fun n hn => h n (by omega)), h j (by omega)]
def Shaped (b r d m : Int) (Z : Nat → List Int) (j : Nat) : Prop := ∀ n, n < j → (Z n).length = cellsN b r d m (n : Int) ∧ Fit (Z n)
theorem allZ_len {b r d m : Int} {Z : Nat → List Int} {j : Nat} (h : Shaped b r d m Z j) : (allZ Z j).length = sizeUp b r d m j := by
  induction j with
  | zero => rfl
  | succ j ih => rw [allZ, sizeUp, List.length_append, ih (fun n hn => h n (by omega)), (h j (by omega)).1]
theorem allZ_fit {b r d m : Int} {Z : Nat → List Int} {j : Nat} (h : Shaped b r d m Z j) : Fit (allZ Z j) := by
  induction j with
  | zero => exact Fit.nil
  | succ j ih =>
    intro u hu
    rw [allZ] at hu
    rcases List.mem_append.1 hu with hu | hu
    · exact ih (fun n hn => h n (by omega)) u hu
    · exact (h j (by omega)).2 u hu
theorem rowsB_le {b r d m : Int} {Z : Nat → List Int} {j : Nat} (h : Shaped b r d m Z j) : sizeUp b r d m j ≤ (rowsB Z j).length ∧ (rowsB Z j).length ≤ 10 * sizeUp b r d m j := by
  rw [rowsB_all, ← allZ_len h]
  exact ⟨rowB_ge _, rowB_le _ (allZ_fit h)⟩
theorem rowsB_inj {b r d m : Int} {Z Y : Nat → List Int} {j : Nat} {p q : List Int} (hz : Shaped b r d m Z j) (hy : Shaped b r d m Y j) (h : rowsB Z j ++ p = rowsB Y j ++ q) : (∀ n, n < j → Z n = Y n) ∧ p = q := by
  induction j generalizing p q with
  | zero => exact ⟨fun n hn => by omega, by simpa [rowsB] using h⟩
  | succ j ih =>
    rw [rowsB, rowsB, List.append_assoc, List.append_assoc] at h
    obtain ⟨h1, h2⟩ := ih (fun n hn => hz n (by omega)) (fun n hn => hy n (by omega)) h
    have e := row_same h2 (by rw [(hz j (by omega)).1, (hy j (by omega)).1])
    refine ⟨fun n hn => ?_, ?_⟩
    · by_cases e2 : n = j
      · subst e2; exact e
      · exact h1 n (by omega)
    · rw [e] at h2; exact List.append_cancel_left h2
/-- what stands ahead of a stack's cells -/
def headB (b r d m s : Int) : List Int := [71, 65] ++ (putN b.toNat ++ (putN r.toNat ++ (putN d.toNat ++ (putN m.toNat ++ leB s 8))))
theorem headB_byts (b r d m s : Int) : Byts (headB b r d m s) := by
  unfold headB
  refine Byts.append (fun u hu => ?_) ((putN_byts _).append ((putN_byts _).append ((putN_byts _).append ((putN_byts _).append (leB_byts _ _)))))
  simp at hu
  omega
/-- the bytes of a stack -/
def encB (b r d m s : Int) (Z : Nat → List Int) : List Int := signB (headB b r d m s ++ rowsB Z (b.toNat + 1))
/-- bytes are a stack -/
def DecS (bs : List Int) (b r d m s : Int) (Z : Nat → List Int) : Prop :=
  rightB b r d m = true ∧ 0 ≤ s ∧ s < 18446744073709551616 ∧ Shaped b r d m Z (b.toNat + 1) ∧ bs = encB b r d m s Z
def DecNo (bs : List Int) : Prop := ∀ b r d m s Z, ¬ DecS bs b r d m s Z
theorem signB_inj {a c : List Int} (h : signB a = signB c) : a = c := (List.append_inj h (by have := congrArg List.length h; rw [signB_len, signB_len] at this; omega)).1
theorem headB_cfg (b r d m s : Int) (q : List Int) : headB b r d m s ++ q = [71, 65] ++ (putN b.toNat ++ (putN r.toNat ++ (putN d.toNat ++ (putN m.toNat ++ (leB s 8 ++ q))))) := by simp [headB]
theorem DecS.unique {bs : List Int} {b r d m s b' r' d' m' s' : Int} {Z Z' : Nat → List Int} (h : DecS bs b r d m s Z) (k : DecS bs b' r' d' m' s' Z') : b = b' ∧ r = r' ∧ d = d' ∧ m = m' ∧ s = s' ∧ ∀ n, n ≤ b.toNat → Z n = Z' n := by
  obtain ⟨h1, h2, h3, h4, h5⟩ := h
  obtain ⟨k1, k2, k3, k4, k5⟩ := k
  have e := signB_inj (h5.symm.trans k5)
  rw [headB_cfg, headB_cfg] at e
  have e := List.append_cancel_left e
  obtain ⟨rfl, rfl, rfl, rfl, rfl, e6⟩ := CfgS.unique (bs := putN b.toNat ++ (putN r.toNat ++ (putN d.toNat ++ (putN m.toNat ++ (leB s 8 ++ rowsB Z (b.toNat + 1)))))) ⟨h1, h2, h3, rfl⟩ ⟨k1, k2, k3, e⟩
  refine ⟨rfl, rfl, rfl, rfl, rfl, ?_⟩
  have := rowsB_inj (p := []) (q := []) h4 k4 (by rw [List.append_nil, List.append_nil]; exact e6)
  exact fun n hn => this.1 n (by omega)
/-- which error the bytes have that are none -/
def errOf (bs : List Int) : Int := if bs.length < 4 then 8 else if signB (bs.take (bs.length - 4)) = bs then 8 else 9
theorem dec_short {bs : List Int} (h : bs.length < 4) : DecNo bs := fun b r d m s Z k => by
  have := k.2.2.2.2
  rw [this, encB, signB_len] at h
  omega
theorem dec_own {bs : List Int} {b r d m s : Int} {Z : Nat → List Int} (k : DecS bs b r d m s Z) : bs.take (bs.length - 4) = headB b r d m s ++ rowsB Z (b.toNat + 1) ∧ signB (bs.take (bs.length - 4)) = bs := by
  have e := k.2.2.2.2
  have h1 : bs.take (bs.length - 4) = headB b r d m s ++ rowsB Z (b.toNat + 1) := by
    rw [e, encB, signB_len, Nat.add_sub_cancel, signB, List.take_left]
  exact ⟨h1, by rw [h1, e]; rfl⟩
theorem dec_sum {bs : List Int} (h : signB (bs.take (bs.length - 4)) ≠ bs) : DecNo bs := fun b r d m s Z k => h (dec_own k).2
theorem dec_mark {bs : List Int} (h : ∀ q, bs.take (bs.length - 4) ≠ [71, 65] ++ q) : DecNo bs := fun b r d m s Z k => by
  have := (dec_own k).1
  rw [headB_cfg] at this
  exact h _ this
theorem dec_cfg {bs q : List Int} (h : bs.take (bs.length - 4) = [71, 65] ++ q) (hn : ∀ b r d m s p, CfgS q b r d m s p → p.length < sizeN b r d m) : DecNo bs := fun b r d m s Z k => by
  have e := (dec_own k).1
  rw [headB_cfg, h] at e
  have := hn b r d m s _ ⟨k.1, k.2.1, k.2.2.1, List.append_cancel_left e⟩
  have h2 := (rowsB_le k.2.2.2.1).1
  unfold sizeN at this
  rw [if_pos k.1] at this
  omega
theorem dec_row {bs q p : List Int} {b r d m s : Int} {Z : Nat → List Int} {j : Nat} {t : List Int} (h : bs.take (bs.length - 4) = [71, 65] ++ q) (hc : CfgS q b r d m s p) (hj : j ≤ b.toNat) (hz : Shaped b r d m Z j) (hp : p = rowsB Z j ++ t) (hn : TRowNo t (cellsN b r d m (j : Int))) : DecNo bs := fun b' r' d' m' s' Z' k => by
  have e := (dec_own k).1
  rw [headB_cfg, h] at e
  obtain ⟨rfl, rfl, rfl, rfl, rfl, e6⟩ := CfgS.unique hc ⟨k.1, k.2.1, k.2.2.1, List.append_cancel_left e⟩
  have hk := k.2.2.2.1
  have hsplit : ∀ i, rowsB Z' (j + 1 + i) = rowsB Z' j ++ (rowB (Z' j) ++ rowsB (fun n => Z' (j + 1 + n)) i) := by
    intro i
    induction i with
    | zero => simp [rowsB]
    | succ i ih => rw [← Nat.add_assoc, rowsB, ih, rowsB]; simp
  have h2 := hsplit (b.toNat - j)
  rw [show j + 1 + (b.toNat - j) = b.toNat + 1 by omega, ← e6, hp] at h2
  obtain ⟨-, h3⟩ := rowsB_inj hz (fun n hn => hk n (by omega)) h2
  exact hn (Z' j) _ ⟨(hk j (by omega)).1, (hk j (by omega)).2, rfl, _, h3⟩
theorem dec_rest {bs q p : List Int} {b r d m s : Int} {Z : Nat → List Int} {t : List Int} (h : bs.take (bs.length - 4) = [71, 65] ++ q) (hc : CfgS q b r d m s p) (hz : Shaped b r d m Z (b.toNat + 1)) (hp : p = rowsB Z (b.toNat + 1) ++ t) (ht : t ≠ []) : DecNo bs := fun b' r' d' m' s' Z' k => by
  have e := (dec_own k).1
  rw [headB_cfg, h] at e
  obtain ⟨rfl, rfl, rfl, rfl, rfl, e6⟩ := CfgS.unique hc ⟨k.1, k.2.1, k.2.2.1, List.append_cancel_left e⟩
  rw [hp] at e6
  have := (rowsB_inj (p := t) (q := []) hz k.2.2.2.1 (by rw [List.append_nil]; exact e6)).2
  exact ht this
theorem dec_yes {bs q p : List Int} {b r d m s : Int} {Z : Nat → List Int} (h : bs.take (bs.length - 4) = [71, 65] ++ q) (hs : signB (bs.take (bs.length - 4)) = bs) (hc : CfgS q b r d m s p) (hz : Shaped b r d m Z (b.toNat + 1)) (hp : p = rowsB Z (b.toNat + 1)) : DecS bs b r d m s Z := by
  obtain ⟨h1, h2, h3, h4⟩ := hc
  refine ⟨h1, h2, h3, hz, ?_⟩
  rw [encB, ← hs, h, h4, hp, headB_cfg]
end Go.Proofs.Ytbghchgmoiniiaa
