import Derived.Test.YtfeficdndjiijaaGreatDoorQwj
import Derived.Laws.EntriesVeiled
import Derived.WalkLawsBesides
import Derived.Defers
import Derived.Recover
/-
  Contracts of the functions that TopWire reaches, and the plain laws that it leans on. Conditions: none beyond those stated at each theorem.
-/
namespace Go.Proofs.YtfeficdndjiijaaGreatDoor
open Go.RowKit
set_option linter.unusedVariables false
set_option linter.unusedSimpArgs false

theorem putN_head {u v : Nat} {r s : List Int} (h : putN u ++ r = putN v ++ s) : u = v ∧ r = s := by
  have e := VL_prefix (putN_VL u) (putN_VL v) h
  have e2 := putN_inj e
  subst e2
  exact ⟨rfl, List.append_cancel_left h⟩
def leV : List Int → Int
  | [] => 0
  | x :: l => x + 256 * leV l
theorem leV_bd {l : List Int} (h : Byts l) : 0 ≤ leV l ∧ leV l < 256 ^ l.length := by
  induction l with
  | nil => exact ⟨by simp [leV], by simp [leV]⟩
  | cons x l ih =>
    have hx := h x (by simp)
    obtain ⟨h1, h2⟩ := ih (fun u hu => h u (by simp [hu]))
    rw [leV, List.length_cons, Int.pow_succ]
    exact ⟨by omega, by omega⟩
theorem leV_append (l : List Int) (x : Int) : leV (l ++ [x]) = leV l + 256 ^ l.length * x := by
  induction l with
  | nil => simp [leV]
  | cons y l ih =>
    rw [List.cons_append, leV, ih, leV, List.length_cons, Int.pow_succ, Int.mul_add, Int.mul_comm (256 ^ l.length) 256, Int.mul_assoc]
    omega
theorem leB_cons (u : Int) (n : Nat) : leB u (n + 1) = (u % 256) :: leB (u / 256) n := by
  unfold leB
  rw [List.range_succ_eq_map, List.map_cons, List.map_map]
  congr 1
  · simp
  · apply List.map_congr_left
    intro i _
    simp only [Function.comp_apply, Nat.succ_eq_add_one]
    rw [Int.pow_succ, Int.mul_comm (256 ^ i) 256, ← Int.ediv_ediv_of_nonneg (by decide)]
theorem leB_leV {l : List Int} (h : Byts l) : leB (leV l) l.length = l := by
  induction l with
  | nil => rfl
  | cons x l ih =>
    have hx := h x (by simp)
    have e1 : (x + 256 * leV l) % 256 = x := by omega
    have e2 : (x + 256 * leV l) / 256 = leV l := by omega
    rw [List.length_cons, leV, leB_cons, e1, e2, ih (fun u hu => h u (by simp [hu]))]
theorem leV_leB (n : Nat) (u : Int) (h0 : 0 ≤ u) (h1 : u < 256 ^ n) : leV (leB u n) = u := by
  induction n generalizing u with
  | zero => simp [leB, leV] at h1 ⊢; omega
  | succ n ih =>
    rw [leB_cons, leV, ih (u / 256) (by omega) (by rw [Int.pow_succ] at h1; omega)]
    omega
theorem leB_head {s t : Int} {n : Nat} {r q : List Int} (hs : 0 ≤ s) (ht : 0 ≤ t) (hs1 : s < 256 ^ n) (ht1 : t < 256 ^ n) (h : leB s n ++ r = leB t n ++ q) : s = t ∧ r = q := by
  have e := List.append_inj h (by rw [leB_len, leB_len])
  refine ⟨?_, e.2⟩
  rw [← leV_leB n s hs hs1, e.1, leV_leB n t ht ht1]
theorem p256 : (256 : Int) ^ 8 = 18446744073709551616 := by decide
def CfgS (bs : List Int) (b r d m s : Int) (rest : List Int) : Prop :=
  rightB b r d m = true ∧ 0 ≤ s ∧ s < 18446744073709551616 ∧ bs = putN b.toNat ++ (putN r.toNat ++ (putN d.toNat ++ (putN m.toNat ++ (leB s 8 ++ rest))))
theorem CfgS.unique {bs : List Int} {b r d m s b' r' d' m' s' : Int} {q q' : List Int} (h : CfgS bs b r d m s q) (k : CfgS bs b' r' d' m' s' q') : b = b' ∧ r = r' ∧ d = d' ∧ m = m' ∧ s = s' ∧ q = q' := by
  obtain ⟨h1, h2, h3, h4⟩ := h
  obtain ⟨k1, k2, k3, k4⟩ := k
  have hr := right_of h1
  have kr := right_of k1
  rw [h4] at k4
  obtain ⟨e1, k4⟩ := putN_head k4
  obtain ⟨e2, k4⟩ := putN_head k4
  obtain ⟨e3, k4⟩ := putN_head k4
  obtain ⟨e4, k4⟩ := putN_head k4
  obtain ⟨e5, e6⟩ := leB_head h2 k2 (by rw [p256]; exact h3) (by rw [p256]; exact k3) k4
  exact ⟨by omega, by omega, by omega, by omega, e5, e6⟩
def rowsB (Z : Nat → List Int) : Nat → List Int
  | 0 => []
  | j + 1 => rowsB Z j ++ rowB (Z j)
def allZ (Z : Nat → List Int) : Nat → List Int
  | 0 => []
  | j + 1 => allZ Z j ++ Z j
theorem rowsB_all (Z : Nat → List Int) (j : Nat) : rowsB Z j = rowB (allZ Z j) := by
  induction j with
  | zero => rfl
  | succ j ih => rw [rowsB, allZ, rowB_append, ih]
theorem rowsB_byts (Z : Nat → List Int) (j : Nat) : Byts (rowsB Z j) := by rw [rowsB_all]; exact rowB_byts _
theorem rowsB_congr {Z Y : Nat → List Int} {j : Nat} (h : ∀ n, n < j → Z n = Y n) : rowsB Z j = rowsB Y j := by
  induction j with
  | zero => rfl
  | succ j ih => rw [rowsB, rowsB, ih (fun n hn => h n (by omega)), h j (by omega)]
def Shaped (b r d m : Int) (Z : Nat → List Int) (j : Nat) : Prop := ∀ n, n < j → (Z n).length = cellsN b r d m (n : Int) ∧ Fit (Z n)
theorem allZ_len {b r d m : Int} {Z : Nat → List Int} {j : Nat} (h : Shaped b r d m Z j) : (allZ Z j).length = sizeUp b r d m j := by
  induction j with
  | zero => rfl
  | succ j ih => rw [allZ, sizeUp, List.length_append, ih (fun n hn => h n (by omega)), (h j (by omega)).1]
theorem allZ_fit {b r d m : Int} {Z : Nat → List Int} {j : Nat} (h : Shaped b r d m Z j) : Fit (allZ Z j) := by
  induction j with
  | zero => exact Fit.nil
  | succ j ih =>
    intro u hu
    rw [allZ] at hu
    rcases List.mem_append.1 hu with hu | hu
    · exact ih (fun n hn => h n (by omega)) u hu
    · exact (h j (by omega)).2 u hu
theorem rowsB_le {b r d m : Int} {Z : Nat → List Int} {j : Nat} (h : Shaped b r d m Z j) : sizeUp b r d m j ≤ (rowsB Z j).length ∧ (rowsB Z j).length ≤ 10 * sizeUp b r d m j := by
  rw [rowsB_all, ← allZ_len h]
  exact ⟨rowB_ge _, rowB_le _ (allZ_fit h)⟩
theorem rowsB_inj {b r d m : Int} {Z Y : Nat → List Int} {j : Nat} {p q : List Int} (hz : Shaped b r d m Z j) (hy : Shaped b r d m Y j) (h : rowsB Z j ++ p = rowsB Y j ++ q) : (∀ n, n < j → Z n = Y n) ∧ p = q := by
  induction j generalizing p q with
  | zero => exact ⟨fun n hn => by omega, by simpa [rowsB] using h⟩
  | succ j ih =>
    rw [rowsB, rowsB, List.append_assoc, List.append_assoc] at h
    obtain ⟨h1, h2⟩ := ih (fun n hn => hz n (by omega)) (fun n hn => hy n (by omega)) h
    have e := row_same h2 (by rw [(hz j (by omega)).1, (hy j (by omega)).1])
    refine ⟨fun n hn => ?_, ?_⟩
    · by_cases e2 : n = j
      · subst e2; exact e
      · exact h1 n (by omega)
    · rw [e] at h2; exact List.append_cancel_left h2
def headB (b r d m s : Int) : List Int := [71, 65] ++ (putN b.toNat ++ (putN r.toNat ++ (putN d.toNat ++ (putN m.toNat ++ leB s 8))))
theorem headB_byts (b r d m s : Int) : Byts (headB b r d m s) := by
  unfold headB
  refine Byts.append (fun u hu => ?_) ((putN_byts _).append ((putN_byts _).append ((putN_byts _).append ((putN_byts _).append (leB_byts _ _)))))
  simp at hu
  omega
def encB (b r d m s : Int) (Z : Nat → List Int) : List Int := signB (headB b r d m s ++ rowsB Z (b.toNat + 1))
def DecS (bs : List Int) (b r d m s : Int) (Z : Nat → List Int) : Prop :=
  rightB b r d m = true ∧ 0 ≤ s ∧ s < 18446744073709551616 ∧ Shaped b r d m Z (b.toNat + 1) ∧ bs = encB b r d m s Z
def DecNo (bs : List Int) : Prop := ∀ b r d m s Z, ¬ DecS bs b r d m s Z
theorem signB_inj {a c : List Int} (h : signB a = signB c) : a = c := (List.append_inj h (by have := congrArg List.length h; rw [signB_len, signB_len] at this; omega)).1
theorem headB_cfg (b r d m s : Int) (q : List Int) : headB b r d m s ++ q = [71, 65] ++ (putN b.toNat ++ (putN r.toNat ++ (putN d.toNat ++ (putN m.toNat ++ (leB s 8 ++ q))))) := by simp [headB]
theorem DecS.unique {bs : List Int} {b r d m s b' r' d' m' s' : Int} {Z Z' : Nat → List Int} (h : DecS bs b r d m s Z) (k : DecS bs b' r' d' m' s' Z') : b = b' ∧ r = r' ∧ d = d' ∧ m = m' ∧ s = s' ∧ ∀ n, n ≤ b.toNat → Z n = Z' n := by
  obtain ⟨h1, h2, h3, h4, h5⟩ := h
  obtain ⟨k1, k2, k3, k4, k5⟩ := k
  have e := signB_inj (h5.symm.trans k5)
  rw [headB_cfg, headB_cfg] at e
  have e := List.append_cancel_left e
  obtain ⟨rfl, rfl, rfl, rfl, rfl, e6⟩ := CfgS.unique (bs := putN b.toNat ++ (putN r.toNat ++ (putN d.toNat ++ (putN m.toNat ++ (leB s 8 ++ rowsB Z (b.toNat + 1)))))) ⟨h1, h2, h3, rfl⟩ ⟨k1, k2, k3, e⟩
  refine ⟨rfl, rfl, rfl, rfl, rfl, ?_⟩
  have := rowsB_inj (p := []) (q := []) h4 k4 (by rw [List.append_nil, List.append_nil]; exact e6)
  exact fun n hn => this.1 n (by omega)
def errOf (bs : List Int) : Int := if bs.length < 4 then 8 else if signB (bs.take (bs.length - 4)) = bs then 8 else 9
theorem dec_short {bs : List Int} (h : bs.length < 4) : DecNo bs := fun b r d m s Z k => by
  have := k.2.2.2.2
  rw [this, encB, signB_len] at h
  omega
theorem dec_own {bs : List Int} {b r d m s : Int} {Z : Nat → List Int} (k : DecS bs b r d m s Z) : bs.take (bs.length - 4) = headB b r d m s ++ rowsB Z (b.toNat + 1) ∧ signB (bs.take (bs.length - 4)) = bs := by
  have e := k.2.2.2.2
  have h1 : bs.take (bs.length - 4) = headB b r d m s ++ rowsB Z (b.toNat + 1) := by
    rw [e, encB, signB_len, Nat.add_sub_cancel, signB, List.take_left]
  exact ⟨h1, by rw [h1, e]; rfl⟩
theorem dec_sum {bs : List Int} (h : signB (bs.take (bs.length - 4)) ≠ bs) : DecNo bs := fun b r d m s Z k => h (dec_own k).2
theorem dec_mark {bs : List Int} (h : ∀ q, bs.take (bs.length - 4) ≠ [71, 65] ++ q) : DecNo bs := fun b r d m s Z k => by
  have := (dec_own k).1
  rw [headB_cfg] at this
  exact h _ this
theorem dec_cfg {bs q : List Int} (h : bs.take (bs.length - 4) = [71, 65] ++ q) (hn : ∀ b r d m s p, CfgS q b r d m s p → p.length < sizeN b r d m) : DecNo bs := fun b r d m s Z k => by
  have e := (dec_own k).1
  rw [headB_cfg, h] at e
  have := hn b r d m s _ ⟨k.1, k.2.1, k.2.2.1, List.append_cancel_left e⟩
  have h2 := (rowsB_le k.2.2.2.1).1
  unfold sizeN at this
  rw [if_pos k.1] at this
  omega
theorem dec_row {bs q p : List Int} {b r d m s : Int} {Z : Nat → List Int} {j : Nat} {t : List Int} (h : bs.take (bs.length - 4) = [71, 65] ++ q) (hc : CfgS q b r d m s p) (hj : j ≤ b.toNat) (hz : Shaped b r d m Z j) (hp : p = rowsB Z j ++ t) (hn : TRowNo t (cellsN b r d m (j : Int))) : DecNo bs := fun b' r' d' m' s' Z' k => by
  have e := (dec_own k).1
  rw [headB_cfg, h] at e
  obtain ⟨rfl, rfl, rfl, rfl, rfl, e6⟩ := CfgS.unique hc ⟨k.1, k.2.1, k.2.2.1, List.append_cancel_left e⟩
  have hk := k.2.2.2.1
  have hsplit : ∀ i, rowsB Z' (j + 1 + i) = rowsB Z' j ++ (rowB (Z' j) ++ rowsB (fun n => Z' (j + 1 + n)) i) := by
    intro i
    induction i with
    | zero => simp [rowsB]
    | succ i ih => rw [← Nat.add_assoc, rowsB, ih, rowsB]; simp
  have h2 := hsplit (b.toNat - j)
  rw [show j + 1 + (b.toNat - j) = b.toNat + 1 by omega, ← e6, hp] at h2
  obtain ⟨-, h3⟩ := rowsB_inj hz (fun n hn => hk n (by omega)) h2
  exact hn (Z' j) _ ⟨(hk j (by omega)).1, (hk j (by omega)).2, rfl, _, h3⟩
theorem dec_rest {bs q p : List Int} {b r d m s : Int} {Z : Nat → List Int} {t : List Int} (h : bs.take (bs.length - 4) = [71, 65] ++ q) (hc : CfgS q b r d m s p) (hz : Shaped b r d m Z (b.toNat + 1)) (hp : p = rowsB Z (b.toNat + 1) ++ t) (ht : t ≠ []) : DecNo bs := fun b' r' d' m' s' Z' k => by
  have e := (dec_own k).1
  rw [headB_cfg, h] at e
  obtain ⟨rfl, rfl, rfl, rfl, rfl, e6⟩ := CfgS.unique hc ⟨k.1, k.2.1, k.2.2.1, List.append_cancel_left e⟩
  rw [hp] at e6
  have := (rowsB_inj (p := t) (q := []) hz k.2.2.2.1 (by rw [List.append_nil]; exact e6)).2
  exact ht this
theorem dec_yes {bs q p : List Int} {b r d m s : Int} {Z : Nat → List Int} (h : bs.take (bs.length - 4) = [71, 65] ++ q) (hs : signB (bs.take (bs.length - 4)) = bs) (hc : CfgS q b r d m s p) (hz : Shaped b r d m Z (b.toNat + 1)) (hp : p = rowsB Z (b.toNat + 1)) : DecS bs b r d m s Z := by
  obtain ⟨h1, h2, h3, h4⟩ := hc
  refine ⟨h1, h2, h3, hz, ?_⟩
  rw [encB, ← hs, h, h4, hp, headB_cfg]
end Go.Proofs.YtfeficdndjiijaaGreatDoor


namespace Go.Proofs.YtfeficdndjiijaaGreatDoor
open Go.RowKit
set_option linter.unusedVariables false
set_option linter.unusedSimpArgs false

theorem BytesAt.gr {w w' : World} {v : Value} {bs : List Int} {R : Nat} (h : BytesAt w v bs) (hg : w.grownBy w' (some R)) (hne : ∀ g off n c, v = .slice (some ⟨g, off, none⟩) n c → g ≠ R) : BytesAt w' v bs := by
  obtain ⟨ao, cap, e, h1, h2, h3⟩ := h
  refine ⟨ao, cap, e, h1, h2, ?_⟩
  rcases h3 with h3 | ⟨g, off, e2, hgl, hc⟩
  · exact .inl h3
  · have hn := hne g off bs.length cap (by rw [e, e2])
    exact .inr ⟨g, off, e2, Nat.lt_of_lt_of_le hgl hg.size, fun i u hu => hg.cell (hc i u hu) (by simpa using hn)⟩
def RdIs (w : World) (N R : Nat) (bs : List Int) : Prop :=
  ∃ g off cap, Blk w R 89 #[.slice (some ⟨g, off, none⟩) bs.length cap] ∧ BytesAt w (.slice (some ⟨g, off, none⟩) bs.length cap) bs ∧ g < N ∧ N ≤ R
theorem RdIs.kept {w w' : World} {N R : Nat} {bs : List Int} (h : RdIs w N R bs) (hb : Below w.heap.size w w') : RdIs w' N R bs := by
  obtain ⟨g, off, cap, h1, h2, h3⟩ := h
  exact ⟨g, off, cap, h1.kept hb, h2.kept hb, h3⟩
theorem RdIs.gr {w w' : World} {N R C : Nat} {bs : List Int} (h : RdIs w N R bs) (hg : w.grownBy w' (some C)) (hC : N ≤ C) (hne : R ≠ C) : RdIs w' N R bs := by
  obtain ⟨g, off, cap, h1, h2, h3, h4⟩ := h
  exact ⟨g, off, cap, h1.grown hg (by simpa using hne), h2.gr hg (fun g2 off2 n2 c2 e => by cases e; omega), h3, h4⟩
theorem RdIs.lt {w : World} {N R : Nat} {bs : List Int} (h : RdIs w N R bs) : R < w.heap.size := by
  obtain ⟨g, off, cap, h1, h2, h3⟩ := h
  exact h1.lt
def BadP (e : Ending) : Prop := e = .panicked [{ v := .iface 167 (.agg #[]), recovered := false }]
theorem BytesAt.upto {w : World} {g off n cap : Nat} {bs : List Int} (h : BytesAt w (.slice (some ⟨g, off, none⟩) n cap) bs) (a : Nat) (ha : a ≤ n) : BytesAt w (.slice (some ⟨g, off, none⟩) a a) (bs.take a) := by
  obtain ⟨ao2, cap2, e, h1, h2, h3⟩ := h
  simp only [Value.slice.injEq] at e
  obtain ⟨rfl, rfl, rfl⟩ := e
  have hl : (bs.take a).length = a := by simp; omega
  refine ⟨_, a, by rw [hl], by rw [hl]; omega, by omega, ?_⟩
  rcases h3 with ⟨rfl, h3⟩ | ⟨g2, off2, e2, hg, hcc⟩
  · cases h3
  · have e2 := Option.some.inj e2
    cases e2
    refine .inr ⟨g, off, rfl, hg, fun i u hu => ?_⟩
    rw [List.getElem?_take] at hu
    split at hu
    · exact hcc i u hu
    · cases hu
def SomePost (w : World) (N R : Nat) (bs : List Int) (n : Nat) (e : Ending) (w' : World) : Prop :=
  ∃ v, e = .returned v ∧ (∀ g off n c, v = .slice (some ⟨g, off, none⟩) n c → g < N) ∧ BytesAt w' v (bs.take n) ∧ RdIs w' N R (bs.drop n) ∧ w.grownBy w' (some R)
set_option maxRecDepth 100000 in
set_option maxHeartbeats 4000000 in
theorem some_no (w : World) (N R : Nat) (bs : List Int) (n : Nat) (h : RdIs w N R bs) (hn : bs.length < n) :
    Calls Tryz.prog 34 #[.pointer (some ⟨R, 0, none⟩), .int .i64 (n : Int)] w fun e w' => BadP e ∧ w = w' := by
  obtain ⟨g, off, cap, h1, h2, h3⟩ := h
  have c0 := h1.cell 0
  simp at c0
  obtain ⟨m, hm⟩ : ∃ m, m = bs.length := ⟨_, rfl⟩
  rw [← hm] at c0 hn
  have d1 : decide ((m : Int) < (n : Int)) = true := decide_eq_true (by omega)
  have d2 : decide (m < n) = true := decide_eq_true hn
  clear h1 h2 hm
  go_enter Tryz.func34, Tryz.ntmps34
  go_wp2_with fail
  exact ⟨rfl, rfl, rfl⟩
set_option maxRecDepth 100000 in
set_option maxHeartbeats 4000000 in
theorem some_yes (w : World) (N R : Nat) (bs : List Int) (n : Nat) (h : RdIs w N R bs) (hn : n ≤ bs.length) (hl : bs.length ≤ 100000) :
  Calls Tryz.prog 34 #[.pointer (some ⟨R, 0, none⟩), .int .i64 (n : Int)] w (SomePost w N R bs n) := by
 obtain ⟨g, off, cap, h1, h2, h3⟩ := h
 have c0 := h1.cell 0
 have f0 := h1.frozen 0
 simp at c0
 have HV := Lib.hid h2
 have HB := Lib.hid h1
 obtain ⟨m, hm⟩ : ∃ m, m = bs.length := ⟨_, rfl⟩
 have HM := Lib.hid hm
 have hcap : m ≤ cap := by
  obtain ⟨ao2, cap2, e, e1, e2, -⟩ := h2
  simp only [Value.slice.injEq] at e
  obtain ⟨-, -, rfl⟩ := e
  omega
 rw [← hm] at c0 hn hl
 have HUP := Lib.hid (HV.out.upto n (by rw [← HM.out]; exact hn))
 have HFR := Lib.hid (fun k h1 h2 => HV.out.from_ n (by rw [← HM.out]; exact hn) k h1 h2)
 have d1 : decide ((m : Int) < (n : Int)) = false := decide_eq_false (by omega)
 have d2 : decide (m < n) = false := decide_eq_false (by omega)
 have HDL : Hid ((bs.drop n).length = m - n) := Lib.hid (by rw [List.length_drop, HM.out])
 rw [← HM.out] at HFR
 clear h1 h2 hm
 by_cases hk : n < cap
 ·have HFR := Lib.hid (HFR.out (off + n) (fun _ => rfl) (fun e => by omega))
  go_enter Tryz.func34, Tryz.ntmps34
  go_wp2_with fail
  go_ret
  refine ⟨_, rfl, fun g2 off2 n2 c2 e => by cases e; exact h3.1, HUP.out.gr (grown_set w R 0 _) (fun g2 off2 n2 c2 e => by cases e; omega), ⟨g, off + n, cap - n, ?_, ?_, h3⟩, grown_set _ _ _ _⟩
  ·rw [HDL.out]
   have := HB.out.set_ 0 (.slice (some ⟨g, off + n, none⟩) (m - n) (cap - n))
   simpa using this
  ·rw [HDL.out]
   exact HFR.out.gr (grown_set w R 0 _) (fun g2 off2 n2 c2 e => by cases e; omega)
 ·obtain rfl : n = cap := by omega
  obtain rfl : m = n := by omega
  have HFK := Lib.hid (HFR.out off (fun e => by omega) (fun _ => rfl))
  rw [Nat.sub_self] at HFK HDL
  go_enter Tryz.func34, Tryz.ntmps34
  go_wp2_with fail
  go_ret
  refine ⟨_, rfl, fun g2 off2 n2 c2 e => by cases e; exact h3.1, HUP.out.gr (grown_set w R 0 _) (fun g2 off2 n2 c2 e => by cases e; omega), ⟨g, off, 0, ?_, ?_, h3⟩, grown_set _ _ _ _⟩
  ·rw [HDL.out]
   have := HB.out.set_ 0 (.slice (some ⟨g, off, none⟩) 0 0)
   simpa using this
  ·rw [HDL.out]
   exact HFK.out.gr (grown_set w R 0 _) (fun g2 off2 n2 c2 e => by cases e; omega)
def NumRes (w : World) (N R : Nat) (bs : List Int) (most : Nat) (e : Ending) (w' : World) : Prop :=
  (∃ u m, TakeS bs u m ∧ u ≤ most ∧ e = .returned (.int .i64 (u : Int)) ∧ RdIs w' N R (bs.drop m) ∧ w.grownBy w' (some R)) ∨ ((∀ u m, TakeS bs u m → most < u) ∧ BadP e ∧ w = w')
set_option maxRecDepth 100000 in
set_option maxHeartbeats 4000000 in
theorem rdnumber_any (w : World) (N R : Nat) (bs : List Int) (most : Nat) (h : RdIs w N R bs) (hb : Byts bs) (hm : most ≤ 1000000) (hl : bs.length ≤ 100000) :
  Calls Tryz.prog 65 #[.pointer (some ⟨R, 0, none⟩), .int .i64 (most : Int)] w (NumRes w N R bs most) := by
 have H := Lib.hid h
 have HL := Lib.hid hl
 obtain ⟨g, off, cap, h1, h2, h3⟩ := h
 have c0 := h1.cell 0
 simp at c0
 have PT := Lib.hid (take_any w _ bs h2 hb hl)
 obtain ⟨l, hll⟩ : ∃ l, l = bs.length := ⟨_, rfl⟩
 rw [← hll] at c0 PT
 clear h1 h2 hll hl hb
 go_enter Tryz.func65, Tryz.ntmps65
 go_wp2_with fail
 with_reducible refine PT.out.mono ?_
 rintro e w2 ⟨hres, hw2⟩
 subst hw2
 rcases hres with ⟨u, m, hts, rfl⟩ | ⟨hno, rfl⟩
 ·have hml := hts.parts
  have HT := Lib.hid hts
  have hu64 := hml.1
  have hm10 : m ≤ 10 := hml.2.2.2.2.1
  have PS := Lib.hid (some_yes w N R bs m H.out hml.2.2.1 HL.out)
  clear hml hts PT
  by_cases hu : u ≤ most
  ·have d1 : decide ((most : Int) < (u : Int)) = false := decide_eq_false (by omega)
   have d2 : decide (most < u) = false := decide_eq_false (by omega)
   go_wp2_with fail
   with_reducible refine PS.out.mono ?_
   rintro e w3 ⟨v, rfl, -, -, hrd, hg⟩
   have HRD := Lib.hid hrd
   have HG := Lib.hid hg
   clear hrd hg
   go_wp2
   go_ret
   exact .inl ⟨u, m, HT.out, hu, rfl, HRD.out, HG.out⟩
  ·have d1 : decide ((most : Int) < (u : Int)) = true := decide_eq_true (by omega)
   have d2 : decide (most < u) = true := decide_eq_true (by omega)
   have HN : Hid (∀ u m, TakeS bs u m → most < u) := Lib.hid (fun u2 m2 h => by rw [← (HT.out.unique h).1]; omega)
   go_wp2_with fail
   exact ⟨rfl, .inr ⟨HN.out, rfl, rfl⟩⟩
 ·have HN : Hid (∀ u m, TakeS bs u m → most < u) := Lib.hid (fun u2 m2 h => absurd h (hno u2 m2))
  clear hno PT
  go_wp2_with fail
  exact ⟨rfl, .inr ⟨HN.out, rfl, rfl⟩⟩
end Go.Proofs.YtfeficdndjiijaaGreatDoor


namespace Go.Proofs.YtfeficdndjiijaaGreatDoor
open Go.RowKit
set_option linter.unusedVariables false
set_option linter.unusedSimpArgs false

def NumRes2 (w : World) (N R : Nat) (bs : List Int) (most : Nat) (e : Ending) (w' : World) : Prop :=
  (∃ u r, bs = putN u ++ r ∧ u ≤ most ∧ e = .returned (.int .i64 (u : Int)) ∧ RdIs w' N R r ∧ w.grownBy w' (some R)) ∨ ((∀ u r, u ≤ most → bs ≠ putN u ++ r) ∧ BadP e ∧ w = w')
theorem number2 (w : World) (N R : Nat) (bs : List Int) (most : Nat) (h : RdIs w N R bs) (hb : Byts bs) (hm : most ≤ 1000000) (hl : bs.length ≤ 100000) :
    Calls Tryz.prog 65 #[.pointer (some ⟨R, 0, none⟩), .int .i64 (most : Int)] w (NumRes2 w N R bs most) := by
  refine (rdnumber_any w N R bs most h hb hm hl).mono ?_
  rintro e w' (⟨u, m, h1, h2, h3, h4, h5⟩ | ⟨h1, h2, h3⟩)
  · obtain ⟨k1, k2, r, k3⟩ := h1
    refine .inl ⟨u, r, k3, h2, h3, ?_, h5⟩
    rw [k3, k2, List.drop_left] at h4
    exact h4
  · refine .inr ⟨fun u r hu e => ?_, h2, h3⟩
    have := h1 u (putN u).length ⟨by omega, rfl, r, e⟩
    omega
def CfgRes (w : World) (N R : Nat) (bs : List Int) (e : Ending) (w' : World) : Prop :=
  (∃ b r d m s rest, CfgS bs b r d m s rest ∧ sizeN b r d m ≤ rest.length ∧ e = .returned (.agg #[.int .i64 b, .int .i64 r, .int .i64 d, .int .i64 m, .int .u64 s]) ∧ RdIs w' N R rest ∧ w.grownBy w' (some R)) ∨ ((∀ b r d m s rest, CfgS bs b r d m s rest → rest.length < sizeN b r d m) ∧ BadP e ∧ w.grownBy w' (some R))
def CfgNo (bs : List Int) : Prop := ∀ b r d m s rest, CfgS bs b r d m s rest → rest.length < sizeN b r d m
theorem Byts.tail {a b : List Int} (h : Byts (a ++ b)) : Byts b := fun u hu => h u (by simp [hu])
theorem cfg_no1 {bs : List Int} (h : ∀ u r, u ≤ 59 → bs ≠ putN u ++ r) : CfgNo bs := fun b r d m s rest k => by
  have := right_of k.1
  exact absurd k.2.2.2 (h _ _ (by omega))
theorem cfg_no2 {u1 : Nat} {q : List Int} (h : ∀ u r, u ≤ 8 → q ≠ putN u ++ r) : CfgNo (putN u1 ++ q) := fun b r d m s rest k => by
  have := right_of k.1
  obtain ⟨-, e⟩ := putN_head k.2.2.2
  exact absurd e (h _ _ (by omega))
theorem cfg_no3 {u1 u2 : Nat} {q : List Int} (h : ∀ u r, u ≤ 128 → q ≠ putN u ++ r) : CfgNo (putN u1 ++ (putN u2 ++ q)) := fun b r d m s rest k => by
  have := right_of k.1
  obtain ⟨-, e⟩ := putN_head k.2.2.2
  obtain ⟨-, e⟩ := putN_head e
  exact absurd e (h _ _ (by omega))
theorem cfg_no4 {u1 u2 u3 : Nat} {q : List Int} (h : ∀ u r, u ≤ 3 → q ≠ putN u ++ r) : CfgNo (putN u1 ++ (putN u2 ++ (putN u3 ++ q))) := fun b r d m s rest k => by
  have := right_of k.1
  obtain ⟨-, e⟩ := putN_head k.2.2.2
  obtain ⟨-, e⟩ := putN_head e
  obtain ⟨-, e⟩ := putN_head e
  exact absurd e (h _ _ (by omega))
theorem cfg_no5 {u1 u2 u3 u4 : Nat} {q : List Int} (h : q.length < 8) : CfgNo (putN u1 ++ (putN u2 ++ (putN u3 ++ (putN u4 ++ q)))) := fun b r d m s rest k => by
  obtain ⟨-, e⟩ := putN_head k.2.2.2
  obtain ⟨-, e⟩ := putN_head e
  obtain ⟨-, e⟩ := putN_head e
  obtain ⟨-, e⟩ := putN_head e
  rw [e, List.length_append, leB_len] at h
  omega
theorem cfg_in {u1 u2 u3 u4 : Nat} {q : List Int} (hq : Byts q) (h : 8 ≤ q.length) {b r d m s : Int} {rest : List Int} (k : CfgS (putN u1 ++ (putN u2 ++ (putN u3 ++ (putN u4 ++ q)))) b r d m s rest) : b = u1 ∧ r = u2 ∧ d = u3 ∧ m = u4 ∧ s = leV (q.take 8) ∧ rest = q.drop 8 := by
  have hr := right_of k.1
  obtain ⟨e1, e⟩ := putN_head k.2.2.2
  obtain ⟨e2, e⟩ := putN_head e
  obtain ⟨e3, e⟩ := putN_head e
  obtain ⟨e4, e⟩ := putN_head e
  have h5 : q.take 8 = leB s 8 := by rw [e, List.take_append_of_le_length (by rw [leB_len]; omega), List.take_of_length_le (by rw [leB_len]; omega)]
  have h6 : q.drop 8 = rest := by rw [e, List.drop_append_of_le_length (by rw [leB_len]; omega), List.drop_eq_nil_of_le (by rw [leB_len]; omega), List.nil_append]
  refine ⟨by omega, by omega, by omega, by omega, ?_, h6.symm⟩
  rw [h5, leV_leB 8 s k.2.1 (by rw [p256]; exact k.2.2.1)]
theorem cfg_of {u1 u2 u3 u4 : Nat} {q : List Int} (hq : Byts q) (h : 8 ≤ q.length) (hr : rightB u1 u2 u3 u4 = true) : CfgS (putN u1 ++ (putN u2 ++ (putN u3 ++ (putN u4 ++ q)))) u1 u2 u3 u4 (leV (q.take 8)) (q.drop 8) := by
  have hl : (q.take 8).length = 8 := by simp; omega
  have hb := leV_bd (hq.take 8)
  rw [hl, p256] at hb
  refine ⟨hr, hb.1, hb.2, ?_⟩
  have := leB_leV (hq.take 8)
  rw [hl] at this
  rw [this, List.take_append_drop]
  simp only [Int.toNat_natCast]
theorem seed_or {U x : Int} {j : Nat} (hj : j < 8) (hU : 0 ≤ U ∧ U < 256 ^ j) (hx : 0 ≤ x ∧ x ≤ 255) : bits BinOp.or IntKind.u64 U (IntKind.u64.wrap (x * 2 ^ (8 * (j : Int)).toNat)) = U + 256 ^ j * x := by
  have e1 : (8 * (j : Int)).toNat = 8 * j := by omega
  have e2 : (2 : Int) ^ (8 * j) = 256 ^ j := by rw [Int.pow_mul]; rfl
  have hm : (256 : Int) ^ j ≤ 256 ^ 7 := by
    rcases (show j = 0 ∨ j = 1 ∨ j = 2 ∨ j = 3 ∨ j = 4 ∨ j = 5 ∨ j = 6 ∨ j = 7 by omega) with rfl | rfl | rfl | rfl | rfl | rfl | rfl | rfl <;> decide
  have h7 : (256 : Int) ^ 7 = 72057594037927936 := by decide
  have hp : (0 : Int) < 256 ^ j := Int.pow_pos (by decide)
  have hb1 : (256 : Int) ^ j * x ≤ 72057594037927936 * 255 := Int.mul_le_mul (by omega) hx.2 hx.1 (by decide)
  have hb0 : 0 ≤ (256 : Int) ^ j * x := Int.mul_nonneg (by omega) hx.1
  rw [e1]
  have hw : IntKind.u64.wrap (x * 2 ^ (8 * j)) = x * 2 ^ (8 * j) := by rw [wrapU_mod, e2, Int.mul_comm]; omega
  rw [hw, or_at U x (8 * j) hU.1 (by rw [e2]; exact hU.2) hx.1 (by rw [e2]; omega) (by rw [e2]; omega), e2]
theorem cfg_one (b r d m s : Int) : (#[Value.int .i64 b, .int .i64 r, .int .i64 d, .int .i64 m, .int .u64 s] : Array Value).all (·.oneCell') = true := by simp [Value.oneCell']
set_option maxRecDepth 100000 in
set_option maxHeartbeats 8000000 in
theorem config_any (w : World) (N R : Nat) (bs : List Int) (h : RdIs w N R bs) (hb : Byts bs) (hl : bs.length ≤ 100000) :
  Calls Tryz.prog 35 #[.pointer (some ⟨R, 0, none⟩)] w (CfgRes w N R bs) := by
 have hRlt := h.lt
 have hNR : N ≤ R := by obtain ⟨g, off, cap, -, -, -, h4⟩ := h; exact h4
 obtain ⟨g1, g2, hb1, hsz1⟩ := news2 w (.cells #[.int .i64 0, .int .i64 0, .int .i64 0, .int .i64 0, .int .u64 0] 24) (.cells #[.int .i64 0, .int .i64 0, .int .i64 0, .int .i64 0, .int .u64 0] 24)
 have HR0 := Lib.hid (h.kept hb1)
 have HG0 : Hid (w.grownBy ((w.alloc (.cells #[.int .i64 0, .int .i64 0, .int .i64 0, .int .i64 0, .int .u64 0] 24)).alloc (.cells #[.int .i64 0, .int .i64 0, .int .i64 0, .int .i64 0, .int .u64 0] 24)) (some R)) := Lib.hid (below_gr hb1)
 have HX0 : Hid (Blk ((w.alloc (.cells #[.int .i64 0, .int .i64 0, .int .i64 0, .int .i64 0, .int .u64 0] 24)).alloc (.cells #[.int .i64 0, .int .i64 0, .int .i64 0, .int .i64 0, .int .u64 0] 24)) w.heap.size 24 #[.int .i64 0, .int .i64 0, .int .i64 0, .int .i64 0, .int .u64 0]) := Lib.hid g1
 have HC0 : Hid (Blk ((w.alloc (.cells #[.int .i64 0, .int .i64 0, .int .i64 0, .int .i64 0, .int .u64 0] 24)).alloc (.cells #[.int .i64 0, .int .i64 0, .int .i64 0, .int .i64 0, .int .u64 0] 24)) (w.heap.size + 1) 24 #[.int .i64 0, .int .i64 0, .int .i64 0, .int .i64 0, .int .u64 0]) := Lib.hid g2
 have HBY0 := Lib.hid hb
 have hl0 := hl
 clear h hb g1 g2 hb1 hsz1
 go_enter Tryz.func35, Tryz.ntmps35
 go_wp2_with fail
 generalize (w.alloc (.cells #[.int .i64 0, .int .i64 0, .int .i64 0, .int .i64 0, .int .u64 0] 24)).alloc (.cells #[.int .i64 0, .int .i64 0, .int .i64 0, .int .i64 0, .int .u64 0] 24) = w0 at *
 obtain ⟨q0, hq0⟩ : ∃ q, q = bs := ⟨_, rfl⟩
 subst hq0
 have PN1 : Hid (Calls Tryz.prog 65 #[.pointer (some ⟨R, 0, none⟩), .int .i64 59] w0 (NumRes2 w0 N R q0 59)) := Lib.hid (number2 w0 N R q0 59 HR0.out HBY0.out (by decide) hl0)
 with_reducible refine PN1.out.mono ?_
 rintro e v1 (⟨nn1, q1, rfl, hle1, rfl, hrd, hg⟩ | ⟨hno, hbad, hw⟩)
 rotate_left
 ·have hbad2 : e = .panicked [{ v := .iface 167 (.agg #[]), recovered := false }] := hbad
  subst hbad2
  subst hw
  exact ⟨rfl, .inr ⟨cfg_no1 hno, rfl, HG0.out⟩⟩
 have HBY1 := Lib.hid HBY0.out.tail
 have hl1 : q1.length ≤ 100000 := by rw [List.length_append] at hl0; omega
 have HXa := Lib.hid (HX0.out.grown hg (by simp; omega))
 have HCa := Lib.hid (HC0.out.grown hg (by simp; omega))
 have HGa := Lib.hid (gr_trans HG0.out hg)
 have HRa := Lib.hid hrd
 have c1 := HCa.out.cell 0
 have f1 := HCa.out.frozen 0
 simp at c1
 clear hrd hg HX0 HC0 HG0 HR0 HBY0 PN1
 go_wp2_with fail
 have HC1 : Hid (Blk (v1.setCell ⟨w.heap.size + 1, 0, none⟩ (.int .i64 (nn1 : Int))) (w.heap.size + 1) 24 #[.int .i64 (nn1 : Int), .int .i64 0, .int .i64 0, .int .i64 0, .int .u64 0]) := Lib.hid (by simpa using HCa.out.set_ 0 (.int .i64 (nn1 : Int)))
 have HX1 := Lib.hid (HXa.out.far (p := ⟨w.heap.size + 1, 0, none⟩) (by simp) (.int .i64 (nn1 : Int)))
 have HR1 := Lib.hid (HRa.out.gr (grown_set v1 (w.heap.size + 1) 0 (.int .i64 (nn1 : Int))) (by omega) (by omega))
 have HG1 := Lib.hid (gr_new HGa.out (grown_set v1 (w.heap.size + 1) 0 (.int .i64 (nn1 : Int))) (.inr ⟨_, rfl, by omega⟩))
 clear HCa HXa HRa HGa c1 f1
 generalize v1.setCell ⟨w.heap.size + 1, 0, none⟩ (.int .i64 (nn1 : Int)) = w1 at *
 have PN2 : Hid (Calls Tryz.prog 65 #[.pointer (some ⟨R, 0, none⟩), .int .i64 8] w1 (NumRes2 w1 N R q1 8)) := Lib.hid (number2 w1 N R q1 8 HR1.out HBY1.out (by decide) hl1)
 with_reducible refine PN2.out.mono ?_
 rintro e v2 (⟨nn2, q2, rfl, hle2, rfl, hrd, hg⟩ | ⟨hno, hbad, hw⟩)
 rotate_left
 ·have hbad2 : e = .panicked [{ v := .iface 167 (.agg #[]), recovered := false }] := hbad
  subst hbad2
  subst hw
  exact ⟨rfl, .inr ⟨cfg_no2 hno, rfl, HG1.out⟩⟩
 have HBY2 := Lib.hid HBY1.out.tail
 have hl2 : q2.length ≤ 100000 := by rw [List.length_append] at hl1; omega
 have HXa := Lib.hid (HX1.out.grown hg (by simp; omega))
 have HCa := Lib.hid (HC1.out.grown hg (by simp; omega))
 have HGa := Lib.hid (gr_trans HG1.out hg)
 have HRa := Lib.hid hrd
 have c2 := HCa.out.cell 1
 have f2 := HCa.out.frozen 1
 simp at c2
 clear hrd hg HX1 HC1 HG1 HR1 HBY1 PN2
 go_wp2_with fail
 have HC2 : Hid (Blk (v2.setCell ⟨w.heap.size + 1, 1, none⟩ (.int .i64 (nn2 : Int))) (w.heap.size + 1) 24 #[.int .i64 (nn1 : Int), .int .i64 (nn2 : Int), .int .i64 0, .int .i64 0, .int .u64 0]) := Lib.hid (by simpa using HCa.out.set_ 1 (.int .i64 (nn2 : Int)))
 have HX2 := Lib.hid (HXa.out.far (p := ⟨w.heap.size + 1, 1, none⟩) (by simp) (.int .i64 (nn2 : Int)))
 have HR2 := Lib.hid (HRa.out.gr (grown_set v2 (w.heap.size + 1) 1 (.int .i64 (nn2 : Int))) (by omega) (by omega))
 have HG2 := Lib.hid (gr_new HGa.out (grown_set v2 (w.heap.size + 1) 1 (.int .i64 (nn2 : Int))) (.inr ⟨_, rfl, by omega⟩))
 clear HCa HXa HRa HGa c2 f2
 generalize v2.setCell ⟨w.heap.size + 1, 1, none⟩ (.int .i64 (nn2 : Int)) = w2 at *
 have PN3 : Hid (Calls Tryz.prog 65 #[.pointer (some ⟨R, 0, none⟩), .int .i64 128] w2 (NumRes2 w2 N R q2 128)) := Lib.hid (number2 w2 N R q2 128 HR2.out HBY2.out (by decide) hl2)
 with_reducible refine PN3.out.mono ?_
 rintro e v3 (⟨nn3, q3, rfl, hle3, rfl, hrd, hg⟩ | ⟨hno, hbad, hw⟩)
 rotate_left
 ·have hbad2 : e = .panicked [{ v := .iface 167 (.agg #[]), recovered := false }] := hbad
  subst hbad2
  subst hw
  exact ⟨rfl, .inr ⟨cfg_no3 hno, rfl, HG2.out⟩⟩
 have HBY3 := Lib.hid HBY2.out.tail
 have hl3 : q3.length ≤ 100000 := by rw [List.length_append] at hl2; omega
 have HXa := Lib.hid (HX2.out.grown hg (by simp; omega))
 have HCa := Lib.hid (HC2.out.grown hg (by simp; omega))
 have HGa := Lib.hid (gr_trans HG2.out hg)
 have HRa := Lib.hid hrd
 have c3 := HCa.out.cell 2
 have f3 := HCa.out.frozen 2
 simp at c3
 clear hrd hg HX2 HC2 HG2 HR2 HBY2 PN3
 go_wp2_with fail
 have HC3 : Hid (Blk (v3.setCell ⟨w.heap.size + 1, 2, none⟩ (.int .i64 (nn3 : Int))) (w.heap.size + 1) 24 #[.int .i64 (nn1 : Int), .int .i64 (nn2 : Int), .int .i64 (nn3 : Int), .int .i64 0, .int .u64 0]) := Lib.hid (by simpa using HCa.out.set_ 2 (.int .i64 (nn3 : Int)))
 have HX3 := Lib.hid (HXa.out.far (p := ⟨w.heap.size + 1, 2, none⟩) (by simp) (.int .i64 (nn3 : Int)))
 have HR3 := Lib.hid (HRa.out.gr (grown_set v3 (w.heap.size + 1) 2 (.int .i64 (nn3 : Int))) (by omega) (by omega))
 have HG3 := Lib.hid (gr_new HGa.out (grown_set v3 (w.heap.size + 1) 2 (.int .i64 (nn3 : Int))) (.inr ⟨_, rfl, by omega⟩))
 clear HCa HXa HRa HGa c3 f3
 generalize v3.setCell ⟨w.heap.size + 1, 2, none⟩ (.int .i64 (nn3 : Int)) = w3 at *
 have PN4 : Hid (Calls Tryz.prog 65 #[.pointer (some ⟨R, 0, none⟩), .int .i64 3] w3 (NumRes2 w3 N R q3 3)) := Lib.hid (number2 w3 N R q3 3 HR3.out HBY3.out (by decide) hl3)
 with_reducible refine PN4.out.mono ?_
 rintro e v4 (⟨nn4, q4, rfl, hle4, rfl, hrd, hg⟩ | ⟨hno, hbad, hw⟩)
 rotate_left
 ·have hbad2 : e = .panicked [{ v := .iface 167 (.agg #[]), recovered := false }] := hbad
  subst hbad2
  subst hw
  exact ⟨rfl, .inr ⟨cfg_no4 hno, rfl, HG3.out⟩⟩
 have HBY4 := Lib.hid HBY3.out.tail
 have hl4 : q4.length ≤ 100000 := by rw [List.length_append] at hl3; omega
 have HXa := Lib.hid (HX3.out.grown hg (by simp; omega))
 have HCa := Lib.hid (HC3.out.grown hg (by simp; omega))
 have HGa := Lib.hid (gr_trans HG3.out hg)
 have HRa := Lib.hid hrd
 have c4 := HCa.out.cell 3
 have f4 := HCa.out.frozen 3
 simp at c4
 clear hrd hg HX3 HC3 HG3 HR3 HBY3 PN4
 go_wp2_with fail
 have HC4 : Hid (Blk (v4.setCell ⟨w.heap.size + 1, 3, none⟩ (.int .i64 (nn4 : Int))) (w.heap.size + 1) 24 #[.int .i64 (nn1 : Int), .int .i64 (nn2 : Int), .int .i64 (nn3 : Int), .int .i64 (nn4 : Int), .int .u64 0]) := Lib.hid (by simpa using HCa.out.set_ 3 (.int .i64 (nn4 : Int)))
 have HX4 := Lib.hid (HXa.out.far (p := ⟨w.heap.size + 1, 3, none⟩) (by simp) (.int .i64 (nn4 : Int)))
 have HR4 := Lib.hid (HRa.out.gr (grown_set v4 (w.heap.size + 1) 3 (.int .i64 (nn4 : Int))) (by omega) (by omega))
 have HG4 := Lib.hid (gr_new HGa.out (grown_set v4 (w.heap.size + 1) 3 (.int .i64 (nn4 : Int))) (.inr ⟨_, rfl, by omega⟩))
 clear HCa HXa HRa HGa c4 f4
 generalize v4.setCell ⟨w.heap.size + 1, 3, none⟩ (.int .i64 (nn4 : Int)) = w4 at *
 by_cases hsh : q4.length < 8
 ·have PS : Hid (Calls Tryz.prog 34 #[.pointer (some ⟨R, 0, none⟩), .int .i64 8] w4 fun e w' => BadP e ∧ w4 = w') := Lib.hid (some_no w4 N R q4 8 HR4.out hsh)
  with_reducible refine PS.out.mono ?_
  rintro e v5 ⟨hbad, hw⟩
  have hbad2 : e = .panicked [{ v := .iface 167 (.agg #[]), recovered := false }] := hbad
  subst hbad2
  subst hw
  exact ⟨rfl, .inr ⟨cfg_no5 hsh, rfl, HG4.out⟩⟩
 ·have PS : Hid (Calls Tryz.prog 34 #[.pointer (some ⟨R, 0, none⟩), .int .i64 8] w4 (SomePost w4 N R q4 8)) := Lib.hid (some_yes w4 N R q4 8 HR4.out (by omega) hl4)
  have h8 : 8 ≤ q4.length := by omega
  have HT8 : Hid ((q4.take 8).length = 8) := Lib.hid (by simp; omega)
  have HBT := Lib.hid (HBY4.out.take 8)
  have HIN := Lib.hid (fun b r d m s rest k => cfg_in (u1 := nn1) (u2 := nn2) (u3 := nn3) (u4 := nn4) HBY4.out h8 (b := b) (r := r) (d := d) (m := m) (s := s) (rest := rest) k)
  have HOF := Lib.hid (fun hr => cfg_of (u1 := nn1) (u2 := nn2) (u3 := nn3) (u4 := nn4) HBY4.out h8 hr)
  have HDL : Hid ((q4.drop 8).length ≤ 100000) := Lib.hid (by rw [List.length_drop]; omega)
  with_reducible refine PS.out.mono ?_
  rintro e v5 ⟨v, rfl, hvN, hv, hrd, hg⟩
  obtain ⟨ao, cap, rfl, hcap, hmx, hc⟩ := hv
  have HV5 : Hid (BytesAt v5 (.slice ao (q4.take 8).length cap) (q4.take 8)) := Lib.hid ⟨ao, cap, rfl, hcap, hmx, hc⟩
  rw [HT8.out] at HV5 hvN hcap
  have HVN := Lib.hid hvN
  have HX5 := Lib.hid (HX4.out.grown hg (by simp; omega))
  have HC5 := Lib.hid (HC4.out.grown hg (by simp; omega))
  have HG5 := Lib.hid (gr_trans HG4.out hg)
  have HR5 := Lib.hid hrd
  clear hsh hl hl0 hl1 hl2 hl3 hl4 hvN hc hrd hg PS HX4 HC4 HG4 HR4
  rw [HT8.out]
  generalize q4.take 8 = sb at *
  generalize q4.drop 8 = rb at *
  go_wp2_with fail
  go_loopw [21] (fun i wr => ∃ j : Nat, j ≤ 8 ∧ i = .int .i64 (j : Int) ∧ Blk wr (w.heap.size + 1) 24 #[.int .i64 (nn1 : Int), .int .i64 (nn2 : Int), .int .i64 (nn3 : Int), .int .i64 (nn4 : Int), .int .u64 (leV (sb.take j))] ∧ Blk wr w.heap.size 24 #[.int .i64 0, .int .i64 0, .int .i64 0, .int .i64 0, .int .u64 0] ∧ BytesAt wr (.slice ao 8 cap) sb ∧ RdIs wr N R rb ∧ w.grownBy wr (some R)) (fun i _ => 8 - (intOf i).toNat)
  case atStart => exact ⟨0, by omega, rfl, HC5.out, HX5.out, HV5.out, HR5.out, HG5.out⟩
  case round =>
   obtain ⟨j, hj, rfl, hcb, hx, hv, hrd, hg⟩ := hrel
   have HCB := Lib.hid hcb
   have HX := Lib.hid hx
   have HV := Lib.hid hv
   have HRD := Lib.hid hrd
   have HG := Lib.hid hg
   clear hcb hx hv hrd hg HC5 HX5 HV5 HR5 HG5
   by_cases hlt : j < 8
   ·have hjs : j < sb.length := by rw [HT8.out]; exact hlt
    obtain ⟨g, off, rfl, hgl, cx⟩ := HV.out.cell hjs
    have hgN : g < N := HVN.out g off 8 cap rfl
    have hb8 := HBT.out.cellD j
    have HNX : Hid (leV (sb.take (j + 1)) = leV (sb.take j) + 256 ^ j * cellD sb j) := Lib.hid (by rw [take_step hjs, leV_append, List.length_take, Nat.min_eq_left (by omega)])
    have hlv := leV_bd (HBT.out.take j)
    rw [List.length_take, Nat.min_eq_left (by omega)] at hlv
    generalize leV (sb.take j) = U at *
    generalize cellD sb j = x at *
    have i0 : (0 : Int) ≤ (j : Int) := by omega
    have i1 : (j : Int) < 8 := by omega
    clear hjs hgl
    go_wp2_with fail
    refine wp_region_still_tail 9 (by kernel_rfl) (by kernel_rfl) ?_
    simp only [List.take_succ_cons, List.take_zero, List.drop_succ_cons, List.drop_zero]
    have HB1 : Hid (Below wr.heap.size wr { heap := wr.heap, tape := wr.tape, drawn := wr.drawn + 1, os := wr.os, output := wr.output }) := Lib.hid (below_drewN (Below.refl _ _) 1)
    have HCB6 := Lib.hid (HCB.out.kept HB1.out)
    have HX6 := Lib.hid (HX.out.kept HB1.out)
    have HV6 := Lib.hid (HV.out.kept HB1.out)
    have HRD6 := Lib.hid (HRD.out.kept HB1.out)
    have HG6 := Lib.hid (gr_trans HG.out (below_gr (row := some R) HB1.out))
    clear HCB HX HV HRD HG HB1
    generalize ({ heap := wr.heap, tape := wr.tape, drawn := wr.drawn + 1, os := wr.os, output := wr.output } : World) = wd at *
    have k4 := HCB6.out.cell 4
    have f4 := HCB6.out.frozen 4
    simp at k4
    have s1 : IntKind.i64.wrap (8 * (j : Int)) = 8 * (j : Int) := by rw [wrapI_eq64]; unfold wrap64; omega
    have s2 : IntKind.u64.wrap x = x := by rw [wrapU_mod]; omega
    have s3 : ¬ ((8 * (j : Int)) < 0) := by omega
    have KEY := Lib.hid (seed_or hlt hlv hb8)
    repeat still_step
    refine wpStill_nil ?_
    simp only [KEY.out, ← HNX.out]
    clear s1 s2 s3 KEY
    go_wp2_with fail
    have HCB7 : Hid (Blk (wd.setCell ⟨w.heap.size + 1, 4, none⟩ (.int .u64 (leV (sb.take (j + 1))))) (w.heap.size + 1) 24 #[.int .i64 (nn1 : Int), .int .i64 (nn2 : Int), .int .i64 (nn3 : Int), .int .i64 (nn4 : Int), .int .u64 (leV (sb.take (j + 1)))]) := Lib.hid (by simpa using HCB6.out.set_ 4 (.int .u64 (leV (sb.take (j + 1)))))
    have HGS := Lib.hid (grown_set wd (w.heap.size + 1) 4 (.int .u64 (leV (sb.take (j + 1)))))
    go_roundw
    case rel => exact ⟨j + 1, by omega, by go_num, HCB7.out, HX6.out.grown HGS.out (by simp), HV6.out.gr HGS.out (fun g2 off2 n2 c2 e => by have := HVN.out g2 off2 n2 c2 e; omega), HRD6.out.gr HGS.out (by omega) (by omega), gr_new HG6.out HGS.out (.inr ⟨_, rfl, by omega⟩)⟩
    case measure => simp [intOf]; omega
   ·obtain rfl : j = 8 := by omega
    have hts : sb.take 8 = sb := List.take_of_length_le (by have := HT8.out; omega)
    have HCB9 : Hid (Blk wr (w.heap.size + 1) 24 #[.int .i64 (nn1 : Int), .int .i64 (nn2 : Int), .int .i64 (nn3 : Int), .int .i64 (nn4 : Int), .int .u64 (leV sb)]) := Lib.hid (by have := HCB.out; rw [hts] at this; exact this)
    obtain ⟨rg, roff, rcap, hrb, hrv, -⟩ := HRD.out
    obtain ⟨rl, hrl⟩ : ∃ rl, rl = rb.length := ⟨_, rfl⟩
    have HRL := Lib.hid hrl
    rw [← hrl] at hrb
    have HRB := Lib.hid hrb
    have PR := fun w => right_any (nn1 : Int) nn2 nn3 nn4 (leV sb) w
    have PZ := Lib.hid (fun w => wsize_any (nn1 : Int) nn2 nn3 nn4 (leV sb) w)
    have hrl5 : rl ≤ 100000 := by have := HDL.out; omega
    have hzz := sizeN_le (nn1 : Int) nn2 nn3 nn4
    have HEX := Lib.hid (fun wq (hq : Below wr.heap.size wr wq) => gr_trans HG.out (below_gr (row := some R) hq))
    have i1 : ¬ ((8 : Nat) : Int) < 8 := by omega
    clear hrb hrv hrl hts hlt HCB HDL hj
    cases hr : rightB (nn1 : Int) nn2 nn3 nn4
    ·rw [hr] at PR
     have PR := Lib.hid PR
     have HNR := Lib.hid hr
     have HNO : Hid (CfgNo (putN nn1 ++ (putN nn2 ++ (putN nn3 ++ (putN nn4 ++ q4))))) := Lib.hid (fun b r d m s rest k => by
      obtain ⟨rfl, rfl, rfl, rfl, -, -⟩ := HIN.out b r d m s rest k
      have := k.1
      rw [HNR.out] at this
      cases this)
     clear hr hzz HIN HOF PZ
     go_wp2_with fail
     refine wp_region_held_drew (S := fun w' => Blk w' (w.heap.size + 1) 24 #[.int .i64 (nn1 : Int), .int .i64 (nn2 : Int), .int .i64 (nn3 : Int), .int .i64 (nn4 : Int), .int .u64 (leV sb)] ∧ Blk w' R 89 #[.slice (some ⟨rg, roff, none⟩) rl rcap] ∧ Below wr.heap.size wr w') (by kernel_rfl) (by exact ⟨HCB9.out.drewN 1, HRB.out.drewN 1, below_drewN (Below.refl _ _) 1⟩) (fun hHeld => ?_)
     refine tkH (i := 0) (v := ?_) rfl (by kernel_rfl) (fun _ _ _ h => h) (Or.inl ⟨by rfl, ?_⟩) (by assumption) ?_
     rotate_left
     ·intro w hSw
      have q0 := hSw.2.1.cell 0
      simp at q0
      try refine (exec_load_row 24 _ rfl _ rfl 24 _ (0, 0) _ hSw.1 Tryz.underlying24 rfl (by kernel_rfl)).trans ?_
      go_simp
      try with_reducible rfl
     simp only [Act.put, z1, z2, z3, z4, z5, z6]
     refine wpAnyH_ready (rs := [1]) (by kernel_rfl) (by simp) ?_
     refine AllReadyH.cons rfl (fun Kc hKc => ?_) AllReadyH.nil
     go_simp
     go_wp2_with (go_at_call 66; refine (PR.out _).mono ?_; rintro e w6 ⟨rfl, hb'⟩)
     refine hKc.out _ _ ?_ (fun hHeld => ?_)
     ·first | assumption | exact ⟨hHeld.1.kept hb', hHeld.2.1.kept hb', btr hHeld.2.2 hb'⟩
     clear hKc Kc
     refine tkH (i := 2) (v := ?_) rfl (by kernel_rfl) (fun _ _ _ h => h) (Or.inl ⟨by rfl, ?_⟩) (by assumption) ?_
     rotate_left
     ·intro w hSw
      try dsimp only at hSw
      go_simp
      try with_reducible rfl
     simp only [Act.put, z1, z2, z3, z4, z5, z6]
     refine tkH (i := 3) (v := ?_) rfl (by kernel_rfl) (fun _ _ _ h => h) (Or.inl ⟨by rfl, ?_⟩) (by assumption) ?_
     rotate_left
     ·intro w hSw
      try dsimp only at hSw
      go_simp
      try with_reducible rfl
     simp only [Act.put, z1, z2, z3, z4, z5, z6]
     refine tkH (i := 4) (v := undef) rfl (by kernel_rfl) (fun _ _ _ h => h) (Or.inr ⟨by rfl, rfl⟩) (by assumption) ?_
     simp only [Act.put, z1, z2, z3, z4, z5, z6]
     refine tkH (i := 6) (v := undef) rfl (by kernel_rfl) (fun _ _ _ h => h) (Or.inr ⟨by rfl, rfl⟩) (by assumption) ?_
     simp only [Act.put, z1, z2, z3, z4, z5, z6]
     refine tkH (i := 7) (v := undef) rfl (by kernel_rfl) (fun _ _ _ h => h) (Or.inr ⟨by rfl, rfl⟩) (by assumption) ?_
     simp only [Act.put, z1, z2, z3, z4, z5, z6]
     refine tkH (i := 8) (v := undef) rfl (by kernel_rfl) (fun _ _ _ h => h) (Or.inr ⟨by rfl, rfl⟩) (by assumption) ?_
     simp only [Act.put, z1, z2, z3, z4, z5, z6]
     refine tkH (i := 9) (v := undef) rfl (by kernel_rfl) (fun _ _ _ h => h) (Or.inr ⟨by rfl, rfl⟩) (by assumption) ?_
     simp only [Act.put, z1, z2, z3, z4, z5, z6]
     refine tkH (i := 10) (v := undef) rfl (by kernel_rfl) (fun _ _ _ h => h) (Or.inr ⟨by rfl, rfl⟩) (by assumption) ?_
     simp only [Act.put, z1, z2, z3, z4, z5, z6]
     refine wpAnyH_ready (rs := [5]) (by kernel_rfl) (by simp) ?_
     refine AllReadyH.cons rfl (fun Kc hKc => ?_) AllReadyH.nil
     go_simp
     refine hKc.out _ _ ?_ (fun hHeld => ?_)
     ·first | assumption | exact ⟨hHeld.1.kept hb', hHeld.2.1.kept hb', btr hHeld.2.2 hb'⟩
     clear hKc Kc
     refine tkH (i := 11) (v := undef) rfl (by kernel_rfl) (fun _ _ _ h => h) (Or.inr ⟨by rfl, rfl⟩) (by assumption) ?_
     simp only [Act.put, z1, z2, z3, z4, z5, z6]
     refine tkH (i := 12) (v := ?_) rfl (by kernel_rfl) (fun _ _ _ h => h) (Or.inl ⟨by rfl, ?_⟩) (by assumption) ?_
     rotate_left
     ·intro w hSw
      try dsimp only at hSw
      go_simp
      try with_reducible rfl
     simp only [Act.put, z1, z2, z3, z4, z5, z6]
     refine wpAnyH_done (by kernel_rfl) ?_ _
     go_wp2_with fail
     exact ⟨rfl, .inr ⟨HNO.out, rfl, HEX.out _ hHeld.2.2⟩⟩
    ·rw [hr] at PR
     have PR := Lib.hid PR
     have HCS := Lib.hid (HOF.out hr)
     clear hr HOF
     obtain ⟨sz, hsz⟩ : ∃ sz, sz = sizeN (nn1 : Int) nn2 nn3 nn4 := ⟨_, rfl⟩
     have HSZ := Lib.hid hsz
     rw [← hsz] at PZ hzz
     clear hsz
     by_cases hsl : rl < sz
     ·have d1 : decide ((rl : Int) < (sz : Int)) = true := decide_eq_true (by omega)
      have d1' : decide (rl < sz) = true := decide_eq_true hsl
      have HNO : Hid (CfgNo (putN nn1 ++ (putN nn2 ++ (putN nn3 ++ (putN nn4 ++ q4))))) := Lib.hid (fun b r d m s rest k => by
       obtain ⟨rfl, rfl, rfl, rfl, -, rfl⟩ := HIN.out b r d m s rest k
       rw [← HSZ.out, ← HRL.out]; exact hsl)
      clear HIN
      go_wp2_with fail
      refine wp_region_held_drew (S := fun w' => Blk w' (w.heap.size + 1) 24 #[.int .i64 (nn1 : Int), .int .i64 (nn2 : Int), .int .i64 (nn3 : Int), .int .i64 (nn4 : Int), .int .u64 (leV sb)] ∧ Blk w' R 89 #[.slice (some ⟨rg, roff, none⟩) rl rcap] ∧ Below wr.heap.size wr w') (by kernel_rfl) (by exact ⟨HCB9.out.drewN 1, HRB.out.drewN 1, below_drewN (Below.refl _ _) 1⟩) (fun hHeld => ?_)
      refine tkH (i := 0) (v := ?_) rfl (by kernel_rfl) (fun _ _ _ h => h) (Or.inl ⟨by rfl, ?_⟩) (by assumption) ?_
      rotate_left
      ·intro w hSw
       have q0 := hSw.2.1.cell 0
       simp at q0
       try refine (exec_load_row 24 _ rfl _ rfl 24 _ (0, 0) _ hSw.1 Tryz.underlying24 rfl (by kernel_rfl)).trans ?_
       go_simp
       try with_reducible rfl
      simp only [Act.put, z1, z2, z3, z4, z5, z6]
      refine wpAnyH_ready (rs := [1]) (by kernel_rfl) (by simp) ?_
      refine AllReadyH.cons rfl (fun Kc hKc => ?_) AllReadyH.nil
      go_simp
      go_wp2_with (first | (go_at_call 66; refine (PR.out _).mono ?_; rintro e w6 ⟨rfl, hb'⟩) | (go_at_call 67; refine (PZ.out _).mono ?_; rintro e w7 ⟨rfl, hb'⟩))
      refine hKc.out _ _ ?_ (fun hHeld => ?_)
      ·first | assumption | exact ⟨hHeld.1.kept hb', hHeld.2.1.kept hb', btr hHeld.2.2 hb'⟩
      clear hKc Kc
      refine tkH (i := 2) (v := ?_) rfl (by kernel_rfl) (fun _ _ _ h => h) (Or.inl ⟨by rfl, ?_⟩) (by assumption) ?_
      rotate_left
      ·intro w hSw
       try dsimp only at hSw
       go_simp
       try with_reducible rfl
      simp only [Act.put, z1, z2, z3, z4, z5, z6]
      refine tkH (i := 3) (v := ?_) rfl (by kernel_rfl) (fun _ _ _ h => h) (Or.inl ⟨by rfl, ?_⟩) (by assumption) ?_
      rotate_left
      ·intro w hSw
       try dsimp only at hSw
       go_simp
       try with_reducible rfl
      simp only [Act.put, z1, z2, z3, z4, z5, z6]
      refine tkH (i := 4) (v := ?_) rfl (by kernel_rfl) (fun _ _ _ h => h) (Or.inl ⟨by rfl, ?_⟩) (by assumption) ?_
      rotate_left
      ·intro w hSw
       have q0 := hSw.2.1.cell 0
       simp at q0
       try refine (exec_load_row 24 _ rfl _ rfl 24 _ (0, 0) _ hSw.1 Tryz.underlying24 rfl (by kernel_rfl)).trans ?_
       go_simp
       try with_reducible rfl
      simp only [Act.put, z1, z2, z3, z4, z5, z6]
      refine tkH (i := 6) (v := ?_) rfl (by kernel_rfl) (fun _ _ _ h => h) (Or.inl ⟨by rfl, ?_⟩) (by assumption) ?_
      rotate_left
      ·intro w hSw
       try dsimp only at hSw
       go_simp
       try with_reducible rfl
      simp only [Act.put, z1, z2, z3, z4, z5, z6]
      refine tkH (i := 7) (v := ?_) rfl (by kernel_rfl) (fun _ _ _ h => h) (Or.inl ⟨by rfl, ?_⟩) (by assumption) ?_
      rotate_left
      ·intro w hSw
       try dsimp only at hSw
       go_simp
       try with_reducible rfl
      simp only [Act.put, z1, z2, z3, z4, z5, z6]
      refine tkH (i := 8) (v := ?_) rfl (by kernel_rfl) (fun _ _ _ h => h) (Or.inl ⟨by rfl, ?_⟩) (by assumption) ?_
      rotate_left
      ·intro w hSw
       try dsimp only at hSw
       go_simp
       try with_reducible rfl
      simp only [Act.put, z1, z2, z3, z4, z5, z6]
      refine tkH (i := 9) (v := ?_) rfl (by kernel_rfl) (fun _ _ _ h => h) (Or.inl ⟨by rfl, ?_⟩) (by assumption) ?_
      rotate_left
      ·intro w hSw
       have q0 := hSw.2.1.cell 0
       simp at q0
       try refine (exec_load_row 24 _ rfl _ rfl 24 _ (0, 0) _ hSw.1 Tryz.underlying24 rfl (by kernel_rfl)).trans ?_
       go_simp
       try with_reducible rfl
      simp only [Act.put, z1, z2, z3, z4, z5, z6]
      refine tkH (i := 10) (v := ?_) rfl (by kernel_rfl) (fun _ _ _ h => h) (Or.inl ⟨by rfl, ?_⟩) (by assumption) ?_
      rotate_left
      ·intro w hSw
       try dsimp only at hSw
       go_simp
       try with_reducible rfl
      simp only [Act.put, z1, z2, z3, z4, z5, z6]
      refine wpAnyH_ready (rs := [5]) (by kernel_rfl) (by simp) ?_
      refine AllReadyH.cons rfl (fun Kc hKc => ?_) AllReadyH.nil
      go_simp
      go_wp2_with (first | (go_at_call 66; refine (PR.out _).mono ?_; rintro e w6 ⟨rfl, hb'⟩) | (go_at_call 67; refine (PZ.out _).mono ?_; rintro e w7 ⟨rfl, hb'⟩))
      refine hKc.out _ _ ?_ (fun hHeld => ?_)
      ·first | assumption | exact ⟨hHeld.1.kept hb', hHeld.2.1.kept hb', btr hHeld.2.2 hb'⟩
      clear hKc Kc
      refine tkH (i := 11) (v := ?_) rfl (by kernel_rfl) (fun _ _ _ h => h) (Or.inl ⟨by rfl, ?_⟩) (by assumption) ?_
      rotate_left
      ·intro w hSw
       try dsimp only at hSw
       go_simp
       try with_reducible rfl
      simp only [Act.put, z1, z2, z3, z4, z5, z6]
      refine tkH (i := 12) (v := ?_) rfl (by kernel_rfl) (fun _ _ _ h => h) (Or.inl ⟨by rfl, ?_⟩) (by assumption) ?_
      rotate_left
      ·intro w hSw
       try dsimp only at hSw
       go_simp
       try with_reducible rfl
      simp only [Act.put, z1, z2, z3, z4, z5, z6]
      refine wpAnyH_done (by kernel_rfl) ?_ _
      go_wp2_with fail
      exact ⟨rfl, .inr ⟨HNO.out, rfl, HEX.out _ hHeld.2.2⟩⟩
     ·have d1 : decide ((rl : Int) < (sz : Int)) = false := decide_eq_false (by omega)
      have d1' : decide (rl < sz) = false := decide_eq_false hsl
      have HLE : Hid (sizeN (nn1 : Int) nn2 nn3 nn4 ≤ rb.length) := Lib.hid (by rw [← HSZ.out, ← HRL.out]; omega)
      clear HIN
      go_wp2_with fail
      refine wp_region_held_drew (S := fun w' => Blk w' (w.heap.size + 1) 24 #[.int .i64 (nn1 : Int), .int .i64 (nn2 : Int), .int .i64 (nn3 : Int), .int .i64 (nn4 : Int), .int .u64 (leV sb)] ∧ Blk w' R 89 #[.slice (some ⟨rg, roff, none⟩) rl rcap] ∧ Below wr.heap.size wr w') (by kernel_rfl) (by exact ⟨HCB9.out.drewN 1, HRB.out.drewN 1, below_drewN (Below.refl _ _) 1⟩) (fun hHeld => ?_)
      refine tkH (i := 0) (v := ?_) rfl (by kernel_rfl) (fun _ _ _ h => h) (Or.inl ⟨by rfl, ?_⟩) (by assumption) ?_
      rotate_left
      ·intro w hSw
       have q0 := hSw.2.1.cell 0
       simp at q0
       try refine (exec_load_row 24 _ rfl _ rfl 24 _ (0, 0) _ hSw.1 Tryz.underlying24 rfl (by kernel_rfl)).trans ?_
       go_simp
       try with_reducible rfl
      simp only [Act.put, z1, z2, z3, z4, z5, z6]
      refine wpAnyH_ready (rs := [1]) (by kernel_rfl) (by simp) ?_
      refine AllReadyH.cons rfl (fun Kc hKc => ?_) AllReadyH.nil
      go_simp
      go_wp2_with (first | (go_at_call 66; refine (PR.out _).mono ?_; rintro e w6 ⟨rfl, hb'⟩) | (go_at_call 67; refine (PZ.out _).mono ?_; rintro e w7 ⟨rfl, hb'⟩))
      refine hKc.out _ _ ?_ (fun hHeld => ?_)
      ·first | assumption | exact ⟨hHeld.1.kept hb', hHeld.2.1.kept hb', btr hHeld.2.2 hb'⟩
      clear hKc Kc
      refine tkH (i := 2) (v := ?_) rfl (by kernel_rfl) (fun _ _ _ h => h) (Or.inl ⟨by rfl, ?_⟩) (by assumption) ?_
      rotate_left
      ·intro w hSw
       try dsimp only at hSw
       go_simp
       try with_reducible rfl
      simp only [Act.put, z1, z2, z3, z4, z5, z6]
      refine tkH (i := 3) (v := ?_) rfl (by kernel_rfl) (fun _ _ _ h => h) (Or.inl ⟨by rfl, ?_⟩) (by assumption) ?_
      rotate_left
      ·intro w hSw
       try dsimp only at hSw
       go_simp
       try with_reducible rfl
      simp only [Act.put, z1, z2, z3, z4, z5, z6]
      refine tkH (i := 4) (v := ?_) rfl (by kernel_rfl) (fun _ _ _ h => h) (Or.inl ⟨by rfl, ?_⟩) (by assumption) ?_
      rotate_left
      ·intro w hSw
       have q0 := hSw.2.1.cell 0
       simp at q0
       try refine (exec_load_row 24 _ rfl _ rfl 24 _ (0, 0) _ hSw.1 Tryz.underlying24 rfl (by kernel_rfl)).trans ?_
       go_simp
       try with_reducible rfl
      simp only [Act.put, z1, z2, z3, z4, z5, z6]
      refine tkH (i := 6) (v := ?_) rfl (by kernel_rfl) (fun _ _ _ h => h) (Or.inl ⟨by rfl, ?_⟩) (by assumption) ?_
      rotate_left
      ·intro w hSw
       try dsimp only at hSw
       go_simp
       try with_reducible rfl
      simp only [Act.put, z1, z2, z3, z4, z5, z6]
      refine tkH (i := 7) (v := ?_) rfl (by kernel_rfl) (fun _ _ _ h => h) (Or.inl ⟨by rfl, ?_⟩) (by assumption) ?_
      rotate_left
      ·intro w hSw
       try dsimp only at hSw
       go_simp
       try with_reducible rfl
      simp only [Act.put, z1, z2, z3, z4, z5, z6]
      refine tkH (i := 8) (v := ?_) rfl (by kernel_rfl) (fun _ _ _ h => h) (Or.inl ⟨by rfl, ?_⟩) (by assumption) ?_
      rotate_left
      ·intro w hSw
       try dsimp only at hSw
       go_simp
       try with_reducible rfl
      simp only [Act.put, z1, z2, z3, z4, z5, z6]
      refine tkH (i := 9) (v := ?_) rfl (by kernel_rfl) (fun _ _ _ h => h) (Or.inl ⟨by rfl, ?_⟩) (by assumption) ?_
      rotate_left
      ·intro w hSw
       have q0 := hSw.2.1.cell 0
       simp at q0
       try refine (exec_load_row 24 _ rfl _ rfl 24 _ (0, 0) _ hSw.1 Tryz.underlying24 rfl (by kernel_rfl)).trans ?_
       go_simp
       try with_reducible rfl
      simp only [Act.put, z1, z2, z3, z4, z5, z6]
      refine tkH (i := 10) (v := ?_) rfl (by kernel_rfl) (fun _ _ _ h => h) (Or.inl ⟨by rfl, ?_⟩) (by assumption) ?_
      rotate_left
      ·intro w hSw
       try dsimp only at hSw
       go_simp
       try with_reducible rfl
      simp only [Act.put, z1, z2, z3, z4, z5, z6]
      refine wpAnyH_ready (rs := [5]) (by kernel_rfl) (by simp) ?_
      refine AllReadyH.cons rfl (fun Kc hKc => ?_) AllReadyH.nil
      go_simp
      go_wp2_with (first | (go_at_call 66; refine (PR.out _).mono ?_; rintro e w6 ⟨rfl, hb'⟩) | (go_at_call 67; refine (PZ.out _).mono ?_; rintro e w7 ⟨rfl, hb'⟩))
      refine hKc.out _ _ ?_ (fun hHeld => ?_)
      ·first | assumption | exact ⟨hHeld.1.kept hb', hHeld.2.1.kept hb', btr hHeld.2.2 hb'⟩
      clear hKc Kc
      refine tkH (i := 11) (v := ?_) rfl (by kernel_rfl) (fun _ _ _ h => h) (Or.inl ⟨by rfl, ?_⟩) (by assumption) ?_
      rotate_left
      ·intro w hSw
       try dsimp only at hSw
       go_simp
       try with_reducible rfl
      simp only [Act.put, z1, z2, z3, z4, z5, z6]
      refine tkH (i := 12) (v := ?_) rfl (by kernel_rfl) (fun _ _ _ h => h) (Or.inl ⟨by rfl, ?_⟩) (by assumption) ?_
      rotate_left
      ·intro w hSw
       try dsimp only at hSw
       go_simp
       try with_reducible rfl
      simp only [Act.put, z1, z2, z3, z4, z5, z6]
      refine wpAnyH_done (by kernel_rfl) ?_ _
      have HC7 := Lib.hid hHeld.1
      have HX7 : Hid (Blk w7 w.heap.size 24 #[.int .i64 0, .int .i64 0, .int .i64 0, .int .i64 0, .int .u64 0]) := Lib.hid (HX.out.kept hHeld.2.2)
      have HGS : Hid (w7.grownBy (w7.setRow w.heap.size #[.int .i64 (nn1 : Int), .int .i64 (nn2 : Int), .int .i64 (nn3 : Int), .int .i64 (nn4 : Int), .int .u64 (leV sb)]) (some w.heap.size)) := Lib.hid ⟨rfl, rfl, rfl, by simp, fun k hk hne => setRow_other w7 w.heap.size k _ (by simpa using hne)⟩
      have HG8 : Hid (w.grownBy (w7.setRow w.heap.size #[.int .i64 (nn1 : Int), .int .i64 (nn2 : Int), .int .i64 (nn3 : Int), .int .i64 (nn4 : Int), .int .u64 (leV sb)]) (some R)) := Lib.hid (gr_new (HEX.out _ hHeld.2.2) HGS.out (.inr ⟨_, rfl, Nat.le_refl _⟩))
      have HRD8 : Hid (RdIs (w7.setRow w.heap.size #[.int .i64 (nn1 : Int), .int .i64 (nn2 : Int), .int .i64 (nn3 : Int), .int .i64 (nn4 : Int), .int .u64 (leV sb)]) N R rb) := Lib.hid ((HRD.out.kept hHeld.2.2).gr HGS.out (by omega) (by omega))
      have HH8 : Hid ((w7.setRow w.heap.size #[.int .i64 (nn1 : Int), .int .i64 (nn2 : Int), .int .i64 (nn3 : Int), .int .i64 (nn4 : Int), .int .u64 (leV sb)]).heap[w.heap.size]? = some (.cells #[.int .i64 (nn1 : Int), .int .i64 (nn2 : Int), .int .i64 (nn3 : Int), .int .i64 (nn4 : Int), .int .u64 (leV sb)] 24 (0, 0))) := Lib.hid (setRow_heap _ _ _ _ _ _ HX7.out)
      clear hHeld
      go_wp2_with (first | refine wpList_load_row rfl 24 _ rfl (w.heap.size + 1) rfl 24 _ (0, 0) _ HC7.out Tryz.underlying24 rfl (by kernel_rfl) ?_ | refine wpList_store_row rfl 24 _ _ rfl w.heap.size #[.int .i64 (nn1 : Int), .int .i64 (nn2 : Int), .int .i64 (nn3 : Int), .int .i64 (nn4 : Int), .int .u64 (leV sb)] rfl rfl 24 _ HX7.out (by kernel_rfl) rfl (cfg_one _ _ _ _ _) ?_)
      refine bodyPost_ret (v := .agg #[.int .i64 (nn1 : Int), .int .i64 (nn2 : Int), .int .i64 (nn3 : Int), .int .i64 (nn4 : Int), .int .u64 (leV sb)]) (results_cell_row rfl _ _ w.heap.size 24 _ (0, 0) _ rfl HH8.out Tryz.underlying24 rfl (by kernel_rfl)) rfl ?_
      exact .inl ⟨_, _, _, _, _, rb, HCS.out, HLE.out, rfl, HRD8.out, HG8.out⟩
end Go.Proofs.YtfeficdndjiijaaGreatDoor


namespace Go.Proofs.YtfeficdndjiijaaGreatDoor
open Go.RowKit
set_option linter.unusedVariables false
set_option linter.unusedSimpArgs false

set_option maxRecDepth 100000 in
theorem catch_panic (p q : Addr) (x y : Value) (u : TypeId) (pv : Value) (older : List PanicEntry) (w : World) (hp : w.cell? p = some x) (hq : w.cell? q = some y) (hpz : w.frozen? p = false) (hqz : w.frozen? q = false) (hne : p ≠ q) :
    CallsD Tryz.prog 33 #[.pointer (some p), .pointer (some q)] (.panicking ({ v := .iface u pv, recovered := false } :: older)) w fun e u' w' =>
      e = .returned (.tuple #[]) ∧ u' = .panicking ({ v := .iface u pv, recovered := true } :: older) ∧ w' = (w.setCell p (.pointer none)).setCell q (.int .i64 8) := by
  refine callsD_of_wpS Tryz.func33 rfl fun c₀ cs hu => ?_
  apply wpS_seq
  apply wpS_region
  simp [wpOpsS, go_sem, recoverD, hu, Tryz.ntmps33, Exit.thenS]
  refine wpS_cond (t := true) (by simp [Act.eval, Array.replicate]) ?_
  simp only [if_true]
  apply wpS_region
  have h1 : (w.setCell p (.pointer none)).cell? q = some y := by rw [World.cell?_setCell_other]; exact hq; exact hne
  have h2 : (w.setCell p (.pointer none)).frozen? q = false := by rw [World.frozen?_setCell]; exact hqz
  simp [wpOpsS, go_sem, hp, hpz, h1, h2, bodyPostS, results, Tryz.results33]
set_option maxRecDepth 100000 in
theorem catch_idle (p q : Addr) (w : World) :
    CallsD Tryz.prog 33 #[.pointer (some p), .pointer (some q)] .returning w fun e u' w' => e = .returned (.tuple #[]) ∧ u' = .returning ∧ w' = w := by
  refine callsD_of_wpS Tryz.func33 rfl fun c₀ cs hu => ?_
  apply wpS_seq
  apply wpS_region
  simp [wpOpsS, go_sem, recoverD, hu, Tryz.ntmps33, Exit.thenS]
  refine wpS_cond (t := false) (by simp [Act.eval, Array.replicate]) ?_
  simp only [Bool.false_eq_true, if_false]
  refine wpS_of_wp (wp_skip ?_)
  cases c₀
  simp_all [bodyPostS, results, Tryz.results33]
set_option maxRecDepth 100000 in
theorem dec_results (tmps : Array Value) (w : World) (p q : Addr) (x : Option Addr) (y : Int) (h2 : tmps[2]?.getD undef = .pointer (some p)) (h3 : tmps[3]?.getD undef = .pointer (some q)) (hp : w.cell? p = some (.pointer x)) (hq : w.cell? q = some (.int .i64 y)) :
    (results Tryz.f16 tmps).run Tryz.prog w = .ok (.tuple #[.pointer x, .int .i64 y]) w := by
  simp [results, Tryz.results16, go_sem, h2, h3, hp, hq]
def DecRes (w : World) (bs : List Int) (e : Ending) (w' : World) : Prop :=
  ((∃ b r d m s Z S L X A G C, DecS bs b r d m s Z ∧ e = .returned (.tuple #[.pointer (some ⟨S, 0, none⟩), .int .i64 0]) ∧ w.heap.size ≤ S ∧ StIs w' w.heap.size S L b r d m s X A G C Z) ∨ (DecNo bs ∧ e = .returned (.tuple #[.pointer none, .int .i64 (errOf bs)]))) ∧ Below w.heap.size w w'
theorem news1b (w : World) (a b : Obj) : Below w.heap.size w ((w.alloc a).alloc b) := ((Below.refl _ _).alloc (Nat.le_refl _) _).alloc (by simp) _
set_option maxRecDepth 100000 in
set_option maxHeartbeats 8000000 in
theorem dec_few (w : World) (v : Value) (bs : List Int) (hv : BytesAt w v bs) (hl : bs.length < 4) :
  Calls Tryz.prog 16 #[v] w (DecRes w bs) := by
 have HNO := Lib.hid (dec_short hl)
 have HER : Hid (errOf bs = 8) := Lib.hid (by unfold errOf; rw [if_pos hl])
 obtain ⟨ao, cap, rfl, hcap, hmx, hc⟩ := hv
 obtain ⟨n, hn⟩ : ∃ n, n = bs.length := ⟨_, rfl⟩
 rw [← hn] at hcap hl ⊢
 clear hn hc
 have d1 : decide ((n : Int) < 4) = true := decide_eq_true (by omega)
 have HB := Lib.hid (news1b w (.cells #[.pointer none] 49) (.cells #[.int .i64 0] 50))
 go_enter_defers Tryz.func16, Tryz.ntmps16
 go_wp2_with fail
 obtain ⟨g1, g2, -, -⟩ := news2 w (.cells #[.pointer none] 49) (.cells #[.int .i64 8] 50)
 have c0 : World.cell? ((w.alloc (.cells #[.pointer none] 49)).alloc (.cells #[.int .i64 8] 50)) ⟨w.heap.size, 0, none⟩ = some (.pointer none) := (show Blk _ w.heap.size 49 #[.pointer none] from g1).cell 0
 have c1 : World.cell? ((w.alloc (.cells #[.pointer none] 49)).alloc (.cells #[.int .i64 8] 50)) ⟨w.heap.size + 1, 0, none⟩ = some (.int .i64 8) := (show Blk _ (w.heap.size + 1) 50 #[.int .i64 8] from g2).cell 0
 refine ⟨_, dec_results _ _ ⟨w.heap.size, 0, none⟩ ⟨w.heap.size + 1, 0, none⟩ none 8 rfl rfl c0 c1, .inr ⟨HNO.out, by rw [HER.out]⟩, news1b _ _ _⟩
theorem door_ret {w wz : World} {bs : List Int} {t : Array Value} {S E : Nat} {x : Option Addr} {y : Int} (h2 : t[2]?.getD undef = .pointer (some ⟨S, 0, none⟩)) (h3 : t[3]?.getD undef = .pointer (some ⟨E, 0, none⟩)) (hS : Blk wz S 49 #[.pointer x]) (hE : Blk wz E 50 #[.int .i64 y])
    (hR : DecRes w bs (.returned (.tuple #[.pointer x, .int .i64 y])) wz) : bodyPostD Tryz.prog Tryz.f16 (DecRes w bs) Exit.ret { tmps := t, defers := [{ target := .fn (.func 33) #[.pointer (some ⟨S, 0, none⟩), .pointer (some ⟨E, 0, none⟩)], args := #[] }] } wz := by
  refine leaves_cons (f := 33) (args := #[.pointer (some ⟨S, 0, none⟩), .pointer (some ⟨E, 0, none⟩)]) (by simp) (by simp [go_sem]) ?_
  refine (catch_idle ⟨S, 0, none⟩ ⟨E, 0, none⟩ wz).mono ?_
  rintro e u' w'' ⟨rfl, rfl, rfl⟩
  exact ⟨_, dec_results t _ _ _ x y h2 h3 (hS.cell 0) (hE.cell 0), hR⟩
theorem door_panic {w wz : World} {bs : List Int} {t : Array Value} {S E : Nat} {x : Option Addr} {y : Int} (h2 : t[2]?.getD undef = .pointer (some ⟨S, 0, none⟩)) (h3 : t[3]?.getD undef = .pointer (some ⟨E, 0, none⟩)) (hS : Blk wz S 49 #[.pointer x]) (hE : Blk wz E 50 #[.int .i64 y]) (hne : S ≠ E)
  (h0 : w.heap.size ≤ S) (h1 : w.heap.size ≤ E) (hb : Below w.heap.size w wz) (hn : DecNo bs) (he : errOf bs = 8) : bodyPostD Tryz.prog Tryz.f16 (DecRes w bs) (Exit.panic [{ v := .iface 167 (.agg #[]), recovered := false }]) { tmps := t, defers := [{ target := .fn (.func 33) #[.pointer (some ⟨S, 0, none⟩), .pointer (some ⟨E, 0, none⟩)], args := #[] }] } wz := by
 have hS' : Blk ((wz.setCell ⟨S, 0, none⟩ (.pointer none)).setCell ⟨E, 0, none⟩ (.int .i64 8)) S 49 #[.pointer none] := by
  have := (hS.set_ 0 (.pointer none)).far (p := ⟨E, 0, none⟩) hne (.int .i64 8)
  simpa using this
 have hE' : Blk ((wz.setCell ⟨S, 0, none⟩ (.pointer none)).setCell ⟨E, 0, none⟩ (.int .i64 8)) E 50 #[.int .i64 8] := by
  have := (hE.far (p := ⟨S, 0, none⟩) (Ne.symm hne) (.pointer none)).set_ 0 (.int .i64 8)
  simpa using this
 have hB' := (hb.setCell (p := ⟨S, 0, none⟩) h0 (.pointer none)).setCell (p := ⟨E, 0, none⟩) h1 (.int .i64 8)
 refine leaves_cons (f := 33) (args := #[.pointer (some ⟨S, 0, none⟩), .pointer (some ⟨E, 0, none⟩)]) (by simp) (by simp [go_sem]) ?_
 refine (catch_panic ⟨S, 0, none⟩ ⟨E, 0, none⟩ _ _ _ _ [] wz (hS.cell 0) (hE.cell 0) (hS.frozen 0) (hE.frozen 0) (fun h => hne (by cases h; rfl))).mono ?_
 rintro e u' w'' ⟨rfl, rfl, rfl⟩
 exact ⟨_, dec_results t _ _ _ none 8 h2 h3 (hS'.cell 0) (hE'.cell 0), .inr ⟨hn, by rw [he]⟩, hB'⟩
theorem sign_iff {bs : List Int} {n : Nat} (hn : bs.length = n + 4) : leB (sumI 0 (bs.take n)) 4 = bs.drop n ↔ signB (bs.take (bs.length - 4)) = bs := by
  have e : bs.length - 4 = n := by omega
  rw [e, signB]
  constructor
  · intro h
    rw [h, List.take_append_drop]
  · intro h
    have h2 : bs.take n ++ leB (sumI 0 (bs.take n)) 4 = bs.take n ++ bs.drop n := by rw [h, List.take_append_drop]
    exact List.append_cancel_left h2
theorem leaves_tmps {P : Program} {fn : Func} {t t' : Array Value} {R : Ending → World → Prop} (h : results fn t = results fn t') : ∀ (ds : List Deferred) (u : FrameMode) (w : World), Leaves P fn t R ds u w → Leaves P fn t' R ds u w := by
  intro ds
  induction ds with
  | nil =>
    intro u w hl
    cases u with
    | run => exact hl
    | returning => obtain ⟨v, h1, h2⟩ := hl; exact ⟨v, h ▸ h1, h2⟩
    | panicking chain => exact hl
  | cons d ds ih =>
    intro u w hl
    obtain ⟨h1, fv, cap, f, args, h2, h3, h4⟩ := hl
    refine ⟨h1, fv, cap, f, args, h2, h3, h4.mono ?_⟩
    intro e u' w' he
    cases e with
    | returned v => exact ih _ _ he
    | panicked chain => exact ih _ _ he
    | outgrown => exact he
theorem dec_tmps (t : Array Value) (k : Nat) (v : Value) (h2 : k ≠ 2) (h3 : k ≠ 3) : results Tryz.f16 (t.setIfInBounds k v) = results Tryz.f16 t := by
  have e2 : (t.setIfInBounds k v)[2]? = t[2]? := by rw [Array.getElem?_setIfInBounds]; simp [h2]
  have e3 : (t.setIfInBounds k v)[3]? = t[3]? := by rw [Array.getElem?_setIfInBounds]; simp [h3]
  simp [results, Tryz.results16, e2, e3]
theorem dec_put {R : Ending → World → Prop} {c : List PanicEntry} {a : Act} {k : Nat} {v : Value} {w : World} (hk : k ≠ 2 ∧ k ≠ 3) (h : bodyPostD Tryz.prog Tryz.f16 R (Exit.panic c) (a.put (some k) v) w) : bodyPostD Tryz.prog Tryz.f16 R (Exit.panic c) a w :=
  leaves_tmps (dec_tmps a.tmps k v hk.1 hk.2) _ _ _ h
theorem BytesAt.upto2 {w : World} {g off n cap : Nat} {bs : List Int} (h : BytesAt w (.slice (some ⟨g, off, none⟩) n cap) bs) (a : Nat) (ha : a ≤ n) : BytesAt w (.slice (some ⟨g, off, none⟩) a cap) (bs.take a) := by
  obtain ⟨ao2, cap2, e, h1, h2, h3⟩ := h
  simp only [Value.slice.injEq] at e
  obtain ⟨rfl, rfl, rfl⟩ := e
  have hl : (bs.take a).length = a := by simp; omega
  refine ⟨_, cap, by rw [hl], by rw [hl]; omega, by omega, ?_⟩
  rcases h3 with ⟨rfl, h3⟩ | ⟨g2, off2, e2, hg, hcc⟩
  · cases h3
  · have e2 := Option.some.inj e2
    cases e2
    refine .inr ⟨g, off, rfl, hg, fun i u hu => ?_⟩
    rw [List.getElem?_take] at hu
    split at hu
    · exact hcc i u hu
    · cases hu
theorem u32_u64 (x : Int) (h0 : 0 ≤ x) (h1 : x ≤ 4294967295) : IntKind.u64.wrap x = x := by rw [wrapU_mod]; omega
theorem takerow_yes (w : World) (v : Value) (bs : List Int) (n : Nat) (hv : BytesAt w v bs) (hb : Byts bs) (hl : bs.length ≤ 100000) (hn : n ≤ 100000) {zs : List Int} {a : Nat} (h : TRow bs n zs a) :
    Calls Tryz.prog 37 #[v, .int .i64 (n : Int)] w fun e w' => ∃ x, e = .returned (.tuple #[x, .int .i64 (a : Int), .int .i64 0]) ∧ OwnZ w' w.heap.size x zs ∧ Below w.heap.size w w' := by
  refine (takerow_any w v bs n hv hb hl hn).mono ?_
  rintro e w' ⟨⟨ys, c, x, h1, h2, h3⟩ | ⟨h1, h2⟩, h4⟩
  · obtain ⟨rfl, rfl⟩ := h.unique h1
    exact ⟨x, h2, h3, h4⟩
  · exact absurd h (h1 _ _)
theorem takerow_no (w : World) (v : Value) (bs : List Int) (n : Nat) (hv : BytesAt w v bs) (hb : Byts bs) (hl : bs.length ≤ 100000) (hn : n ≤ 100000) (h : TRowNo bs n) :
    Calls Tryz.prog 37 #[v, .int .i64 (n : Int)] w fun e w' => e = .returned (.tuple #[.slice none 0 0, .int .i64 0, .int .i64 8]) ∧ Below w.heap.size w w' := by
  refine (takerow_any w v bs n hv hb hl hn).mono ?_
  rintro e w' ⟨⟨ys, c, x, h1, h2, h3⟩ | ⟨h1, h2⟩, h4⟩
  · exact absurd h1 (h _ _)
  · exact ⟨h2, h4⟩
theorem RdIs.blk {w : World} {N R : Nat} {bs : List Int} (h : RdIs w N R bs) : ∃ cs, Blk w R 89 cs := by
  obtain ⟨g, off, cap, h1, -⟩ := h
  exact ⟨_, h1⟩
theorem rowsB_up {Z : Nat → List Int} {j : Nat} {cs : List Int} : rowsB (upN Z j cs) (j + 1) = rowsB Z j ++ rowB cs := by
  rw [rowsB, upN_same, rowsB_congr (fun n hn => upN_other Z cs (show n ≠ j by omega))]
theorem Shaped.up {b r d m : Int} {Z : Nat → List Int} {j : Nat} {cs : List Int} (h : Shaped b r d m Z j) (hl : cs.length = cellsN b r d m (j : Int)) (hf : Fit cs) : Shaped b r d m (upN Z j cs) (j + 1) := fun n hn => by
  by_cases e : n = j
  · subst e; rw [upN_same]; exact ⟨hl, hf⟩
  · rw [upN_other _ _ e]; exact h n (by omega)
end Go.Proofs.YtfeficdndjiijaaGreatDoor

