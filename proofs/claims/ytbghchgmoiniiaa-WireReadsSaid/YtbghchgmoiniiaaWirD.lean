/-
  The walk of wire's reader: config. Conditions: none beyond those stated at each theorem.
-/
import Derived.Test.YtbghchgmoiniiaaWirC
namespace Go.Proofs.Ytbghchgmoiniiaa
open Go.RowKit
set_option linter.unusedVariables false
set_option linter.unusedSimpArgs false

def NumRes2 (w : World) (N R : Nat) (bs : List Int) (most : Nat) (e : Ending) (w' : World) : Prop :=
  (∃ u r, bs = putN u ++ r ∧ u ≤ most ∧ e = .returned (.int .i64 (u : Int)) ∧ RdIs w' N R r ∧ w.grownBy w' (some R)) ∨ ((∀ u r, u ≤ most → bs ≠ putN u ++ r) ∧ BadP e ∧ w = w')
theorem number2 (w : World) (N R : Nat) (bs : List Int) (most : Nat) (h : RdIs w N R bs) (hb : Byts bs) (hm : most ≤ 1000000) (hl : bs.length ≤ 100000) :
    Calls Try.prog 41 #[.pointer (some ⟨R, 0, none⟩), .int .i64 (most : Int)] w (NumRes2 w N R bs most) := by
  refine (number_any w N R bs most h hb hm hl).mono ?_
  rintro e w' (⟨u, m, h1, h2, h3, h4, h5⟩ | ⟨h1, h2, h3⟩)
  · obtain ⟨k1, k2, r, k3⟩ := h1
    refine .inl ⟨u, r, k3, h2, h3, ?_, h5⟩
    rw [k3, k2, List.drop_left] at h4
    exact h4
  · refine .inr ⟨fun u r hu e => ?_, h2, h3⟩
    have := h1 u (putN u).length ⟨by omega, rfl, r, e⟩
    omega
def CfgRes (w : World) (N R : Nat) (bs : List Int) (e : Ending) (w' : World) : Prop :=
  (∃ b r d m s rest, CfgS bs b r d m s rest ∧ sizeN b r d m ≤ rest.length ∧ e = .returned (.agg #[.int .i64 b, .int .i64 r, .int .i64 d, .int .i64 m, .int .u64 s]) ∧ RdIs w' N R rest ∧ w.grownBy w' (some R)) ∨ ((∀ b r d m s rest, CfgS bs b r d m s rest → rest.length < sizeN b r d m) ∧ BadP e ∧ w.grownBy w' (some R))
def CfgNo (bs : List Int) : Prop := ∀ b r d m s rest, CfgS bs b r d m s rest → rest.length < sizeN b r d m
theorem Byts.tail {a b : List Int} (h : Byts (a ++ b)) : Byts b := fun u hu => h u (by simp [hu])
theorem cfg_no1 {bs : List Int} (h : ∀ u r, u ≤ 59 → bs ≠ putN u ++ r) : CfgNo bs := fun b r d m s rest k => by
  have := right_of k.1
  exact absurd k.2.2.2 (h _ _ (by omega))
theorem cfg_no2 {u1 : Nat} {q : List Int} (h : ∀ u r, u ≤ 8 → q ≠ putN u ++ r) : CfgNo (putN u1 ++ q) := fun b r d m s rest k => by
  have := right_of k.1
  obtain ⟨-, e⟩ := putN_head k.2.2.2
  exact absurd e (h _ _ (by omega))
theorem cfg_no3 {u1 u2 : Nat} {q : List Int} (h : ∀ u r, u ≤ 128 → q ≠ putN u ++ r) : CfgNo (putN u1 ++ (putN u2 ++ q)) := fun b r d m s rest k => by
  have := right_of k.1
  obtain ⟨-, e⟩ := putN_head k.2.2.2
  obtain ⟨-, e⟩ := putN_head e
  exact absurd e (h _ _ (by omega))
theorem cfg_no4 {u1 u2 u3 : Nat} {q : List Int} (h : ∀ u r, u ≤ 3 → q ≠ putN u ++ r) : CfgNo (putN u1 ++ (putN u2 ++ (putN u3 ++ q))) := fun b r d m s rest k => by
  have := right_of k.1
  obtain ⟨-, e⟩ := putN_head k.2.2.2
  obtain ⟨-, e⟩ := putN_head e
  obtain ⟨-, e⟩ := putN_head e
  exact absurd e (h _ _ (by omega))
theorem cfg_no5 {u1 u2 u3 u4 : Nat} {q : List Int} (h : q.length < 8) : CfgNo (putN u1 ++ (putN u2 ++ (putN u3 ++ (putN u4 ++ q)))) := fun b r d m s rest k => by
  obtain ⟨-, e⟩ := putN_head k.2.2.2
  obtain ⟨-, e⟩ := putN_head e
  obtain ⟨-, e⟩ := putN_head e
  obtain ⟨-, e⟩ := putN_head e
  rw [e, List.length_append, leB_len] at h
  omega
theorem cfg_in {u1 u2 u3 u4 : Nat} {q : List Int} (hq : Byts q) (h : 8 ≤ q.length) {b r d m s : Int} {rest : List Int} (k : CfgS (putN u1 ++ (putN u2 ++ (putN u3 ++ (putN u4 ++ q)))) b r d m s rest) : b = u1 ∧ r = u2 ∧ d = u3 ∧ m = u4 ∧ s = leV (q.take 8) ∧ rest = q.drop 8 := by
  have hr := right_of k.1
  obtain ⟨e1, e⟩ := putN_head k.2.2.2
  obtain ⟨e2, e⟩ := putN_head e
  obtain ⟨e3, e⟩ := putN_head e
  obtain ⟨e4, e⟩ := putN_head e
  have h5 : q.take 8 = leB s 8 := by rw [e, List.take_append_of_le_length (by rw [leB_len]; omega), List.take_of_length_le (by rw [leB_len]; omega)]
  have h6 : q.drop 8 = rest := by rw [e, List.drop_append_of_le_length (by rw [leB_len]; omega), List.drop_eq_nil_of_le (by rw [leB_len]; omega), List.nil_append]
  refine ⟨by omega, by omega, by omega, by omega, ?_, h6.symm⟩
  rw [h5, leV_leB 8 s k.2.1 (by rw [p256]; exact k.2.2.1)]
theorem cfg_of {u1 u2 u3 u4 : Nat} {q : List Int} (hq : Byts q) (h : 8 ≤ q.length) (hr : rightB u1 u2 u3 u4 = true) : CfgS (putN u1 ++ (putN u2 ++ (putN u3 ++ (putN u4 ++ q)))) u1 u2 u3 u4 (leV (q.take 8)) (q.drop 8) := by
  have hl : (q.take 8).length = 8 := by simp; omega
  have hb := leV_bd (hq.take 8)
  rw [hl, p256] at hb
  refine ⟨hr, hb.1, hb.2, ?_⟩
  have := leB_leV (hq.take 8)
  rw [hl] at this
  rw [this, List.take_append_drop]
  simp only [Int.toNat_natCast]
theorem seed_or {U x : Int} {j : Nat} (hj : j < 8) (hU : 0 ≤ U ∧ U < 256 ^ j) (hx : 0 ≤ x ∧ x ≤ 255) : bits BinOp.or IntKind.u64 U (IntKind.u64.wrap (x * 2 ^ (8 * (j : Int)).toNat)) = U + 256 ^ j * x := by
  have e1 : (8 * (j : Int)).toNat = 8 * j := by omega
  have e2 : (2 : Int) ^ (8 * j) = 256 ^ j := by rw [Int.pow_mul]; rfl
  have hm : (256 : Int) ^ j ≤ 256 ^ 7 := by
    rcases (show j = 0 ∨ j = 1 ∨ j = 2 ∨ j = 3 ∨ j = 4 ∨ j = 5 ∨ j = 6 ∨ j = 7 by omega) with rfl | rfl | rfl | rfl | rfl | rfl | rfl | rfl <;> decide
  have h7 : (256 : Int) ^ 7 = 72057594037927936 := by decide
  have hp : (0 : Int) < 256 ^ j := Int.pow_pos (by decide)
  have hb1 : (256 : Int) ^ j * x ≤ 72057594037927936 * 255 := Int.mul_le_mul (by omega) hx.2 hx.1 (by decide)
  have hb0 : 0 ≤ (256 : Int) ^ j * x := Int.mul_nonneg (by omega) hx.1
  rw [e1]
  have hw : IntKind.u64.wrap (x * 2 ^ (8 * j)) = x * 2 ^ (8 * j) := by rw [wrapU_mod, e2, Int.mul_comm]; omega
  rw [hw, or_at U x (8 * j) hU.1 (by rw [e2]; exact hU.2) hx.1 (by rw [e2]; omega) (by rw [e2]; omega), e2]
theorem cfg_one (b r d m s : Int) : (#[Value.int .i64 b, .int .i64 r, .int .i64 d, .int .i64 m, .int .u64 s] : Array Value).all (·.oneCell') = true := by simp [Value.oneCell']
set_option maxRecDepth 100000 in
set_option maxHeartbeats 8000000 in
theorem config_any (w : World) (N R : Nat) (bs : List Int) (h : RdIs w N R bs) (hb : Byts bs) (hl : bs.length ≤ 100000) :
    Calls Try.prog 22 #[.pointer (some ⟨R, 0, none⟩)] w (CfgRes w N R bs) := by
  have hRlt := h.lt
  have hNR : N ≤ R := by obtain ⟨g, off, cap, -, -, -, h4⟩ := h; exact h4
  obtain ⟨g1, g2, hb1, hsz1⟩ := news2 w (.cells #[.int .i64 0, .int .i64 0, .int .i64 0, .int .i64 0, .int .u64 0] 36) (.cells #[.int .i64 0, .int .i64 0, .int .i64 0, .int .i64 0, .int .u64 0] 36)
  have HR0 := Lib.hid (h.kept hb1)
  have HG0 : Hid (w.grownBy ((w.alloc (.cells #[.int .i64 0, .int .i64 0, .int .i64 0, .int .i64 0, .int .u64 0] 36)).alloc (.cells #[.int .i64 0, .int .i64 0, .int .i64 0, .int .i64 0, .int .u64 0] 36)) (some R)) := Lib.hid (below_gr hb1)
  have HX0 : Hid (Blk ((w.alloc (.cells #[.int .i64 0, .int .i64 0, .int .i64 0, .int .i64 0, .int .u64 0] 36)).alloc (.cells #[.int .i64 0, .int .i64 0, .int .i64 0, .int .i64 0, .int .u64 0] 36)) w.heap.size 36 #[.int .i64 0, .int .i64 0, .int .i64 0, .int .i64 0, .int .u64 0]) := Lib.hid g1
  have HC0 : Hid (Blk ((w.alloc (.cells #[.int .i64 0, .int .i64 0, .int .i64 0, .int .i64 0, .int .u64 0] 36)).alloc (.cells #[.int .i64 0, .int .i64 0, .int .i64 0, .int .i64 0, .int .u64 0] 36)) (w.heap.size + 1) 36 #[.int .i64 0, .int .i64 0, .int .i64 0, .int .i64 0, .int .u64 0]) := Lib.hid g2
  have HBY0 := Lib.hid hb
  have hl0 := hl
  clear h hb g1 g2 hb1 hsz1
  go_enter Try.func22, Try.ntmps22
  go_wp2_with fail
  generalize (w.alloc (.cells #[.int .i64 0, .int .i64 0, .int .i64 0, .int .i64 0, .int .u64 0] 36)).alloc (.cells #[.int .i64 0, .int .i64 0, .int .i64 0, .int .i64 0, .int .u64 0] 36) = w0 at *
  obtain ⟨q0, hq0⟩ : ∃ q, q = bs := ⟨_, rfl⟩
  subst hq0
  have PN1 : Hid (Calls Try.prog 41 #[.pointer (some ⟨R, 0, none⟩), .int .i64 59] w0 (NumRes2 w0 N R q0 59)) := Lib.hid (number2 w0 N R q0 59 HR0.out HBY0.out (by decide) hl0)
  with_reducible refine PN1.out.mono ?_
  rintro e v1 (⟨nn1, q1, rfl, hle1, rfl, hrd, hg⟩ | ⟨hno, hbad, hw⟩)
  rotate_left
  · have hbad2 : e = .panicked [{ v := .iface 80 (.agg #[]), recovered := false }] := hbad
    subst hbad2
    subst hw
    exact ⟨rfl, .inr ⟨cfg_no1 hno, rfl, HG0.out⟩⟩
  have HBY1 := Lib.hid HBY0.out.tail
  have hl1 : q1.length ≤ 100000 := by rw [List.length_append] at hl0; omega
  have HXa := Lib.hid (HX0.out.grown hg (by simp; omega))
  have HCa := Lib.hid (HC0.out.grown hg (by simp; omega))
  have HGa := Lib.hid (gr_trans HG0.out hg)
  have HRa := Lib.hid hrd
  have c1 := HCa.out.cell 0
  have f1 := HCa.out.frozen 0
  simp at c1
  clear hrd hg HX0 HC0 HG0 HR0 HBY0 PN1
  go_wp2_with fail
  have HC1 : Hid (Blk (v1.setCell ⟨w.heap.size + 1, 0, none⟩ (.int .i64 (nn1 : Int))) (w.heap.size + 1) 36 #[.int .i64 (nn1 : Int), .int .i64 0, .int .i64 0, .int .i64 0, .int .u64 0]) := Lib.hid (by simpa using HCa.out.set_ 0 (.int .i64 (nn1 : Int)))
  have HX1 := Lib.hid (HXa.out.far (p := ⟨w.heap.size + 1, 0, none⟩) (by simp) (.int .i64 (nn1 : Int)))
  have HR1 := Lib.hid (HRa.out.gr (grown_set v1 (w.heap.size + 1) 0 (.int .i64 (nn1 : Int))) (by omega) (by omega))
  have HG1 := Lib.hid (gr_new HGa.out (grown_set v1 (w.heap.size + 1) 0 (.int .i64 (nn1 : Int))) (.inr ⟨_, rfl, by omega⟩))
  clear HCa HXa HRa HGa c1 f1
  generalize v1.setCell ⟨w.heap.size + 1, 0, none⟩ (.int .i64 (nn1 : Int)) = w1 at *
  have PN2 : Hid (Calls Try.prog 41 #[.pointer (some ⟨R, 0, none⟩), .int .i64 8] w1 (NumRes2 w1 N R q1 8)) := Lib.hid (number2 w1 N R q1 8 HR1.out HBY1.out (by decide) hl1)
  with_reducible refine PN2.out.mono ?_
  rintro e v2 (⟨nn2, q2, rfl, hle2, rfl, hrd, hg⟩ | ⟨hno, hbad, hw⟩)
  rotate_left
  · have hbad2 : e = .panicked [{ v := .iface 80 (.agg #[]), recovered := false }] := hbad
    subst hbad2
    subst hw
    exact ⟨rfl, .inr ⟨cfg_no2 hno, rfl, HG1.out⟩⟩
  have HBY2 := Lib.hid HBY1.out.tail
  have hl2 : q2.length ≤ 100000 := by rw [List.length_append] at hl1; omega
  have HXa := Lib.hid (HX1.out.grown hg (by simp; omega))
  have HCa := Lib.hid (HC1.out.grown hg (by simp; omega))
  have HGa := Lib.hid (gr_trans HG1.out hg)
  have HRa := Lib.hid hrd
  have c2 := HCa.out.cell 1
  have f2 := HCa.out.frozen 1
  simp at c2
  clear hrd hg HX1 HC1 HG1 HR1 HBY1 PN2
  go_wp2_with fail
  have HC2 : Hid (Blk (v2.setCell ⟨w.heap.size + 1, 1, none⟩ (.int .i64 (nn2 : Int))) (w.heap.size + 1) 36 #[.int .i64 (nn1 : Int), .int .i64 (nn2 : Int), .int .i64 0, .int .i64 0, .int .u64 0]) := Lib.hid (by simpa using HCa.out.set_ 1 (.int .i64 (nn2 : Int)))
  have HX2 := Lib.hid (HXa.out.far (p := ⟨w.heap.size + 1, 1, none⟩) (by simp) (.int .i64 (nn2 : Int)))
  have HR2 := Lib.hid (HRa.out.gr (grown_set v2 (w.heap.size + 1) 1 (.int .i64 (nn2 : Int))) (by omega) (by omega))
  have HG2 := Lib.hid (gr_new HGa.out (grown_set v2 (w.heap.size + 1) 1 (.int .i64 (nn2 : Int))) (.inr ⟨_, rfl, by omega⟩))
  clear HCa HXa HRa HGa c2 f2
  generalize v2.setCell ⟨w.heap.size + 1, 1, none⟩ (.int .i64 (nn2 : Int)) = w2 at *
  have PN3 : Hid (Calls Try.prog 41 #[.pointer (some ⟨R, 0, none⟩), .int .i64 128] w2 (NumRes2 w2 N R q2 128)) := Lib.hid (number2 w2 N R q2 128 HR2.out HBY2.out (by decide) hl2)
  with_reducible refine PN3.out.mono ?_
  rintro e v3 (⟨nn3, q3, rfl, hle3, rfl, hrd, hg⟩ | ⟨hno, hbad, hw⟩)
  rotate_left
  · have hbad2 : e = .panicked [{ v := .iface 80 (.agg #[]), recovered := false }] := hbad
    subst hbad2
    subst hw
    exact ⟨rfl, .inr ⟨cfg_no3 hno, rfl, HG2.out⟩⟩
  have HBY3 := Lib.hid HBY2.out.tail
  have hl3 : q3.length ≤ 100000 := by rw [List.length_append] at hl2; omega
  have HXa := Lib.hid (HX2.out.grown hg (by simp; omega))
  have HCa := Lib.hid (HC2.out.grown hg (by simp; omega))
  have HGa := Lib.hid (gr_trans HG2.out hg)
  have HRa := Lib.hid hrd
  have c3 := HCa.out.cell 2
  have f3 := HCa.out.frozen 2
  simp at c3
  clear hrd hg HX2 HC2 HG2 HR2 HBY2 PN3
  go_wp2_with fail
  have HC3 : Hid (Blk (v3.setCell ⟨w.heap.size + 1, 2, none⟩ (.int .i64 (nn3 : Int))) (w.heap.size + 1) 36 #[.int .i64 (nn1 : Int), .int .i64 (nn2 : Int), .int .i64 (nn3 : Int), .int .i64 0, .int .u64 0]) := Lib.hid (by simpa using HCa.out.set_ 2 (.int .i64 (nn3 : Int)))
  have HX3 := Lib.hid (HXa.out.far (p := ⟨w.heap.size + 1, 2, none⟩) (by simp) (.int .i64 (nn3 : Int)))
  have HR3 := Lib.hid (HRa.out.gr (grown_set v3 (w.heap.size + 1) 2 (.int .i64 (nn3 : Int))) (by omega) (by omega))
  have HG3 := Lib.hid (gr_new HGa.out (grown_set v3 (w.heap.size + 1) 2 (.int .i64 (nn3 : Int))) (.inr ⟨_, rfl, by omega⟩))
  clear HCa HXa HRa HGa c3 f3
  generalize v3.setCell ⟨w.heap.size + 1, 2, none⟩ (.int .i64 (nn3 : Int)) = w3 at *
  have PN4 : Hid (Calls Try.prog 41 #[.pointer (some ⟨R, 0, none⟩), .int .i64 3] w3 (NumRes2 w3 N R q3 3)) := Lib.hid (number2 w3 N R q3 3 HR3.out HBY3.out (by decide) hl3)
  with_reducible refine PN4.out.mono ?_
  rintro e v4 (⟨nn4, q4, rfl, hle4, rfl, hrd, hg⟩ | ⟨hno, hbad, hw⟩)
  rotate_left
  · have hbad2 : e = .panicked [{ v := .iface 80 (.agg #[]), recovered := false }] := hbad
    subst hbad2
    subst hw
    exact ⟨rfl, .inr ⟨cfg_no4 hno, rfl, HG3.out⟩⟩
  have HBY4 := Lib.hid HBY3.out.tail
  have hl4 : q4.length ≤ 100000 := by rw [List.length_append] at hl3; omega
  have HXa := Lib.hid (HX3.out.grown hg (by simp; omega))
  have HCa := Lib.hid (HC3.out.grown hg (by simp; omega))
  have HGa := Lib.hid (gr_trans HG3.out hg)
  have HRa := Lib.hid hrd
  have c4 := HCa.out.cell 3
  have f4 := HCa.out.frozen 3
  simp at c4
  clear hrd hg HX3 HC3 HG3 HR3 HBY3 PN4
  go_wp2_with fail
  have HC4 : Hid (Blk (v4.setCell ⟨w.heap.size + 1, 3, none⟩ (.int .i64 (nn4 : Int))) (w.heap.size + 1) 36 #[.int .i64 (nn1 : Int), .int .i64 (nn2 : Int), .int .i64 (nn3 : Int), .int .i64 (nn4 : Int), .int .u64 0]) := Lib.hid (by simpa using HCa.out.set_ 3 (.int .i64 (nn4 : Int)))
  have HX4 := Lib.hid (HXa.out.far (p := ⟨w.heap.size + 1, 3, none⟩) (by simp) (.int .i64 (nn4 : Int)))
  have HR4 := Lib.hid (HRa.out.gr (grown_set v4 (w.heap.size + 1) 3 (.int .i64 (nn4 : Int))) (by omega) (by omega))
  have HG4 := Lib.hid (gr_new HGa.out (grown_set v4 (w.heap.size + 1) 3 (.int .i64 (nn4 : Int))) (.inr ⟨_, rfl, by omega⟩))
  clear HCa HXa HRa HGa c4 f4
  generalize v4.setCell ⟨w.heap.size + 1, 3, none⟩ (.int .i64 (nn4 : Int)) = w4 at *
  by_cases hsh : q4.length < 8
  · have PS : Hid (Calls Try.prog 21 #[.pointer (some ⟨R, 0, none⟩), .int .i64 8] w4 fun e w' => BadP e ∧ w4 = w') := Lib.hid (some_no w4 N R q4 8 HR4.out hsh)
    with_reducible refine PS.out.mono ?_
    rintro e v5 ⟨hbad, hw⟩
    have hbad2 : e = .panicked [{ v := .iface 80 (.agg #[]), recovered := false }] := hbad
    subst hbad2
    subst hw
    exact ⟨rfl, .inr ⟨cfg_no5 hsh, rfl, HG4.out⟩⟩
  · have PS : Hid (Calls Try.prog 21 #[.pointer (some ⟨R, 0, none⟩), .int .i64 8] w4 (SomePost w4 N R q4 8)) := Lib.hid (some_yes w4 N R q4 8 HR4.out (by omega) hl4)
    have h8 : 8 ≤ q4.length := by omega
    have HT8 : Hid ((q4.take 8).length = 8) := Lib.hid (by simp; omega)
    have HBT := Lib.hid (HBY4.out.take 8)
    have HIN := Lib.hid (fun b r d m s rest k => cfg_in (u1 := nn1) (u2 := nn2) (u3 := nn3) (u4 := nn4) HBY4.out h8 (b := b) (r := r) (d := d) (m := m) (s := s) (rest := rest) k)
    have HOF := Lib.hid (fun hr => cfg_of (u1 := nn1) (u2 := nn2) (u3 := nn3) (u4 := nn4) HBY4.out h8 hr)
    have HDL : Hid ((q4.drop 8).length ≤ 100000) := Lib.hid (by rw [List.length_drop]; omega)
    with_reducible refine PS.out.mono ?_
    rintro e v5 ⟨v, rfl, hvN, hv, hrd, hg⟩
    obtain ⟨ao, cap, rfl, hcap, hmx, hc⟩ := hv
    have HV5 : Hid (BytesAt v5 (.slice ao (q4.take 8).length cap) (q4.take 8)) := Lib.hid ⟨ao, cap, rfl, hcap, hmx, hc⟩
    rw [HT8.out] at HV5 hvN hcap
    have HVN := Lib.hid hvN
    have HX5 := Lib.hid (HX4.out.grown hg (by simp; omega))
    have HC5 := Lib.hid (HC4.out.grown hg (by simp; omega))
    have HG5 := Lib.hid (gr_trans HG4.out hg)
    have HR5 := Lib.hid hrd
    clear hsh hl hl0 hl1 hl2 hl3 hl4 hvN hc hrd hg PS HX4 HC4 HG4 HR4
    rw [HT8.out]
    generalize q4.take 8 = sb at *
    generalize q4.drop 8 = rb at *
    go_wp2_with fail
    go_loopw [21] (fun i wr => ∃ j : Nat, j ≤ 8 ∧ i = .int .i64 (j : Int) ∧ Blk wr (w.heap.size + 1) 36 #[.int .i64 (nn1 : Int), .int .i64 (nn2 : Int), .int .i64 (nn3 : Int), .int .i64 (nn4 : Int), .int .u64 (leV (sb.take j))] ∧ Blk wr w.heap.size 36 #[.int .i64 0, .int .i64 0, .int .i64 0, .int .i64 0, .int .u64 0] ∧ BytesAt wr (.slice ao 8 cap) sb ∧ RdIs wr N R rb ∧ w.grownBy wr (some R)) (fun i _ => 8 - (intOf i).toNat)
    case atStart => exact ⟨0, by omega, rfl, HC5.out, HX5.out, HV5.out, HR5.out, HG5.out⟩
    case round =>
      obtain ⟨j, hj, rfl, hcb, hx, hv, hrd, hg⟩ := hrel
      have HCB := Lib.hid hcb
      have HX := Lib.hid hx
      have HV := Lib.hid hv
      have HRD := Lib.hid hrd
      have HG := Lib.hid hg
      clear hcb hx hv hrd hg HC5 HX5 HV5 HR5 HG5
      by_cases hlt : j < 8
      · have hjs : j < sb.length := by rw [HT8.out]; exact hlt
        obtain ⟨g, off, rfl, hgl, cx⟩ := HV.out.cell hjs
        have hgN : g < N := HVN.out g off 8 cap rfl
        have hb8 := HBT.out.cellD j
        have HNX : Hid (leV (sb.take (j + 1)) = leV (sb.take j) + 256 ^ j * cellD sb j) := Lib.hid (by rw [take_step hjs, leV_append, List.length_take, Nat.min_eq_left (by omega)])
        have hlv := leV_bd (HBT.out.take j)
        rw [List.length_take, Nat.min_eq_left (by omega)] at hlv
        generalize leV (sb.take j) = U at *
        generalize cellD sb j = x at *
        have i0 : (0 : Int) ≤ (j : Int) := by omega
        have i1 : (j : Int) < 8 := by omega
        clear hjs hgl
        go_wp2_with fail
        refine wp_region_still_tail 9 (by kernel_rfl) (by kernel_rfl) ?_
        simp only [List.take_succ_cons, List.take_zero, List.drop_succ_cons, List.drop_zero]
        have HB1 : Hid (Below wr.heap.size wr { heap := wr.heap, tape := wr.tape, drawn := wr.drawn + 1, os := wr.os, output := wr.output }) := Lib.hid (below_drewN (Below.refl _ _) 1)
        have HCB6 := Lib.hid (HCB.out.kept HB1.out)
        have HX6 := Lib.hid (HX.out.kept HB1.out)
        have HV6 := Lib.hid (HV.out.kept HB1.out)
        have HRD6 := Lib.hid (HRD.out.kept HB1.out)
        have HG6 := Lib.hid (gr_trans HG.out (below_gr (row := some R) HB1.out))
        clear HCB HX HV HRD HG HB1
        generalize ({ heap := wr.heap, tape := wr.tape, drawn := wr.drawn + 1, os := wr.os, output := wr.output } : World) = wd at *
        have k4 := HCB6.out.cell 4
        have f4 := HCB6.out.frozen 4
        simp at k4
        have s1 : IntKind.i64.wrap (8 * (j : Int)) = 8 * (j : Int) := by rw [wrapI_eq64]; unfold wrap64; omega
        have s2 : IntKind.u64.wrap x = x := by rw [wrapU_mod]; omega
        have s3 : ¬ ((8 * (j : Int)) < 0) := by omega
        have KEY := Lib.hid (seed_or hlt hlv hb8)
        repeat still_step
        refine wpStill_nil ?_
        simp only [KEY.out, ← HNX.out]
        clear s1 s2 s3 KEY
        go_wp2_with fail
        have HCB7 : Hid (Blk (wd.setCell ⟨w.heap.size + 1, 4, none⟩ (.int .u64 (leV (sb.take (j + 1))))) (w.heap.size + 1) 36 #[.int .i64 (nn1 : Int), .int .i64 (nn2 : Int), .int .i64 (nn3 : Int), .int .i64 (nn4 : Int), .int .u64 (leV (sb.take (j + 1)))]) := Lib.hid (by simpa using HCB6.out.set_ 4 (.int .u64 (leV (sb.take (j + 1)))))
        have HGS := Lib.hid (grown_set wd (w.heap.size + 1) 4 (.int .u64 (leV (sb.take (j + 1)))))
        go_roundw
        case rel => exact ⟨j + 1, by omega, by go_num, HCB7.out, HX6.out.grown HGS.out (by simp), HV6.out.gr HGS.out (fun g2 off2 n2 c2 e => by have := HVN.out g2 off2 n2 c2 e; omega), HRD6.out.gr HGS.out (by omega) (by omega), gr_new HG6.out HGS.out (.inr ⟨_, rfl, by omega⟩)⟩
        case measure => simp [intOf]; omega
      · obtain rfl : j = 8 := by omega
        have hts : sb.take 8 = sb := List.take_of_length_le (by have := HT8.out; omega)
        have HCB9 : Hid (Blk wr (w.heap.size + 1) 36 #[.int .i64 (nn1 : Int), .int .i64 (nn2 : Int), .int .i64 (nn3 : Int), .int .i64 (nn4 : Int), .int .u64 (leV sb)]) := Lib.hid (by have := HCB.out; rw [hts] at this; exact this)
        obtain ⟨rg, roff, rcap, hrb, hrv, -⟩ := HRD.out
        obtain ⟨rl, hrl⟩ : ∃ rl, rl = rb.length := ⟨_, rfl⟩
        have HRL := Lib.hid hrl
        rw [← hrl] at hrb
        have HRB := Lib.hid hrb
        have PR := fun w => right_any (nn1 : Int) nn2 nn3 nn4 (leV sb) w
        have PZ := Lib.hid (fun w => wsize_any (nn1 : Int) nn2 nn3 nn4 (leV sb) w)
        have hrl5 : rl ≤ 100000 := by have := HDL.out; omega
        have hzz := sizeN_le (nn1 : Int) nn2 nn3 nn4
        have HEX := Lib.hid (fun wq (hq : Below wr.heap.size wr wq) => gr_trans HG.out (below_gr (row := some R) hq))
        have i1 : ¬ ((8 : Nat) : Int) < 8 := by omega
        clear hrb hrv hrl hts hlt HCB HDL hj
        cases hr : rightB (nn1 : Int) nn2 nn3 nn4
        · rw [hr] at PR
          have PR := Lib.hid PR
          have HNR := Lib.hid hr
          have HNO : Hid (CfgNo (putN nn1 ++ (putN nn2 ++ (putN nn3 ++ (putN nn4 ++ q4))))) := Lib.hid (fun b r d m s rest k => by
            obtain ⟨rfl, rfl, rfl, rfl, -, -⟩ := HIN.out b r d m s rest k
            have := k.1
            rw [HNR.out] at this
            cases this)
          clear hr hzz HIN HOF PZ
          go_wp2_with fail
          refine wp_region_held_drew (S := fun w' => Blk w' (w.heap.size + 1) 36 #[.int .i64 (nn1 : Int), .int .i64 (nn2 : Int), .int .i64 (nn3 : Int), .int .i64 (nn4 : Int), .int .u64 (leV sb)] ∧ Blk w' R 49 #[.slice (some ⟨rg, roff, none⟩) rl rcap] ∧ Below wr.heap.size wr w') (by kernel_rfl) (by exact ⟨HCB9.out.drewN 1, HRB.out.drewN 1, below_drewN (Below.refl _ _) 1⟩) (fun hHeld => ?_)
          refine wpAnyH_take (i := 0) (v := ?_) rfl (by kernel_rfl) (by kernel_rfl) (by kernel_rfl) (fun _ _ _ h => h) (Or.inl ⟨by rfl, ?_⟩) (by assumption) ?_
          rotate_left
          · intro w hSw
            have q0 := hSw.2.1.cell 0
            simp at q0
            try refine (exec_load_row 36 _ rfl _ rfl 36 _ (0, 0) _ hSw.1 Try.underlying36 rfl (by kernel_rfl)).trans ?_
            go_simp
            try with_reducible rfl
          simp only [Act.put, List.setIfInBounds_toArray, List.set_cons_zero, List.set_cons_succ, List.getElem_toArray, List.getElem_cons_zero, List.getElem_cons_succ]
          refine wpAnyH_ready (rs := [1]) (by kernel_rfl) (by simp) ?_
          refine AllReadyH.cons rfl (fun Kc hKc => ?_) AllReadyH.nil
          go_simp
          go_wp2_with (go_at_call 33; refine (PR.out _).mono ?_; rintro e w6 ⟨rfl, hb'⟩)
          refine hKc.out _ _ ?_ (fun hHeld => ?_)
          · first | assumption | exact ⟨hHeld.1.kept hb', hHeld.2.1.kept hb', btr hHeld.2.2 hb'⟩
          clear hKc Kc
          refine wpAnyH_take (i := 2) (v := ?_) rfl (by kernel_rfl) (by kernel_rfl) (by kernel_rfl) (fun _ _ _ h => h) (Or.inl ⟨by rfl, ?_⟩) (by assumption) ?_
          rotate_left
          · intro w hSw
            try dsimp only at hSw
            go_simp
            try with_reducible rfl
          simp only [Act.put, List.setIfInBounds_toArray, List.set_cons_zero, List.set_cons_succ, List.getElem_toArray, List.getElem_cons_zero, List.getElem_cons_succ]
          refine wpAnyH_take (i := 3) (v := ?_) rfl (by kernel_rfl) (by kernel_rfl) (by kernel_rfl) (fun _ _ _ h => h) (Or.inl ⟨by rfl, ?_⟩) (by assumption) ?_
          rotate_left
          · intro w hSw
            try dsimp only at hSw
            go_simp
            try with_reducible rfl
          simp only [Act.put, List.setIfInBounds_toArray, List.set_cons_zero, List.set_cons_succ, List.getElem_toArray, List.getElem_cons_zero, List.getElem_cons_succ]
          refine wpAnyH_take (i := 4) (v := undef) rfl (by kernel_rfl) (by kernel_rfl) (by kernel_rfl) (fun _ _ _ h => h) (Or.inr ⟨by rfl, rfl⟩) (by assumption) ?_
          simp only [Act.put, List.setIfInBounds_toArray, List.set_cons_zero, List.set_cons_succ, List.getElem_toArray, List.getElem_cons_zero, List.getElem_cons_succ]
          refine wpAnyH_take (i := 6) (v := undef) rfl (by kernel_rfl) (by kernel_rfl) (by kernel_rfl) (fun _ _ _ h => h) (Or.inr ⟨by rfl, rfl⟩) (by assumption) ?_
          simp only [Act.put, List.setIfInBounds_toArray, List.set_cons_zero, List.set_cons_succ, List.getElem_toArray, List.getElem_cons_zero, List.getElem_cons_succ]
          refine wpAnyH_take (i := 7) (v := undef) rfl (by kernel_rfl) (by kernel_rfl) (by kernel_rfl) (fun _ _ _ h => h) (Or.inr ⟨by rfl, rfl⟩) (by assumption) ?_
          simp only [Act.put, List.setIfInBounds_toArray, List.set_cons_zero, List.set_cons_succ, List.getElem_toArray, List.getElem_cons_zero, List.getElem_cons_succ]
          refine wpAnyH_take (i := 8) (v := undef) rfl (by kernel_rfl) (by kernel_rfl) (by kernel_rfl) (fun _ _ _ h => h) (Or.inr ⟨by rfl, rfl⟩) (by assumption) ?_
          simp only [Act.put, List.setIfInBounds_toArray, List.set_cons_zero, List.set_cons_succ, List.getElem_toArray, List.getElem_cons_zero, List.getElem_cons_succ]
          refine wpAnyH_take (i := 9) (v := undef) rfl (by kernel_rfl) (by kernel_rfl) (by kernel_rfl) (fun _ _ _ h => h) (Or.inr ⟨by rfl, rfl⟩) (by assumption) ?_
          simp only [Act.put, List.setIfInBounds_toArray, List.set_cons_zero, List.set_cons_succ, List.getElem_toArray, List.getElem_cons_zero, List.getElem_cons_succ]
          refine wpAnyH_take (i := 10) (v := undef) rfl (by kernel_rfl) (by kernel_rfl) (by kernel_rfl) (fun _ _ _ h => h) (Or.inr ⟨by rfl, rfl⟩) (by assumption) ?_
          simp only [Act.put, List.setIfInBounds_toArray, List.set_cons_zero, List.set_cons_succ, List.getElem_toArray, List.getElem_cons_zero, List.getElem_cons_succ]
          refine wpAnyH_ready (rs := [5]) (by kernel_rfl) (by simp) ?_
          refine AllReadyH.cons rfl (fun Kc hKc => ?_) AllReadyH.nil
          go_simp
          refine hKc.out _ _ ?_ (fun hHeld => ?_)
          · first | assumption | exact ⟨hHeld.1.kept hb', hHeld.2.1.kept hb', btr hHeld.2.2 hb'⟩
          clear hKc Kc
          refine wpAnyH_take (i := 11) (v := undef) rfl (by kernel_rfl) (by kernel_rfl) (by kernel_rfl) (fun _ _ _ h => h) (Or.inr ⟨by rfl, rfl⟩) (by assumption) ?_
          simp only [Act.put, List.setIfInBounds_toArray, List.set_cons_zero, List.set_cons_succ, List.getElem_toArray, List.getElem_cons_zero, List.getElem_cons_succ]
          refine wpAnyH_take (i := 12) (v := ?_) rfl (by kernel_rfl) (by kernel_rfl) (by kernel_rfl) (fun _ _ _ h => h) (Or.inl ⟨by rfl, ?_⟩) (by assumption) ?_
          rotate_left
          · intro w hSw
            try dsimp only at hSw
            go_simp
            try with_reducible rfl
          simp only [Act.put, List.setIfInBounds_toArray, List.set_cons_zero, List.set_cons_succ, List.getElem_toArray, List.getElem_cons_zero, List.getElem_cons_succ]
          refine wpAnyH_done (by kernel_rfl) ?_ _
          go_wp2_with fail
          exact ⟨rfl, .inr ⟨HNO.out, rfl, HEX.out _ hHeld.2.2⟩⟩
        · rw [hr] at PR
          have PR := Lib.hid PR
          have HCS := Lib.hid (HOF.out hr)
          clear hr HOF
          obtain ⟨sz, hsz⟩ : ∃ sz, sz = sizeN (nn1 : Int) nn2 nn3 nn4 := ⟨_, rfl⟩
          have HSZ := Lib.hid hsz
          rw [← hsz] at PZ hzz
          clear hsz
          by_cases hsl : rl < sz
          · have d1 : decide ((rl : Int) < (sz : Int)) = true := decide_eq_true (by omega)
            have d1' : decide (rl < sz) = true := decide_eq_true hsl
            have HNO : Hid (CfgNo (putN nn1 ++ (putN nn2 ++ (putN nn3 ++ (putN nn4 ++ q4))))) := Lib.hid (fun b r d m s rest k => by
              obtain ⟨rfl, rfl, rfl, rfl, -, rfl⟩ := HIN.out b r d m s rest k
              rw [← HSZ.out, ← HRL.out]; exact hsl)
            clear HIN
            go_wp2_with fail
            refine wp_region_held_drew (S := fun w' => Blk w' (w.heap.size + 1) 36 #[.int .i64 (nn1 : Int), .int .i64 (nn2 : Int), .int .i64 (nn3 : Int), .int .i64 (nn4 : Int), .int .u64 (leV sb)] ∧ Blk w' R 49 #[.slice (some ⟨rg, roff, none⟩) rl rcap] ∧ Below wr.heap.size wr w') (by kernel_rfl) (by exact ⟨HCB9.out.drewN 1, HRB.out.drewN 1, below_drewN (Below.refl _ _) 1⟩) (fun hHeld => ?_)
            refine wpAnyH_take (i := 0) (v := ?_) rfl (by kernel_rfl) (by kernel_rfl) (by kernel_rfl) (fun _ _ _ h => h) (Or.inl ⟨by rfl, ?_⟩) (by assumption) ?_
            rotate_left
            · intro w hSw
              have q0 := hSw.2.1.cell 0
              simp at q0
              try refine (exec_load_row 36 _ rfl _ rfl 36 _ (0, 0) _ hSw.1 Try.underlying36 rfl (by kernel_rfl)).trans ?_
              go_simp
              try with_reducible rfl
            simp only [Act.put, List.setIfInBounds_toArray, List.set_cons_zero, List.set_cons_succ, List.getElem_toArray, List.getElem_cons_zero, List.getElem_cons_succ]
            refine wpAnyH_ready (rs := [1]) (by kernel_rfl) (by simp) ?_
            refine AllReadyH.cons rfl (fun Kc hKc => ?_) AllReadyH.nil
            go_simp
            go_wp2_with (first | (go_at_call 33; refine (PR.out _).mono ?_; rintro e w6 ⟨rfl, hb'⟩) | (go_at_call 11; refine (PZ.out _).mono ?_; rintro e w7 ⟨rfl, hb'⟩))
            refine hKc.out _ _ ?_ (fun hHeld => ?_)
            · first | assumption | exact ⟨hHeld.1.kept hb', hHeld.2.1.kept hb', btr hHeld.2.2 hb'⟩
            clear hKc Kc
            refine wpAnyH_take (i := 2) (v := ?_) rfl (by kernel_rfl) (by kernel_rfl) (by kernel_rfl) (fun _ _ _ h => h) (Or.inl ⟨by rfl, ?_⟩) (by assumption) ?_
            rotate_left
            · intro w hSw
              try dsimp only at hSw
              go_simp
              try with_reducible rfl
            simp only [Act.put, List.setIfInBounds_toArray, List.set_cons_zero, List.set_cons_succ, List.getElem_toArray, List.getElem_cons_zero, List.getElem_cons_succ]
            refine wpAnyH_take (i := 3) (v := ?_) rfl (by kernel_rfl) (by kernel_rfl) (by kernel_rfl) (fun _ _ _ h => h) (Or.inl ⟨by rfl, ?_⟩) (by assumption) ?_
            rotate_left
            · intro w hSw
              try dsimp only at hSw
              go_simp
              try with_reducible rfl
            simp only [Act.put, List.setIfInBounds_toArray, List.set_cons_zero, List.set_cons_succ, List.getElem_toArray, List.getElem_cons_zero, List.getElem_cons_succ]
            refine wpAnyH_take (i := 4) (v := ?_) rfl (by kernel_rfl) (by kernel_rfl) (by kernel_rfl) (fun _ _ _ h => h) (Or.inl ⟨by rfl, ?_⟩) (by assumption) ?_
            rotate_left
            · intro w hSw
              have q0 := hSw.2.1.cell 0
              simp at q0
              try refine (exec_load_row 36 _ rfl _ rfl 36 _ (0, 0) _ hSw.1 Try.underlying36 rfl (by kernel_rfl)).trans ?_
              go_simp
              try with_reducible rfl
            simp only [Act.put, List.setIfInBounds_toArray, List.set_cons_zero, List.set_cons_succ, List.getElem_toArray, List.getElem_cons_zero, List.getElem_cons_succ]
            refine wpAnyH_take (i := 6) (v := ?_) rfl (by kernel_rfl) (by kernel_rfl) (by kernel_rfl) (fun _ _ _ h => h) (Or.inl ⟨by rfl, ?_⟩) (by assumption) ?_
            rotate_left
            · intro w hSw
              try dsimp only at hSw
              go_simp
              try with_reducible rfl
            simp only [Act.put, List.setIfInBounds_toArray, List.set_cons_zero, List.set_cons_succ, List.getElem_toArray, List.getElem_cons_zero, List.getElem_cons_succ]
            refine wpAnyH_take (i := 7) (v := ?_) rfl (by kernel_rfl) (by kernel_rfl) (by kernel_rfl) (fun _ _ _ h => h) (Or.inl ⟨by rfl, ?_⟩) (by assumption) ?_
            rotate_left
            · intro w hSw
              try dsimp only at hSw
              go_simp
              try with_reducible rfl
            simp only [Act.put, List.setIfInBounds_toArray, List.set_cons_zero, List.set_cons_succ, List.getElem_toArray, List.getElem_cons_zero, List.getElem_cons_succ]
            refine wpAnyH_take (i := 8) (v := ?_) rfl (by kernel_rfl) (by kernel_rfl) (by kernel_rfl) (fun _ _ _ h => h) (Or.inl ⟨by rfl, ?_⟩) (by assumption) ?_
            rotate_left
            · intro w hSw
              try dsimp only at hSw
              go_simp
              try with_reducible rfl
            simp only [Act.put, List.setIfInBounds_toArray, List.set_cons_zero, List.set_cons_succ, List.getElem_toArray, List.getElem_cons_zero, List.getElem_cons_succ]
            refine wpAnyH_take (i := 9) (v := ?_) rfl (by kernel_rfl) (by kernel_rfl) (by kernel_rfl) (fun _ _ _ h => h) (Or.inl ⟨by rfl, ?_⟩) (by assumption) ?_
            rotate_left
            · intro w hSw
              have q0 := hSw.2.1.cell 0
              simp at q0
              try refine (exec_load_row 36 _ rfl _ rfl 36 _ (0, 0) _ hSw.1 Try.underlying36 rfl (by kernel_rfl)).trans ?_
              go_simp
              try with_reducible rfl
            simp only [Act.put, List.setIfInBounds_toArray, List.set_cons_zero, List.set_cons_succ, List.getElem_toArray, List.getElem_cons_zero, List.getElem_cons_succ]
            refine wpAnyH_take (i := 10) (v := ?_) rfl (by kernel_rfl) (by kernel_rfl) (by kernel_rfl) (fun _ _ _ h => h) (Or.inl ⟨by rfl, ?_⟩) (by assumption) ?_
            rotate_left
            · intro w hSw
              try dsimp only at hSw
              go_simp
              try with_reducible rfl
            simp only [Act.put, List.setIfInBounds_toArray, List.set_cons_zero, List.set_cons_succ, List.getElem_toArray, List.getElem_cons_zero, List.getElem_cons_succ]
            refine wpAnyH_ready (rs := [5]) (by kernel_rfl) (by simp) ?_
            refine AllReadyH.cons rfl (fun Kc hKc => ?_) AllReadyH.nil
            go_simp
            go_wp2_with (first | (go_at_call 33; refine (PR.out _).mono ?_; rintro e w6 ⟨rfl, hb'⟩) | (go_at_call 11; refine (PZ.out _).mono ?_; rintro e w7 ⟨rfl, hb'⟩))
            refine hKc.out _ _ ?_ (fun hHeld => ?_)
            · first | assumption | exact ⟨hHeld.1.kept hb', hHeld.2.1.kept hb', btr hHeld.2.2 hb'⟩
            clear hKc Kc
            refine wpAnyH_take (i := 11) (v := ?_) rfl (by kernel_rfl) (by kernel_rfl) (by kernel_rfl) (fun _ _ _ h => h) (Or.inl ⟨by rfl, ?_⟩) (by assumption) ?_
            rotate_left
            · intro w hSw
              try dsimp only at hSw
              go_simp
              try with_reducible rfl
            simp only [Act.put, List.setIfInBounds_toArray, List.set_cons_zero, List.set_cons_succ, List.getElem_toArray, List.getElem_cons_zero, List.getElem_cons_succ]
            refine wpAnyH_take (i := 12) (v := ?_) rfl (by kernel_rfl) (by kernel_rfl) (by kernel_rfl) (fun _ _ _ h => h) (Or.inl ⟨by rfl, ?_⟩) (by assumption) ?_
            rotate_left
            · intro w hSw
              try dsimp only at hSw
              go_simp
              try with_reducible rfl
            simp only [Act.put, List.setIfInBounds_toArray, List.set_cons_zero, List.set_cons_succ, List.getElem_toArray, List.getElem_cons_zero, List.getElem_cons_succ]
            refine wpAnyH_done (by kernel_rfl) ?_ _
            go_wp2_with fail
            exact ⟨rfl, .inr ⟨HNO.out, rfl, HEX.out _ hHeld.2.2⟩⟩
          · have d1 : decide ((rl : Int) < (sz : Int)) = false := decide_eq_false (by omega)
            have d1' : decide (rl < sz) = false := decide_eq_false hsl
            have HLE : Hid (sizeN (nn1 : Int) nn2 nn3 nn4 ≤ rb.length) := Lib.hid (by rw [← HSZ.out, ← HRL.out]; omega)
            clear HIN
            go_wp2_with fail
            refine wp_region_held_drew (S := fun w' => Blk w' (w.heap.size + 1) 36 #[.int .i64 (nn1 : Int), .int .i64 (nn2 : Int), .int .i64 (nn3 : Int), .int .i64 (nn4 : Int), .int .u64 (leV sb)] ∧ Blk w' R 49 #[.slice (some ⟨rg, roff, none⟩) rl rcap] ∧ Below wr.heap.size wr w') (by kernel_rfl) (by exact ⟨HCB9.out.drewN 1, HRB.out.drewN 1, below_drewN (Below.refl _ _) 1⟩) (fun hHeld => ?_)
            refine wpAnyH_take (i := 0) (v := ?_) rfl (by kernel_rfl) (by kernel_rfl) (by kernel_rfl) (fun _ _ _ h => h) (Or.inl ⟨by rfl, ?_⟩) (by assumption) ?_
            rotate_left
            · intro w hSw
              have q0 := hSw.2.1.cell 0
              simp at q0
              try refine (exec_load_row 36 _ rfl _ rfl 36 _ (0, 0) _ hSw.1 Try.underlying36 rfl (by kernel_rfl)).trans ?_
              go_simp
              try with_reducible rfl
            simp only [Act.put, List.setIfInBounds_toArray, List.set_cons_zero, List.set_cons_succ, List.getElem_toArray, List.getElem_cons_zero, List.getElem_cons_succ]
            refine wpAnyH_ready (rs := [1]) (by kernel_rfl) (by simp) ?_
            refine AllReadyH.cons rfl (fun Kc hKc => ?_) AllReadyH.nil
            go_simp
            go_wp2_with (first | (go_at_call 33; refine (PR.out _).mono ?_; rintro e w6 ⟨rfl, hb'⟩) | (go_at_call 11; refine (PZ.out _).mono ?_; rintro e w7 ⟨rfl, hb'⟩))
            refine hKc.out _ _ ?_ (fun hHeld => ?_)
            · first | assumption | exact ⟨hHeld.1.kept hb', hHeld.2.1.kept hb', btr hHeld.2.2 hb'⟩
            clear hKc Kc
            refine wpAnyH_take (i := 2) (v := ?_) rfl (by kernel_rfl) (by kernel_rfl) (by kernel_rfl) (fun _ _ _ h => h) (Or.inl ⟨by rfl, ?_⟩) (by assumption) ?_
            rotate_left
            · intro w hSw
              try dsimp only at hSw
              go_simp
              try with_reducible rfl
            simp only [Act.put, List.setIfInBounds_toArray, List.set_cons_zero, List.set_cons_succ, List.getElem_toArray, List.getElem_cons_zero, List.getElem_cons_succ]
            refine wpAnyH_take (i := 3) (v := ?_) rfl (by kernel_rfl) (by kernel_rfl) (by kernel_rfl) (fun _ _ _ h => h) (Or.inl ⟨by rfl, ?_⟩) (by assumption) ?_
            rotate_left
            · intro w hSw
              try dsimp only at hSw
              go_simp
              try with_reducible rfl
            simp only [Act.put, List.setIfInBounds_toArray, List.set_cons_zero, List.set_cons_succ, List.getElem_toArray, List.getElem_cons_zero, List.getElem_cons_succ]
            refine wpAnyH_take (i := 4) (v := ?_) rfl (by kernel_rfl) (by kernel_rfl) (by kernel_rfl) (fun _ _ _ h => h) (Or.inl ⟨by rfl, ?_⟩) (by assumption) ?_
            rotate_left
            · intro w hSw
              have q0 := hSw.2.1.cell 0
              simp at q0
              try refine (exec_load_row 36 _ rfl _ rfl 36 _ (0, 0) _ hSw.1 Try.underlying36 rfl (by kernel_rfl)).trans ?_
              go_simp
              try with_reducible rfl
            simp only [Act.put, List.setIfInBounds_toArray, List.set_cons_zero, List.set_cons_succ, List.getElem_toArray, List.getElem_cons_zero, List.getElem_cons_succ]
            refine wpAnyH_take (i := 6) (v := ?_) rfl (by kernel_rfl) (by kernel_rfl) (by kernel_rfl) (fun _ _ _ h => h) (Or.inl ⟨by rfl, ?_⟩) (by assumption) ?_
            rotate_left
            · intro w hSw
              try dsimp only at hSw
              go_simp
              try with_reducible rfl
            simp only [Act.put, List.setIfInBounds_toArray, List.set_cons_zero, List.set_cons_succ, List.getElem_toArray, List.getElem_cons_zero, List.getElem_cons_succ]
            refine wpAnyH_take (i := 7) (v := ?_) rfl (by kernel_rfl) (by kernel_rfl) (by kernel_rfl) (fun _ _ _ h => h) (Or.inl ⟨by rfl, ?_⟩) (by assumption) ?_
            rotate_left
            · intro w hSw
              try dsimp only at hSw
              go_simp
              try with_reducible rfl
            simp only [Act.put, List.setIfInBounds_toArray, List.set_cons_zero, List.set_cons_succ, List.getElem_toArray, List.getElem_cons_zero, List.getElem_cons_succ]
            refine wpAnyH_take (i := 8) (v := ?_) rfl (by kernel_rfl) (by kernel_rfl) (by kernel_rfl) (fun _ _ _ h => h) (Or.inl ⟨by rfl, ?_⟩) (by assumption) ?_
            rotate_left
            · intro w hSw
              try dsimp only at hSw
              go_simp
              try with_reducible rfl
            simp only [Act.put, List.setIfInBounds_toArray, List.set_cons_zero, List.set_cons_succ, List.getElem_toArray, List.getElem_cons_zero, List.getElem_cons_succ]
            refine wpAnyH_take (i := 9) (v := ?_) rfl (by kernel_rfl) (by kernel_rfl) (by kernel_rfl) (fun _ _ _ h => h) (Or.inl ⟨by rfl, ?_⟩) (by assumption) ?_
            rotate_left
            · intro w hSw
              have q0 := hSw.2.1.cell 0
              simp at q0
              try refine (exec_load_row 36 _ rfl _ rfl 36 _ (0, 0) _ hSw.1 Try.underlying36 rfl (by kernel_rfl)).trans ?_
              go_simp
              try with_reducible rfl
            simp only [Act.put, List.setIfInBounds_toArray, List.set_cons_zero, List.set_cons_succ, List.getElem_toArray, List.getElem_cons_zero, List.getElem_cons_succ]
            refine wpAnyH_take (i := 10) (v := ?_) rfl (by kernel_rfl) (by kernel_rfl) (by kernel_rfl) (fun _ _ _ h => h) (Or.inl ⟨by rfl, ?_⟩) (by assumption) ?_
            rotate_left
            · intro w hSw
              try dsimp only at hSw
              go_simp
              try with_reducible rfl
            simp only [Act.put, List.setIfInBounds_toArray, List.set_cons_zero, List.set_cons_succ, List.getElem_toArray, List.getElem_cons_zero, List.getElem_cons_succ]
            refine wpAnyH_ready (rs := [5]) (by kernel_rfl) (by simp) ?_
            refine AllReadyH.cons rfl (fun Kc hKc => ?_) AllReadyH.nil
            go_simp
            go_wp2_with (first | (go_at_call 33; refine (PR.out _).mono ?_; rintro e w6 ⟨rfl, hb'⟩) | (go_at_call 11; refine (PZ.out _).mono ?_; rintro e w7 ⟨rfl, hb'⟩))
            refine hKc.out _ _ ?_ (fun hHeld => ?_)
            · first | assumption | exact ⟨hHeld.1.kept hb', hHeld.2.1.kept hb', btr hHeld.2.2 hb'⟩
            clear hKc Kc
            refine wpAnyH_take (i := 11) (v := ?_) rfl (by kernel_rfl) (by kernel_rfl) (by kernel_rfl) (fun _ _ _ h => h) (Or.inl ⟨by rfl, ?_⟩) (by assumption) ?_
            rotate_left
            · intro w hSw
              try dsimp only at hSw
              go_simp
              try with_reducible rfl
            simp only [Act.put, List.setIfInBounds_toArray, List.set_cons_zero, List.set_cons_succ, List.getElem_toArray, List.getElem_cons_zero, List.getElem_cons_succ]
            refine wpAnyH_take (i := 12) (v := ?_) rfl (by kernel_rfl) (by kernel_rfl) (by kernel_rfl) (fun _ _ _ h => h) (Or.inl ⟨by rfl, ?_⟩) (by assumption) ?_
            rotate_left
            · intro w hSw
              try dsimp only at hSw
              go_simp
              try with_reducible rfl
            simp only [Act.put, List.setIfInBounds_toArray, List.set_cons_zero, List.set_cons_succ, List.getElem_toArray, List.getElem_cons_zero, List.getElem_cons_succ]
            refine wpAnyH_done (by kernel_rfl) ?_ _
            have HC7 := Lib.hid hHeld.1
            have HX7 : Hid (Blk w7 w.heap.size 36 #[.int .i64 0, .int .i64 0, .int .i64 0, .int .i64 0, .int .u64 0]) := Lib.hid (HX.out.kept hHeld.2.2)
            have HGS : Hid (w7.grownBy (w7.setRow w.heap.size #[.int .i64 (nn1 : Int), .int .i64 (nn2 : Int), .int .i64 (nn3 : Int), .int .i64 (nn4 : Int), .int .u64 (leV sb)]) (some w.heap.size)) := Lib.hid ⟨rfl, rfl, rfl, by simp, fun k hk hne => setRow_other w7 w.heap.size k _ (by simpa using hne)⟩
            have HG8 : Hid (w.grownBy (w7.setRow w.heap.size #[.int .i64 (nn1 : Int), .int .i64 (nn2 : Int), .int .i64 (nn3 : Int), .int .i64 (nn4 : Int), .int .u64 (leV sb)]) (some R)) := Lib.hid (gr_new (HEX.out _ hHeld.2.2) HGS.out (.inr ⟨_, rfl, Nat.le_refl _⟩))
            have HRD8 : Hid (RdIs (w7.setRow w.heap.size #[.int .i64 (nn1 : Int), .int .i64 (nn2 : Int), .int .i64 (nn3 : Int), .int .i64 (nn4 : Int), .int .u64 (leV sb)]) N R rb) := Lib.hid ((HRD.out.kept hHeld.2.2).gr HGS.out (by omega) (by omega))
            have HH8 : Hid ((w7.setRow w.heap.size #[.int .i64 (nn1 : Int), .int .i64 (nn2 : Int), .int .i64 (nn3 : Int), .int .i64 (nn4 : Int), .int .u64 (leV sb)]).heap[w.heap.size]? = some (.cells #[.int .i64 (nn1 : Int), .int .i64 (nn2 : Int), .int .i64 (nn3 : Int), .int .i64 (nn4 : Int), .int .u64 (leV sb)] 36 (0, 0))) := Lib.hid (setRow_heap _ _ _ _ _ _ HX7.out)
            clear hHeld
            go_wp2_with (first | refine wpList_load_row rfl 36 _ rfl (w.heap.size + 1) rfl 36 _ (0, 0) _ HC7.out Try.underlying36 rfl (by kernel_rfl) ?_ | refine wpList_store_row rfl 36 _ _ rfl w.heap.size #[.int .i64 (nn1 : Int), .int .i64 (nn2 : Int), .int .i64 (nn3 : Int), .int .i64 (nn4 : Int), .int .u64 (leV sb)] rfl rfl 36 _ HX7.out (by kernel_rfl) rfl (cfg_one _ _ _ _ _) ?_)
            refine bodyPost_ret (v := .agg #[.int .i64 (nn1 : Int), .int .i64 (nn2 : Int), .int .i64 (nn3 : Int), .int .i64 (nn4 : Int), .int .u64 (leV sb)]) (results_cell_row rfl _ _ w.heap.size 36 _ (0, 0) _ rfl HH8.out Try.underlying36 rfl (by kernel_rfl)) rfl ?_
            exact .inl ⟨_, _, _, _, _, rb, HCS.out, HLE.out, rfl, HRD8.out, HG8.out⟩
end Go.Proofs.Ytbghchgmoiniiaa
