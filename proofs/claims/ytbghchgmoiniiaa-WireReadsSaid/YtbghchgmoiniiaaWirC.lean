/-
  The walks of wire's reader: some, number. Conditions: none beyond those stated at each theorem.
-/
import Derived.Test.YtbghchgmoiniiaaDecP
import Derived.Laws.EntriesVeiled
import Derived.WalkLawsBesides
namespace Go.Proofs.Ytbghchgmoiniiaa
open Go.RowKit
set_option linter.unusedVariables false
set_option linter.unusedSimpArgs false

theorem BytesAt.gr {w w' : World} {v : Value} {bs : List Int} {R : Nat} (h : BytesAt w v bs) (hg : w.grownBy w' (some R)) (hne : ∀ g off n c, v = .slice (some ⟨g, off, none⟩) n c → g ≠ R) : BytesAt w' v bs := by
  obtain ⟨ao, cap, e, h1, h2, h3⟩ := h
  refine ⟨ao, cap, e, h1, h2, ?_⟩
  rcases h3 with h3 | ⟨g, off, e2, hgl, hc⟩
  · exact .inl h3
  · have hn := hne g off bs.length cap (by rw [e, e2])
    exact .inr ⟨g, off, e2, Nat.lt_of_lt_of_le hgl hg.size, fun i u hu => hg.cell (hc i u hu) (by simpa using hn)⟩
/-- block R is a reader that still has the bytes bs -/
def RdIs (w : World) (N R : Nat) (bs : List Int) : Prop :=
  ∃ g off cap, Blk w R 49 #[.slice (some ⟨g, off, none⟩) bs.length cap] ∧ BytesAt w (.slice (some ⟨g, off, none⟩) bs.length cap) bs ∧ g < N ∧ N ≤ R
theorem RdIs.kept {w w' : World} {N R : Nat} {bs : List Int} (h : RdIs w N R bs) (hb : Below w.heap.size w w') : RdIs w' N R bs := by
  obtain ⟨g, off, cap, h1, h2, h3⟩ := h
  exact ⟨g, off, cap, h1.kept hb, h2.kept hb, h3⟩
theorem RdIs.gr {w w' : World} {N R C : Nat} {bs : List Int} (h : RdIs w N R bs) (hg : w.grownBy w' (some C)) (hC : N ≤ C) (hne : R ≠ C) : RdIs w' N R bs := by
  obtain ⟨g, off, cap, h1, h2, h3, h4⟩ := h
  exact ⟨g, off, cap, h1.grown hg (by simpa using hne), h2.gr hg (fun g2 off2 n2 c2 e => by cases e; omega), h3, h4⟩
theorem RdIs.lt {w : World} {N R : Nat} {bs : List Int} (h : RdIs w N R bs) : R < w.heap.size := by
  obtain ⟨g, off, cap, h1, h2, h3⟩ := h
  exact h1.lt
/-- what wire panics with -/
def BadP (e : Ending) : Prop := e = .panicked [{ v := .iface 80 (.agg #[]), recovered := false }]
theorem BytesAt.upto {w : World} {g off n cap : Nat} {bs : List Int} (h : BytesAt w (.slice (some ⟨g, off, none⟩) n cap) bs) (a : Nat) (ha : a ≤ n) : BytesAt w (.slice (some ⟨g, off, none⟩) a a) (bs.take a) := by
  obtain ⟨ao2, cap2, e, h1, h2, h3⟩ := h
  simp only [Value.slice.injEq] at e
  obtain ⟨rfl, rfl, rfl⟩ := e
  have hl : (bs.take a).length = a := by simp; omega
  refine ⟨_, a, by rw [hl], by rw [hl]; omega, by omega, ?_⟩
  rcases h3 with ⟨rfl, h3⟩ | ⟨g2, off2, e2, hg, hcc⟩
  · cases h3
  · have e2 := Option.some.inj e2
    cases e2
    refine .inr ⟨g, off, rfl, hg, fun i u hu => ?_⟩
    rw [List.getElem?_take] at hu
    split at hu
    · exact hcc i u hu
    · cases hu
def SomePost (w : World) (N R : Nat) (bs : List Int) (n : Nat) (e : Ending) (w' : World) : Prop :=
  ∃ v, e = .returned v ∧ (∀ g off n c, v = .slice (some ⟨g, off, none⟩) n c → g < N) ∧ BytesAt w' v (bs.take n) ∧ RdIs w' N R (bs.drop n) ∧ w.grownBy w' (some R)
set_option maxRecDepth 100000 in
set_option maxHeartbeats 4000000 in
theorem some_no (w : World) (N R : Nat) (bs : List Int) (n : Nat) (h : RdIs w N R bs) (hn : bs.length < n) :
    Calls Try.prog 21 #[.pointer (some ⟨R, 0, none⟩), .int .i64 (n : Int)] w fun e w' => BadP e ∧ w = w' := by
  obtain ⟨g, off, cap, h1, h2, h3⟩ := h
  have c0 := h1.cell 0
  simp at c0
  obtain ⟨m, hm⟩ : ∃ m, m = bs.length := ⟨_, rfl⟩
  rw [← hm] at c0 hn
  have d1 : decide ((m : Int) < (n : Int)) = true := decide_eq_true (by omega)
  have d2 : decide (m < n) = true := decide_eq_true hn
  clear h1 h2 hm
  go_enter Try.func21, Try.ntmps21
  go_wp2_with fail
  exact ⟨rfl, rfl, rfl⟩
set_option maxRecDepth 100000 in
set_option maxHeartbeats 4000000 in
theorem some_yes (w : World) (N R : Nat) (bs : List Int) (n : Nat) (h : RdIs w N R bs) (hn : n ≤ bs.length) (hl : bs.length ≤ 100000) :
    Calls Try.prog 21 #[.pointer (some ⟨R, 0, none⟩), .int .i64 (n : Int)] w (SomePost w N R bs n) := by
  obtain ⟨g, off, cap, h1, h2, h3⟩ := h
  have c0 := h1.cell 0
  have f0 := h1.frozen 0
  simp at c0
  have HV := Lib.hid h2
  have HB := Lib.hid h1
  obtain ⟨m, hm⟩ : ∃ m, m = bs.length := ⟨_, rfl⟩
  have HM := Lib.hid hm
  have hcap : m ≤ cap := by
    obtain ⟨ao2, cap2, e, e1, e2, -⟩ := h2
    simp only [Value.slice.injEq] at e
    obtain ⟨-, -, rfl⟩ := e
    omega
  rw [← hm] at c0 hn hl
  have HUP := Lib.hid (HV.out.upto n (by rw [← HM.out]; exact hn))
  have HFR := Lib.hid (fun k h1 h2 => HV.out.from_ n (by rw [← HM.out]; exact hn) k h1 h2)
  have d1 : decide ((m : Int) < (n : Int)) = false := decide_eq_false (by omega)
  have d2 : decide (m < n) = false := decide_eq_false (by omega)
  have HDL : Hid ((bs.drop n).length = m - n) := Lib.hid (by rw [List.length_drop, HM.out])
  rw [← HM.out] at HFR
  clear h1 h2 hm
  by_cases hk : n < cap
  · have HFR := Lib.hid (HFR.out (off + n) (fun _ => rfl) (fun e => by omega))
    go_enter Try.func21, Try.ntmps21
    go_wp2_with fail
    go_ret
    refine ⟨_, rfl, fun g2 off2 n2 c2 e => by cases e; exact h3.1, HUP.out.gr (grown_set w R 0 _) (fun g2 off2 n2 c2 e => by cases e; omega), ⟨g, off + n, cap - n, ?_, ?_, h3⟩, grown_set _ _ _ _⟩
    · rw [HDL.out]
      have := HB.out.set_ 0 (.slice (some ⟨g, off + n, none⟩) (m - n) (cap - n))
      simpa using this
    · rw [HDL.out]
      exact HFR.out.gr (grown_set w R 0 _) (fun g2 off2 n2 c2 e => by cases e; omega)
  · obtain rfl : n = cap := by omega
    obtain rfl : m = n := by omega
    have HFK := Lib.hid (HFR.out off (fun e => by omega) (fun _ => rfl))
    rw [Nat.sub_self] at HFK HDL
    go_enter Try.func21, Try.ntmps21
    go_wp2_with fail
    go_ret
    refine ⟨_, rfl, fun g2 off2 n2 c2 e => by cases e; exact h3.1, HUP.out.gr (grown_set w R 0 _) (fun g2 off2 n2 c2 e => by cases e; omega), ⟨g, off, 0, ?_, ?_, h3⟩, grown_set _ _ _ _⟩
    · rw [HDL.out]
      have := HB.out.set_ 0 (.slice (some ⟨g, off, none⟩) 0 0)
      simpa using this
    · rw [HDL.out]
      exact HFK.out.gr (grown_set w R 0 _) (fun g2 off2 n2 c2 e => by cases e; omega)
def NumRes (w : World) (N R : Nat) (bs : List Int) (most : Nat) (e : Ending) (w' : World) : Prop :=
  (∃ u m, TakeS bs u m ∧ u ≤ most ∧ e = .returned (.int .i64 (u : Int)) ∧ RdIs w' N R (bs.drop m) ∧ w.grownBy w' (some R)) ∨ ((∀ u m, TakeS bs u m → most < u) ∧ BadP e ∧ w = w')
set_option maxRecDepth 100000 in
set_option maxHeartbeats 4000000 in
theorem number_any (w : World) (N R : Nat) (bs : List Int) (most : Nat) (h : RdIs w N R bs) (hb : Byts bs) (hm : most ≤ 1000000) (hl : bs.length ≤ 100000) :
    Calls Try.prog 41 #[.pointer (some ⟨R, 0, none⟩), .int .i64 (most : Int)] w (NumRes w N R bs most) := by
  have H := Lib.hid h
  have HL := Lib.hid hl
  obtain ⟨g, off, cap, h1, h2, h3⟩ := h
  have c0 := h1.cell 0
  simp at c0
  have PT := Lib.hid (take_any w _ bs h2 hb hl)
  obtain ⟨l, hll⟩ : ∃ l, l = bs.length := ⟨_, rfl⟩
  rw [← hll] at c0 PT
  clear h1 h2 hll hl hb
  go_enter Try.func41, Try.ntmps41
  go_wp2_with fail
  with_reducible refine PT.out.mono ?_
  rintro e w2 ⟨hres, hw2⟩
  subst hw2
  rcases hres with ⟨u, m, hts, rfl⟩ | ⟨hno, rfl⟩
  · have hml := hts.parts
    have HT := Lib.hid hts
    have hu64 := hml.1
    have hm10 : m ≤ 10 := hml.2.2.2.2.1
    have PS := Lib.hid (some_yes w N R bs m H.out hml.2.2.1 HL.out)
    clear hml hts PT
    by_cases hu : u ≤ most
    · have d1 : decide ((most : Int) < (u : Int)) = false := decide_eq_false (by omega)
      have d2 : decide (most < u) = false := decide_eq_false (by omega)
      go_wp2_with fail
      with_reducible refine PS.out.mono ?_
      rintro e w3 ⟨v, rfl, -, -, hrd, hg⟩
      have HRD := Lib.hid hrd
      have HG := Lib.hid hg
      clear hrd hg
      go_wp2
      go_ret
      exact .inl ⟨u, m, HT.out, hu, rfl, HRD.out, HG.out⟩
    · have d1 : decide ((most : Int) < (u : Int)) = true := decide_eq_true (by omega)
      have d2 : decide (most < u) = true := decide_eq_true (by omega)
      have HN : Hid (∀ u m, TakeS bs u m → most < u) := Lib.hid (fun u2 m2 h => by rw [← (HT.out.unique h).1]; omega)
      go_wp2_with fail
      exact ⟨rfl, .inr ⟨HN.out, rfl, rfl⟩⟩
  · have HN : Hid (∀ u m, TakeS bs u m → most < u) := Lib.hid (fun u2 m2 h => absurd h (hno u2 m2))
    clear hno PT
    go_wp2_with fail
    exact ⟨rfl, .inr ⟨HN.out, rfl, rfl⟩⟩
end Go.Proofs.Ytbghchgmoiniiaa
