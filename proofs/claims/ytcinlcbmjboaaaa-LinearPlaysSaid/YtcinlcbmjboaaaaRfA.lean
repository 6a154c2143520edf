/-
  The walks of gaugerref02.Add, of the document's Cells, Meet. Conditions: none beyond those stated at each theorem.
-/
import Derived.Test.YtcinlcbmjboaaaaCon
namespace Go.Proofs.Ytcinlcbmjboaaaa
open Go.RowKit
set_option linter.unusedVariables false
set_option linter.unusedSimpArgs false

def rowZ (zs : List Int) (W r : Nat) : List Int := (zs.drop (r * W)).take W
theorem rowZ_len {zs : List Int} {R W r : Nat} (h : zs.length = R * W) (hr : r < R) : (rowZ zs W r).length = W := by
  have h1 : (r + 1) * W ≤ R * W := Nat.mul_le_mul_right W hr
  rw [Nat.add_mul] at h1
  simp [rowZ]; omega
theorem rowZ_get {zs : List Int} {W r c : Nat} (hc : c < W) : (rowZ zs W r)[c]? = zs[r * W + c]? := by
  simp [rowZ, List.getElem?_take, hc, List.getElem?_drop]
theorem rowZ_next (zs : List Int) (W r : Nat) : zs.take ((r + 1) * W) = zs.take (r * W) ++ rowZ zs W r := by
  rw [Nat.add_mul, Nat.one_mul, List.take_add]; rfl

theorem RefIs.below {w w' : World} {N G : Nat} {v : Value} {B K : Nat → Nat} {R W : Nat} {zs : List Int} {M : Nat} (h : RefIs w N G v B K R W zs) (hb : Below M w w') (hM : w.heap.size ≤ M) : RefIs w' N G v B K R W zs := h.kept (hb.mono hM)

set_option maxRecDepth 100000 in
set_option maxHeartbeats 4000000 in
theorem rcells_any (w : World) (N G : Nat) (v : Value) (B K : Nat → Nat) (R W : Nat) (zs : List Int) (h : RefIs w N G v B K R W zs) :
    Calls Try.prog 33 #[.pointer (some ⟨G, 0, none⟩)] w fun e w' => ∃ g cap, e = .returned (.slice (some ⟨g, 0, none⟩) zs.length cap) ∧ zs.length ≤ cap ∧ w.heap.size ≤ g ∧ IntsAt w' (.slice (some ⟨g, 0, none⟩) zs.length cap) zs ∧ Below w.heap.size w w' := by
  have H := Lib.hid h
  have hR := h.rows
  have hW := h.width
  have hlen := Lib.hid h.len
  have hsmall : R * W ≤ 8 * 128 := Nat.mul_le_mul hR hW
  obtain ⟨ao, vcap, rfl, hvc, hao⟩ := h.openG
  have HAO := Lib.hid hao
  clear h hao
  obtain ⟨i0, hi, hz0, hz1, hz2⟩ := info_parts Try.info64
  go_enter Try.func33, Try.ntmps33
  go_wp2_with fail
  obtain ⟨g1, hb1, hsz1⟩ := news1 w (.cells #[] 2)
  have hown0 := World.ownsRow_lit (base := w.heap.size) (e := 2) (size := 1) w #[] 0 (by simp) (by unfold maxLen; omega) (by simp)
  generalize hwn : (w.alloc (.cells #[] 2)) = wn at *
  clear hwn g1
  have HO1 := Lib.hid hown0
  have HB1 := Lib.hid hb1
  clear hown0 hb1
  have hsz2 : w.heap.size ≤ wn.heap.size := by omega
  clear hsz1
  go_loopw [3, 4] (fun x i wr => ∃ r : Nat, r ≤ R ∧ i = .int .i64 (r : Int) ∧ x ≠ .slice none 0 0 ∧ wr.ownsRow w.heap.size 2 1 x (r * W) ((zs.take (r * W)).map (Value.int .i64)) ∧ Below w.heap.size w wr ∧ w.heap.size ≤ wr.heap.size) (fun _ i _ => R - (intOf i).toNat)
  case atStart => exact ⟨0, by omega, rfl, by simp, by simpa using HO1.out, HB1.out, hsz2⟩
  case round =>
    obtain ⟨r, hr, rfl, hnil, hown, hbel, hszr⟩ := hrel
    clear HO1 HB1 hsz2
    have HB := Lib.hid hbel
    have HO := Lib.hid hown
    have HNIL := Lib.hid hnil
    have HR := Lib.hid (H.out.kept hbel)
    have c0 := HR.out.box.cell 0
    simp at c0
    clear hbel hown hnil
    by_cases hlt : r < R
    · obtain ⟨L, cur, rfl, _, _, _⟩ := HAO.out (by omega)
      obtain ⟨ao2, vcap2, e2, _, hao2⟩ := HR.out.openG
      simp only [Value.slice.injEq] at e2
      obtain ⟨rfl, _, rfl⟩ := e2
      obtain ⟨L2, cur2, e3, _, hL2, hcur2⟩ := hao2 (by omega)
      simp only [Option.some.injEq, Addr.mk.injEq, and_true] at e3
      subst e3
      have cl := (hL2.cell r).trans (hcur2 r hlt)
      obtain ⟨curB, hCB, hcurB⟩ := HR.out.cells r hlt
      have HCELL : Hid (∀ j u, ((rowZ zs W r).map (Value.int .i64))[j]? = some u → wr.cell? ((⟨B r, 0, none⟩ : Addr).add j) = some u) := Lib.hid (by
        intro j u hu
        have hj : j < W := by
          have := (List.getElem?_eq_some_iff.1 hu).1
          simp [rowZ_len hlen.out hlt] at this
          exact this
        rw [List.getElem?_map, rowZ_get hj] at hu
        cases hz : zs[r * W + j]? with
        | none => rw [hz] at hu; simp at hu
        | some z =>
          rw [hz] at hu
          simp at hu
          subst hu
          have : ((⟨B r, 0, none⟩ : Addr).add j) = ⟨B r, j, none⟩ := by simp [Addr.add]; intro h; omega
          rw [this]
          exact (hCB.cell j).trans (hcurB j z hj hz))
      have hrl : Hid ((rowZ zs W r).length = W) := Lib.hid (rowZ_len hlen.out hlt)
      have HNX : Hid (zs.take ((r + 1) * W) = zs.take (r * W) ++ rowZ zs W r) := Lib.hid (rowZ_next zs W r)
      have hnx : (r + 1) * W = r * W + W := by rw [Nat.add_mul, Nat.one_mul]
      have HNX2 := Lib.hid hnx
      have hlm : (r + 1) * W ≤ R * W := Nat.mul_le_mul_right W hlt
      rw [hnx] at hlm
      have hmx : r * W + W ≤ maxLen := by unfold maxLen; omega
      clear hL2 hcur2 hCB hcurB hao2 hnx
      generalize rowZ zs W r = zr at *
      generalize B r = Br at *
      generalize K r = Kr at *
      have d1 : (0 : Int) ≤ (r : Int) := by omega
      have d2 : (r : Int) < (R : Int) := by omega
      go_wp2_with (at_builtin; refine wpList_append_own_at _ rfl _ _ 39 rfl w.heap.size 2 i0 (.int .i64 0) 1 8 Try.underlying39 hi hz0 hz1 hz2 rfl (by decide) _ (r * W) _ rfl HO.out ⟨Br, 0, none⟩ W Kr (zr.map (Value.int .i64)) rfl ?c1 HCELL.out ?c3 hmx ?c5 hszr ?_)
      case c1 => simp [hrl.out]
      case c3 =>
        intro u hu
        simp at hu
        obtain ⟨z, _, rfl⟩ := hu
        simp [Value.oneCell']
      case c5 => omega
      intro v' w3 hown' hgrow hnil' hq9
      have HNIL' : Hid (v' ≠ .slice none 0 0) := Lib.hid (fun h => HNIL.out (hnil'.1 h).1)
      have HO3 : Hid (w3.ownsRow w.heap.size 2 1 v' ((r + 1) * W) ((zs.take ((r + 1) * W)).map (Value.int .i64))) := Lib.hid (by rw [HNX.out, HNX2.out, List.map_append, List.map_take]; exact hown')
      have hMk := fun k hk => (HO.out.lt k hk).1
      have HB3 : Hid (Below w.heap.size w w3) := Lib.hid (HB.out.grown hgrow hszr (fun k e => hMk k e))
      have hsz3 : w.heap.size ≤ w3.heap.size := by have := hgrow.size; omega
      clear hown' hgrow hnil' hq9 hMk
      go_wp2
      go_roundw
      case rel => exact ⟨r + 1, by omega, by go_num, HNIL'.out, HO3.out, HB3.out, hsz3⟩
      case measure => simp [intOf]; omega
    · obtain rfl : r = R := by omega
      have hrow := HO.out
      rw [← hlen.out, List.take_length] at hrow
      have hi := IntsAt.of_own hrow rfl
      obtain ⟨g, cap, rfl, hg, hc, _⟩ := own_row hrow HNIL.out
      have HI := Lib.hid hi
      clear hi hrow
      go_wp2
      go_ret
      exact ⟨g, cap, rfl, hc, hg, HI.out, HB.out⟩


theorem ladd_yes (a b : Int) (ha : In64 a) (hb : In64 b) (h : In64 (a + b)) (w : World) : Calls Try.prog 50 #[.int .i64 a, .int .i64 b] w (TwoPost w (a + b) true) := by
  have P1 := Lib.hid (ofint_any a ha.1 ha.2)
  have P2 := Lib.hid (ofint_any b hb.1 hb.2)
  have P3 := Lib.hid (lplus_any a b)
  have P4 := Lib.hid (lint_yes (a + b) h.1 h.2)
  clear ha hb h
  unfold TwoPost
  generalize a + b = x at *
  go_enter Try.func50, Try.ntmps50
  go_wp2_with fail
  with_reducible refine (P1.out _).mono ?_
  rintro e w1 ⟨rfl, h1⟩
  have H1 := Lib.hid h1
  clear h1
  go_wp2_with fail
  with_reducible refine (P2.out _).mono ?_
  rintro e w2 ⟨rfl, h2⟩
  have H2 := Lib.hid (btr H1.out h2)
  clear h2
  go_wp2_with fail
  with_reducible refine (P3.out _).mono ?_
  rintro e w3 ⟨rfl, h3⟩
  have H3 := Lib.hid (btr H2.out h3)
  clear h3
  go_wp2_with fail
  with_reducible refine (P4.out _).mono ?_
  rintro e w4 ⟨rfl, h4⟩
  have H4 := Lib.hid (btr H3.out h4)
  clear h4
  go_wp2
  go_ret2
  exact ⟨rfl, H4.out⟩
theorem ladd_no (a b : Int) (ha : In64 a) (hb : In64 b) (h : ¬ In64 (a + b)) (w : World) : Calls Try.prog 50 #[.int .i64 a, .int .i64 b] w (TwoPost w 0 false) := by
  have P1 := Lib.hid (ofint_any a ha.1 ha.2)
  have P2 := Lib.hid (ofint_any b hb.1 hb.2)
  have P3 := Lib.hid (lplus_any a b)
  have P4 := Lib.hid (lint_no (a + b) (by have := ha.1; have := hb.1; omega) (by have := ha.2; have := hb.2; omega) h)
  clear ha hb h
  unfold TwoPost
  generalize a + b = x at *
  go_enter Try.func50, Try.ntmps50
  go_wp2_with fail
  with_reducible refine (P1.out _).mono ?_
  rintro e w1 ⟨rfl, h1⟩
  have H1 := Lib.hid h1
  clear h1
  go_wp2_with fail
  with_reducible refine (P2.out _).mono ?_
  rintro e w2 ⟨rfl, h2⟩
  have H2 := Lib.hid (btr H1.out h2)
  clear h2
  go_wp2_with fail
  with_reducible refine (P3.out _).mono ?_
  rintro e w3 ⟨rfl, h3⟩
  have H3 := Lib.hid (btr H2.out h3)
  clear h3
  go_wp2_with fail
  with_reducible refine (P4.out _).mono ?_
  rintro e w4 ⟨rfl, h4⟩
  have H4 := Lib.hid (btr H3.out h4)
  clear h4
  go_wp2
  go_ret2
  exact ⟨rfl, H4.out⟩

/-- what lies at a place of the document's grid -/
theorem RefIs.look {w : World} {N G L vcap : Nat} {B K : Nat → Nat} {R W r c : Nat} {zs : List Int} (h : RefIs w N G (.slice (some ⟨L, 0, none⟩) R vcap) B K R W zs) (hr : r < R) (hc : c < W) :
    w.cell? ⟨G, 0, none⟩ = some (.slice (some ⟨L, 0, none⟩) R vcap) ∧ w.cell? ⟨L, r, none⟩ = some (.slice (some ⟨B r, 0, none⟩) W (K r)) ∧ w.cell? ⟨B r, c, none⟩ = some (.int .i64 (cellD zs (r * W + c))) ∧ w.frozen? ⟨B r, c, none⟩ = false := by
  obtain ⟨b1, -, -⟩ := placeBd hr hc h.rows h.width
  obtain ⟨ao, cap, e, _, hao⟩ := h.openG
  simp only [Value.slice.injEq] at e
  obtain ⟨rfl, -, rfl⟩ := e
  obtain ⟨L', cur, e, -, hL, hcur⟩ := hao (by omega)
  simp only [Option.some.injEq, Addr.mk.injEq, and_true] at e
  subst e
  obtain ⟨curB, hB, hcurB⟩ := h.cells r hr
  have hz : zs[r * W + c]? = some (cellD zs (r * W + c)) := by
    have : r * W + c < zs.length := by rw [h.len]; omega
    simp [cellD, this]
  exact ⟨h.box.cell 0, (hL.cell r).trans (hcur r hr), (hB.cell c).trans (hcurB c _ hc hz), hB.frozen c⟩
theorem RefIs.lookR {w : World} {N G L vcap : Nat} {B K : Nat → Nat} {R W r : Nat} {zs : List Int} (h : RefIs w N G (.slice (some ⟨L, 0, none⟩) R vcap) B K R W zs) (hr : r < R) :
    w.cell? ⟨G, 0, none⟩ = some (.slice (some ⟨L, 0, none⟩) R vcap) ∧ w.cell? ⟨L, r, none⟩ = some (.slice (some ⟨B r, 0, none⟩) W (K r)) := by
  obtain ⟨ao, cap, e, _, hao⟩ := h.openG
  simp only [Value.slice.injEq] at e
  obtain ⟨rfl, -, rfl⟩ := e
  obtain ⟨L', cur, e, -, hL, hcur⟩ := hao (by omega)
  simp only [Option.some.injEq, Addr.mk.injEq, and_true] at e
  subst e
  exact ⟨h.box.cell 0, (hL.cell r).trans (hcur r hr)⟩
theorem RefIs.openL {w : World} {N G : Nat} {v : Value} {B K : Nat → Nat} {R W : Nat} {zs : List Int} (h : RefIs w N G v B K R W zs) (hR : 0 < R) : ∃ L vcap, v = .slice (some ⟨L, 0, none⟩) R vcap := by
  obtain ⟨ao, cap, e, _, hao⟩ := h.openG
  obtain ⟨L, cur, rfl, -⟩ := hao hR
  exact ⟨L, cap, e⟩

set_option maxRecDepth 100000 in
set_option maxHeartbeats 4000000 in
theorem rmeet_any (w : World) (N G : Nat) (v : Value) (B K : Nat → Nat) (R W : Nat) (zs cs : List Int) (vc : Value) (h : RefIs w N G v B K R W zs) (hv : IntsAt w vc cs) (hl : cs.length ≤ 100000) :
    Calls Try.prog 49 #[.pointer (some ⟨G, 0, none⟩), vc] w fun e w' => e = .returned (.bool (meetB R W cs)) ∧ Below w.heap.size w w' := by
  have hR8 := h.rows
  have hW8 := h.width
  have HV := Lib.hid hv
  obtain ⟨ao, cap, rfl, hcap, hcells⟩ := hv
  have HC := Lib.hid hcells
  clear hcells
  obtain ⟨n, hlen⟩ : ∃ n, n = cs.length := ⟨_, rfl⟩
  rw [← hlen] at hcap hl HC ⊢
  have HLEN := Lib.hid hlen
  by_cases hR : R = 0
  · have HM : Hid (meetB R W cs = false) := Lib.hid (by rw [hR]; exact meetB_zero)
    obtain ⟨ao', cap', rfl, _, _⟩ := h.openG
    have c0 := h.box.cell 0
    simp at c0
    have d0 : decide ((R : Int) = 0) = true := decide_eq_true (by omega)
    have d1 : ((R : Int) == 0) = true := by simp [hR]
    have d2 : (R == 0) = true := by simp [hR]
    have d3 : decide (R = 0) = true := by simp [hR]
    clear hR h HC hlen
    go_enter Try.func49, Try.ntmps49
    go_wp2
    go_ret
    exact ⟨ret_boolq HM.out.symm, Below.refl _ _⟩
  have h0R : 0 < R := by omega
  obtain ⟨L, vcap, rfl⟩ := h.openL h0R
  have c0 := h.box.cell 0
  simp at c0
  have d0 : decide ((R : Int) = 0) = false := decide_eq_false (by omega)
  have d1 : ((R : Int) == 0) = false := by simp [hR]
  have d2 : (R == 0) = false := by simp [hR]
  have d3 : decide (R = 0) = false := by simp [hR]
  by_cases hn : n = R
  · have HN := Lib.hid hn
    have d4 : ((n : Int) != (R : Int)) = false := by simp [hn]
    have d4' : (n != R) = false := by simp [hn]
    have HG := Lib.hid h
    have hn8 : n ≤ 8 := by omega
    clear hn hR h hlen
    go_enter Try.func49, Try.ntmps49
    go_wp2_with fail
    go_loopw [5] (fun i wr => ∃ j : Nat, j ≤ n ∧ i = .int .i64 (j : Int) ∧ (∀ k c, k < j → cs[k]? = some c → 0 ≤ c ∧ c < (W : Int)) ∧ Below w.heap.size w wr) (fun i _ => n - (intOf i).toNat)
    case atStart => exact ⟨0, by omega, rfl, fun k c hk => by omega, Below.refl _ _⟩
    case round =>
      obtain ⟨j, hj, rfl, hok, hbel⟩ := hrel
      have HOK := Lib.hid hok
      have HB := Lib.hid hbel
      clear hok hbel c0
      by_cases hlt : j < n
      · obtain ⟨g, rfl, hg, hc⟩ := HC.out (by have := HLEN.out; omega)
        have hcj : cs[j]? = some (cellD cs j) := by
          have : j < cs.length := by have := HLEN.out; omega
          simp [cellD, this]
        have cx := (HB.out.cell (p := ⟨g, j, none⟩) hg).trans (hc j _ hcj)
        have hjR : j < R := by have := HN.out; omega
        obtain ⟨l0, l1⟩ := (HG.out.kept HB.out).lookR hjR
        have HCJ := Lib.hid hcj
        clear hc hcj
        generalize cellD cs j = x at *
        generalize B j = Bj at *
        generalize K j = Kj at *
        have i0 : (0 : Int) ≤ (j : Int) := by omega
        have i1 : (j : Int) < (n : Int) := by omega
        have i2 : (j : Int) < (R : Int) := by omega
        have HBD := Lib.hid (fun k => below_drewN HB.out k)
        by_cases h1 : x < 0
        · have HM : Hid (meetB R W cs = false) := Lib.hid (meetB_bad HCJ.out (.inl h1))
          have e1 : decide (x < 0) = true := decide_eq_true h1
          clear h1
          go_wp2_with fail
          go_quiet (fail)
          go_wp2
          go_ret
          exact ⟨ret_boolq HM.out.symm, HBD.out _⟩
        by_cases h2 : (W : Int) ≤ x
        · have HM : Hid (meetB R W cs = false) := Lib.hid (meetB_bad HCJ.out (.inr h2))
          have e1 : decide (x < 0) = false := decide_eq_false h1
          have e2 : decide ((W : Int) ≤ x) = true := decide_eq_true h2
          clear h1 h2
          go_wp2_with fail
          go_quiet (fail)
          go_wp2
          go_ret
          exact ⟨ret_boolq HM.out.symm, HBD.out _⟩
        have HX : Hid (∀ k c, k < j + 1 → cs[k]? = some c → 0 ≤ c ∧ c < (W : Int)) := Lib.hid (fun k c hk hc => by
          by_cases e : k = j
          · subst e; rw [HCJ.out] at hc; have := Option.some.inj hc; omega
          · exact HOK.out k c (by omega) hc)
        have e1 : decide (x < 0) = false := decide_eq_false h1
        have e2 : decide ((W : Int) ≤ x) = false := decide_eq_false h2
        clear h1 h2
        go_wp2_with fail
        go_quiet (fail)
        go_wp2
        go_roundw
        case rel => exact ⟨j + 1, by omega, by go_num, HX.out, HBD.out _⟩
        case measure => simp [intOf]; omega
      · obtain rfl : j = n := by omega
        have HM : Hid (meetB R W cs = true) := Lib.hid (meetB_all h0R (by rw [← HLEN.out, HN.out]) (fun k c hc => HOK.out k c (by
          have := (List.getElem?_eq_some_iff.1 hc).1
          have := HLEN.out
          omega) hc))
        go_wp2
        go_ret
        exact ⟨ret_boolq HM.out.symm, HB.out⟩
  · have HM : Hid (meetB R W cs = false) := Lib.hid (meetB_len (by have := HLEN.out; omega))
    have d4 : ((n : Int) != (R : Int)) = true := by simp; omega
    have d4' : (n != R) = true := by simp; omega
    clear hn hR h hlen
    go_enter Try.func49, Try.ntmps49
    go_wp2
    go_ret
    exact ⟨ret_boolq HM.out.symm, Below.refl _ _⟩
end Go.Proofs.Ytcinlcbmjboaaaa
