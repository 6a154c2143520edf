/-
  The walk of the document's Join. Conditions: none beyond those stated at each theorem.
-/
import Derived.Test.YtfjhecgicemoeaaGrdP
import Derived.Test.YtfjhecgicemoeaaLngX
namespace Go.Proofs.Ytfjhecgicemoeaa
open Go.RowKit
set_option linter.unusedVariables false
set_option linter.unusedSimpArgs false

/-- the rows that are laid: j of them, that read as zs does -/
structure RowsV (w : World) (A : Nat) (v : Value) (B K : Nat → Nat) (j W : Nat) (zs : List Int) : Prop where
  own : w.ownsRow A 56 1 v j ((List.range j).map fun r => Value.slice (some ⟨B r, 0, none⟩) W (K r))
  cap : ∀ r, r < j → W ≤ K r
  cells : ∀ r, r < j → ∃ cur : Array Value, Blk w (B r) 2 cur ∧ ∀ (c : Nat) (u : Int), c < W → zs[r * W + c]? = some u → cur[c]? = some (Value.int .i64 u)
  inj : ∀ r r', r < j → r' < j → B r = B r' → r = r'
  lo : ∀ r, r < j → A ≤ B r
theorem RowsV.grown {w w' : World} {A : Nat} {v : Value} {B K : Nat → Nat} {j W : Nat} {zs : List Int} {row : Option Nat} (h : RowsV w A v B K j W zs) (hb : w.grownBy w' row) (h2 : v.ownBlock = none ∨ v.ownBlock ≠ row) (h3 : ∀ r, r < j → some (B r) ≠ row) : RowsV w' A v B K j W zs :=
  ⟨h.own.kept hb h2, h.cap, fun r hr => by obtain ⟨cur, hc, hcur⟩ := h.cells r hr; exact ⟨cur, hc.grown hb (h3 r hr), hcur⟩, h.inj, h.lo⟩
theorem RowsV.kept {w w' : World} {A : Nat} {v : Value} {B K : Nat → Nat} {j W : Nat} {zs : List Int} (h : RowsV w A v B K j W zs) (hb : Below w.heap.size w w') : RowsV w' A v B K j W zs :=
  h.grown (row := none) ⟨hb.os, hb.tape, hb.output, hb.size, fun k hk _ => hb.block k hk⟩ (by cases v.ownBlock <;> simp) (by simp)
theorem RowsV.ltB {w : World} {A : Nat} {v : Value} {B K : Nat → Nat} {j W : Nat} {zs : List Int} (h : RowsV w A v B K j W zs) {r : Nat} (hr : r < j) : B r < w.heap.size := by
  obtain ⟨cur, hc, _⟩ := h.cells r hr; exact hc.lt
theorem RowsV.push {w w3 : World} {A : Nat} {v v' : Value} {B K : Nat → Nat} {j W b cp : Nat} {zs : List Int} {cur : Array Value} (h : RowsV w A v B K j W zs) (hg : w.grownBy w3 v.ownBlock)
    (hown : w3.ownsRow A 56 1 v' (j + 1) (((List.range j).map fun r => Value.slice (some ⟨B r, 0, none⟩) W (K r)) ++ [.slice (some ⟨b, 0, none⟩) W cp]))
    (hrow : Blk w b 2 cur) (hcur : ∀ (c : Nat) (u : Int), c < W → zs[j * W + c]? = some u → cur[c]? = some (Value.int .i64 u)) (hW : W ≤ cp) (hA : A ≤ b) (hnB : ∀ r, r < j → B r ≠ b) :
    RowsV w3 A v' (fun r => if r = j then b else B r) (fun r => if r = j then cp else K r) (j + 1) W zs := by
  have hr3 : ∀ r, r < j + 1 → ∃ cur : Array Value, Blk w3 (if r = j then b else B r) 2 cur ∧ ∀ (c : Nat) (u : Int), c < W → zs[r * W + c]? = some u → cur[c]? = some (Value.int .i64 u) := by
    intro r hr
    by_cases e : r = j
    · rw [if_pos e]; subst e; exact ⟨cur, hrow.grown hg (fun e2 => own_ne h.own hrow (by decide) e2.symm), hcur⟩
    · rw [if_neg e]
      obtain ⟨c2, h2, h3⟩ := h.cells r (by omega)
      exact ⟨c2, h2.grown hg (fun e2 => own_ne h.own h2 (by decide) e2.symm), h3⟩
  refine ⟨?_, fun r hr => ?_, hr3, fun r r' hr hr' e => ?_, fun r hr => ?_⟩
  · have e : (List.range (j + 1)).map (fun r => Value.slice (some ⟨(if r = j then b else B r), 0, none⟩) W (if r = j then cp else K r)) = ((List.range j).map fun r => Value.slice (some ⟨B r, 0, none⟩) W (K r)) ++ [.slice (some ⟨b, 0, none⟩) W cp] := by
      rw [List.range_succ, List.map_append]
      congr 1
      · apply List.map_congr_left
        intro r hr
        have : r ≠ j := by have := List.mem_range.1 hr; omega
        rw [if_neg this, if_neg this]
      · simp
    rw [e]
    exact hown
  · by_cases e : r = j
    · simp only [if_pos e]; exact hW
    · simp only [if_neg e]; exact h.cap r (by omega)
  · by_cases e1 : r = j
    · by_cases e2 : r' = j
      · omega
      · simp only [if_pos e1, if_neg e2] at e
        exact absurd e.symm (hnB r' (by omega))
    · by_cases e2 : r' = j
      · simp only [if_neg e1, if_pos e2] at e
        exact absurd e (hnB r (by omega))
      · simp only [if_neg e1, if_neg e2] at e
        exact h.inj r r' (by omega) (by omega) e
  · by_cases e : r = j
    · rw [if_pos e]; exact hA
    · rw [if_neg e]; exact h.lo r (by omega)
/-- the rows are laid into the document's grid -/
theorem RowsV.ref {w : World} {N G A : Nat} {v v0 : Value} {B K B0 K0 : Nat → Nat} {R W : Nat} {zs zs0 : List Int} (h : RowsV w A v B K R W zs) (h0 : RefIs w N G v0 B0 K0 R W zs0) (hl : zs.length = R * W) (hA : N ≤ A) (hGA : G < A) :
    RefIs (w.setCell ⟨G, 0, none⟩ v) N G v B K R W zs := by
  have hgs := grown_set w G 0 v
  refine ⟨by simpa using h0.box.set_ 0 v, ⟨?_, ?_⟩, h.cap, fun r hr => ?_, h.inj, ⟨h0.lo.1, fun r hr => by have := h.lo r hr; omega⟩, hl, h0.rows, h0.width⟩
  · have := h.own.kept hgs (by
      cases hm : v.ownBlock with
      | none => exact .inl rfl
      | some k => exact .inr (fun e => by have := (h.own.lt k hm).1; have := Option.some.inj e; omega))
    exact this.1
  · have := h.own.kept hgs (by
      cases hm : v.ownBlock with
      | none => exact .inl rfl
      | some k => exact .inr (fun e => by have := (h.own.lt k hm).1; have := Option.some.inj e; omega))
    rcases this.2 with h1 | ⟨g, cap, cur, h1, h2, h3⟩
    · exact .inl h1
    · exact .inr ⟨g, cap, cur, h1, by omega, h3⟩
  · obtain ⟨cur, h1, h2⟩ := h.cells r hr
    have := h.lo r hr
    exact ⟨cur, h1.far (by simp; omega) _, h2⟩
theorem zipWith_at {f : Int → Int → Int} {zs hs : List Int} {j : Nat} {z h : Int} (h1 : zs[j]? = some z) (h2 : hs[j]? = some h) : (List.zipWith f zs hs)[j]? = some (f z h) := by
  rw [List.getElem?_zipWith, h1, h2]
theorem cell_fit' {zs : List Int} (h : Fit zs) (i : Nat) : In64 (cellD zs i) := by
  unfold cellD
  cases hz : zs[i]? with
  | none => exact ⟨by simp, by simp⟩
  | some x => exact h.get hz
theorem below_grown {w w' : World} {row : Option Nat} (h : Below w.heap.size w w') : w.grownBy w' row := ⟨h.os, h.tape, h.output, h.size, fun k hk _ => h.block k hk⟩
theorem grown_tr {w w1 w2 : World} {row : Option Nat} (h : w.grownBy w1 row) (k : w1.grownBy w2 row) : w.grownBy w2 row :=
  ⟨k.os.trans h.os, k.tape.trans h.tape, k.output.trans h.output, Nat.le_trans h.size k.size, fun j hj hne => (k.block j (Nat.lt_of_lt_of_le hj h.size) hne).trans (h.block j hj hne)⟩
theorem below_alloc1' (w : World) (o : Obj) : Below w.heap.size w (w.alloc o) := (Below.refl _ _).alloc (Nat.le_refl _) _
def JoinPost (w : World) (N G : Nat) (v : Value) (B K : Nat → Nat) (R W : Nat) (zs fs : List Int) (e : Ending) (w' : World) : Prop :=
  (Fit fs ∧ ∃ v' B' K', e = .returned (.int .i64 0) ∧ RefIs w' N G v' B' K' R W fs ∧ w.grownBy w' (some G)) ∨ (¬ Fit fs ∧ e = .returned (.int .i64 4) ∧ Below w.heap.size w w')
theorem fit_take_succ {zs : List Int} {i : Nat} {u : Int} (h : Fit (zs.take i)) (hz : zs[i]? = some u) (h0 : -9223372036854775808 ≤ u) (h1 : u ≤ 9223372036854775807) : Fit (zs.take (i + 1)) := by
  intro x hx
  rw [List.take_add_one, hz] at hx
  simp at hx
  rcases hx with hx | rfl
  · exact h x (by simpa using hx)
  · exact ⟨h0, h1⟩
theorem rowZ_take_succ {zs : List Int} {W r c : Nat} {u : Int} (hc : c < W) (hz : zs[r * W + c]? = some u) : (rowZ zs W r).take (c + 1) = (rowZ zs W r).take c ++ [u] := by
  rw [List.take_add_one, rowZ_get hc, hz]; rfl

set_option maxRecDepth 100000 in
set_option maxHeartbeats 4000000 in
theorem rjoin_any (sgn : Int) (f : Int → Int → Int) (hsf : (sgn = 1 ∧ f = fun a b => a + b) ∨ (sgn = -1 ∧ f = fun a b => a - b)) (w : World) (N G N' G' : Nat) (v v' : Value) (B K B' K' : Nat → Nat) (R W : Nat) (zs hs : List Int)
    (hg : RefIs w N G v B K R W zs) (hh : RefIs w N' G' v' B' K' R W hs) (hzf : Fit zs) (hhf : Fit hs) :
    Calls Try.prog 43 #[.pointer (some ⟨G, 0, none⟩), .pointer (some ⟨G', 0, none⟩), .int .i64 sgn] w (JoinPost w N G v B K R W zs (List.zipWith f zs hs)) := by
  have hR := hg.rows
  have hW := hg.width
  have HLZ := Lib.hid hg.len
  have HLH := Lib.hid hh.len
  have HZF := Lib.hid hzf
  have HHF := Lib.hid hhf
  have hfl : (List.zipWith f zs hs).length = R * W := by rw [List.length_zipWith, hg.len, hh.len, Nat.min_self]
  have HFL := Lib.hid hfl
  have hzip : ∀ i, i < R * W → (List.zipWith f zs hs)[i]? = some (f (cellD zs i) (cellD hs i)) := fun i hi => zipWith_at (by simp [cellD, hg.len, hi]) (by simp [cellD, hh.len, hi])
  have HZIP := Lib.hid hzip
  generalize List.zipWith f zs hs = fs at *
  have hsmall : R * W ≤ 8 * 128 := Nat.mul_le_mul hR hW
  obtain ⟨ao, vcap, rfl, hvc, hao⟩ := hg.openG
  obtain ⟨ao', vcap', rfl, hvc', hao'⟩ := hh.openG
  have HG := Lib.hid hg
  have HH := Lib.hid hh
  have hNG := hg.ltG
  have hNG' := hh.ltG
  have hNN := hg.lo.1
  clear hg hh hzf hhf hfl hzip
  obtain ⟨i0', hi, hz0, hz1, hz2⟩ := info_parts Try.info64
  obtain ⟨i1', hj, hy0, hy1, hy2⟩ := info_parts Try.infoSl
  go_enter Try.func43, Try.ntmps43
  go_wp2_with fail
  have hz : RowsV w w.heap.size (.slice none 0 0) (fun _ => 0) (fun _ => 0) 0 W fs := ⟨World.ownsRow_nil _ _ _ _, fun r hr => by omega, fun r hr => by omega, fun r r' hr => by omega, fun r hr => by omega⟩
  generalize hA : w.heap.size = A at *
  have HA := Lib.hid hA
  clear hA
  go_loopw [7, 8] (fun v i wr => ∃ (j : Nat) (B K : Nat → Nat), j ≤ R ∧ i = .int .i64 (j : Int) ∧ RowsV wr A v B K j W fs ∧ Fit (fs.take (j * W)) ∧ Below A w wr ∧ A ≤ wr.heap.size) (fun _ i _ => R - (intOf i).toNat)
  case atStart => exact ⟨0, _, _, by omega, rfl, hz, by simp [Fit], by rw [← HA.out]; exact Below.refl _ _, by rw [← HA.out]; exact Nat.le_refl _⟩
  case round =>
    clear hz
    obtain ⟨j, B1, K1, hjR, rfl, hrv, hfit, hbel, hszA⟩ := hrel
    have HRV := Lib.hid hrv
    have HFT := Lib.hid hfit
    have HB := Lib.hid hbel
    have hbw : Below w.heap.size w wr := by rw [HA.out]; exact hbel
    have HGr := Lib.hid (HG.out.kept hbw)
    have HHr := Lib.hid (HH.out.kept hbw)
    have c0 := HGr.out.box.cell 0
    simp at c0
    clear hrv hfit hbel hbw
    by_cases hlt : j < R
    · obtain ⟨L, curL, rfl, -, -, -⟩ := hao (by omega)
      obtain ⟨L', curL', rfl, -, -, -⟩ := hao' (by omega)
      have i0 : (0 : Int) ≤ (j : Int) := by omega
      have i1 : (j : Int) < (R : Int) := by omega
      go_wp2_with fail
      obtain ⟨g1, hb1, hsz1⟩ := news1 wr (.cells #[] 2)
      have hown0 := World.ownsRow_lit (base := wr.heap.size) (e := 2) (size := 1) wr #[] 0 (by simp) (by unfold maxLen; omega) (by simp)
      have hrv1 := HRV.out.kept hb1
      have hbel1 : Below A w (wr.alloc (.cells #[] 2)) := HB.out.trans (hb1.mono (by omega))
      generalize hwn : (wr.alloc (.cells #[] 2)) = wn at *
      clear hwn g1 hb1
      have HLT : Hid (∀ r, r < j → B1 r < wr.heap.size) := Lib.hid (fun r hr => HRV.out.ltB hr)
      have HLV : Hid (∀ k, Value.ownBlock u7 = some k → k < wr.heap.size) := Lib.hid (fun k hk => (HRV.out.own.lt k hk).2)
      generalize hM : wr.heap.size = M at *
      clear hM
      have HRV1 := Lib.hid hrv1
      have HB1 := Lib.hid hbel1
      have HO1 := Lib.hid hown0
      have hszn : M ≤ wn.heap.size := by omega
      clear hrv1 hbel1 hown0 HRV HB HGr HHr c0 hsz1
      go_loopw [9, 10] (fun x i wr => ∃ (c : Nat), c ≤ W ∧ i = .int .i64 (c : Int) ∧ x ≠ .slice none 0 0 ∧ wr.ownsRow M 2 1 x c (((rowZ fs W j).take c).map (Value.int .i64)) ∧ Fit (fs.take (j * W + c)) ∧ RowsV wr A u7 B1 K1 j W fs ∧ Below A w wr ∧ M ≤ wr.heap.size) (fun _ i _ => W - (intOf i).toNat)
      case atStart => exact ⟨0, by omega, rfl, by simp, by simpa using HO1.out, by simpa using HFT.out, HRV1.out, HB1.out, hszn⟩
      case round =>
        obtain ⟨c, hcW, rfl, hnil, hown, hft, hrv, hbel, hszM⟩ := hrel
        clear HRV1 HB1 HO1 hszn
        have HRV := Lib.hid hrv
        have HB := Lib.hid hbel
        have HO := Lib.hid hown
        have HNIL := Lib.hid hnil
        have HFC := Lib.hid hft
        have hbw : Below w.heap.size w wr := by rw [HA.out]; exact hbel
        have HGr := Lib.hid (HG.out.kept hbw)
        have HHr := Lib.hid (HH.out.kept hbw)
        have c0 := HGr.out.box.cell 0
        simp at c0
        obtain ⟨ao2, vc2, e2, -, hao2⟩ := HGr.out.openG
        simp only [Value.slice.injEq] at e2
        obtain ⟨rfl, -, rfl⟩ := e2
        obtain ⟨L2, cur2, e3, -, hL2, hcur2⟩ := hao2 (by omega)
        simp only [Option.some.injEq, Addr.mk.injEq, and_true] at e3
        subst e3
        have cl := (hL2.cell j).trans (hcur2 j hlt)
        have hLlt := hL2.lt
        clear hao2 hL2 hcur2 hrv hbel hown hnil hft hbw
        by_cases hltc : c < W
        · obtain ⟨ao3, vc3, e2, -, hao3⟩ := HHr.out.openG
          simp only [Value.slice.injEq] at e2
          obtain ⟨rfl, -, rfl⟩ := e2
          obtain ⟨L3, cur3, e3, -, hL3, hcur3⟩ := hao3 (by omega)
          simp only [Option.some.injEq, Addr.mk.injEq, and_true] at e3
          subst e3
          have dl := (hL3.cell j).trans (hcur3 j hlt)
          have d0 := HHr.out.box.cell 0
          simp at d0
          obtain ⟨b1, b2, b3⟩ := placeBd hlt hltc hR hW
          obtain ⟨curB, hCB, hcurB⟩ := HGr.out.cells j hlt
          obtain ⟨curD, hCD, hcurD⟩ := HHr.out.cells j hlt
          have hzz : zs[j * W + c]? = some (cellD zs (j * W + c)) := by
            have : j * W + c < zs.length := by rw [HLZ.out]; omega
            simp [cellD, this]
          have hhz : hs[j * W + c]? = some (cellD hs (j * W + c)) := by
            have : j * W + c < hs.length := by rw [HLH.out]; omega
            simp [cellD, this]
          have cz := (hCB.cell c).trans (hcurB c _ hltc hzz)
          have ch := (hCD.cell c).trans (hcurD c _ hltc hhz)
          have hz64 := cell_fit' HZF.out (j * W + c)
          have hh64 := cell_fit' HHF.out (j * W + c)
          have hfz := HZIP.out (j * W + c) b1
          have HFZ := Lib.hid hfz
          have HFN : Hid (In64 (f (cellD zs (j * W + c)) (cellD hs (j * W + c))) → Fit (fs.take (j * W + (c + 1)))) := Lib.hid (fun h => fit_take_succ HFC.out hfz h.1 h.2)
          have HRN : Hid ((rowZ fs W j).take (c + 1) = (rowZ fs W j).take c ++ [f (cellD zs (j * W + c)) (cellD hs (j * W + c))]) := Lib.hid (rowZ_take_succ hltc hfz)
          have HBAD : Hid (¬ In64 (f (cellD zs (j * W + c)) (cellD hs (j * W + c))) → ¬ Fit fs) := Lib.hid (fun h hf => h (hf.get hfz))
          have hWc := HGr.out.cap j hlt
          have hWd := HHr.out.cap j hlt
          have hBlt := hCB.lt
          have hGlt := HGr.out.ltG
          clear hao3 hL3 hcur3 hCB hcurB hCD hcurD hzz hhz hfz b1 b2 b3
          generalize cellD zs (j * W + c) = z at *
          generalize cellD hs (j * W + c) = h at *
          generalize B j = Bj at *
          generalize K j = Kj at *
          generalize B' j = Dj at *
          generalize K' j = Ej at *
          have k0 : (0 : Int) ≤ (c : Int) := by omega
          have k1 : (c : Int) < (W : Int) := by omega
          have HB2 := HB.out
          go_wp2_with fail
          refine (ofint_any h hh64.1 hh64.2 _).mono ?_; rintro e w1 ⟨rfl, hb⟩
          have hX2 : Blk ((w1.alloc (.cells #[.int .i64 0, .int .i64 0, .int .i64 0, .int .i64 0, .int .i64 0, .int .i64 0, .int .i64 0, .int .i64 0, .int .i64 0, .int .i64 0] 90)).setRow w1.heap.size (longA h)) w1.heap.size 90 (longA h) := setRow_heap _ _ _ _ _ _ (Blk.new w1 90 #[.int .i64 0, .int .i64 0, .int .i64 0, .int .i64 0, .int .i64 0, .int .i64 0, .int .i64 0, .int .i64 0, .int .i64 0, .int .i64 0])
          have hXlo : wr.heap.size ≤ w1.heap.size := hb.size
          have hk2 : Below wr.heap.size wr ((w1.alloc (.cells #[.int .i64 0, .int .i64 0, .int .i64 0, .int .i64 0, .int .i64 0, .int .i64 0, .int .i64 0, .int .i64 0, .int .i64 0, .int .i64 0] 90)).setRow w1.heap.size (longA h)) := below_setRow (hb.alloc hb.size _) hb.size _
          have hy64 : -9223372036854775808 ≤ -h ∧ -h ≤ 9223372036854775808 := by obtain ⟨h1, h2⟩ := hh64; omega
          have PM := Lib.hid (lminus_any h)
          obtain ⟨y, hyb, hfy, hsy⟩ : ∃ y : Int, (-9223372036854775808 ≤ y ∧ y ≤ 9223372036854775808) ∧ f z h = z + y ∧ ((sgn = 1 ∧ y = h) ∨ (sgn = -1 ∧ y = -h)) := by
            rcases hsf with ⟨h1, rfl⟩ | ⟨h1, rfl⟩
            · exact ⟨h, ⟨by have := hh64.1; omega, by have := hh64.2; omega⟩, rfl, .inl ⟨h1, rfl⟩⟩
            · exact ⟨-h, hy64, by show z - h = z + -h; omega, .inr ⟨h1, rfl⟩⟩
          rw [hfy] at HFZ HFN HRN HBAD
          have HYB := Lib.hid hyb
          have HX2 := Lib.hid hX2
          have HK2 := Lib.hid hk2
          clear hfy hy64 hyb hk2 hb
          by_cases hfit : In64 (z + y)
          all_goals
            have HFIT := Lib.hid hfit
            clear hfit
            rcases hsy with ⟨rfl, hyq⟩ | ⟨rfl, hyq⟩
            all_goals
              go_wp2_with (first | refine wpList_store_row rfl 90 _ _ rfl w1.heap.size (longA h) rfl rfl 90 #[.int .i64 0, .int .i64 0, .int .i64 0, .int .i64 0, .int .i64 0, .int .i64 0, .int .i64 0, .int .i64 0, .int .i64 0, .int .i64 0] (Blk.new _ _ _) (long_info h) (by rw [longA_size]; rfl) (longA_one _) ?_ | refine wpList_load_row rfl 90 _ rfl w1.heap.size rfl 90 (longA h) (0, 0) _ hX2 Try.underlying90 rfl (long_info h) ?_)
              generalize ((w1.alloc (.cells #[.int .i64 0, .int .i64 0, .int .i64 0, .int .i64 0, .int .i64 0, .int .i64 0, .int .i64 0, .int .i64 0, .int .i64 0, .int .i64 0] 90)).setRow w1.heap.size (longA h)) = w2 at *
              generalize w1.heap.size = X at *
          · have HX3 : Hid (Blk w2 X 90 (longA y)) := by rw [hyq]; exact HX2.out
            have HK3 := HK2
            generalize w2 = w4 at *
            clear hX2 HX2 hyq
            go_wp2_with fail
            refine wp_region_held_drew (S := fun w' => Blk w' X 90 (longA y) ∧ Below wr.heap.size wr w') (by kernel_rfl) (by exact ⟨HX3.out.drewN 1, below_drewN HK3.out 1⟩) (fun hHeld => ?_)
            refine wpAnyH_take (i := 0) (v := ?_) rfl (by kernel_rfl) (by kernel_rfl) (by kernel_rfl) (fun _ _ _ h => h) (Or.inl ⟨by rfl, ?_⟩) (by assumption) ?_
            rotate_left
            · intro w hSw
              try dsimp only at hSw
              go_simp
              try with_reducible rfl
            simp only [Act.put, List.setIfInBounds_toArray, List.set_cons_zero, List.set_cons_succ, List.getElem_toArray, List.getElem_cons_zero, List.getElem_cons_succ]
            refine wpAnyH_take (i := 1) (v := ?_) rfl (by kernel_rfl) (by kernel_rfl) (by kernel_rfl) (fun _ _ _ h => h) (Or.inl ⟨by rfl, ?_⟩) (by assumption) ?_
            rotate_left
            · intro w hSw
              try dsimp only at hSw
              go_simp
              try with_reducible rfl
            simp only [Act.put, List.setIfInBounds_toArray, List.set_cons_zero, List.set_cons_succ, List.getElem_toArray, List.getElem_cons_zero, List.getElem_cons_succ]
            refine wpAnyH_take (i := 2) (v := ?_) rfl (by kernel_rfl) (by kernel_rfl) (by kernel_rfl) (fun _ _ _ h => h) (Or.inl ⟨by rfl, ?_⟩) (by assumption) ?_
            rotate_left
            · intro w hSw
              try dsimp only at hSw
              go_simp
              try with_reducible rfl
            simp only [Act.put, List.setIfInBounds_toArray, List.set_cons_zero, List.set_cons_succ, List.getElem_toArray, List.getElem_cons_zero, List.getElem_cons_succ]
            refine wpAnyH_take (i := 3) (v := ?_) rfl (by kernel_rfl) (by kernel_rfl) (by kernel_rfl) (fun _ _ _ h => h) (Or.inl ⟨by rfl, ?_⟩) (by assumption) ?_
            rotate_left
            · intro w hSw
              have q1 := (hSw.2.cell (p := ⟨G, 0, none⟩) hGlt).trans c0
              have q2 := (hSw.2.cell (p := ⟨L, j, none⟩) hLlt).trans cl
              have q3 := (hSw.2.cell (p := ⟨Bj, c, none⟩) hBlt).trans cz
              try refine (exec_load_row 90 _ rfl X rfl 90 (longA y) (0, 0) _ hSw.1 Try.underlying90 rfl (long_info y)).trans ?_
              go_simp
              try with_reducible rfl
            simp only [Act.put, List.setIfInBounds_toArray, List.set_cons_zero, List.set_cons_succ, List.getElem_toArray, List.getElem_cons_zero, List.getElem_cons_succ]
            refine wpAnyH_take (i := 4) (v := ?_) rfl (by kernel_rfl) (by kernel_rfl) (by kernel_rfl) (fun _ _ _ h => h) (Or.inl ⟨by rfl, ?_⟩) (by assumption) ?_
            rotate_left
            · intro w hSw
              try dsimp only at hSw
              go_simp
              try with_reducible rfl
            simp only [Act.put, List.setIfInBounds_toArray, List.set_cons_zero, List.set_cons_succ, List.getElem_toArray, List.getElem_cons_zero, List.getElem_cons_succ]
            refine wpAnyH_take (i := 5) (v := ?_) rfl (by kernel_rfl) (by kernel_rfl) (by kernel_rfl) (fun _ _ _ h => h) (Or.inl ⟨by rfl, ?_⟩) (by assumption) ?_
            rotate_left
            · intro w hSw
              try dsimp only at hSw
              go_simp
              try with_reducible rfl
            simp only [Act.put, List.setIfInBounds_toArray, List.set_cons_zero, List.set_cons_succ, List.getElem_toArray, List.getElem_cons_zero, List.getElem_cons_succ]
            refine wpAnyH_take (i := 6) (v := ?_) rfl (by kernel_rfl) (by kernel_rfl) (by kernel_rfl) (fun _ _ _ h => h) (Or.inl ⟨by rfl, ?_⟩) (by assumption) ?_
            rotate_left
            · intro w hSw
              have q1 := (hSw.2.cell (p := ⟨G, 0, none⟩) hGlt).trans c0
              have q2 := (hSw.2.cell (p := ⟨L, j, none⟩) hLlt).trans cl
              have q3 := (hSw.2.cell (p := ⟨Bj, c, none⟩) hBlt).trans cz
              try refine (exec_load_row 90 _ rfl X rfl 90 (longA y) (0, 0) _ hSw.1 Try.underlying90 rfl (long_info y)).trans ?_
              go_simp
              try with_reducible rfl
            simp only [Act.put, List.setIfInBounds_toArray, List.set_cons_zero, List.set_cons_succ, List.getElem_toArray, List.getElem_cons_zero, List.getElem_cons_succ]
            refine wpAnyH_take (i := 7) (v := ?_) rfl (by kernel_rfl) (by kernel_rfl) (by kernel_rfl) (fun _ _ _ h => h) (Or.inl ⟨by rfl, ?_⟩) (by assumption) ?_
            rotate_left
            · intro w hSw
              try dsimp only at hSw
              go_simp
              try with_reducible rfl
            simp only [Act.put, List.setIfInBounds_toArray, List.set_cons_zero, List.set_cons_succ, List.getElem_toArray, List.getElem_cons_zero, List.getElem_cons_succ]
            refine wpAnyH_take (i := 8) (v := ?_) rfl (by kernel_rfl) (by kernel_rfl) (by kernel_rfl) (fun _ _ _ h => h) (Or.inl ⟨by rfl, ?_⟩) (by assumption) ?_
            rotate_left
            · intro w hSw
              try dsimp only at hSw
              go_simp
              try with_reducible rfl
            simp only [Act.put, List.setIfInBounds_toArray, List.set_cons_zero, List.set_cons_succ, List.getElem_toArray, List.getElem_cons_zero, List.getElem_cons_succ]
            refine wpAnyH_take (i := 9) (v := ?_) rfl (by kernel_rfl) (by kernel_rfl) (by kernel_rfl) (fun _ _ _ h => h) (Or.inl ⟨by rfl, ?_⟩) (by assumption) ?_
            rotate_left
            · intro w hSw
              have q1 := (hSw.2.cell (p := ⟨G, 0, none⟩) hGlt).trans c0
              have q2 := (hSw.2.cell (p := ⟨L, j, none⟩) hLlt).trans cl
              have q3 := (hSw.2.cell (p := ⟨Bj, c, none⟩) hBlt).trans cz
              try refine (exec_load_row 90 _ rfl X rfl 90 (longA y) (0, 0) _ hSw.1 Try.underlying90 rfl (long_info y)).trans ?_
              go_simp
              try with_reducible rfl
            simp only [Act.put, List.setIfInBounds_toArray, List.set_cons_zero, List.set_cons_succ, List.getElem_toArray, List.getElem_cons_zero, List.getElem_cons_succ]
            refine wpAnyH_take (i := 11) (v := ?_) rfl (by kernel_rfl) (by kernel_rfl) (by kernel_rfl) (fun _ _ _ h => h) (Or.inl ⟨by rfl, ?_⟩) (by assumption) ?_
            rotate_left
            · intro w hSw
              have q1 := (hSw.2.cell (p := ⟨G, 0, none⟩) hGlt).trans c0
              have q2 := (hSw.2.cell (p := ⟨L, j, none⟩) hLlt).trans cl
              have q3 := (hSw.2.cell (p := ⟨Bj, c, none⟩) hBlt).trans cz
              try refine (exec_load_row 90 _ rfl X rfl 90 (longA y) (0, 0) _ hSw.1 Try.underlying90 rfl (long_info y)).trans ?_
              go_simp
              try with_reducible rfl
            simp only [Act.put, List.setIfInBounds_toArray, List.set_cons_zero, List.set_cons_succ, List.getElem_toArray, List.getElem_cons_zero, List.getElem_cons_succ]
            refine wpAnyH_ready (rs := [10]) (by kernel_rfl) (by simp) ?_
            refine AllReadyH.cons rfl (fun Kc hKc => ?_) AllReadyH.nil
            go_simp
            go_wp2_with (first | (go_at_call 55; refine (ofint_any z hz64.1 hz64.2 _).mono ?_; rintro e w5 ⟨rfl, hb'⟩) | (go_at_call 58; refine (lplus_any z y _).mono ?_; rintro e w6 ⟨rfl, hb'⟩) | (go_at_call 57; refine (lint_yes (z + y) HFIT.out.1 HFIT.out.2 _).mono ?_; rintro e w7 ⟨rfl, hb'⟩))
            refine hKc.out _ _ ?_ (fun hHeld => ?_)
            · first | assumption | exact ⟨hHeld.1.kept hb', hHeld.2.trans (hb'.mono hHeld.2.size)⟩
            clear hKc Kc
            refine wpAnyH_ready (rs := [12]) (by kernel_rfl) (by simp) ?_
            refine AllReadyH.cons rfl (fun Kc hKc => ?_) AllReadyH.nil
            go_simp
            go_wp2_with (first | (go_at_call 55; refine (ofint_any z hz64.1 hz64.2 _).mono ?_; rintro e w5 ⟨rfl, hb'⟩) | (go_at_call 58; refine (lplus_any z y _).mono ?_; rintro e w6 ⟨rfl, hb'⟩) | (go_at_call 57; refine (lint_yes (z + y) HFIT.out.1 HFIT.out.2 _).mono ?_; rintro e w7 ⟨rfl, hb'⟩))
            refine hKc.out _ _ ?_ (fun hHeld => ?_)
            · first | assumption | exact ⟨hHeld.1.kept hb', hHeld.2.trans (hb'.mono hHeld.2.size)⟩
            clear hKc Kc
            refine wpAnyH_ready (rs := [13]) (by kernel_rfl) (by simp) ?_
            refine AllReadyH.cons rfl (fun Kc hKc => ?_) AllReadyH.nil
            go_simp
            go_wp2_with (first | (go_at_call 55; refine (ofint_any z hz64.1 hz64.2 _).mono ?_; rintro e w5 ⟨rfl, hb'⟩) | (go_at_call 58; refine (lplus_any z y _).mono ?_; rintro e w6 ⟨rfl, hb'⟩) | (go_at_call 57; refine (lint_yes (z + y) HFIT.out.1 HFIT.out.2 _).mono ?_; rintro e w7 ⟨rfl, hb'⟩))
            refine hKc.out _ _ ?_ (fun hHeld => ?_)
            · first | assumption | exact ⟨hHeld.1.kept hb', hHeld.2.trans (hb'.mono hHeld.2.size)⟩
            clear hKc Kc
            refine wpAnyH_take (i := 14) (v := ?_) rfl (by kernel_rfl) (by kernel_rfl) (by kernel_rfl) (fun _ _ _ h => h) (Or.inl ⟨by rfl, ?_⟩) (by assumption) ?_
            rotate_left
            · intro w hSw
              try dsimp only at hSw
              go_simp
              try with_reducible rfl
            simp only [Act.put, List.setIfInBounds_toArray, List.set_cons_zero, List.set_cons_succ, List.getElem_toArray, List.getElem_cons_zero, List.getElem_cons_succ]
            refine wpAnyH_take (i := 15) (v := ?_) rfl (by kernel_rfl) (by kernel_rfl) (by kernel_rfl) (fun _ _ _ h => h) (Or.inl ⟨by rfl, ?_⟩) (by assumption) ?_
            rotate_left
            · intro w hSw
              try dsimp only at hSw
              go_simp
              try with_reducible rfl
            simp only [Act.put, List.setIfInBounds_toArray, List.set_cons_zero, List.set_cons_succ, List.getElem_toArray, List.getElem_cons_zero, List.getElem_cons_succ]
            refine wpAnyH_take (i := 16) (v := ?_) rfl (by kernel_rfl) (by kernel_rfl) (by kernel_rfl) (fun _ _ _ h => h) (Or.inl ⟨by rfl, ?_⟩) (by assumption) ?_
            rotate_left
            · intro w hSw
              try dsimp only at hSw
              go_simp
              try with_reducible rfl
            simp only [Act.put, List.setIfInBounds_toArray, List.set_cons_zero, List.set_cons_succ, List.getElem_toArray, List.getElem_cons_zero, List.getElem_cons_succ]
            refine wpAnyH_take (i := 17) (v := ?_) rfl (by kernel_rfl) (by kernel_rfl) (by kernel_rfl) (fun _ _ _ h => h) (Or.inl ⟨by rfl, ?_⟩) (by assumption) ?_
            rotate_left
            · intro w hSw
              try dsimp only at hSw
              go_simp
              try with_reducible rfl
            simp only [Act.put, List.setIfInBounds_toArray, List.set_cons_zero, List.set_cons_succ, List.getElem_toArray, List.getElem_cons_zero, List.getElem_cons_succ]
            refine wpAnyH_take (i := 18) (v := ?_) rfl (by kernel_rfl) (by kernel_rfl) (by kernel_rfl) (fun _ _ _ h => h) (Or.inl ⟨by rfl, ?_⟩) (by assumption) ?_
            rotate_left
            · intro w hSw
              try dsimp only at hSw
              go_simp
              try with_reducible rfl
            simp only [Act.put, List.setIfInBounds_toArray, List.set_cons_zero, List.set_cons_succ, List.getElem_toArray, List.getElem_cons_zero, List.getElem_cons_succ]
            refine wpAnyH_done (by kernel_rfl) ?_ _
            have HK7 := Lib.hid hHeld.2
            clear hHeld
            have HO7 := Lib.hid (HO.out.kept (below_grown (row := none) HK7.out) (by cases Value.ownBlock u9 <;> simp))
            have HRV7 := Lib.hid (HRV.out.kept HK7.out)
            have HB7 : Hid (Below A w w7) := Lib.hid (HB.out.trans (HK7.out.mono (by omega)))
            have hs7 : M ≤ w7.heap.size := by have := HK7.out.size; omega
            have hFN := HFN.out HFIT.out
            have hc1 : c + 1 ≤ maxLen := by unfold maxLen; omega
            generalize z + y = x at *
            go_wp2_with (at_builtin; refine wpList_append_own_at _ rfl _ _ 56 rfl M 2 i0' (.int .i64 0) 1 8 Try.underlying56 hi hz0 hz1 hz2 rfl (by decide) _ c _ rfl (HO7.out.alloc _) ⟨w7.heap.size, 0, none⟩ 1 1 [.int .i64 x] rfl rfl (cell_one_new _ _ _) ?c2 hc1 ?c4 ?c5 ?_)
            case c2 => simp [Value.oneCell']
            case c4 => omega
            case c5 => simp; omega
            intro v8 w8 hown' hgrow hnil' hq9
            have HNIL' : Hid (v8 ≠ .slice none 0 0) := Lib.hid hnil'
            have HO8 : Hid (w8.ownsRow M 2 1 v8 (c + 1) (((rowZ fs W j).take (c + 1)).map (Value.int .i64))) := Lib.hid (by rw [HRN.out, List.map_append, List.map_take]; exact hown')
            have hMk : ∀ k, Value.ownBlock u9 = some k → M ≤ k := fun k hk => (HO.out.lt k hk).1
            have HRV8 : Hid (RowsV w8 A u7 B1 K1 j W fs) := Lib.hid ((HRV7.out.kept (below_alloc1' _ _)).grown hgrow
              (by cases hv : Value.ownBlock u7 with
                | none => exact .inl rfl
                | some k => exact .inr (fun e => by have := hMk k e.symm; have := HLV.out k hv; omega))
              (fun r hr e => by have := hMk _ e.symm; have := HLT.out r hr; omega))
            have HB8 : Hid (Below A w w8) := Lib.hid ((HB7.out.alloc (by omega) _).grown hgrow (by first | omega | (simp; done) | (simp; omega)) (fun k e => by have := hMk k e; omega))
            have hs8 : M ≤ w8.heap.size := by have := hgrow.size; simp at this; omega
            clear hown' hgrow hnil' hq9 hMk
            go_wp2
            go_roundw
            case rel => exact ⟨c + 1, by omega, by go_num, HNIL'.out, HO8.out, hFN, HRV8.out, HB8.out, hs8⟩
            case measure => simp [intOf]; omega
          · refine (PM.out _).mono ?_; rintro e w3 ⟨rfl, hb⟩
            have hX3 := HX2.out.kept hb
            have hb3 := hb.mono HK2.out.size
            have hk4 : Below wr.heap.size wr (w3.setRow X (longA (-h))) := below_setRow (HK2.out.trans hb3) hXlo _
            have hX4 : Blk (w3.setRow X (longA (-h))) X 90 (longA y) := by rw [hyq]; exact setRow_heap _ _ _ _ _ _ hX3
            go_wp2_with (refine wpList_store_row rfl 90 _ _ rfl X (longA (-h)) rfl rfl 90 (longA h) hX3 (long_info (-h)) (by rw [longA_size, longA_size]) (longA_one _) ?_)
            generalize w3.setRow X (longA (-h)) = w4 at *
            have HX3 := Lib.hid hX4
            have HK3 := Lib.hid hk4
            clear hX2 HX2 hX3 hX4 hk4 hb3 hb hyq
            go_wp2_with fail
            refine wp_region_held_drew (S := fun w' => Blk w' X 90 (longA y) ∧ Below wr.heap.size wr w') (by kernel_rfl) (by exact ⟨HX3.out.drewN 1, below_drewN HK3.out 1⟩) (fun hHeld => ?_)
            refine wpAnyH_take (i := 0) (v := ?_) rfl (by kernel_rfl) (by kernel_rfl) (by kernel_rfl) (fun _ _ _ h => h) (Or.inl ⟨by rfl, ?_⟩) (by assumption) ?_
            rotate_left
            · intro w hSw
              try dsimp only at hSw
              go_simp
              try with_reducible rfl
            simp only [Act.put, List.setIfInBounds_toArray, List.set_cons_zero, List.set_cons_succ, List.getElem_toArray, List.getElem_cons_zero, List.getElem_cons_succ]
            refine wpAnyH_take (i := 1) (v := ?_) rfl (by kernel_rfl) (by kernel_rfl) (by kernel_rfl) (fun _ _ _ h => h) (Or.inl ⟨by rfl, ?_⟩) (by assumption) ?_
            rotate_left
            · intro w hSw
              try dsimp only at hSw
              go_simp
              try with_reducible rfl
            simp only [Act.put, List.setIfInBounds_toArray, List.set_cons_zero, List.set_cons_succ, List.getElem_toArray, List.getElem_cons_zero, List.getElem_cons_succ]
            refine wpAnyH_take (i := 2) (v := ?_) rfl (by kernel_rfl) (by kernel_rfl) (by kernel_rfl) (fun _ _ _ h => h) (Or.inl ⟨by rfl, ?_⟩) (by assumption) ?_
            rotate_left
            · intro w hSw
              try dsimp only at hSw
              go_simp
              try with_reducible rfl
            simp only [Act.put, List.setIfInBounds_toArray, List.set_cons_zero, List.set_cons_succ, List.getElem_toArray, List.getElem_cons_zero, List.getElem_cons_succ]
            refine wpAnyH_take (i := 3) (v := ?_) rfl (by kernel_rfl) (by kernel_rfl) (by kernel_rfl) (fun _ _ _ h => h) (Or.inl ⟨by rfl, ?_⟩) (by assumption) ?_
            rotate_left
            · intro w hSw
              have q1 := (hSw.2.cell (p := ⟨G, 0, none⟩) hGlt).trans c0
              have q2 := (hSw.2.cell (p := ⟨L, j, none⟩) hLlt).trans cl
              have q3 := (hSw.2.cell (p := ⟨Bj, c, none⟩) hBlt).trans cz
              try refine (exec_load_row 90 _ rfl X rfl 90 (longA y) (0, 0) _ hSw.1 Try.underlying90 rfl (long_info y)).trans ?_
              go_simp
              try with_reducible rfl
            simp only [Act.put, List.setIfInBounds_toArray, List.set_cons_zero, List.set_cons_succ, List.getElem_toArray, List.getElem_cons_zero, List.getElem_cons_succ]
            refine wpAnyH_take (i := 4) (v := ?_) rfl (by kernel_rfl) (by kernel_rfl) (by kernel_rfl) (fun _ _ _ h => h) (Or.inl ⟨by rfl, ?_⟩) (by assumption) ?_
            rotate_left
            · intro w hSw
              try dsimp only at hSw
              go_simp
              try with_reducible rfl
            simp only [Act.put, List.setIfInBounds_toArray, List.set_cons_zero, List.set_cons_succ, List.getElem_toArray, List.getElem_cons_zero, List.getElem_cons_succ]
            refine wpAnyH_take (i := 5) (v := ?_) rfl (by kernel_rfl) (by kernel_rfl) (by kernel_rfl) (fun _ _ _ h => h) (Or.inl ⟨by rfl, ?_⟩) (by assumption) ?_
            rotate_left
            · intro w hSw
              try dsimp only at hSw
              go_simp
              try with_reducible rfl
            simp only [Act.put, List.setIfInBounds_toArray, List.set_cons_zero, List.set_cons_succ, List.getElem_toArray, List.getElem_cons_zero, List.getElem_cons_succ]
            refine wpAnyH_take (i := 6) (v := ?_) rfl (by kernel_rfl) (by kernel_rfl) (by kernel_rfl) (fun _ _ _ h => h) (Or.inl ⟨by rfl, ?_⟩) (by assumption) ?_
            rotate_left
            · intro w hSw
              have q1 := (hSw.2.cell (p := ⟨G, 0, none⟩) hGlt).trans c0
              have q2 := (hSw.2.cell (p := ⟨L, j, none⟩) hLlt).trans cl
              have q3 := (hSw.2.cell (p := ⟨Bj, c, none⟩) hBlt).trans cz
              try refine (exec_load_row 90 _ rfl X rfl 90 (longA y) (0, 0) _ hSw.1 Try.underlying90 rfl (long_info y)).trans ?_
              go_simp
              try with_reducible rfl
            simp only [Act.put, List.setIfInBounds_toArray, List.set_cons_zero, List.set_cons_succ, List.getElem_toArray, List.getElem_cons_zero, List.getElem_cons_succ]
            refine wpAnyH_take (i := 7) (v := ?_) rfl (by kernel_rfl) (by kernel_rfl) (by kernel_rfl) (fun _ _ _ h => h) (Or.inl ⟨by rfl, ?_⟩) (by assumption) ?_
            rotate_left
            · intro w hSw
              try dsimp only at hSw
              go_simp
              try with_reducible rfl
            simp only [Act.put, List.setIfInBounds_toArray, List.set_cons_zero, List.set_cons_succ, List.getElem_toArray, List.getElem_cons_zero, List.getElem_cons_succ]
            refine wpAnyH_take (i := 8) (v := ?_) rfl (by kernel_rfl) (by kernel_rfl) (by kernel_rfl) (fun _ _ _ h => h) (Or.inl ⟨by rfl, ?_⟩) (by assumption) ?_
            rotate_left
            · intro w hSw
              try dsimp only at hSw
              go_simp
              try with_reducible rfl
            simp only [Act.put, List.setIfInBounds_toArray, List.set_cons_zero, List.set_cons_succ, List.getElem_toArray, List.getElem_cons_zero, List.getElem_cons_succ]
            refine wpAnyH_take (i := 9) (v := ?_) rfl (by kernel_rfl) (by kernel_rfl) (by kernel_rfl) (fun _ _ _ h => h) (Or.inl ⟨by rfl, ?_⟩) (by assumption) ?_
            rotate_left
            · intro w hSw
              have q1 := (hSw.2.cell (p := ⟨G, 0, none⟩) hGlt).trans c0
              have q2 := (hSw.2.cell (p := ⟨L, j, none⟩) hLlt).trans cl
              have q3 := (hSw.2.cell (p := ⟨Bj, c, none⟩) hBlt).trans cz
              try refine (exec_load_row 90 _ rfl X rfl 90 (longA y) (0, 0) _ hSw.1 Try.underlying90 rfl (long_info y)).trans ?_
              go_simp
              try with_reducible rfl
            simp only [Act.put, List.setIfInBounds_toArray, List.set_cons_zero, List.set_cons_succ, List.getElem_toArray, List.getElem_cons_zero, List.getElem_cons_succ]
            refine wpAnyH_take (i := 11) (v := ?_) rfl (by kernel_rfl) (by kernel_rfl) (by kernel_rfl) (fun _ _ _ h => h) (Or.inl ⟨by rfl, ?_⟩) (by assumption) ?_
            rotate_left
            · intro w hSw
              have q1 := (hSw.2.cell (p := ⟨G, 0, none⟩) hGlt).trans c0
              have q2 := (hSw.2.cell (p := ⟨L, j, none⟩) hLlt).trans cl
              have q3 := (hSw.2.cell (p := ⟨Bj, c, none⟩) hBlt).trans cz
              try refine (exec_load_row 90 _ rfl X rfl 90 (longA y) (0, 0) _ hSw.1 Try.underlying90 rfl (long_info y)).trans ?_
              go_simp
              try with_reducible rfl
            simp only [Act.put, List.setIfInBounds_toArray, List.set_cons_zero, List.set_cons_succ, List.getElem_toArray, List.getElem_cons_zero, List.getElem_cons_succ]
            refine wpAnyH_ready (rs := [10]) (by kernel_rfl) (by simp) ?_
            refine AllReadyH.cons rfl (fun Kc hKc => ?_) AllReadyH.nil
            go_simp
            go_wp2_with (first | (go_at_call 55; refine (ofint_any z hz64.1 hz64.2 _).mono ?_; rintro e w5 ⟨rfl, hb'⟩) | (go_at_call 58; refine (lplus_any z y _).mono ?_; rintro e w6 ⟨rfl, hb'⟩) | (go_at_call 57; refine (lint_yes (z + y) HFIT.out.1 HFIT.out.2 _).mono ?_; rintro e w7 ⟨rfl, hb'⟩))
            refine hKc.out _ _ ?_ (fun hHeld => ?_)
            · first | assumption | exact ⟨hHeld.1.kept hb', hHeld.2.trans (hb'.mono hHeld.2.size)⟩
            clear hKc Kc
            refine wpAnyH_ready (rs := [12]) (by kernel_rfl) (by simp) ?_
            refine AllReadyH.cons rfl (fun Kc hKc => ?_) AllReadyH.nil
            go_simp
            go_wp2_with (first | (go_at_call 55; refine (ofint_any z hz64.1 hz64.2 _).mono ?_; rintro e w5 ⟨rfl, hb'⟩) | (go_at_call 58; refine (lplus_any z y _).mono ?_; rintro e w6 ⟨rfl, hb'⟩) | (go_at_call 57; refine (lint_yes (z + y) HFIT.out.1 HFIT.out.2 _).mono ?_; rintro e w7 ⟨rfl, hb'⟩))
            refine hKc.out _ _ ?_ (fun hHeld => ?_)
            · first | assumption | exact ⟨hHeld.1.kept hb', hHeld.2.trans (hb'.mono hHeld.2.size)⟩
            clear hKc Kc
            refine wpAnyH_ready (rs := [13]) (by kernel_rfl) (by simp) ?_
            refine AllReadyH.cons rfl (fun Kc hKc => ?_) AllReadyH.nil
            go_simp
            go_wp2_with (first | (go_at_call 55; refine (ofint_any z hz64.1 hz64.2 _).mono ?_; rintro e w5 ⟨rfl, hb'⟩) | (go_at_call 58; refine (lplus_any z y _).mono ?_; rintro e w6 ⟨rfl, hb'⟩) | (go_at_call 57; refine (lint_yes (z + y) HFIT.out.1 HFIT.out.2 _).mono ?_; rintro e w7 ⟨rfl, hb'⟩))
            refine hKc.out _ _ ?_ (fun hHeld => ?_)
            · first | assumption | exact ⟨hHeld.1.kept hb', hHeld.2.trans (hb'.mono hHeld.2.size)⟩
            clear hKc Kc
            refine wpAnyH_take (i := 14) (v := ?_) rfl (by kernel_rfl) (by kernel_rfl) (by kernel_rfl) (fun _ _ _ h => h) (Or.inl ⟨by rfl, ?_⟩) (by assumption) ?_
            rotate_left
            · intro w hSw
              try dsimp only at hSw
              go_simp
              try with_reducible rfl
            simp only [Act.put, List.setIfInBounds_toArray, List.set_cons_zero, List.set_cons_succ, List.getElem_toArray, List.getElem_cons_zero, List.getElem_cons_succ]
            refine wpAnyH_take (i := 15) (v := ?_) rfl (by kernel_rfl) (by kernel_rfl) (by kernel_rfl) (fun _ _ _ h => h) (Or.inl ⟨by rfl, ?_⟩) (by assumption) ?_
            rotate_left
            · intro w hSw
              try dsimp only at hSw
              go_simp
              try with_reducible rfl
            simp only [Act.put, List.setIfInBounds_toArray, List.set_cons_zero, List.set_cons_succ, List.getElem_toArray, List.getElem_cons_zero, List.getElem_cons_succ]
            refine wpAnyH_take (i := 16) (v := ?_) rfl (by kernel_rfl) (by kernel_rfl) (by kernel_rfl) (fun _ _ _ h => h) (Or.inl ⟨by rfl, ?_⟩) (by assumption) ?_
            rotate_left
            · intro w hSw
              try dsimp only at hSw
              go_simp
              try with_reducible rfl
            simp only [Act.put, List.setIfInBounds_toArray, List.set_cons_zero, List.set_cons_succ, List.getElem_toArray, List.getElem_cons_zero, List.getElem_cons_succ]
            refine wpAnyH_take (i := 17) (v := ?_) rfl (by kernel_rfl) (by kernel_rfl) (by kernel_rfl) (fun _ _ _ h => h) (Or.inl ⟨by rfl, ?_⟩) (by assumption) ?_
            rotate_left
            · intro w hSw
              try dsimp only at hSw
              go_simp
              try with_reducible rfl
            simp only [Act.put, List.setIfInBounds_toArray, List.set_cons_zero, List.set_cons_succ, List.getElem_toArray, List.getElem_cons_zero, List.getElem_cons_succ]
            refine wpAnyH_take (i := 18) (v := ?_) rfl (by kernel_rfl) (by kernel_rfl) (by kernel_rfl) (fun _ _ _ h => h) (Or.inl ⟨by rfl, ?_⟩) (by assumption) ?_
            rotate_left
            · intro w hSw
              try dsimp only at hSw
              go_simp
              try with_reducible rfl
            simp only [Act.put, List.setIfInBounds_toArray, List.set_cons_zero, List.set_cons_succ, List.getElem_toArray, List.getElem_cons_zero, List.getElem_cons_succ]
            refine wpAnyH_done (by kernel_rfl) ?_ _
            have HK7 := Lib.hid hHeld.2
            clear hHeld
            have HO7 := Lib.hid (HO.out.kept (below_grown (row := none) HK7.out) (by cases Value.ownBlock u9 <;> simp))
            have HRV7 := Lib.hid (HRV.out.kept HK7.out)
            have HB7 : Hid (Below A w w7) := Lib.hid (HB.out.trans (HK7.out.mono (by omega)))
            have hs7 : M ≤ w7.heap.size := by have := HK7.out.size; omega
            have hFN := HFN.out HFIT.out
            have hc1 : c + 1 ≤ maxLen := by unfold maxLen; omega
            generalize z + y = x at *
            go_wp2_with (at_builtin; refine wpList_append_own_at _ rfl _ _ 56 rfl M 2 i0' (.int .i64 0) 1 8 Try.underlying56 hi hz0 hz1 hz2 rfl (by decide) _ c _ rfl (HO7.out.alloc _) ⟨w7.heap.size, 0, none⟩ 1 1 [.int .i64 x] rfl rfl (cell_one_new _ _ _) ?c2 hc1 ?c4 ?c5 ?_)
            case c2 => simp [Value.oneCell']
            case c4 => omega
            case c5 => simp; omega
            intro v8 w8 hown' hgrow hnil' hq9
            have HNIL' : Hid (v8 ≠ .slice none 0 0) := Lib.hid hnil'
            have HO8 : Hid (w8.ownsRow M 2 1 v8 (c + 1) (((rowZ fs W j).take (c + 1)).map (Value.int .i64))) := Lib.hid (by rw [HRN.out, List.map_append, List.map_take]; exact hown')
            have hMk : ∀ k, Value.ownBlock u9 = some k → M ≤ k := fun k hk => (HO.out.lt k hk).1
            have HRV8 : Hid (RowsV w8 A u7 B1 K1 j W fs) := Lib.hid ((HRV7.out.kept (below_alloc1' _ _)).grown hgrow
              (by cases hv : Value.ownBlock u7 with
                | none => exact .inl rfl
                | some k => exact .inr (fun e => by have := hMk k e.symm; have := HLV.out k hv; omega))
              (fun r hr e => by have := hMk _ e.symm; have := HLT.out r hr; omega))
            have HB8 : Hid (Below A w w8) := Lib.hid ((HB7.out.alloc (by omega) _).grown hgrow (by first | omega | (simp; done) | (simp; omega)) (fun k e => by have := hMk k e; omega))
            have hs8 : M ≤ w8.heap.size := by have := hgrow.size; simp at this; omega
            clear hown' hgrow hnil' hq9 hMk
            go_wp2
            go_roundw
            case rel => exact ⟨c + 1, by omega, by go_num, HNIL'.out, HO8.out, hFN, HRV8.out, HB8.out, hs8⟩
            case measure => simp [intOf]; omega
          · have HX3 : Hid (Blk w2 X 90 (longA y)) := by rw [hyq]; exact HX2.out
            have HK3 := HK2
            generalize w2 = w4 at *
            clear hX2 HX2 hyq
            go_wp2_with fail
            refine wp_region_held_drew (S := fun w' => Blk w' X 90 (longA y) ∧ Below wr.heap.size wr w') (by kernel_rfl) (by exact ⟨HX3.out.drewN 1, below_drewN HK3.out 1⟩) (fun hHeld => ?_)
            refine wpAnyH_take (i := 0) (v := ?_) rfl (by kernel_rfl) (by kernel_rfl) (by kernel_rfl) (fun _ _ _ h => h) (Or.inl ⟨by rfl, ?_⟩) (by assumption) ?_
            rotate_left
            · intro w hSw
              try dsimp only at hSw
              go_simp
              try with_reducible rfl
            simp only [Act.put, List.setIfInBounds_toArray, List.set_cons_zero, List.set_cons_succ, List.getElem_toArray, List.getElem_cons_zero, List.getElem_cons_succ]
            refine wpAnyH_take (i := 1) (v := ?_) rfl (by kernel_rfl) (by kernel_rfl) (by kernel_rfl) (fun _ _ _ h => h) (Or.inl ⟨by rfl, ?_⟩) (by assumption) ?_
            rotate_left
            · intro w hSw
              try dsimp only at hSw
              go_simp
              try with_reducible rfl
            simp only [Act.put, List.setIfInBounds_toArray, List.set_cons_zero, List.set_cons_succ, List.getElem_toArray, List.getElem_cons_zero, List.getElem_cons_succ]
            refine wpAnyH_take (i := 2) (v := ?_) rfl (by kernel_rfl) (by kernel_rfl) (by kernel_rfl) (fun _ _ _ h => h) (Or.inl ⟨by rfl, ?_⟩) (by assumption) ?_
            rotate_left
            · intro w hSw
              try dsimp only at hSw
              go_simp
              try with_reducible rfl
            simp only [Act.put, List.setIfInBounds_toArray, List.set_cons_zero, List.set_cons_succ, List.getElem_toArray, List.getElem_cons_zero, List.getElem_cons_succ]
            refine wpAnyH_take (i := 3) (v := ?_) rfl (by kernel_rfl) (by kernel_rfl) (by kernel_rfl) (fun _ _ _ h => h) (Or.inl ⟨by rfl, ?_⟩) (by assumption) ?_
            rotate_left
            · intro w hSw
              have q1 := (hSw.2.cell (p := ⟨G, 0, none⟩) hGlt).trans c0
              have q2 := (hSw.2.cell (p := ⟨L, j, none⟩) hLlt).trans cl
              have q3 := (hSw.2.cell (p := ⟨Bj, c, none⟩) hBlt).trans cz
              try refine (exec_load_row 90 _ rfl X rfl 90 (longA y) (0, 0) _ hSw.1 Try.underlying90 rfl (long_info y)).trans ?_
              go_simp
              try with_reducible rfl
            simp only [Act.put, List.setIfInBounds_toArray, List.set_cons_zero, List.set_cons_succ, List.getElem_toArray, List.getElem_cons_zero, List.getElem_cons_succ]
            refine wpAnyH_take (i := 4) (v := ?_) rfl (by kernel_rfl) (by kernel_rfl) (by kernel_rfl) (fun _ _ _ h => h) (Or.inl ⟨by rfl, ?_⟩) (by assumption) ?_
            rotate_left
            · intro w hSw
              try dsimp only at hSw
              go_simp
              try with_reducible rfl
            simp only [Act.put, List.setIfInBounds_toArray, List.set_cons_zero, List.set_cons_succ, List.getElem_toArray, List.getElem_cons_zero, List.getElem_cons_succ]
            refine wpAnyH_take (i := 5) (v := ?_) rfl (by kernel_rfl) (by kernel_rfl) (by kernel_rfl) (fun _ _ _ h => h) (Or.inl ⟨by rfl, ?_⟩) (by assumption) ?_
            rotate_left
            · intro w hSw
              try dsimp only at hSw
              go_simp
              try with_reducible rfl
            simp only [Act.put, List.setIfInBounds_toArray, List.set_cons_zero, List.set_cons_succ, List.getElem_toArray, List.getElem_cons_zero, List.getElem_cons_succ]
            refine wpAnyH_take (i := 6) (v := ?_) rfl (by kernel_rfl) (by kernel_rfl) (by kernel_rfl) (fun _ _ _ h => h) (Or.inl ⟨by rfl, ?_⟩) (by assumption) ?_
            rotate_left
            · intro w hSw
              have q1 := (hSw.2.cell (p := ⟨G, 0, none⟩) hGlt).trans c0
              have q2 := (hSw.2.cell (p := ⟨L, j, none⟩) hLlt).trans cl
              have q3 := (hSw.2.cell (p := ⟨Bj, c, none⟩) hBlt).trans cz
              try refine (exec_load_row 90 _ rfl X rfl 90 (longA y) (0, 0) _ hSw.1 Try.underlying90 rfl (long_info y)).trans ?_
              go_simp
              try with_reducible rfl
            simp only [Act.put, List.setIfInBounds_toArray, List.set_cons_zero, List.set_cons_succ, List.getElem_toArray, List.getElem_cons_zero, List.getElem_cons_succ]
            refine wpAnyH_take (i := 7) (v := ?_) rfl (by kernel_rfl) (by kernel_rfl) (by kernel_rfl) (fun _ _ _ h => h) (Or.inl ⟨by rfl, ?_⟩) (by assumption) ?_
            rotate_left
            · intro w hSw
              try dsimp only at hSw
              go_simp
              try with_reducible rfl
            simp only [Act.put, List.setIfInBounds_toArray, List.set_cons_zero, List.set_cons_succ, List.getElem_toArray, List.getElem_cons_zero, List.getElem_cons_succ]
            refine wpAnyH_take (i := 8) (v := ?_) rfl (by kernel_rfl) (by kernel_rfl) (by kernel_rfl) (fun _ _ _ h => h) (Or.inl ⟨by rfl, ?_⟩) (by assumption) ?_
            rotate_left
            · intro w hSw
              try dsimp only at hSw
              go_simp
              try with_reducible rfl
            simp only [Act.put, List.setIfInBounds_toArray, List.set_cons_zero, List.set_cons_succ, List.getElem_toArray, List.getElem_cons_zero, List.getElem_cons_succ]
            refine wpAnyH_take (i := 9) (v := ?_) rfl (by kernel_rfl) (by kernel_rfl) (by kernel_rfl) (fun _ _ _ h => h) (Or.inl ⟨by rfl, ?_⟩) (by assumption) ?_
            rotate_left
            · intro w hSw
              have q1 := (hSw.2.cell (p := ⟨G, 0, none⟩) hGlt).trans c0
              have q2 := (hSw.2.cell (p := ⟨L, j, none⟩) hLlt).trans cl
              have q3 := (hSw.2.cell (p := ⟨Bj, c, none⟩) hBlt).trans cz
              try refine (exec_load_row 90 _ rfl X rfl 90 (longA y) (0, 0) _ hSw.1 Try.underlying90 rfl (long_info y)).trans ?_
              go_simp
              try with_reducible rfl
            simp only [Act.put, List.setIfInBounds_toArray, List.set_cons_zero, List.set_cons_succ, List.getElem_toArray, List.getElem_cons_zero, List.getElem_cons_succ]
            refine wpAnyH_take (i := 11) (v := ?_) rfl (by kernel_rfl) (by kernel_rfl) (by kernel_rfl) (fun _ _ _ h => h) (Or.inl ⟨by rfl, ?_⟩) (by assumption) ?_
            rotate_left
            · intro w hSw
              have q1 := (hSw.2.cell (p := ⟨G, 0, none⟩) hGlt).trans c0
              have q2 := (hSw.2.cell (p := ⟨L, j, none⟩) hLlt).trans cl
              have q3 := (hSw.2.cell (p := ⟨Bj, c, none⟩) hBlt).trans cz
              try refine (exec_load_row 90 _ rfl X rfl 90 (longA y) (0, 0) _ hSw.1 Try.underlying90 rfl (long_info y)).trans ?_
              go_simp
              try with_reducible rfl
            simp only [Act.put, List.setIfInBounds_toArray, List.set_cons_zero, List.set_cons_succ, List.getElem_toArray, List.getElem_cons_zero, List.getElem_cons_succ]
            refine wpAnyH_ready (rs := [10]) (by kernel_rfl) (by simp) ?_
            refine AllReadyH.cons rfl (fun Kc hKc => ?_) AllReadyH.nil
            go_simp
            go_wp2_with (first | (go_at_call 55; refine (ofint_any z hz64.1 hz64.2 _).mono ?_; rintro e w5 ⟨rfl, hb'⟩) | (go_at_call 58; refine (lplus_any z y _).mono ?_; rintro e w6 ⟨rfl, hb'⟩) | (go_at_call 57; refine (lint_no (z + y) (by have := HYB.out; have := hz64.1; omega) (by have := HYB.out; have := hz64.2; omega) HFIT.out _).mono ?_; rintro e w7 ⟨rfl, hb'⟩))
            refine hKc.out _ _ ?_ (fun hHeld => ?_)
            · first | assumption | exact ⟨hHeld.1.kept hb', hHeld.2.trans (hb'.mono hHeld.2.size)⟩
            clear hKc Kc
            refine wpAnyH_ready (rs := [12]) (by kernel_rfl) (by simp) ?_
            refine AllReadyH.cons rfl (fun Kc hKc => ?_) AllReadyH.nil
            go_simp
            go_wp2_with (first | (go_at_call 55; refine (ofint_any z hz64.1 hz64.2 _).mono ?_; rintro e w5 ⟨rfl, hb'⟩) | (go_at_call 58; refine (lplus_any z y _).mono ?_; rintro e w6 ⟨rfl, hb'⟩) | (go_at_call 57; refine (lint_no (z + y) (by have := HYB.out; have := hz64.1; omega) (by have := HYB.out; have := hz64.2; omega) HFIT.out _).mono ?_; rintro e w7 ⟨rfl, hb'⟩))
            refine hKc.out _ _ ?_ (fun hHeld => ?_)
            · first | assumption | exact ⟨hHeld.1.kept hb', hHeld.2.trans (hb'.mono hHeld.2.size)⟩
            clear hKc Kc
            refine wpAnyH_ready (rs := [13]) (by kernel_rfl) (by simp) ?_
            refine AllReadyH.cons rfl (fun Kc hKc => ?_) AllReadyH.nil
            go_simp
            go_wp2_with (first | (go_at_call 55; refine (ofint_any z hz64.1 hz64.2 _).mono ?_; rintro e w5 ⟨rfl, hb'⟩) | (go_at_call 58; refine (lplus_any z y _).mono ?_; rintro e w6 ⟨rfl, hb'⟩) | (go_at_call 57; refine (lint_no (z + y) (by have := HYB.out; have := hz64.1; omega) (by have := HYB.out; have := hz64.2; omega) HFIT.out _).mono ?_; rintro e w7 ⟨rfl, hb'⟩))
            refine hKc.out _ _ ?_ (fun hHeld => ?_)
            · first | assumption | exact ⟨hHeld.1.kept hb', hHeld.2.trans (hb'.mono hHeld.2.size)⟩
            clear hKc Kc
            refine wpAnyH_take (i := 14) (v := ?_) rfl (by kernel_rfl) (by kernel_rfl) (by kernel_rfl) (fun _ _ _ h => h) (Or.inl ⟨by rfl, ?_⟩) (by assumption) ?_
            rotate_left
            · intro w hSw
              try dsimp only at hSw
              go_simp
              try with_reducible rfl
            simp only [Act.put, List.setIfInBounds_toArray, List.set_cons_zero, List.set_cons_succ, List.getElem_toArray, List.getElem_cons_zero, List.getElem_cons_succ]
            refine wpAnyH_take (i := 15) (v := ?_) rfl (by kernel_rfl) (by kernel_rfl) (by kernel_rfl) (fun _ _ _ h => h) (Or.inl ⟨by rfl, ?_⟩) (by assumption) ?_
            rotate_left
            · intro w hSw
              try dsimp only at hSw
              go_simp
              try with_reducible rfl
            simp only [Act.put, List.setIfInBounds_toArray, List.set_cons_zero, List.set_cons_succ, List.getElem_toArray, List.getElem_cons_zero, List.getElem_cons_succ]
            refine wpAnyH_take (i := 16) (v := ?_) rfl (by kernel_rfl) (by kernel_rfl) (by kernel_rfl) (fun _ _ _ h => h) (Or.inl ⟨by rfl, ?_⟩) (by assumption) ?_
            rotate_left
            · intro w hSw
              try dsimp only at hSw
              go_simp
              try with_reducible rfl
            simp only [Act.put, List.setIfInBounds_toArray, List.set_cons_zero, List.set_cons_succ, List.getElem_toArray, List.getElem_cons_zero, List.getElem_cons_succ]
            refine wpAnyH_take (i := 17) (v := ?_) rfl (by kernel_rfl) (by kernel_rfl) (by kernel_rfl) (fun _ _ _ h => h) (Or.inl ⟨by rfl, ?_⟩) (by assumption) ?_
            rotate_left
            · intro w hSw
              try dsimp only at hSw
              go_simp
              try with_reducible rfl
            simp only [Act.put, List.setIfInBounds_toArray, List.set_cons_zero, List.set_cons_succ, List.getElem_toArray, List.getElem_cons_zero, List.getElem_cons_succ]
            refine wpAnyH_take (i := 18) (v := ?_) rfl (by kernel_rfl) (by kernel_rfl) (by kernel_rfl) (fun _ _ _ h => h) (Or.inl ⟨by rfl, ?_⟩) (by assumption) ?_
            rotate_left
            · intro w hSw
              try dsimp only at hSw
              go_simp
              try with_reducible rfl
            simp only [Act.put, List.setIfInBounds_toArray, List.set_cons_zero, List.set_cons_succ, List.getElem_toArray, List.getElem_cons_zero, List.getElem_cons_succ]
            refine wpAnyH_done (by kernel_rfl) ?_ _
            have HK7 := Lib.hid hHeld.2
            clear hHeld
            have HP : Hid (JoinPost w N G (.slice (some ⟨L, 0, none⟩) R vcap) B K R W zs fs (.returned (.int .i64 4)) w7) := .inr ⟨HBAD.out HFIT.out, rfl, by have := HB.out.trans (HK7.out.mono (by omega)); rw [← HA.out] at this; exact this⟩
            go_wp2
            go_ret
            exact HP.out
          · refine (PM.out _).mono ?_; rintro e w3 ⟨rfl, hb⟩
            have hX3 := HX2.out.kept hb
            have hb3 := hb.mono HK2.out.size
            have hk4 : Below wr.heap.size wr (w3.setRow X (longA (-h))) := below_setRow (HK2.out.trans hb3) hXlo _
            have hX4 : Blk (w3.setRow X (longA (-h))) X 90 (longA y) := by rw [hyq]; exact setRow_heap _ _ _ _ _ _ hX3
            go_wp2_with (refine wpList_store_row rfl 90 _ _ rfl X (longA (-h)) rfl rfl 90 (longA h) hX3 (long_info (-h)) (by rw [longA_size, longA_size]) (longA_one _) ?_)
            generalize w3.setRow X (longA (-h)) = w4 at *
            have HX3 := Lib.hid hX4
            have HK3 := Lib.hid hk4
            clear hX2 HX2 hX3 hX4 hk4 hb3 hb hyq
            go_wp2_with fail
            refine wp_region_held_drew (S := fun w' => Blk w' X 90 (longA y) ∧ Below wr.heap.size wr w') (by kernel_rfl) (by exact ⟨HX3.out.drewN 1, below_drewN HK3.out 1⟩) (fun hHeld => ?_)
            refine wpAnyH_take (i := 0) (v := ?_) rfl (by kernel_rfl) (by kernel_rfl) (by kernel_rfl) (fun _ _ _ h => h) (Or.inl ⟨by rfl, ?_⟩) (by assumption) ?_
            rotate_left
            · intro w hSw
              try dsimp only at hSw
              go_simp
              try with_reducible rfl
            simp only [Act.put, List.setIfInBounds_toArray, List.set_cons_zero, List.set_cons_succ, List.getElem_toArray, List.getElem_cons_zero, List.getElem_cons_succ]
            refine wpAnyH_take (i := 1) (v := ?_) rfl (by kernel_rfl) (by kernel_rfl) (by kernel_rfl) (fun _ _ _ h => h) (Or.inl ⟨by rfl, ?_⟩) (by assumption) ?_
            rotate_left
            · intro w hSw
              try dsimp only at hSw
              go_simp
              try with_reducible rfl
            simp only [Act.put, List.setIfInBounds_toArray, List.set_cons_zero, List.set_cons_succ, List.getElem_toArray, List.getElem_cons_zero, List.getElem_cons_succ]
            refine wpAnyH_take (i := 2) (v := ?_) rfl (by kernel_rfl) (by kernel_rfl) (by kernel_rfl) (fun _ _ _ h => h) (Or.inl ⟨by rfl, ?_⟩) (by assumption) ?_
            rotate_left
            · intro w hSw
              try dsimp only at hSw
              go_simp
              try with_reducible rfl
            simp only [Act.put, List.setIfInBounds_toArray, List.set_cons_zero, List.set_cons_succ, List.getElem_toArray, List.getElem_cons_zero, List.getElem_cons_succ]
            refine wpAnyH_take (i := 3) (v := ?_) rfl (by kernel_rfl) (by kernel_rfl) (by kernel_rfl) (fun _ _ _ h => h) (Or.inl ⟨by rfl, ?_⟩) (by assumption) ?_
            rotate_left
            · intro w hSw
              have q1 := (hSw.2.cell (p := ⟨G, 0, none⟩) hGlt).trans c0
              have q2 := (hSw.2.cell (p := ⟨L, j, none⟩) hLlt).trans cl
              have q3 := (hSw.2.cell (p := ⟨Bj, c, none⟩) hBlt).trans cz
              try refine (exec_load_row 90 _ rfl X rfl 90 (longA y) (0, 0) _ hSw.1 Try.underlying90 rfl (long_info y)).trans ?_
              go_simp
              try with_reducible rfl
            simp only [Act.put, List.setIfInBounds_toArray, List.set_cons_zero, List.set_cons_succ, List.getElem_toArray, List.getElem_cons_zero, List.getElem_cons_succ]
            refine wpAnyH_take (i := 4) (v := ?_) rfl (by kernel_rfl) (by kernel_rfl) (by kernel_rfl) (fun _ _ _ h => h) (Or.inl ⟨by rfl, ?_⟩) (by assumption) ?_
            rotate_left
            · intro w hSw
              try dsimp only at hSw
              go_simp
              try with_reducible rfl
            simp only [Act.put, List.setIfInBounds_toArray, List.set_cons_zero, List.set_cons_succ, List.getElem_toArray, List.getElem_cons_zero, List.getElem_cons_succ]
            refine wpAnyH_take (i := 5) (v := ?_) rfl (by kernel_rfl) (by kernel_rfl) (by kernel_rfl) (fun _ _ _ h => h) (Or.inl ⟨by rfl, ?_⟩) (by assumption) ?_
            rotate_left
            · intro w hSw
              try dsimp only at hSw
              go_simp
              try with_reducible rfl
            simp only [Act.put, List.setIfInBounds_toArray, List.set_cons_zero, List.set_cons_succ, List.getElem_toArray, List.getElem_cons_zero, List.getElem_cons_succ]
            refine wpAnyH_take (i := 6) (v := ?_) rfl (by kernel_rfl) (by kernel_rfl) (by kernel_rfl) (fun _ _ _ h => h) (Or.inl ⟨by rfl, ?_⟩) (by assumption) ?_
            rotate_left
            · intro w hSw
              have q1 := (hSw.2.cell (p := ⟨G, 0, none⟩) hGlt).trans c0
              have q2 := (hSw.2.cell (p := ⟨L, j, none⟩) hLlt).trans cl
              have q3 := (hSw.2.cell (p := ⟨Bj, c, none⟩) hBlt).trans cz
              try refine (exec_load_row 90 _ rfl X rfl 90 (longA y) (0, 0) _ hSw.1 Try.underlying90 rfl (long_info y)).trans ?_
              go_simp
              try with_reducible rfl
            simp only [Act.put, List.setIfInBounds_toArray, List.set_cons_zero, List.set_cons_succ, List.getElem_toArray, List.getElem_cons_zero, List.getElem_cons_succ]
            refine wpAnyH_take (i := 7) (v := ?_) rfl (by kernel_rfl) (by kernel_rfl) (by kernel_rfl) (fun _ _ _ h => h) (Or.inl ⟨by rfl, ?_⟩) (by assumption) ?_
            rotate_left
            · intro w hSw
              try dsimp only at hSw
              go_simp
              try with_reducible rfl
            simp only [Act.put, List.setIfInBounds_toArray, List.set_cons_zero, List.set_cons_succ, List.getElem_toArray, List.getElem_cons_zero, List.getElem_cons_succ]
            refine wpAnyH_take (i := 8) (v := ?_) rfl (by kernel_rfl) (by kernel_rfl) (by kernel_rfl) (fun _ _ _ h => h) (Or.inl ⟨by rfl, ?_⟩) (by assumption) ?_
            rotate_left
            · intro w hSw
              try dsimp only at hSw
              go_simp
              try with_reducible rfl
            simp only [Act.put, List.setIfInBounds_toArray, List.set_cons_zero, List.set_cons_succ, List.getElem_toArray, List.getElem_cons_zero, List.getElem_cons_succ]
            refine wpAnyH_take (i := 9) (v := ?_) rfl (by kernel_rfl) (by kernel_rfl) (by kernel_rfl) (fun _ _ _ h => h) (Or.inl ⟨by rfl, ?_⟩) (by assumption) ?_
            rotate_left
            · intro w hSw
              have q1 := (hSw.2.cell (p := ⟨G, 0, none⟩) hGlt).trans c0
              have q2 := (hSw.2.cell (p := ⟨L, j, none⟩) hLlt).trans cl
              have q3 := (hSw.2.cell (p := ⟨Bj, c, none⟩) hBlt).trans cz
              try refine (exec_load_row 90 _ rfl X rfl 90 (longA y) (0, 0) _ hSw.1 Try.underlying90 rfl (long_info y)).trans ?_
              go_simp
              try with_reducible rfl
            simp only [Act.put, List.setIfInBounds_toArray, List.set_cons_zero, List.set_cons_succ, List.getElem_toArray, List.getElem_cons_zero, List.getElem_cons_succ]
            refine wpAnyH_take (i := 11) (v := ?_) rfl (by kernel_rfl) (by kernel_rfl) (by kernel_rfl) (fun _ _ _ h => h) (Or.inl ⟨by rfl, ?_⟩) (by assumption) ?_
            rotate_left
            · intro w hSw
              have q1 := (hSw.2.cell (p := ⟨G, 0, none⟩) hGlt).trans c0
              have q2 := (hSw.2.cell (p := ⟨L, j, none⟩) hLlt).trans cl
              have q3 := (hSw.2.cell (p := ⟨Bj, c, none⟩) hBlt).trans cz
              try refine (exec_load_row 90 _ rfl X rfl 90 (longA y) (0, 0) _ hSw.1 Try.underlying90 rfl (long_info y)).trans ?_
              go_simp
              try with_reducible rfl
            simp only [Act.put, List.setIfInBounds_toArray, List.set_cons_zero, List.set_cons_succ, List.getElem_toArray, List.getElem_cons_zero, List.getElem_cons_succ]
            refine wpAnyH_ready (rs := [10]) (by kernel_rfl) (by simp) ?_
            refine AllReadyH.cons rfl (fun Kc hKc => ?_) AllReadyH.nil
            go_simp
            go_wp2_with (first | (go_at_call 55; refine (ofint_any z hz64.1 hz64.2 _).mono ?_; rintro e w5 ⟨rfl, hb'⟩) | (go_at_call 58; refine (lplus_any z y _).mono ?_; rintro e w6 ⟨rfl, hb'⟩) | (go_at_call 57; refine (lint_no (z + y) (by have := HYB.out; have := hz64.1; omega) (by have := HYB.out; have := hz64.2; omega) HFIT.out _).mono ?_; rintro e w7 ⟨rfl, hb'⟩))
            refine hKc.out _ _ ?_ (fun hHeld => ?_)
            · first | assumption | exact ⟨hHeld.1.kept hb', hHeld.2.trans (hb'.mono hHeld.2.size)⟩
            clear hKc Kc
            refine wpAnyH_ready (rs := [12]) (by kernel_rfl) (by simp) ?_
            refine AllReadyH.cons rfl (fun Kc hKc => ?_) AllReadyH.nil
            go_simp
            go_wp2_with (first | (go_at_call 55; refine (ofint_any z hz64.1 hz64.2 _).mono ?_; rintro e w5 ⟨rfl, hb'⟩) | (go_at_call 58; refine (lplus_any z y _).mono ?_; rintro e w6 ⟨rfl, hb'⟩) | (go_at_call 57; refine (lint_no (z + y) (by have := HYB.out; have := hz64.1; omega) (by have := HYB.out; have := hz64.2; omega) HFIT.out _).mono ?_; rintro e w7 ⟨rfl, hb'⟩))
            refine hKc.out _ _ ?_ (fun hHeld => ?_)
            · first | assumption | exact ⟨hHeld.1.kept hb', hHeld.2.trans (hb'.mono hHeld.2.size)⟩
            clear hKc Kc
            refine wpAnyH_ready (rs := [13]) (by kernel_rfl) (by simp) ?_
            refine AllReadyH.cons rfl (fun Kc hKc => ?_) AllReadyH.nil
            go_simp
            go_wp2_with (first | (go_at_call 55; refine (ofint_any z hz64.1 hz64.2 _).mono ?_; rintro e w5 ⟨rfl, hb'⟩) | (go_at_call 58; refine (lplus_any z y _).mono ?_; rintro e w6 ⟨rfl, hb'⟩) | (go_at_call 57; refine (lint_no (z + y) (by have := HYB.out; have := hz64.1; omega) (by have := HYB.out; have := hz64.2; omega) HFIT.out _).mono ?_; rintro e w7 ⟨rfl, hb'⟩))
            refine hKc.out _ _ ?_ (fun hHeld => ?_)
            · first | assumption | exact ⟨hHeld.1.kept hb', hHeld.2.trans (hb'.mono hHeld.2.size)⟩
            clear hKc Kc
            refine wpAnyH_take (i := 14) (v := ?_) rfl (by kernel_rfl) (by kernel_rfl) (by kernel_rfl) (fun _ _ _ h => h) (Or.inl ⟨by rfl, ?_⟩) (by assumption) ?_
            rotate_left
            · intro w hSw
              try dsimp only at hSw
              go_simp
              try with_reducible rfl
            simp only [Act.put, List.setIfInBounds_toArray, List.set_cons_zero, List.set_cons_succ, List.getElem_toArray, List.getElem_cons_zero, List.getElem_cons_succ]
            refine wpAnyH_take (i := 15) (v := ?_) rfl (by kernel_rfl) (by kernel_rfl) (by kernel_rfl) (fun _ _ _ h => h) (Or.inl ⟨by rfl, ?_⟩) (by assumption) ?_
            rotate_left
            · intro w hSw
              try dsimp only at hSw
              go_simp
              try with_reducible rfl
            simp only [Act.put, List.setIfInBounds_toArray, List.set_cons_zero, List.set_cons_succ, List.getElem_toArray, List.getElem_cons_zero, List.getElem_cons_succ]
            refine wpAnyH_take (i := 16) (v := ?_) rfl (by kernel_rfl) (by kernel_rfl) (by kernel_rfl) (fun _ _ _ h => h) (Or.inl ⟨by rfl, ?_⟩) (by assumption) ?_
            rotate_left
            · intro w hSw
              try dsimp only at hSw
              go_simp
              try with_reducible rfl
            simp only [Act.put, List.setIfInBounds_toArray, List.set_cons_zero, List.set_cons_succ, List.getElem_toArray, List.getElem_cons_zero, List.getElem_cons_succ]
            refine wpAnyH_take (i := 17) (v := ?_) rfl (by kernel_rfl) (by kernel_rfl) (by kernel_rfl) (fun _ _ _ h => h) (Or.inl ⟨by rfl, ?_⟩) (by assumption) ?_
            rotate_left
            · intro w hSw
              try dsimp only at hSw
              go_simp
              try with_reducible rfl
            simp only [Act.put, List.setIfInBounds_toArray, List.set_cons_zero, List.set_cons_succ, List.getElem_toArray, List.getElem_cons_zero, List.getElem_cons_succ]
            refine wpAnyH_take (i := 18) (v := ?_) rfl (by kernel_rfl) (by kernel_rfl) (by kernel_rfl) (fun _ _ _ h => h) (Or.inl ⟨by rfl, ?_⟩) (by assumption) ?_
            rotate_left
            · intro w hSw
              try dsimp only at hSw
              go_simp
              try with_reducible rfl
            simp only [Act.put, List.setIfInBounds_toArray, List.set_cons_zero, List.set_cons_succ, List.getElem_toArray, List.getElem_cons_zero, List.getElem_cons_succ]
            refine wpAnyH_done (by kernel_rfl) ?_ _
            have HK7 := Lib.hid hHeld.2
            clear hHeld
            have HP : Hid (JoinPost w N G (.slice (some ⟨L, 0, none⟩) R vcap) B K R W zs fs (.returned (.int .i64 4)) w7) := .inr ⟨HBAD.out HFIT.out, rfl, by have := HB.out.trans (HK7.out.mono (by omega)); rw [← HA.out] at this; exact this⟩
            go_wp2
            go_ret
            exact HP.out
        · obtain rfl : c = W := by omega
          have hrz : (rowZ fs c j).length = c := rowZ_len HFL.out hlt
          have hrow := HO.out
          rw [show (rowZ fs c j).take c = rowZ fs c j by rw [List.take_of_length_le (by omega)]] at hrow
          obtain ⟨b, cp, rfl, hMb, hcp, cur, hcur, hcc⟩ := own_row (zs := rowZ fs c j) (by rw [hrz]; exact hrow) HNIL.out
          rw [hrz] at hcp ⊢
          have HCUR := Lib.hid hcur
          have HCC : Hid (∀ (k : Nat) (u : Int), k < c → fs[j * c + k]? = some u → cur[k]? = some (Value.int .i64 u)) := Lib.hid (fun k u hk hu => hcc k u (by rw [rowZ_get hk]; exact hu))
          have hFN : Hid (Fit (fs.take ((j + 1) * c))) := Lib.hid (by rw [Nat.add_mul, Nat.one_mul]; exact HFC.out)
          have hjm : j + 1 ≤ maxLen := by unfold maxLen; omega
          have HB2 := HB.out
          clear hrow hcur hcc HO hrz
          go_wp2_with (at_builtin; refine wpList_append_own_at _ rfl _ _ 83 rfl A 56 i1' (.slice none 0 0) 1 24 Try.underlying83 hj hy0 hy1 hy2 rfl (by decide) _ j _ rfl (HRV.out.own.alloc _) ⟨wr.heap.size, 0, none⟩ 1 1 [.slice (some ⟨b, 0, none⟩) c cp] rfl rfl (cell_one_new _ _ _) ?c2 hjm ?c4 ?c5 ?_)
          case c2 => simp [Value.oneCell']
          case c4 => omega
          case c5 => simp; omega
          intro v' w3 hown' hgrow hnil' hq9
          have hpush := RowsV.push (HRV.out.kept (below_alloc1' wr (.cells #[.slice (some ⟨b, 0, none⟩) c cp] 56))) hgrow hown' (HCUR.out.alloc _) HCC.out hcp (by omega) (fun r hr => by have := HLT.out r hr; omega)
          have HP := Lib.hid hpush
          have hvk : ∀ k, Value.ownBlock u7 = some k → A ≤ k := fun k hk => (HRV.out.own.lt k hk).1
          have HB3 : Hid (Below A w w3) := Lib.hid ((HB.out.alloc (by omega) _).grown hgrow (by first | omega | (simp; done) | (simp; omega)) (fun k e => by have := hvk k e; omega))
          have hs3 : A ≤ w3.heap.size := by have := hgrow.size; simp at this; omega
          clear hown' hgrow hnil' hq9 hpush hvk
          go_wp2
          go_roundw
          case rel => exact ⟨j + 1, _, _, by omega, by go_num, HP.out, hFN.out, HB3.out, hs3⟩
          case measure => simp [intOf]; omega
    · obtain rfl : j = R := by omega
      obtain ⟨ao9, cp9, rfl⟩ : ∃ ao9 cp9, u7 = .slice ao9 j cp9 := by
        rcases HRV.out.own.2 with ⟨h, h0⟩ | ⟨g, cap, cur, h, _⟩
        · exact ⟨none, 0, by rw [h, h0]⟩
        · exact ⟨_, _, h⟩
      have hfs : fs.take (j * W) = fs := by rw [← HFL.out, List.take_length]
      have hf0 := HGr.out.box.frozen 0
      have HFF : Hid (Fit fs) := Lib.hid (by have := HFT.out; rw [hfs] at this; exact this)
      have HREF := Lib.hid (HRV.out.ref HGr.out HFL.out (by omega) hNG)
      have HP : Hid (JoinPost w N G (.slice ao j vcap) B K j W zs fs (.returned (.int .i64 0)) (wr.setCell ⟨G, 0, none⟩ (.slice ao9 j cp9))) := .inl ⟨HFF.out, _, _, _, rfl, HREF.out, grown_tr (below_grown (row := some G) (by rw [HA.out]; exact HB.out)) (grown_set wr G 0 _)⟩
      clear hfs
      go_wp2
      go_ret
      exact HP.out
end Go.Proofs.Ytfjhecgicemoeaa
