import Derived.Test.YthbkljeibmkimaaGreatQta
import Derived.StillTailTactics
import Derived.Shelf.Bits.Mul64
import Derived.Test.YthbkljeibmkimaaGreatProg
import Derived.WalkKit
import Derived.ProofKit
import Derived.Lib.Hide
import Derived.Outline
import Derived.Below
import Derived.WalkSmall
import Derived.Deep.QuietTactic
import Derived.BigQuiet
import Derived.LoopN
import Derived.Deep.OwnRows
import Derived.OwnWalk
import Derived.Deep.RegionHeld3
/-
  Contracts of the functions that HeavyTells reaches, and the plain laws that it leans on. Conditions: none beyond those stated at each theorem.
-/
namespace Go.Proofs.YthbkljeibmkimaaGreat
open Go.RowKit
set_option linter.unusedVariables false
set_option linter.unusedSimpArgs false

def RNewPost (w : World) (R W : Nat) (e : Ending) (w' : World) : Prop :=
  ∃ G v B K, e = .returned (.pointer (some ⟨G, 0, none⟩)) ∧ RefIs w' w.heap.size G v B K R W (List.replicate (R * W) 0) ∧ Below w.heap.size w w'

structure RowsZ (w : World) (A : Nat) (v : Value) (B K : Nat → Nat) (j W : Nat) : Prop where
  box : Blk w A 121 #[v]
  own : w.ownsRow (A + 1) 54 1 v j ((List.range j).map fun r => Value.slice (some ⟨B r, 0, none⟩) W (K r))
  cap : ∀ r, r < j → W ≤ K r
  cells : ∀ r, r < j → ∃ cur : Array Value, Blk w (B r) 2 cur ∧ ∀ (c : Nat), c < W → cur[c]? = some (Value.int .i64 0)
  inj : ∀ r r', r < j → r' < j → B r = B r' → r = r'
  lo : ∀ r, r < j → A + 1 ≤ B r
theorem RowsZ.grown {w w' : World} {A : Nat} {v : Value} {B K : Nat → Nat} {j W : Nat} {row : Option Nat} (h : RowsZ w A v B K j W) (hb : w.grownBy w' row) (h1 : some A ≠ row) (h2 : v.ownBlock = none ∨ v.ownBlock ≠ row) (h3 : ∀ r, r < j → some (B r) ≠ row) : RowsZ w' A v B K j W :=
  ⟨h.box.grown hb h1, h.own.kept hb h2, h.cap, fun r hr => by obtain ⟨cur, hc, hcur⟩ := h.cells r hr; exact ⟨cur, hc.grown hb (h3 r hr), hcur⟩, h.inj, h.lo⟩
theorem RowsZ.kept {w w' : World} {A : Nat} {v : Value} {B K : Nat → Nat} {j W : Nat} (h : RowsZ w A v B K j W) (hb : Below w.heap.size w w') : RowsZ w' A v B K j W :=
  h.grown (row := none) ⟨hb.os, hb.tape, hb.output, hb.size, fun k hk _ => hb.block k hk⟩ (by simp) (by cases v.ownBlock <;> simp) (by simp)
theorem RowsZ.ltB {w : World} {A : Nat} {v : Value} {B K : Nat → Nat} {j W : Nat} (h : RowsZ w A v B K j W) {r : Nat} (hr : r < j) : B r < w.heap.size := by
  obtain ⟨cur, hc, _⟩ := h.cells r hr; exact hc.lt

theorem own_ne {w : World} {base : Nat} {e t : TypeId} {v : Value} {n : Nat} {xs : List Value} {b : Nat} {cs : Array Value} (h : w.ownsRow base e 1 v n xs) (hb : Blk w b t cs) (hne : e ≠ t) : v.ownBlock ≠ some b := by
  rcases h.2 with ⟨rfl, _⟩ | ⟨g, cap, cur, rfl, _, hg, _⟩
  · simp [Value.ownBlock]
  · simp only [Value.ownBlock]
    intro e2
    have e2 : g = b := Option.some.inj e2
    exact Blk.ne_ (w := w) (g := g) (g' := b) hg hb hne e2
theorem RowsZ.push {w w3 : World} {A : Nat} {v v' : Value} {B K : Nat → Nat} {j W b cp : Nat} {cur : Array Value} (h : RowsZ w A v B K j W) (hg : w.grownBy w3 v.ownBlock)
  (hown : w3.ownsRow (A + 1) 54 1 v' (j + 1) (((List.range j).map fun r => Value.slice (some ⟨B r, 0, none⟩) W (K r)) ++ [.slice (some ⟨b, 0, none⟩) W cp]))
  (hrow : Blk w b 2 cur) (hcur : ∀ c, c < W → cur[c]? = some (Value.int .i64 0)) (hW : W ≤ cp) (hA : A + 1 ≤ b) (hnB : ∀ r, r < j → B r ≠ b) :
  RowsZ (w3.setCell ⟨A, 0, none⟩ v') A v' (fun r => if r = j then b else B r) (fun r => if r = j then cp else K r) (j + 1) W := by
 have hvA : v.ownBlock ≠ some A := fun e => by have := (h.own.lt A e).1; omega
 have hbox3 : Blk w3 A 121 #[v] := h.box.grown hg (fun e => hvA e.symm)
 have hvA' : v'.ownBlock ≠ some A := fun e => by have := (hown.lt A e).1; omega
 have hgs := grown_set w3 A 0 v'
 have hr3 : ∀ r, r < j + 1 → ∃ cur : Array Value, Blk w3 (if r = j then b else B r) 2 cur ∧ ∀ (c : Nat), c < W → cur[c]? = some (Value.int .i64 0) := by
  intro r hr
  by_cases e : r = j
  ·rw [if_pos e]; exact ⟨cur, hrow.grown hg (fun e2 => own_ne h.own hrow (by decide) e2.symm), hcur⟩
  ·rw [if_neg e]
   obtain ⟨c2, h2, h3⟩ := h.cells r (by omega)
   exact ⟨c2, h2.grown hg (fun e2 => own_ne h.own h2 (by decide) e2.symm), h3⟩
 have hloB : ∀ r, r < j + 1 → A + 1 ≤ (if r = j then b else B r) := by
  intro r hr
  by_cases e : r = j
  ·rw [if_pos e]; exact hA
  ·rw [if_neg e]; exact h.lo r (by omega)
 refine ⟨by simpa using hbox3.set_ 0 v', ?_, fun r hr => ?_, fun r hr => ?_, fun r r' hr hr' e => ?_, hloB⟩
 ·have := hown.kept hgs (.inr hvA')
  have e : (List.range (j + 1)).map (fun r => Value.slice (some ⟨(if r = j then b else B r), 0, none⟩) W (if r = j then cp else K r)) = ((List.range j).map fun r => Value.slice (some ⟨B r, 0, none⟩) W (K r)) ++ [.slice (some ⟨b, 0, none⟩) W cp] := by
   rw [List.range_succ, List.map_append]
   congr 1
   ·apply List.map_congr_left
    intro r hr
    have : r ≠ j := by have := List.mem_range.1 hr; omega
    rw [if_neg this, if_neg this]
   ·simp
  rw [e]
  exact this
 ·by_cases e : r = j
  ·simp only [if_pos e]; exact hW
  ·simp only [if_neg e]; exact h.cap r (by omega)
 ·obtain ⟨c2, h2, h3⟩ := hr3 r hr
  have := hloB r hr
  exact ⟨c2, h2.far (by simp; omega) _, h3⟩
 ·by_cases e1 : r = j
  ·by_cases e2 : r' = j
   ·omega
   ·simp only [if_pos e1, if_neg e2] at e
    exact absurd e.symm (hnB r' (by omega))
  ·by_cases e2 : r' = j
   ·simp only [if_neg e1, if_pos e2] at e
    exact absurd e (hnB r (by omega))
   ·simp only [if_neg e1, if_neg e2] at e
    exact h.inj r r' (by omega) (by omega) e
theorem RowsZ.ref {w : World} {A : Nat} {v : Value} {B K : Nat → Nat} {R W : Nat} (h : RowsZ w A v B K R W) (hR : R ≤ 8) (hW : W ≤ 128) : RefIs w A A v B K R W (List.replicate (R * W) 0) := by
  refine ⟨h.box, ⟨h.own.1, ?_⟩, h.cap, fun r hr => ?_, h.inj, ⟨Nat.le_refl _, fun r hr => by have := h.lo r hr; omega⟩, by simp, hR, hW⟩
  · rcases h.own.2 with h1 | ⟨g, cap, cur, h1, h2, h3⟩
    · exact .inl h1
    · exact .inr ⟨g, cap, cur, h1, by omega, h3⟩
  · obtain ⟨cur, h1, h2⟩ := h.cells r hr
    refine ⟨cur, h1, fun c u hc hu => ?_⟩
    have := List.mem_of_getElem? hu
    simp at this
    rw [h2 c hc, this.2]

theorem Tryz.infoSl : (Tryz.prog.info? 54).map (fun i => (i.zero, i.size, i.bytes)) = some (some (.slice none 0 0), 1, 24) := by kernel_rfl

set_option maxRecDepth 100000 in
set_option maxHeartbeats 4000000 in
theorem rnew_any (rI cI : Int) (w : World) : Calls Tryz.prog 65 #[.int .i64 rI, .int .i64 cI] w (RNewPost w (clampN rI 8) (clampN cI 128)) := by
 have hR := clampN_le rI 8
 have hW := clampN_le cI 128
 have eR : ∀ j : Nat, (decide ((j : Int) < rI) = true ∧ decide ((j : Int) < 8) = true) ↔ j < clampN rI 8 := by intro j; simp only [decide_eq_true_eq, clampN]; omega
 have eW : ∀ j : Nat, (decide ((j : Int) < cI) = true ∧ decide ((j : Int) < 128) = true) ↔ j < clampN cI 128 := by intro j; simp only [decide_eq_true_eq, clampN]; omega
 generalize clampN rI 8 = R at *
 generalize clampN cI 128 = W at *
 have ER := Lib.hid eR
 have EW := Lib.hid eW
 clear eR eW
 obtain ⟨i0, hi, hz0, hz1, hz2⟩ := info_parts Tryz.info64
 obtain ⟨i1, hj, hy0, hy1, hy2⟩ := info_parts Tryz.infoSl
 go_enter Tryz.func65, Tryz.ntmps65
 go_wp2_with fail
 obtain ⟨g1, hbel, hsz⟩ := news1 w (.cells #[.slice none 0 0] 121)
 have hz : RowsZ (w.alloc (.cells #[.slice none 0 0] 121)) w.heap.size (.slice none 0 0) (fun _ => 0) (fun _ => 0) 0 W :=
  ⟨g1, World.ownsRow_nil _ _ _ _, fun r hr => by omega, fun r hr => by omega, fun r r' hr => by omega, fun r hr => by omega⟩
 clear g1
 generalize (w.alloc (.cells #[.slice none 0 0] 121)) = wz at *
 generalize hA : w.heap.size = A at *
 have HA := Lib.hid hA
 have HZ := Lib.hid hz
 have HB := Lib.hid hbel
 clear hA hz hbel
 go_loopw [6] (fun i wr => ∃ (j : Nat) (v : Value) (B K : Nat → Nat), j ≤ R ∧ i = .int .i64 (j : Int) ∧ RowsZ wr A v B K j W ∧ Below A w wr ∧ A + 1 ≤ wr.heap.size) (fun i _ => R - (intOf i).toNat)
 case atStart => exact ⟨0, _, _, _, by omega, rfl, HZ.out, HB.out, by omega⟩
 case round =>
  obtain ⟨j, v, B, K, hjr, rfl, hz, hbel, hsz⟩ := hrel
  clear HZ HB
  have HZ := Lib.hid hz
  have HB := Lib.hid hbel
  clear hz hbel
  by_cases hlt : j < R
  ·obtain ⟨d1, d2⟩ := (ER.out j).2 hlt
   go_wp2_with fail
   obtain ⟨g1, hb1, hsz1⟩ := news1 wr (.cells #[] 2)
   have hown0 := World.ownsRow_lit (base := wr.heap.size) (e := 2) (size := 1) wr #[] 0 (by simp) (by unfold maxLen; omega) (by simp)
   have hz1 := HZ.out.kept hb1
   have hbel1 : Below A w (wr.alloc (.cells #[] 2)) := HB.out.trans (hb1.mono (by omega))
   generalize hwn : (wr.alloc (.cells #[] 2)) = wn at *
   clear hwn g1 hb1
   have HLT : Hid (∀ r, r < j → B r < wr.heap.size) := Lib.hid (fun r hr => HZ.out.ltB hr)
   have HLV : Hid (∀ k, v.ownBlock = some k → k < wr.heap.size) := Lib.hid (fun k hk => (HZ.out.own.lt k hk).2)
   generalize hM : wr.heap.size = M at *
   clear hM
   have HZ1 := Lib.hid hz1
   have HB1 := Lib.hid hbel1
   have HO1 := Lib.hid hown0
   clear hz1 hbel1 hown0 HZ HB
   go_loopw [7, 8] (fun x i wr => ∃ (c : Nat), c ≤ W ∧ i = .int .i64 (c : Int) ∧ x ≠ .slice none 0 0 ∧ wr.ownsRow M 2 1 x c (List.replicate c (Value.int .i64 0)) ∧ RowsZ wr A v B K j W ∧ Below A w wr ∧ M ≤ wr.heap.size) (fun _ i _ => W - (intOf i).toNat)
   case atStart => exact ⟨0, by omega, rfl, by simp, HO1.out, HZ1.out, HB1.out, by omega⟩
   case round =>
    obtain ⟨c, hcw, rfl, hnil, hown, hz, hbel, hszM⟩ := hrel
    clear HZ1 HB1 HO1
    have HZ := Lib.hid hz
    have HB := Lib.hid hbel
    have HO := Lib.hid hown
    have HNIL := Lib.hid hnil
    clear hz hbel hown hnil
    by_cases hltc : c < W
    ·obtain ⟨d3, d4⟩ := (EW.out c).2 hltc
     have hlen : c + 1 ≤ maxLen := by unfold maxLen; omega
     go_wp2_with (at_builtin; refine wpList_append_own_at _ rfl _ _ 54 rfl M 2 i0 (.int .i64 0) 1 8 Tryz.underlying54 hi hz0 hz1 hz2 rfl (by decide) _ c _ rfl (HO.out.alloc _) ⟨wr.heap.size, 0, none⟩ 1 1 [.int .i64 0] rfl rfl (cell_one_new _ _ _) ?c2 hlen ?c4 ?c5 ?_)
     case c2 => simp [Value.oneCell']
     case c4 => omega
     case c5 => simp; omega
     intro v' w3 hown' hgrow hnil' hq9
     have HNIL' : Hid (v' ≠ .slice none 0 0) := Lib.hid (fun h => by have := HNIL.out; simp_all)
     have HO3 : Hid (w3.ownsRow M 2 1 v' (c + 1) (List.replicate (c + 1) (Value.int .i64 0))) := Lib.hid (by rw [List.replicate_succ']; exact hown')
     have hown2 := HO.out
     have hMk : ∀ k, Value.ownBlock u7 = some k → M ≤ k := fun k hk => (hown2.lt k hk).1
     have HZ3 : Hid (RowsZ w3 A v B K j W) := Lib.hid ((HZ.out.kept ((Below.refl _ _).alloc (Nat.le_refl _) _)).grown hgrow (fun e => by have := hMk A e.symm; omega)
      (by cases hv : v.ownBlock with
       | none => exact .inl rfl
       | some k => exact .inr (fun e => by have := hMk k e.symm; have := HLV.out k hv; omega))
      (fun r hr e => by have := hMk _ e.symm; have := HLT.out r hr; omega))
     have HB3 : Hid (Below A w w3) := Lib.hid ((HB.out.alloc (by omega) _).grown hgrow (by simp; omega) (fun k e => by have := hMk k e; omega))
     have hsz3 : M ≤ w3.heap.size := by have := hgrow.size; simp at this; omega
     clear hown' hgrow hnil' hq9 hown2 hMk
     go_wp2
     go_roundw
     case rel => exact ⟨c + 1, by omega, by go_num, HNIL'.out, HO3.out, HZ3.out, HB3.out, hsz3⟩
     case measure => simp [intOf]; omega
    ·obtain rfl : c = W := by omega
     have hd : decide ((c : Int) < cI) = false ∨ (decide ((c : Int) < cI) = true ∧ decide ((c : Int) < 128) = false) := by
      cases h1 : decide ((c : Int) < cI) with
      | false => exact .inl rfl
      | true =>
       cases h2 : decide ((c : Int) < 128) with
       | false => exact .inr ⟨rfl, rfl⟩
       | true => exact absurd ((EW.out c).1 ⟨h1, h2⟩) hltc
     have hrow := HO.out
     rw [show List.replicate c (Value.int .i64 0) = (List.replicate c (0 : Int)).map (Value.int .i64) by simp] at hrow
     obtain ⟨b, cp, rfl, hMb, hcp, cur, hcur, hz0'⟩ := own_row (zs := List.replicate c 0) (by simpa using hrow) HNIL.out
     simp only [List.length_replicate] at hcp ⊢
     have HCUR := Lib.hid hcur
     have HZ0 : Hid (∀ k, k < c → cur[k]? = some (Value.int .i64 0)) := Lib.hid (fun k hk => hz0' k 0 (by simp [hk]))
     have hbx := HZ.out.box.cell 0
     have hbf := HZ.out.box.frozen 0
     simp at hbx
     have HOV := Lib.hid HZ.out.own
     have hjm : j + 1 ≤ maxLen := by unfold maxLen; omega
     have hAlt := HZ.out.box.lt
     clear hrow hcur hz0' HO
     rcases hd with d3 | ⟨d3, d4⟩
     all_goals
      go_wp2_with (at_builtin; refine wpList_append_own_at _ rfl _ _ 119 rfl (A + 1) 54 i1 (.slice none 0 0) 1 24 Tryz.underlying119 hj hy0 hy1 hy2 rfl (by decide) _ j _ rfl (HOV.out.alloc _) ⟨wr.heap.size, 0, none⟩ 1 1 [.slice (some ⟨b, 0, none⟩) c cp] rfl rfl (cell_one_new _ _ _) ?c2 hjm ?c4 ?c5 ?_)
      case c2 => simp [Value.oneCell']
      case c4 => omega
      case c5 => simp; omega
      intro v' w3 hown' hgrow hnil' hq9
      obtain ⟨L, capL, rfl⟩ : ∃ L capL, v' = .slice (some ⟨L, 0, none⟩) (j + 1) capL := by
       rcases hown'.2 with ⟨_, h0⟩ | ⟨L, capL, curL, h1, _⟩
       ·omega
       ·exact ⟨L, capL, h1⟩
      have hpush := RowsZ.push (HZ.out.kept ((Below.refl _ _).alloc (Nat.le_refl _) (.cells #[.slice (some ⟨b, 0, none⟩) c cp] 54))) hgrow hown' (HCUR.out.alloc _) HZ0.out hcp (by omega) (fun r hr => by have := HLT.out r hr; omega)
      have HP := Lib.hid hpush
      have hvk : ∀ k, v.ownBlock = some k → A + 1 ≤ k := fun k hk => (HOV.out.lt k hk).1
      have HB3 : Hid (Below A w w3) := Lib.hid ((HB.out.alloc (by omega) _).grown hgrow (by simp; omega) (fun k e => by have := hvk k e; omega))
      have hbx3 : w3.cell? ⟨A, 0, none⟩ = some v := by
       have h1 := (hgrow.block A (by simp; omega) (fun e => by have := hvk A e.symm; omega))
       have h2 := Blk.alloc HZ.out.box (.cells #[.slice (some ⟨b, 0, none⟩) c cp] 54)
       exact (Blk.cell (w := w3) (h1.trans h2) 0)
      have hbf3 : w3.frozen? ⟨A, 0, none⟩ = false := by
       have h1 := (hgrow.block A (by simp; omega) (fun e => by have := hvk A e.symm; omega))
       have h2 := Blk.alloc HZ.out.box (.cells #[.slice (some ⟨b, 0, none⟩) c cp] 54)
       exact (Blk.frozen (w := w3) (h1.trans h2) 0)
      have hs3 : A + 1 ≤ w3.heap.size := by have := hgrow.size; simp at this; omega
      clear hown' hgrow hnil' hq9 hpush hvk hbx hbf
      go_wp2
      go_roundw
      case rel => exact ⟨j + 1, _, _, _, by omega, by go_num, HP.out, HB3.out.setCell (Nat.le_refl _) _, by simp [World.setCell]; omega⟩
      case measure => simp [intOf]; omega
  ·obtain rfl : j = R := by omega
   have hd : decide ((j : Int) < rI) = false ∨ (decide ((j : Int) < rI) = true ∧ decide ((j : Int) < 8) = false) := by
    cases h1 : decide ((j : Int) < rI) with
    | false => exact .inl rfl
    | true =>
     cases h2 : decide ((j : Int) < 8) with
     | false => exact .inr ⟨rfl, rfl⟩
     | true => exact absurd ((ER.out j).1 ⟨h1, h2⟩) hlt
   have HP : Hid (RNewPost w j W (.returned (.pointer (some ⟨A, 0, none⟩))) wr) := ⟨A, v, B, K, rfl, by rw [HA.out]; exact HZ.out.ref hR hW, by rw [HA.out]; exact HB.out⟩
   rcases hd with d3 | ⟨d3, d4⟩
   all_goals
    go_wp2
    go_ret
    exact HP.out
end Go.Proofs.YthbkljeibmkimaaGreat


namespace Go.Proofs.YthbkljeibmkimaaGreat
open Go.RowKit
set_option linter.unusedVariables false
set_option linter.unusedSimpArgs false

theorem ladd_yes (a b : Int) (ha : In64 a) (hb : In64 b) (h : In64 (a + b)) (w : World) : Calls Tryz.prog 68 #[.int .i64 a, .int .i64 b] w (TwoPost w (a + b) true) := by
  have P1 := Lib.hid (ofint_any a ha.1 ha.2)
  have P2 := Lib.hid (ofint_any b hb.1 hb.2)
  have P3 := Lib.hid (lplus_any a b)
  have P4 := Lib.hid (lint_yes (a + b) h.1 h.2)
  clear ha hb h
  unfold TwoPost
  generalize a + b = x at *
  go_enter Tryz.func68, Tryz.ntmps68
  go_wp2_with fail
  with_reducible refine (P1.out _).mono ?_
  rintro e w1 ⟨rfl, h1⟩
  have H1 := Lib.hid h1
  clear h1
  go_wp2_with fail
  with_reducible refine (P2.out _).mono ?_
  rintro e w2 ⟨rfl, h2⟩
  have H2 := Lib.hid (btr H1.out h2)
  clear h2
  go_wp2_with fail
  with_reducible refine (P3.out _).mono ?_
  rintro e w3 ⟨rfl, h3⟩
  have H3 := Lib.hid (btr H2.out h3)
  clear h3
  go_wp2_with fail
  with_reducible refine (P4.out _).mono ?_
  rintro e w4 ⟨rfl, h4⟩
  have H4 := Lib.hid (btr H3.out h4)
  clear h4
  go_wp2
  go_ret2
  exact ⟨rfl, H4.out⟩
theorem ladd_no (a b : Int) (ha : In64 a) (hb : In64 b) (h : ¬ In64 (a + b)) (w : World) : Calls Tryz.prog 68 #[.int .i64 a, .int .i64 b] w (TwoPost w 0 false) := by
  have P1 := Lib.hid (ofint_any a ha.1 ha.2)
  have P2 := Lib.hid (ofint_any b hb.1 hb.2)
  have P3 := Lib.hid (lplus_any a b)
  have P4 := Lib.hid (lint_no (a + b) (by have := ha.1; have := hb.1; omega) (by have := ha.2; have := hb.2; omega) h)
  clear ha hb h
  unfold TwoPost
  generalize a + b = x at *
  go_enter Tryz.func68, Tryz.ntmps68
  go_wp2_with fail
  with_reducible refine (P1.out _).mono ?_
  rintro e w1 ⟨rfl, h1⟩
  have H1 := Lib.hid h1
  clear h1
  go_wp2_with fail
  with_reducible refine (P2.out _).mono ?_
  rintro e w2 ⟨rfl, h2⟩
  have H2 := Lib.hid (btr H1.out h2)
  clear h2
  go_wp2_with fail
  with_reducible refine (P3.out _).mono ?_
  rintro e w3 ⟨rfl, h3⟩
  have H3 := Lib.hid (btr H2.out h3)
  clear h3
  go_wp2_with fail
  with_reducible refine (P4.out _).mono ?_
  rintro e w4 ⟨rfl, h4⟩
  have H4 := Lib.hid (btr H3.out h4)
  clear h4
  go_wp2
  go_ret2
  exact ⟨rfl, H4.out⟩

section
variable {P : Program}
theorem wp_append_own_at {o : Oper} {a : Act} {w : World} {K : Act → World → Prop} {Q : Exit → Act → World → Prop} (s x : Operand) (t : TypeId)
  (ho : o.op = .call { callee := .builtin .append, args := #[s, x], argTypes := #[t, t] })
  (base : Nat) (e : TypeId) (i : TypeInfo) (z : Value) (size bytes : Nat) (ht : P.underlying t = some (.slice e)) (hi : P.info? e = some i) (hz : i.zero = some z)
  (hsize : i.size = size) (hby : i.bytes = bytes) (hzs : z.cells.size = size) (hsz : 0 < size)
  (v : Value) (n : Nat) (xs : List Value) (hs : a.eval s = v) (hown : w.ownsRow base e size v n xs)
  (ad : Addr) (m c : Nat) (news : List Value) (hx : a.eval x = .slice (some ad) m c) (hl : news.length = m * size) (hnews : ∀ j u, news[j]? = some u → w.cell? (ad.add j) = some u) (h1 : ∀ u ∈ news, u.oneCell' = true)
  (h63 : n + m ≤ maxLen) (hbytes : (n + m) * bytes ≤ 140737488355328) (hbase : base ≤ w.heap.size)
  (h : ∀ v' w', w'.ownsRow base e size v' (n + m) (xs ++ news) → w.grownBy w' v.ownBlock → (v' = .slice none 0 0 ↔ v = .slice none 0 0 ∧ m = 0) → (v'.ownBlock = v.ownBlock ∨ v'.ownBlock = some w.heap.size) → K (a.put o.dst v') w') :
  o.wp P a w K Q := by
 obtain ⟨v', w', hr, h2, h3, h4, h5⟩ := run_append_own_at (P := P) w base t o.type e i z size bytes ht hi hz hsize hby hzs hsz v n xs hown ad m c news hl hnews h1 h63 hbytes hbase
 unfold Oper.wp execOp
 simp only [ho, resolve, invoke, builtin, Sem.run_bind, Sem.run_pure, Result.andThen_ok, List.map_toArray, List.map_cons, List.map_nil, hs, hx, hr]
 exact h v' w' h2 h3 h4 h5
theorem wp_append_lit {o : Oper} {w : World} {a : Act} {K : Act → World → Prop} {Q : Exit → Act → World → Prop} (s x : Operand) (t : TypeId)
  (ho : o.op = .call { callee := .builtin .append, args := #[s, x], argTypes := #[t, t] })
  (base : Nat) (e : TypeId) (i : TypeInfo) (z : Value) (bytes : Nat) (ht : P.underlying t = some (.slice e)) (hi : P.info? e = some i) (hz : i.zero = some z)
  (hsize : i.size = 1) (hby : i.bytes = bytes) (hzs : z.cells.size = 1)
  (g cap : Nat) (hs : a.eval s = .slice (some ⟨g, 0, none⟩) 0 cap) (hown : w.ownsRow base e 1 (.slice (some ⟨g, 0, none⟩) 0 cap) 0 [])
  (ao : Option Addr) (m c : Nat) (news : List Value) (hx : a.eval x = .slice ao m c) (hl : news.length = m) (hnews : 0 < m → ∃ ad, ao = some ad ∧ ∀ j u, news[j]? = some u → w.cell? (ad.add j) = some u) (h1 : ∀ u ∈ news, u.oneCell' = true)
  (h63 : m ≤ maxLen) (hbytes : m * bytes ≤ 140737488355328) (hbase : base ≤ w.heap.size)
  (h : ∀ v' w', w'.ownsRow base e 1 v' m news → w.grownBy w' (some g) → v' ≠ .slice none 0 0 → (v'.ownBlock = some g ∨ v'.ownBlock = some w.heap.size) → K (a.put o.dst v') w') :
  o.wp P a w K Q := by
 by_cases h0 : 0 < m
 ·obtain ⟨ad, rfl, hc⟩ := hnews h0
  refine wp_append_own_at s x t ho base e i z 1 bytes ht hi hz hsize hby hzs (by decide) _ 0 [] hs hown ad m c news hx (by omega) hc h1 (by omega) (by rw [Nat.zero_add]; exact hbytes) hbase ?_
  intro v' w' h2 h3 h4 h5
  refine h v' w' (by simpa using h2) h3 ?_ h5
  intro hv
  have := (h4.1 hv).1
  cases this
 ·obtain rfl : m = 0 := by omega
  obtain rfl : news = [] := List.eq_nil_of_length_eq_zero hl
  unfold Oper.wp execOp
  simp only [ho, resolve, invoke, builtin, Sem.run_bind, Sem.run_pure, Result.andThen_ok, List.map_toArray, List.map_cons, List.map_nil, hs, hx, run_append_none w t o.type e i ht hi g cap ao c]
  exact h _ w hown ⟨rfl, rfl, rfl, Nat.le_refl _, fun _ _ _ => rfl⟩ (by simp) (.inl rfl)
end

theorem below_grown {w w' : World} {row : Option Nat} (h : Below w.heap.size w w') : w.grownBy w' row := ⟨h.os, h.tape, h.output, h.size, fun k hk _ => h.block k hk⟩
theorem grown_tr {w w1 w2 : World} {row : Option Nat} (h : w.grownBy w1 row) (k : w1.grownBy w2 row) : w.grownBy w2 row :=
  ⟨k.os.trans h.os, k.tape.trans h.tape, k.output.trans h.output, Nat.le_trans h.size k.size, fun j hj hne => (k.block j (Nat.lt_of_lt_of_le hj h.size) hne).trans (h.block j hj hne)⟩
def RArr (w : World) (R L : Nat) (b r d m s l : Int) (zs : List Int) : Prop :=
  ∃ (cap : Nat) (cur : Array Value), zs.length ≤ cap ∧ Blk w R 115 #[.int .i64 b, .int .i64 r, .int .i64 d, .int .i64 m, .int .u64 s, .int .i64 l, .slice (some ⟨L, 0, none⟩) zs.length cap] ∧ Blk w L 2 cur ∧ ∀ (i : Nat) (u : Int), zs[i]? = some u → cur[i]? = some (Value.int .i64 u)
theorem RArr.grown {w w' : World} {R L : Nat} {b r d m s l : Int} {zs : List Int} {row : Option Nat} (h : RArr w R L b r d m s l zs) (hb : w.grownBy w' row) (h1 : some R ≠ row) (h2 : some L ≠ row) : RArr w' R L b r d m s l zs := by
  obtain ⟨cap, cur, h3, h4, h5, h6⟩ := h
  exact ⟨cap, cur, h3, h4.grown hb h1, h5.grown hb h2, h6⟩
theorem RArr.kept {w w' : World} {R L : Nat} {b r d m s l : Int} {zs : List Int} (h : RArr w R L b r d m s l zs) (hb : Below w.heap.size w w') : RArr w' R L b r d m s l zs := by
  obtain ⟨cap, cur, h3, h4, h5, h6⟩ := h
  exact ⟨cap, cur, h3, h4.kept hb, h5.kept hb, h6⟩
theorem RArr.ltR {w : World} {R L : Nat} {b r d m s l : Int} {zs : List Int} (h : RArr w R L b r d m s l zs) : R < w.heap.size := by
  obtain ⟨cap, cur, h3, h4, h5, h6⟩ := h
  exact h4.lt
theorem RArr.ltL {w : World} {R L : Nat} {b r d m s l : Int} {zs : List Int} (h : RArr w R L b r d m s l zs) : L < w.heap.size := by
  obtain ⟨cap, cur, h3, h4, h5, h6⟩ := h
  exact h5.lt
theorem RArr.ne {w : World} {R L : Nat} {b r d m s l : Int} {zs : List Int} (h : RArr w R L b r d m s l zs) : R ≠ L := by
  obtain ⟨cap, cur, h3, h4, h5, h6⟩ := h
  exact h4.ne_ h5 (by decide)
def RxPost (w : World) (b r d m s l : Int) (zs : List Int) (e : Ending) (w' : World) : Prop :=
  ∃ R L, e = .returned (.pointer (some ⟨R, 0, none⟩)) ∧ w.heap.size ≤ R ∧ w.heap.size ≤ L ∧ RArr w' R L b r d m s l zs ∧ Below w.heap.size w w'

set_option maxRecDepth 100000 in
set_option maxHeartbeats 4000000 in
theorem rxnew (b r d m s l : Int) (K : Nat) (hK : K ≤ 128) (w : World) :
  Calls Tryz.prog 52 #[.agg #[.int .i64 b, .int .i64 r, .int .i64 d, .int .i64 m, .int .u64 s], .int .i64 l, .int .u64 (K : Int)] w (RxPost w b r d m s l (List.replicate K 0)) := by
 obtain ⟨g1, hb1, hsz1⟩ := news1 w (.cells #[.int .i64 b, .int .i64 r, .int .i64 d, .int .i64 m, .int .u64 s] 24)
 have hx1 : Blk _ w.heap.size 24 #[.int .i64 b, .int .i64 r, .int .i64 d, .int .i64 m, .int .u64 s] := g1
 have HB1 := Lib.hid hb1
 have HX1 := Lib.hid hx1
 have HZ1 : Hid (w.heap.size ≤ (w.alloc (.cells #[.int .i64 b, .int .i64 r, .int .i64 d, .int .i64 m, .int .u64 s] 24)).heap.size) := Lib.hid (by simp)
 clear g1 hb1 hsz1 hx1
 have emk : (if (128 : Int) < (K : Int) then (128 : Int) else (K : Int)) = (K : Int) := by split <;> omega
 have hmk := fun W => run_make_row' (P := Tryz.prog) 54 2 (.int .i64 0) 8 Tryz.underlying54 Tryz.info64 rfl .u64 .u64 K (by omega) (by omega) W
 go_enter Tryz.func52, Tryz.ntmps52
 go_wp2_with fail
 refine wp_region_held_drew (S := fun w' => Blk w' w.heap.size 24 #[.int .i64 b, .int .i64 r, .int .i64 d, .int .i64 m, .int .u64 s] ∧ Below w.heap.size w w') (by kernel_rfl) (by exact ⟨HX1.out.drewN 1, below_drewN HB1.out 1⟩) (fun hHeld => ?_)
 refine tkH (i := 0) (v := ?_) rfl (by kernel_rfl) (fun _ _ _ h => h) (Or.inl ⟨by rfl, ?_⟩) (by assumption) ?_
 rotate_left
 ·intro w hSw
  refine (exec_load_row 24 _ rfl _ rfl 24 _ (0, 0) _ hSw.1 Tryz.underlying24 rfl (by kernel_rfl)).trans ?_
  go_simp
  try with_reducible rfl
 simp only [Act.put, z1, z2, z3, z4, z5, z6]
 refine tkH (i := 1) (v := ?_) rfl (by kernel_rfl) (fun _ _ _ h => h) (Or.inl ⟨by rfl, ?_⟩) (by assumption) ?_
 rotate_left
 ·intro w hSw
  try dsimp only at hSw
  go_simp
  try with_reducible rfl
 simp only [Act.put, z1, z2, z3, z4, z5, z6]
 refine tkH (i := 2) (v := ?_) rfl (by kernel_rfl) (fun _ _ _ h => h) (Or.inl ⟨by rfl, ?_⟩) (by assumption) ?_
 rotate_left
 ·intro w hSw
  try dsimp only at hSw
  go_simp
  try with_reducible rfl
 simp only [Act.put, z1, z2, z3, z4, z5, z6]
 refine tkH (i := 3) (v := ?_) rfl (by kernel_rfl) (fun _ _ _ h => h) (Or.inl ⟨by rfl, ?_⟩) (by assumption) ?_
 rotate_left
 ·intro w hSw
  try dsimp only at hSw
  go_simp
  try with_reducible rfl
 simp only [Act.put, z1, z2, z3, z4, z5, z6]
 refine wpAnyH_ready (rs := [4]) (by kernel_rfl) (by simp) ?_
 refine AllReadyH.cons rfl (fun Kc hKc => ?_) AllReadyH.nil
 go_simp
 refine hKc.out _ _ ?_ (fun hHeld => ?_)
 ·first | exact hHeld | exact ⟨hHeld.1.alloc _, hHeld.2.alloc hHeld.2.size _⟩
 clear hKc Kc
 refine tkH (i := 5) (v := ?_) rfl (by kernel_rfl) (fun _ _ _ h => h) (Or.inl ⟨by rfl, ?_⟩) (by assumption) ?_
 rotate_left
 ·intro w hSw
  try dsimp only at hSw
  go_simp
  try with_reducible rfl
 simp only [Act.put, z1, z2, z3, z4, z5, z6]
 refine wpAnyH_ready (rs := [6]) (by kernel_rfl) (by simp) ?_
 refine AllReadyH.cons rfl (fun Kc hKc => ?_) AllReadyH.nil
 go_simp
 refine hKc.out _ _ ?_ (fun hHeld => ?_)
 ·first | exact hHeld | exact ⟨hHeld.1.alloc _, hHeld.2.alloc hHeld.2.size _⟩
 clear hKc Kc
 refine tkH (i := 7) (v := ?_) rfl (by kernel_rfl) (fun _ _ _ h => h) (Or.inl ⟨by rfl, ?_⟩) (by assumption) ?_
 rotate_left
 ·intro w hSw
  try dsimp only at hSw
  go_simp
  try with_reducible rfl
 simp only [Act.put, z1, z2, z3, z4, z5, z6]
 refine wpAnyH_done (by kernel_rfl) ?_ _
 have HBL : Hid (Blk (((w.alloc (.cells #[.int .i64 b, .int .i64 r, .int .i64 d, .int .i64 m, .int .u64 s] 24)).alloc (.cells (madeCells #[.int .i64 0] K) 2)).alloc (.cells #[.int .i64 b, .int .i64 r, .int .i64 d, .int .i64 m, .int .u64 s, .int .i64 l, .slice (some ⟨w.heap.size + 1, 0, none⟩) K K] 115)).drew (w.heap.size + 1) 2 (madeCells #[.int .i64 0] K)) := Lib.hid (by
  have h1 := (Blk.new (w.alloc (.cells #[.int .i64 b, .int .i64 r, .int .i64 d, .int .i64 m, .int .u64 s] 24)) 2 (madeCells #[.int .i64 0] K)).alloc (.cells #[.int .i64 b, .int .i64 r, .int .i64 d, .int .i64 m, .int .u64 s, .int .i64 l, .slice (some ⟨w.heap.size + 1, 0, none⟩) K K] 115)
  rw [show (w.alloc (.cells #[.int .i64 b, .int .i64 r, .int .i64 d, .int .i64 m, .int .u64 s] 24)).heap.size = w.heap.size + 1 by simp] at h1
  exact h1.drew)
 have HBR : Hid (Blk (((w.alloc (.cells #[.int .i64 b, .int .i64 r, .int .i64 d, .int .i64 m, .int .u64 s] 24)).alloc (.cells (madeCells #[.int .i64 0] K) 2)).alloc (.cells #[.int .i64 b, .int .i64 r, .int .i64 d, .int .i64 m, .int .u64 s, .int .i64 l, .slice (some ⟨w.heap.size + 1, 0, none⟩) K K] 115)).drew (w.heap.size + 1 + 1) 115 #[.int .i64 b, .int .i64 r, .int .i64 d, .int .i64 m, .int .u64 s, .int .i64 l, .slice (some ⟨w.heap.size + 1, 0, none⟩) K K]) := Lib.hid (by
  have h1 := (Blk.new ((w.alloc (.cells #[.int .i64 b, .int .i64 r, .int .i64 d, .int .i64 m, .int .u64 s] 24)).alloc (.cells (madeCells #[.int .i64 0] K) 2)) 115 #[.int .i64 b, .int .i64 r, .int .i64 d, .int .i64 m, .int .u64 s, .int .i64 l, .slice (some ⟨w.heap.size + 1, 0, none⟩) K K])
  rw [show ((w.alloc (.cells #[.int .i64 b, .int .i64 r, .int .i64 d, .int .i64 m, .int .u64 s] 24)).alloc (.cells (madeCells #[.int .i64 0] K) 2)).heap.size = w.heap.size + 1 + 1 by simp] at h1
  exact h1.drew)
 have HMC : Hid (∀ (i : Nat) (u : Int), (List.replicate K (0 : Int))[i]? = some u → (madeCells #[.int .i64 0] K)[i]? = some (Value.int .i64 u)) := Lib.hid (fun i u hi => by
  have hin : i < K := by
   have := (List.getElem?_eq_some_iff.1 hi).1
   simp at this
   omega
  have hu : u = 0 := by
   have := List.mem_of_getElem? hi
   simp at this
   exact this.2
  subst hu
  have h1 := (World.rowIs_made w (.int .i64 0) K 2).cell hin
  rw [(Blk.new w 2 (madeCells #[.int .i64 0] K)).cell i] at h1
  exact h1)
 have HBB := Lib.hid hHeld.2
 clear hHeld
 go_wp2
 go_ret
 exact ⟨w.heap.size + 1 + 1, w.heap.size + 1, rfl, by omega, by omega, ⟨K, _, by simp, by rw [List.length_replicate]; exact HBR.out, HBL.out, HMC.out⟩, HBB.out⟩
theorem rxpoint_yes (w : World) (R L : Nat) (b r d m s l : Int) (zs : List Int) (k : Nat) (h : RArr w R L b r d m s l zs) (hl : zs.length ≤ 128) (hk : k < zs.length) :
    Calls Tryz.prog 72 #[.pointer (some ⟨R, 0, none⟩), .int .u64 (k : Int)] w fun e w' => e = .returned (.tuple #[.int .i64 (cellD zs k), .int .i64 0]) ∧ w = w' := by
  obtain ⟨cap, cur, hcap, hR, hL, hcur⟩ := h
  have c6 := hR.cell 6
  simp at c6
  have ck := (hL.cell k).trans (hcur k (cellD zs k) (by simp [cellD, hk]))
  generalize cellD zs k = z at *
  generalize zs.length = n at *
  have e1 : decide ((n : Int) ≤ (k : Int)) = false := decide_eq_false (by omega)
  have e1' : decide (n ≤ k) = false := decide_eq_false (by omega)
  have e2 : IntKind.u64.wrap (n : Int) = (n : Int) := by rw [wrapU_mod]; omega
  have e3 : (0 : Int) ≤ (k : Int) := by omega
  have e4 : (k : Int) < (n : Int) := by omega
  clear hR hL hcur
  go_enter Tryz.func72, Tryz.ntmps72
  go_wp2
  go_ret2
  exact ⟨rfl, rfl⟩

set_option maxRecDepth 100000 in
set_option maxHeartbeats 8000000 in
theorem rxcopy (w : World) (R L : Nat) (b r d m s l : Int) (zs : List Int) (h : RArr w R L b r d m s l zs) (hl : zs.length ≤ 128) :
  Calls Tryz.prog 66 #[.pointer (some ⟨R, 0, none⟩)] w (RxPost w b r d m s l zs) := by
 obtain ⟨cap, cur, hcap, hR, hL, hcur⟩ := h
 have HRL := Lib.hid hR.lt
 have HLL := Lib.hid hL.lt
 have c0 := hR.cell 0
 have c1 := hR.cell 1
 have c2 := hR.cell 2
 have c3 := hR.cell 3
 have c4 := hR.cell 4
 have c5 := hR.cell 5
 have c6 := hR.cell 6
 simp at c0 c1 c2 c3 c4 c5 c6
 have HC : Hid (∀ i u, zs[i]? = some u → w.cell? ⟨L, i, none⟩ = some (.int .i64 u)) := Lib.hid (fun i u hu => (hL.cell i).trans (hcur i u hu))
 obtain ⟨i0, hi, hz0, hz1, hz2⟩ := info_parts Tryz.info64
 obtain ⟨n, hn⟩ : ∃ n, n = zs.length := ⟨_, rfl⟩
 have HN := Lib.hid hn
 rw [← hn] at hl hcap c6
 have HCAP := Lib.hid hcap
 have hown0 := World.ownsRow_lit (base := w.heap.size) (e := 2) (size := 1) (w.drewN 1) #[] 0 (by exact Nat.le_refl _) (by unfold maxLen; omega) (by simp)
 have HO := Lib.hid hown0
 have HNEWS : Hid (∀ w', Below w.heap.size w w' → (0 < n → ∃ ad, (some ⟨L, 0, none⟩ : Option Addr) = some ad ∧ ∀ j u, (zs.map (Value.int .i64))[j]? = some u → w'.cell? (ad.add j) = some u)) := Lib.hid (fun w' hb _ => ⟨_, rfl, fun j u hu => by
  rw [addr_add, Nat.zero_add]
  rw [List.getElem?_map] at hu
  cases hz : zs[j]? with
  | none => rw [hz] at hu; simp at hu
  | some z =>
   rw [hz] at hu
   simp at hu
   subst hu
   exact (hb.cell (p := ⟨L, j, none⟩) HLL.out).trans (HC.out j z hz)⟩)
 clear hR hL hcur hn hown0 hcap
 go_enter Tryz.func66, Tryz.ntmps66
 go_wp2_with fail
 refine wp_region_held_drew (S := fun w' => Below w.heap.size w w') (by kernel_rfl) (by exact below_drewN (Below.refl _ _) 1) (fun hHeld => ?_)
 refine tkH (i := 0) (v := ?_) rfl (by kernel_rfl) (fun _ _ _ h => h) (Or.inl ⟨by rfl, ?_⟩) (by assumption) ?_
 rotate_left
 ·intro w hSw
  try dsimp only at hSw
  go_simp
  try with_reducible rfl
 simp only [Act.put, z1, z2, z3, z4, z5, z6]
 refine tkH (i := 1) (v := ?_) rfl (by kernel_rfl) (fun _ _ _ h => h) (Or.inl ⟨by rfl, ?_⟩) (by assumption) ?_
 rotate_left
 ·intro w hSw
  try dsimp only at hSw
  go_simp
  try with_reducible rfl
 simp only [Act.put, z1, z2, z3, z4, z5, z6]
 refine tkH (i := 2) (v := ?_) rfl (by kernel_rfl) (fun _ _ _ h => h) (Or.inl ⟨by rfl, ?_⟩) (by assumption) ?_
 rotate_left
 ·intro w hSw
  try dsimp only at hSw
  go_simp
  try with_reducible rfl
 simp only [Act.put, z1, z2, z3, z4, z5, z6]
 refine tkH (i := 3) (v := ?_) rfl (by kernel_rfl) (fun _ _ _ h => h) (Or.inl ⟨by rfl, ?_⟩) (by assumption) ?_
 rotate_left
 ·intro w hSw
  have q0 := (hSw.cell (p := ⟨R, 0, none⟩) HRL.out).trans c0
  have q1 := (hSw.cell (p := ⟨R, 1, none⟩) HRL.out).trans c1
  have q2 := (hSw.cell (p := ⟨R, 2, none⟩) HRL.out).trans c2
  have q3 := (hSw.cell (p := ⟨R, 3, none⟩) HRL.out).trans c3
  have q4 := (hSw.cell (p := ⟨R, 4, none⟩) HRL.out).trans c4
  have q5 := (hSw.cell (p := ⟨R, 5, none⟩) HRL.out).trans c5
  have q6 := (hSw.cell (p := ⟨R, 6, none⟩) HRL.out).trans c6
  go_simp
  try with_reducible rfl
 simp only [Act.put, z1, z2, z3, z4, z5, z6]
 refine tkH (i := 4) (v := ?_) rfl (by kernel_rfl) (fun _ _ _ h => h) (Or.inl ⟨by rfl, ?_⟩) (by assumption) ?_
 rotate_left
 ·intro w hSw
  try dsimp only at hSw
  go_simp
  try with_reducible rfl
 simp only [Act.put, z1, z2, z3, z4, z5, z6]
 refine tkH (i := 5) (v := ?_) rfl (by kernel_rfl) (fun _ _ _ h => h) (Or.inl ⟨by rfl, ?_⟩) (by assumption) ?_
 rotate_left
 ·intro w hSw
  try dsimp only at hSw
  go_simp
  try with_reducible rfl
 simp only [Act.put, z1, z2, z3, z4, z5, z6]
 refine tkH (i := 6) (v := ?_) rfl (by kernel_rfl) (fun _ _ _ h => h) (Or.inl ⟨by rfl, ?_⟩) (by assumption) ?_
 rotate_left
 ·intro w hSw
  try dsimp only at hSw
  go_simp
  try with_reducible rfl
 simp only [Act.put, z1, z2, z3, z4, z5, z6]
 refine tkH (i := 7) (v := ?_) rfl (by kernel_rfl) (fun _ _ _ h => h) (Or.inl ⟨by rfl, ?_⟩) (by assumption) ?_
 rotate_left
 ·intro w hSw
  have q0 := (hSw.cell (p := ⟨R, 0, none⟩) HRL.out).trans c0
  have q1 := (hSw.cell (p := ⟨R, 1, none⟩) HRL.out).trans c1
  have q2 := (hSw.cell (p := ⟨R, 2, none⟩) HRL.out).trans c2
  have q3 := (hSw.cell (p := ⟨R, 3, none⟩) HRL.out).trans c3
  have q4 := (hSw.cell (p := ⟨R, 4, none⟩) HRL.out).trans c4
  have q5 := (hSw.cell (p := ⟨R, 5, none⟩) HRL.out).trans c5
  have q6 := (hSw.cell (p := ⟨R, 6, none⟩) HRL.out).trans c6
  go_simp
  try with_reducible rfl
 simp only [Act.put, z1, z2, z3, z4, z5, z6]
 refine tkH (i := 9) (v := ?_) rfl (by kernel_rfl) (fun _ _ _ h => h) (Or.inl ⟨by rfl, ?_⟩) (by assumption) ?_
 rotate_left
 ·intro w hSw
  try dsimp only at hSw
  go_simp
  try with_reducible rfl
 simp only [Act.put, z1, z2, z3, z4, z5, z6]
 refine tkH (i := 10) (v := ?_) rfl (by kernel_rfl) (fun _ _ _ h => h) (Or.inl ⟨by rfl, ?_⟩) (by assumption) ?_
 rotate_left
 ·intro w hSw
  try dsimp only at hSw
  go_simp
  try with_reducible rfl
 simp only [Act.put, z1, z2, z3, z4, z5, z6]
 refine tkH (i := 11) (v := ?_) rfl (by kernel_rfl) (fun _ _ _ h => h) (Or.inl ⟨by rfl, ?_⟩) (by assumption) ?_
 rotate_left
 ·intro w hSw
  try dsimp only at hSw
  go_simp
  try with_reducible rfl
 simp only [Act.put, z1, z2, z3, z4, z5, z6]
 refine tkH (i := 12) (v := ?_) rfl (by kernel_rfl) (fun _ _ _ h => h) (Or.inl ⟨by rfl, ?_⟩) (by assumption) ?_
 rotate_left
 ·intro w hSw
  have q0 := (hSw.cell (p := ⟨R, 0, none⟩) HRL.out).trans c0
  have q1 := (hSw.cell (p := ⟨R, 1, none⟩) HRL.out).trans c1
  have q2 := (hSw.cell (p := ⟨R, 2, none⟩) HRL.out).trans c2
  have q3 := (hSw.cell (p := ⟨R, 3, none⟩) HRL.out).trans c3
  have q4 := (hSw.cell (p := ⟨R, 4, none⟩) HRL.out).trans c4
  have q5 := (hSw.cell (p := ⟨R, 5, none⟩) HRL.out).trans c5
  have q6 := (hSw.cell (p := ⟨R, 6, none⟩) HRL.out).trans c6
  go_simp
  try with_reducible rfl
 simp only [Act.put, z1, z2, z3, z4, z5, z6]
 refine wpAnyH_ready (rs := [8]) (by kernel_rfl) (by simp) ?_
 refine AllReadyH.cons rfl (fun Kc hKc => ?_) AllReadyH.nil
 go_simp
 refine hKc.out _ _ ?_ (fun hHeld => ?_)
 ·first | exact hHeld.alloc hHeld.size _ | exact hHeld.grown hgrow hHeld.size (fun k e => by have := Option.some.inj e; omega)
 clear hKc Kc
 refine wpAnyH_ready (rs := [13]) (by kernel_rfl) (by simp) ?_
 refine AllReadyH.cons rfl (fun Kc hKc => ?_) AllReadyH.nil
 refine wp_append_lit _ _ 54 rfl w.heap.size 2 i0 (.int .i64 0) 8 Tryz.underlying54 hi hz0 hz1 hz2 rfl w.heap.size 0 rfl HO.out (some ⟨L, 0, none⟩) n cap (zs.map (Value.int .i64)) rfl (by rw [List.length_map]; exact HN.out.symm) (HNEWS.out _ hHeld) (fun u hu => by obtain ⟨z, -, rfl⟩ := List.mem_map.1 hu; rfl) (by unfold maxLen; omega) (by omega) (by simp) ?_; intro v' w5 hown' hgrow hnil' hq9; have HLO : Hid (w5.ownsRow w.heap.size 2 1 v' zs.length (zs.map (Value.int .i64))) := Lib.hid (by rw [← HN.out]; exact hown'); obtain ⟨L', cp', rfl, hL', hcp', curL, hcL, hcLz⟩ := own_row HLO.out hnil'; have HCL := Lib.hid hcL; have HCLZ := Lib.hid hcLz; rw [← HN.out] at hcp' ⊢
 refine hKc.out _ _ ?_ (fun hHeld => ?_)
 ·first | exact hHeld.alloc hHeld.size _ | exact hHeld.grown hgrow hHeld.size (fun k e => by have := Option.some.inj e; omega)
 clear hKc Kc
 refine tkH (i := 14) (v := ?_) rfl (by kernel_rfl) (fun _ _ _ h => h) (Or.inl ⟨by rfl, ?_⟩) (by assumption) ?_
 rotate_left
 ·intro w hSw
  try dsimp only at hSw
  go_simp
  try with_reducible rfl
 simp only [Act.put, z1, z2, z3, z4, z5, z6]
 refine wpAnyH_ready (rs := [15]) (by kernel_rfl) (by simp) ?_
 refine AllReadyH.cons rfl (fun Kc hKc => ?_) AllReadyH.nil
 go_simp
 refine hKc.out _ _ ?_ (fun hHeld => ?_)
 ·first | exact hHeld.alloc hHeld.size _ | exact hHeld.grown hgrow hHeld.size (fun k e => by have := Option.some.inj e; omega)
 clear hKc Kc
 refine tkH (i := 16) (v := ?_) rfl (by kernel_rfl) (fun _ _ _ h => h) (Or.inl ⟨by rfl, ?_⟩) (by assumption) ?_
 rotate_left
 ·intro w hSw
  try dsimp only at hSw
  go_simp
  try with_reducible rfl
 simp only [Act.put, z1, z2, z3, z4, z5, z6]
 refine wpAnyH_done (by kernel_rfl) ?_ _
 have HBR := Lib.hid (Blk.new w5 115 #[.int .i64 b, .int .i64 r, .int .i64 d, .int .i64 m, .int .u64 s, .int .i64 l, .slice (some ⟨L', 0, none⟩) n cp'])
 have HBL := Lib.hid (HCL.out.alloc (.cells #[.int .i64 b, .int .i64 r, .int .i64 d, .int .i64 m, .int .u64 s, .int .i64 l, .slice (some ⟨L', 0, none⟩) n cp'] 115))
 have HBB := Lib.hid hHeld
 have HSZ : Hid (w.heap.size ≤ w5.heap.size) := Lib.hid (by have := hgrow.size; simp at this; omega)
 clear hHeld hown' hgrow hq9 hcL hcLz
 go_wp2
 go_ret
 exact ⟨w5.heap.size, L', rfl, HSZ.out, hL', ⟨cp', curL, by rw [← HN.out]; exact hcp', by rw [← HN.out]; exact HBR.out, HBL.out, HCLZ.out⟩, HBB.out⟩

theorem RArr.set {w : World} {R L : Nat} {b r d m s l : Int} {zs : List Int} (h : RArr w R L b r d m s l zs) (i : Nat) (u : Int) : RArr (w.setCell ⟨L, i, none⟩ (.int .i64 u)) R L b r d m s l (zs.set i u) := by
  have hne := h.ne
  obtain ⟨cap, cur, hcap, hR, hL, hcur⟩ := h
  refine ⟨cap, _, by rw [List.length_set]; exact hcap, by rw [List.length_set]; exact hR.far (by simpa using hne) _, hL.set_ i _, fun j v hv => ?_⟩
  rw [List.getElem?_set] at hv
  rw [Array.getElem?_setIfInBounds]
  split at hv
  · rename_i e
    subst e
    split at hv
    · rename_i hlt
      have := (Array.getElem?_eq_some_iff.1 (hcur i _ (List.getElem?_eq_getElem hlt))).1
      rw [if_pos rfl, if_pos this]
      simp at hv
      rw [hv]
    · cases hv
  · rename_i e
    rw [if_neg e]
    exact hcur j v hv
def RUpPost (w : World) (R L : Nat) (b r d m s l : Int) (zs : List Int) (k : Nat) (x : Int) (e : Ending) (w' : World) : Prop :=
  e = .returned (.int .i64 (chkI zs.length m zs k x)) ∧ RArr w' R L b r d m s l (updZ zs.length m zs k x) ∧ w.grownBy w' (some L)
set_option maxRecDepth 100000 in
set_option maxHeartbeats 4000000 in
theorem rxupdate (w : World) (R L : Nat) (b r d m s l : Int) (k : Nat) (zs : List Int) (x : Int) (h : RArr w R L b r d m s l zs) (hlen : zs.length ≤ 128) (hfit : Fit zs) (hx : In64 x) (hk64 : k < 18446744073709551616) :
  Calls Tryz.prog 57 #[.pointer (some ⟨R, 0, none⟩), .int .u64 (k : Int), .int .i64 x] w (RUpPost w R L b r d m s l zs k x) := by
 have HA := Lib.hid h
 obtain ⟨cap, cur, hcap, hR, hL, hcur⟩ := h
 have c3 := hR.cell 3
 have c6 := hR.cell 6
 simp at c3 c6
 have HRL := Lib.hid hR.lt
 have HLL := Lib.hid hL.lt
 obtain ⟨K, hK⟩ : ∃ K, K = zs.length := ⟨_, rfl⟩
 have HK := Lib.hid hK
 rw [← hK] at c6 hcap hlen
 have e2 : IntKind.u64.wrap (K : Int) = (K : Int) := by rw [wrapU_mod]; omega
 obtain ⟨q, hq⟩ : ∃ q, q = chkI zs.length m zs k x := ⟨_, rfl⟩
 have HQ0 := Lib.hid hq
 have HSAME : Hid (q ≠ 0 → ∀ w', Below w.heap.size w w' → RUpPost w R L b r d m s l zs k x (.returned (.int .i64 q)) w') := Lib.hid (fun hq0 w' hb => by
  refine ⟨by rw [HQ0.out], ?_, below_grown hb⟩
  unfold updZ
  rw [if_neg (by rw [← HQ0.out]; exact hq0)]
  exact HA.out.kept hb)
 rw [← hK] at hq
 clear hK
 by_cases hlt : k < K
 ·have hkz : k < zs.length := by have := HK.out; omega
  have ck := (hL.cell k).trans (hcur k (cellD zs k) (by simp [cellD, hkz]))
  clear hkz
  have cf := hL.frozen k
  have hz := fitC hfit k
  have e1 : decide ((K : Int) ≤ (k : Int)) = false := decide_eq_false (by omega)
  have e1' : decide (K ≤ k) = false := decide_eq_false (by omega)
  have e3 : (0 : Int) ≤ (k : Int) := by omega
  have e4 : (k : Int) < (K : Int) := by omega
  unfold chkI at hq
  rw [if_neg (by omega)] at hq
  clear hR hL hcur hfit hlt hk64
  by_cases hm : m = 2 ∧ x < 0
  ·obtain ⟨rfl, hx0⟩ := hm
   have e5 : decide (x < 0) = true := decide_eq_true hx0
   have HQ : Hid (q = 3) := by show _ = _; rw [hq, if_pos ⟨rfl, hx0⟩]
   clear hq hx0
   have HP := Lib.hid (HSAME.out (by rw [HQ.out]; decide) w (Below.refl _ _))
   rw [HQ.out] at HP
   go_enter Tryz.func57, Tryz.ntmps57
   go_wp2
   go_ret
   exact HP.out
  ·rw [if_neg hm] at hq
   have hdec : (m ≠ 2 ∧ (m == 2) = false ∧ decide (m = 2) = false) ∨ ((m == 2) = true ∧ decide (m = 2) = true ∧ m = 2 ∧ decide (x < 0) = false) := by
    by_cases h2 : m = 2
    ·right; exact ⟨by simp [h2], by simp [h2], h2, decide_eq_false (fun hh => hm ⟨h2, hh⟩)⟩
    ·left; exact ⟨h2, by simp [h2], by simp [h2]⟩
   clear hm
   by_cases h64 : In64 (cellD zs k + x)
   ·have P3 := Lib.hid (fun w => ladd_yes (cellD zs k) x hz hx h64 w)
    have HQ : Hid (q = 0) := by show _ = _; rw [hq, if_pos h64]
    have HDONE : Hid (∀ w', Below w.heap.size w w' → RUpPost w R L b r d m s l zs k x (.returned (.int .i64 0)) (w'.setCell ⟨L, k, none⟩ (.int .i64 (cellD zs k + x)))) := Lib.hid (fun w' hb => by
     refine ⟨by rw [← HQ.out, HQ0.out], ?_, ?_⟩
     ·unfold updZ
      rw [if_pos (by rw [← HQ0.out]; exact HQ.out)]
      exact (HA.out.kept hb).set k _
     ·exact grown_tr (below_grown (row := some L) hb) (grown_set w' L k _))
    clear hq h64 hz
    unfold TwoPost at P3
    generalize cellD zs k + x = y at *
    generalize cellD zs k = z at *
    rcases hdec with ⟨hm2, d1, d2⟩ | ⟨d1, d2, hm2, d3⟩
    all_goals
     first | subst hm2 | skip
     go_enter Tryz.func57, Tryz.ntmps57
     go_wp2_with fail
     with_reducible refine (P3.out _).mono ?_
     rintro e w3 ⟨rfl, hb⟩
     have HP := Lib.hid (HDONE.out _ hb)
     have q6 := (hb.cell (p := ⟨R, 6, none⟩) HRL.out).trans c6
     have qk := (hb.cell (p := ⟨L, k, none⟩) HLL.out).trans ck
     have qf : w3.frozen? ⟨L, k, none⟩ = false := by rw [← cf]; exact hb.frozen (p := ⟨L, k, none⟩) HLL.out
     clear hb
     go_wp2
     go_ret
     exact HP.out
   ·have P3 := Lib.hid (fun w => ladd_no (cellD zs k) x hz hx h64 w)
    have HQ : Hid (q = 4) := by show _ = _; rw [hq, if_neg h64]
    clear hq h64 hz
    unfold TwoPost at P3
    generalize cellD zs k = z at *
    rcases hdec with ⟨hm2, d1, d2⟩ | ⟨d1, d2, hm2, d3⟩
    all_goals
     first | subst hm2 | skip
     go_enter Tryz.func57, Tryz.ntmps57
     go_wp2_with fail
     with_reducible refine (P3.out _).mono ?_
     rintro e w3 ⟨rfl, hb⟩
     have HP := Lib.hid (HSAME.out (by rw [HQ.out]; decide) w3 hb)
     rw [HQ.out] at HP
     clear hb
     go_wp2
     go_ret
     exact HP.out
 ·have HQ : Hid (q = 2) := by show _ = _; rw [hq]; unfold chkI; rw [if_pos (by omega)]
  have e1 : decide ((K : Int) ≤ (k : Int)) = true := decide_eq_true (by omega)
  have e1' : decide (K ≤ k) = true := decide_eq_true (by omega)
  have HP := Lib.hid (HSAME.out (by rw [HQ.out]; decide) w (Below.refl _ _))
  rw [HQ.out] at HP
  clear hlt hR hL hcur hq
  go_enter Tryz.func57, Tryz.ntmps57
  go_wp2
  go_ret
  exact HP.out
end Go.Proofs.YthbkljeibmkimaaGreat


namespace Go.Proofs.YthbkljeibmkimaaGreat
open Go.RowKit
set_option linter.unusedVariables false
set_option linter.unusedSimpArgs false

def setsZ (W : Nat) (zs : List Int) (cf : Nat → Nat) (vf : Nat → Int) : Nat → List Int
  | 0 => zs
  | k + 1 => (setsZ W zs cf vf k).set (k * W + cf k) (vf k)
theorem setsZ_len {W : Nat} {zs : List Int} {cf : Nat → Nat} {vf : Nat → Int} (k : Nat) : (setsZ W zs cf vf k).length = zs.length := by
  induction k with
  | zero => rfl
  | succ k ih => rw [setsZ, List.length_set, ih]
theorem setsZ_get {R W : Nat} {zs : List Int} {cf : Nat → Nat} {vf : Nat → Int} (hl : zs.length = R * W) (hcf : ∀ r, r < R → cf r < W) (k : Nat) (hk : k ≤ R) (r c : Nat) (hr : r < R) (hc : c < W) :
    cellD (setsZ W zs cf vf k) (r * W + c) = if r < k ∧ c = cf r then vf r else cellD zs (r * W + c) := by
  induction k with
  | zero => simp [setsZ]
  | succ k ih =>
    have hlt : k * W + cf k < (setsZ W zs cf vf k).length := by
      rw [setsZ_len, hl]
      have h1 : (k + 1) * W ≤ R * W := Nat.mul_le_mul_right W hk
      rw [Nat.add_mul] at h1
      have := hcf k (by omega)
      omega
    have ih := ih (by omega)
    unfold cellD at ih ⊢
    rw [setsZ, List.getElem?_set]
    by_cases e : k * W + cf k = r * W + c
    · obtain ⟨rfl, rfl⟩ := place_eq (hcf k (by omega)) hc e
      simp [hlt]
    · rw [if_neg e, ih]
      by_cases hrk : r = k
      · subst hrk
        have : ¬ c = cf r := fun h => e (by rw [h])
        simp [this]
      · have : (r < k + 1 ∧ c = cf r) ↔ (r < k ∧ c = cf r) := by omega
        simp only [this]
def changeZ (W : Nat) (zs cs : List Int) (d : Int) : List Int := setsZ W zs (colN cs) (fun r => cellD zs (r * W + colN cs r) + d) cs.length
def changeFits (W : Nat) (zs cs : List Int) (d : Int) : Prop := ∀ r, r < cs.length → In64 (cellD zs (r * W + colN cs r) + d)
def ChangeYes (w : World) (G C R W : Nat) (zs cs : List Int) (d : Int) (e : Ending) (w' : World) : Prop :=
  e = .returned (.int .i64 0) ∧ GridIs w' G C R W (changeZ W zs cs d) ∧ w.grownBy w' (some C)
def ChangePost (w : World) (G C R W : Nat) (zs cs : List Int) (d : Int) (e : Ending) (w' : World) : Prop :=
  (changeFits W zs cs d ∧ ChangeYes w G C R W zs cs d e w') ∨ (¬ changeFits W zs cs d ∧ e = .returned (.int .i64 4) ∧ Below w.heap.size w w')
theorem grown_trans {w w1 w2 : World} {row : Option Nat} (h : w.grownBy w1 row) (k : w1.grownBy w2 row) : w.grownBy w2 row :=
  ⟨k.os.trans h.os, k.tape.trans h.tape, k.output.trans h.output, Nat.le_trans h.size k.size, fun j hj hne => (k.block j (Nat.lt_of_lt_of_le hj h.size) hne).trans (h.block j hj hne)⟩
theorem cell_fit {zs : List Int} (h : Fit zs) (i : Nat) : In64 (cellD zs i) := by
  unfold cellD
  cases hz : zs[i]? with
  | none => exact ⟨by simp, by simp⟩
  | some x => exact h.get hz

set_option maxRecDepth 100000 in
set_option maxHeartbeats 4000000 in
theorem change_yes (w : World) (G C R W : Nat) (zs cs : List Int) (d : Int) (v : Value) (h : GridIs w G C R W zs) (hv : IntsAt w v cs) (hm : meetB R W cs = true) (hd : In64 d) (hvc : v.ownBlock ≠ some C) :
  Calls Tryz.prog 138 #[.pointer (some ⟨G, 0, none⟩), v, .int .i64 d] w (ChangePost w G C R W zs cs d) := by
 have hR8 := h.rows
 have hfit := h.fit
 obtain ⟨h0R, hlR, hcol⟩ := meetB_of hm
 have P1 := read_yes w G C R W zs cs v h hv hm
 have HG := Lib.hid h
 have HV := Lib.hid hv
 have HCOL := Lib.hid hcol
 have HFIT := Lib.hid hfit
 clear h hcol hm hfit
 obtain ⟨ao, cap, rfl, hcap, hcells⟩ := hv
 obtain ⟨g, rfl, hg, hc⟩ := hcells (by omega)
 have HC := Lib.hid hc
 have hgC : g ≠ C := fun e => hvc (by simp [Value.ownBlock, e])
 clear hcells hc hvc
 obtain ⟨n, hlen⟩ : ∃ n, n = cs.length := ⟨_, rfl⟩
 unfold ReadPost at P1
 have hCP : ChangePost w G C R W zs cs d = fun e w' => (changeFits W zs cs d ∧ (e = .returned (.int .i64 0) ∧ GridIs w' G C R W (setsZ W zs (colN cs) (fun r => cellD zs (r * W + colN cs r) + d) n) ∧ w.grownBy w' (some C))) ∨ (¬ changeFits W zs cs d ∧ e = .returned (.int .i64 4) ∧ Below w.heap.size w w') := by
  funext e w'; rw [hlen]; rfl
 rw [hCP]
 have HFITS : Hid (changeFits W zs cs d ↔ ∀ r, r < n → In64 (cellD zs (r * W + colN cs r) + d)) := Lib.hid (by rw [hlen]; exact Iff.rfl)
 clear hCP
 rw [← hlen] at hcap
 simp only [← hlen] at P1 ⊢
 have hn8 : n ≤ 8 := by omega
 have hnR : Hid (n = R) := by show _ = _; omega
 have HLEN := Lib.hid hlen
 clear hlen hlR hR8
 generalize changeFits W zs cs d = FITS at *
 obtain ⟨f, hf⟩ : ∃ f : Nat → Int, f = fun r => cellD zs (r * W + colN cs r) := ⟨_, rfl⟩
 have HF64 : Hid (∀ r, In64 (f r)) := Lib.hid (fun r => by rw [hf]; exact cell_fit HFIT.out _)
 rw [show (fun r => Value.int .i64 (cellD zs (r * W + colN cs r))) = fun r => Value.int .i64 (f r) by rw [hf]] at P1
 rw [show (fun r => cellD zs (r * W + colN cs r) + d) = fun r => f r + d by rw [hf]]
 have HFITS : Hid (FITS ↔ ∀ r, r < n → In64 (f r + d)) := Lib.hid (by rw [HFITS.out, hf])
 clear hf
 go_enter Tryz.func138, Tryz.ntmps138
 go_wp2_with (go_at_call 134; refine P1.mono ?_; rintro e w2 ⟨b, rfl, hb0, hrow, hb⟩; have HB0 := Lib.hid hb0; have HROW := Lib.hid hrow; have HB := Lib.hid hb; clear hrow hb hb0)
 go_loopw [26] (fun i wr => ∃ j : Nat, j ≤ n ∧ i = .int .i64 (j : Int) ∧ wr.rowIs b 2 n (fun k => .int .i64 (if k < j then f k + d else f k)) ∧ (∀ k, k < j → In64 (f k + d)) ∧ Below w.heap.size w wr) (fun i _ => n - (intOf i).toNat)
 case atStart => exact ⟨0, by omega, rfl, HROW.out.congr (fun k _ => by simp), fun k hk => by omega, HB.out⟩
 case round =>
  obtain ⟨j, hj, rfl, hrow, hok, hbel⟩ := hrel
  clear HROW HB
  have HROW := Lib.hid hrow
  have HB := Lib.hid hbel
  have HOK := Lib.hid hok
  by_cases hlt : j < n
  ·have cx := hrow.cell hlt
   simp only [Nat.lt_irrefl, if_false] at cx
   have i0 : (0 : Int) ≤ (j : Int) := by omega
   have i1 : (j : Int) < (n : Int) := by omega
   clear hrow hbel hok
   have h64 := HF64.out j
   by_cases hj64 : In64 (f j + d)
   ·have P2 := (opok_plus (f j) d wr h64 hd).1 hj64
    have HOK2 : Hid (∀ k, k < j + 1 → In64 (f k + d)) := Lib.hid (fun k hk => by
     by_cases e : k = j
     ·subst e; exact hj64
     ·exact HOK.out k (by omega))
    have HE : Hid (∀ k, (if k = j then f j + d else if k < j then f k + d else f k) = if k < j + 1 then f k + d else f k) := Lib.hid (fun k => by
     by_cases e : k = j
     ·subst e; simp
     ·have : k < j + 1 ↔ k < j := by omega
      simp [e, this])
    unfold TwoPost at P2
    generalize f j + d = x at *
    clear h64 hj64
    go_wp2_with (go_at_call 121; refine P2.mono ?_; rintro e w3 ⟨rfl, hb⟩; have hr3 := HROW.out.of_block (hb.block b HROW.out.lt); have HR3 := Lib.hid hr3; have HB3 := Lib.hid (btr HB.out hb); obtain ⟨ov, hov⟩ : ∃ ov, w3.cell? ⟨b, j, none⟩ = some ov := ⟨_, hr3.cell hlt⟩; have hfr := hr3.frozen j; clear hr3 hb)
    go_roundw
    case rel => exact ⟨j + 1, by omega, by go_num, (HR3.out.set j _).congr (fun k _ => by have := HE.out k; by_cases e : k = j <;> simp [e] at this ⊢ <;> simp [this]), HOK2.out, HB3.out.setCell HB0.out _⟩
    case measure => simp [intOf]; omega
   ·have P2 := (opok_plus (f j) d wr h64 hd).2 hj64
    have HNF : Hid (¬ FITS) := Lib.hid (fun h => hj64 (HFITS.out.1 h j hlt))
    unfold TwoPost at P2
    clear h64 hj64
    go_wp2_with (go_at_call 121; refine P2.mono ?_; rintro e w3 ⟨rfl, hb⟩; have HB3 := Lib.hid (btr HB.out hb); clear hb)
    go_ret
    exact .inr ⟨HNF.out, rfl, HB3.out⟩
  ·obtain rfl : j = n := by omega
   have hrow2 : wr.rowIs b 2 j (fun k => .int .i64 (f k + d)) := hrow.congr (fun k hk => by rw [if_pos hk])
   have HYES : Hid FITS := HFITS.out.2 hok
   have HROW := Lib.hid hrow2
   have HGR := Lib.hid (HG.out.kept hbel)
   have HGB := Lib.hid (below_grown (row := some C) hbel)
   have hbC : b ≠ C := by have := HG.out.ltC; have := HB0.out; omega
   have hgk : g < wr.heap.size := by have := hbel.size; omega
   clear hrow hrow2 hbel hok
   go_wp2_with fail
   go_loopw [46] (fun i ws => ∃ k : Nat, k ≤ j ∧ i = .int .i64 (k : Int) ∧ GridIs ws G C R W (setsZ W zs (colN cs) (fun r => f r + d) k) ∧ w.grownBy ws (some C) ∧ wr.grownBy ws (some C)) (fun i _ => j - (intOf i).toNat)
   case atStart => exact ⟨0, by omega, rfl, HGR.out, HGB.out, ⟨rfl, rfl, rfl, Nat.le_refl _, fun _ _ _ => rfl⟩⟩
   case round =>
    obtain ⟨k, hk, rfl, hgs, hgr, hgr2⟩ := hrel
    have HGS := Lib.hid hgs
    have HG1 := Lib.hid hgr
    have HG2 := Lib.hid hgr2
    by_cases hlk : k < j
    ·have cx := hgr2.cell (HROW.out.cell hlk) (by simpa using hbC)
     obtain ⟨hck, hcw⟩ := HCOL.out k (by have := hnR.out; omega)
     have cc := hgr.cell (HC.out k _ hck) (by simpa using hgC)
     have P3 := put_in _ G C R W k (colN cs k) (f k + d) _ hgs (by have := hnR.out; omega) hcw
     have i0 : (0 : Int) ≤ (k : Int) := by omega
     have i1 : (k : Int) < (j : Int) := by omega
     have HX : Hid (In64 (f k + d)) := HOK.out k hlk
     have HST : Hid (setsZ W zs (colN cs) (fun r => f r + d) (k + 1) = (setsZ W zs (colN cs) (fun r => f r + d) k).set (k * W + colN cs k) (f k + d)) := rfl
     clear hgs hgr hgr2 hck hcw
     generalize f k + d = x at *
     generalize hy : colN cs k = y at *
     have HY := Lib.hid hy
     clear hy
     go_wp2_with (go_at_call 123; refine P3.mono ?_; rintro e w3 ⟨rfl, hw3⟩; have HW3 := Lib.hid hw3; clear hw3)
     go_roundw
     case rel => exact ⟨k + 1, by omega, by go_num, by rw [HST.out, HW3.out]; exact HGS.out.set _ _ HX.out.1 HX.out.2, by rw [HW3.out]; exact grown_trans HG1.out (grown_set _ _ _ _), by rw [HW3.out]; exact grown_trans HG2.out (grown_set _ _ _ _)⟩
     case measure => simp [intOf]; omega
    ·obtain rfl : k = j := by omega
     clear hgs hgr hgr2
     go_wp2
     go_ret
     exact .inl ⟨HYES.out, rfl, HGS.out, HG1.out⟩
end Go.Proofs.YthbkljeibmkimaaGreat


namespace Go.Proofs.YthbkljeibmkimaaGreat
open Go.RowKit
set_option linter.unusedVariables false
set_option linter.unusedSimpArgs false

def TellPost (w : World) (W : Nat) (zs cs : List Int) (k : Nat) (e : Ending) (w' : World) : Prop :=
  ∃ u, e = .returned (.tuple #[.int .i64 u, .int .i64 0]) ∧ IsKth (readZ W zs cs) k u ∧ Below w.heap.size w w'

set_option maxRecDepth 100000 in
theorem of_least (w : World) (G C R W : Nat) (zs cs : List Int) (v : Value) (h : GridIs w G C R W zs) (hv : IntsAt w v cs) (hm : meetB R W cs = true) :
  Calls Tryz.prog 144 #[.agg #[.func (Fn.func 143) #[] #[]], .pointer (some ⟨G, 0, none⟩), v] w (TellPost w W zs cs 0) := by
 obtain ⟨h0R, hlR, hcol⟩ := meetB_of hm
 have hR8 := h.rows
 have HK := Lib.hid (box_kept (w := w) (cs := #[.func (Fn.func 143) #[] #[]]) (t := 204) (Below.refl _ _))
 have P1 := read_yes _ G C R W zs cs v (h.kept HK.out.2) (hv.kept HK.out.2) hm
 obtain ⟨ao, cap, rfl, hcap, hcells⟩ := hv
 clear hcells hcol h
 obtain ⟨n, hlen⟩ : ∃ n, n = cs.length := ⟨_, rfl⟩
 unfold ReadPost at P1
 rw [← hlen] at hcap hlR
 simp only [← hlen] at P1 ⊢
 have HLEN := Lib.hid hlen
 have h0n : 0 < n := by omega
 have hn8 : n ≤ 8 := by omega
 clear hlen hlR
 go_enter Tryz.func144, Tryz.ntmps144
 go_wp2_with (go_at_call 134; refine P1.mono ?_; rintro e w2 ⟨g, rfl, hg, hrow, hb⟩; have HROW := Lib.hid hrow; have HB := Lib.hid (HK.out.2.trans (hb.mono HK.out.2.size)); have hbx := HK.out.1.kept hb; have hbc := hbx.cell 0; simp at hbc; clear hrow hb hbx)
 have hints : IntsAt w2 (.slice (some ⟨g, 0, none⟩) n n) (readZ W zs cs) := by have := IntsAt.of_row HROW.out; rw [HLEN.out] at this ⊢; exact this
 have hrl : (readZ W zs cs).length = n := by rw [readZ, List.length_map, List.length_range, HLEN.out]
 have P2 := min_any _ _ w2 hints (by omega) (by omega)
 have HRL := Lib.hid hrl
 clear hrl hints
 go_wp2_with (go_at_call 143; refine P2.mono ?_; rintro e w3 ⟨u, rfl, hu, hb⟩; have HU := Lib.hid hu; have HB3 := Lib.hid (btr HB.out hb); clear hu hb)
 go_ret2
 exact ⟨u, rfl, by have := HU.out; first | exact this | (rw [HRL.out] at this; exact this), HB3.out⟩
theorem least_yes (w : World) (G C R W : Nat) (zs cs : List Int) (v : Value) (h : GridIs w G C R W zs) (hv : IntsAt w v cs) (hm : meetB R W cs = true) :
    Calls Tryz.prog 135 #[.pointer (some ⟨G, 0, none⟩), v] w (TellPost w W zs cs 0) := by
  have P1 := of_least w G C R W zs cs v h hv hm
  obtain ⟨ao, cap, rfl, hcap, hcells⟩ := hv
  clear hcells h
  go_enter Tryz.func135, Tryz.ntmps135
  go_wp2_with (go_at_call 144; refine P1.mono ?_; rintro e w2 ⟨u, rfl, hu, hb⟩; have HP : Hid (TellPost w W zs cs 0 (.returned (.tuple #[.int .i64 u, .int .i64 0])) w2) := ⟨u, rfl, hu, hb⟩; clear hu hb)
  go_ret2
  exact HP.out
set_option maxRecDepth 100000 in
theorem of_middle (w : World) (G C R W : Nat) (zs cs : List Int) (v : Value) (h : GridIs w G C R W zs) (hv : IntsAt w v cs) (hm : meetB R W cs = true) :
  Calls Tryz.prog 144 #[.agg #[.func (Fn.func 145) #[] #[]], .pointer (some ⟨G, 0, none⟩), v] w (TellPost w W zs cs ((cs.length - 1) / 2)) := by
 obtain ⟨h0R, hlR, hcol⟩ := meetB_of hm
 have hR8 := h.rows
 have HK := Lib.hid (box_kept (w := w) (cs := #[.func (Fn.func 145) #[] #[]]) (t := 204) (Below.refl _ _))
 have P1 := read_yes _ G C R W zs cs v (h.kept HK.out.2) (hv.kept HK.out.2) hm
 obtain ⟨ao, cap, rfl, hcap, hcells⟩ := hv
 clear hcells hcol h
 obtain ⟨n, hlen⟩ : ∃ n, n = cs.length := ⟨_, rfl⟩
 unfold ReadPost at P1
 rw [← hlen] at hcap hlR
 simp only [← hlen] at P1 ⊢
 have HLEN := Lib.hid hlen
 have h0n : 0 < n := by omega
 have hn8 : n ≤ 8 := by omega
 clear hlen hlR
 go_enter Tryz.func144, Tryz.ntmps144
 go_wp2_with (go_at_call 134; refine P1.mono ?_; rintro e w2 ⟨g, rfl, hg, hrow, hb⟩; have HROW := Lib.hid hrow; have HB := Lib.hid (HK.out.2.trans (hb.mono HK.out.2.size)); have hbx := HK.out.1.kept hb; have hbc := hbx.cell 0; simp at hbc; clear hrow hb hbx)
 have hints : IntsAt w2 (.slice (some ⟨g, 0, none⟩) n n) (readZ W zs cs) := by have := IntsAt.of_row HROW.out; rw [HLEN.out] at this ⊢; exact this
 have hrl : (readZ W zs cs).length = n := by rw [readZ, List.length_map, List.length_range, HLEN.out]
 have P2 := median_any _ _ w2 hints (by omega) (by omega)
 have HRL := Lib.hid hrl
 clear hrl hints
 go_wp2_with (go_at_call 145; refine P2.mono ?_; rintro e w3 ⟨u, rfl, hu, hb⟩; have HU := Lib.hid hu; have HB3 := Lib.hid (btr HB.out hb); clear hu hb)
 go_ret2
 exact ⟨u, rfl, by have := HU.out; first | exact this | (rw [HRL.out] at this; exact this), HB3.out⟩
theorem middle_yes (w : World) (G C R W : Nat) (zs cs : List Int) (v : Value) (h : GridIs w G C R W zs) (hv : IntsAt w v cs) (hm : meetB R W cs = true) :
    Calls Tryz.prog 136 #[.pointer (some ⟨G, 0, none⟩), v] w (TellPost w W zs cs ((cs.length - 1) / 2)) := by
  have P1 := of_middle w G C R W zs cs v h hv hm
  obtain ⟨ao, cap, rfl, hcap, hcells⟩ := hv
  clear hcells h
  go_enter Tryz.func136, Tryz.ntmps136
  go_wp2_with (go_at_call 144; refine P1.mono ?_; rintro e w2 ⟨u, rfl, hu, hb⟩; have HP : Hid (TellPost w W zs cs ((cs.length - 1) / 2) (.returned (.tuple #[.int .i64 u, .int .i64 0])) w2) := ⟨u, rfl, hu, hb⟩; clear hu hb)
  go_ret2
  exact HP.out
end Go.Proofs.YthbkljeibmkimaaGreat


namespace Go.Proofs.YthbkljeibmkimaaGreat
open Go.RowKit
set_option linter.unusedVariables false
set_option linter.unusedSimpArgs false

def ColsAt (w : World) (v : Value) (cs : List Int) : Prop :=
  ∃ (ao : Option Addr) (cap : Nat), v = .slice ao cs.length cap ∧ cs.length ≤ cap ∧ cap ≤ maxLen ∧ (0 < cs.length → ∃ b off, ao = some ⟨b, off, none⟩ ∧ b < w.heap.size ∧ ∀ i u, cs[i]? = some u → w.cell? ⟨b, off + i, none⟩ = some (.int .i64 u))
theorem ColsAt.kept {w w' : World} {v : Value} {cs : List Int} (h : ColsAt w v cs) (hb : Below w.heap.size w w') : ColsAt w' v cs := by
  obtain ⟨ao, cap, e, hc, hm, h⟩ := h
  refine ⟨ao, cap, e, hc, hm, fun h0 => ?_⟩
  obtain ⟨b, off, e2, hg, hc⟩ := h h0
  exact ⟨b, off, e2, Nat.lt_of_lt_of_le hg hb.size, fun i u hu => (hb.cell (p := ⟨b, off + i, none⟩) hg).trans (hc i u hu)⟩
def RowI (w : World) (v : Value) (cs : List Int) : Prop :=
  ∃ (g cap : Nat) (cur : Array Value), v = .slice (some ⟨g, 0, none⟩) cs.length cap ∧ cs.length ≤ cap ∧ Blk w g 3 cur ∧ ∀ (i : Nat) (u : Int), cs[i]? = some u → cur[i]? = some (Value.int .i64 u)
theorem RowI.ints {w : World} {v : Value} {cs : List Int} (h : RowI w v cs) : IntsAt w v cs := by
  obtain ⟨g, cap, cur, rfl, hc, hb, hx⟩ := h
  exact ⟨_, _, rfl, hc, fun _ => ⟨g, rfl, hb.lt, fun i u hu => (hb.cell i).trans (hx i u hu)⟩⟩
theorem RowI.kept {w w' : World} {v : Value} {cs : List Int} (h : RowI w v cs) (hb : Below w.heap.size w w') : RowI w' v cs := by
  obtain ⟨g, cap, cur, rfl, hc, hg, hx⟩ := h
  exact ⟨g, cap, cur, rfl, hc, hg.kept hb, hx⟩
theorem RowI.grown {w w' : World} {v : Value} {cs : List Int} {row : Option Nat} (h : RowI w v cs) (hb : w.grownBy w' row) (hne : v.ownBlock ≠ row) : RowI w' v cs := by
  obtain ⟨g, cap, cur, rfl, hc, hg, hx⟩ := h
  exact ⟨g, cap, cur, rfl, hc, hg.grown hb hne, hx⟩
theorem RowI.far {w w' : World} {v : Value} {cs : List Int} {C : Nat} {t : TypeId} {cur : Array Value} (h : RowI w v cs) (hb : w.grownBy w' (some C)) (hC : Blk w C t cur) (ht : 3 ≠ t) : RowI w' v cs := by
  refine h.grown hb ?_
  obtain ⟨g, cap, cur', rfl, hc, hg, hx⟩ := h
  exact fun e => hg.ne_ hC ht (Option.some.inj e)
theorem RowI.own {w : World} {v : Value} {cs : List Int} (h : RowI w v cs) : ∃ k, v.ownBlock = some k ∧ k < w.heap.size := by
  obtain ⟨g, cap, cur, rfl, hc, hg, hx⟩ := h
  exact ⟨g, rfl, hg.lt⟩
theorem own_rowI {w : World} {base : Nat} {v : Value} {zs : List Int} (h : w.ownsRow base 3 1 v zs.length (zs.map (Value.int .i64))) (hv : v ≠ .slice none 0 0) : RowI w v zs := by
  rcases h.2 with ⟨rfl, h0⟩ | ⟨g, cap, cur, rfl, hb, hg, hnc, hcm, hsz, htake⟩
  · exact absurd rfl hv
  · refine ⟨g, cap, cur, rfl, hnc, hg, fun i u hu => ?_⟩
    have hi : i < zs.length := (List.getElem?_eq_some_iff.1 hu).1
    have h2 : (cur.toList.take (zs.length * 1))[i]? = (zs.map (Value.int .i64))[i]? := by rw [htake]
    rw [List.getElem?_take, if_pos (by omega)] at h2
    simp only [List.getElem?_map, hu, Option.map_some] at h2
    simpa using h2

end Go.Proofs.YthbkljeibmkimaaGreat


namespace Go.Proofs.YthbkljeibmkimaaGreat
open Go.RowKit
set_option linter.unusedVariables false
set_option linter.unusedSimpArgs false

theorem below_alloc1 (w : World) (o : Obj) : Below w.heap.size w (w.alloc o) := (Below.refl _ _).alloc (Nat.le_refl _) _
def riseV (W : Nat) (zs cs : List Int) (n : Int) (r : Nat) : Int := if cellD zs (r * W + colN cs r) < n then n else cellD zs (r * W + colN cs r)
def raiseZ (W : Nat) (zs cs : List Int) (n : Int) : List Int := setsZ W zs (colN cs) (riseV W zs cs n) cs.length
def RaisePost (w : World) (G C R W : Nat) (zs cs : List Int) (d : Int) (e : Ending) (w' : World) : Prop :=
  ∃ u, IsKth (readZ W zs cs) 0 u ∧ ((d < 0 ∧ e = .returned (.int .i64 3) ∧ Below w.heap.size w w') ∨ (0 ≤ d ∧ ¬ In64 (u + d) ∧ e = .returned (.int .i64 4) ∧ Below w.heap.size w w') ∨
    (0 ≤ d ∧ In64 (u + d) ∧ e = .returned (.int .i64 0) ∧ GridIs w' G C R W (raiseZ W zs cs (u + d)) ∧ w.grownBy w' (some C)))

theorem set_same {zs : List Int} {i : Nat} (h : i < zs.length) : zs.set i (cellD zs i) = zs := by
  apply List.ext_getElem?
  intro k
  rw [List.getElem?_set]
  by_cases e : i = k
  · subst e; simp [h, cellD]
  · rw [if_neg e]
def RisePost (w : World) (G C R W r c : Nat) (zs : List Int) (nn : Int) (e : Ending) (w' : World) : Prop :=
  (∃ v, e = .returned v) ∧ GridIs w' G C R W (zs.set (r * W + c) (if cellD zs (r * W + c) < nn then nn else cellD zs (r * W + c))) ∧ w.grownBy w' (some C)
set_option maxRecDepth 100000 in
set_option maxHeartbeats 4000000 in
theorem rise_any (w : World) (A NB G C R W r c : Nat) (zs : List Int) (nn : Int) (h : GridIs w G C R W zs) (hr : r < R) (hc : c < W) (hn : In64 nn) (hA : Blk w A 146 #[.pointer (some ⟨G, 0, none⟩)]) (hN : Blk w NB 2 #[.int .i64 nn]) :
  Calls Tryz.prog 146 #[.int .i64 (r : Int), .int .i64 (c : Int), .pointer (some ⟨A, 0, none⟩), .pointer (some ⟨NB, 0, none⟩)] w (RisePost w G C R W r c zs nn) := by
 obtain ⟨b1, b2, b3⟩ := placeBd hr hc h.rows h.width
 have hlen : r * W + c < zs.length := by rw [h.len]; omega
 have PA := Lib.hid (at_in (w.drewN 1) G C R W r c zs (h.drewN 1) hr hc)
 have PP := Lib.hid (put_in (w.drewN 1) G C R W r c nn zs (h.drewN 1) hr hc)
 have HG := Lib.hid (h.drewN 1)
 have HA := Lib.hid (hA.drewN 1)
 have HN := Lib.hid (hN.drewN 1)
 have HSAME := Lib.hid (set_same hlen)
 have hgr0 : Hid (w.grownBy (w.drewN 1) (some C)) := Lib.hid (below_grown (below_drewN (Below.refl _ _) 1))
 have a0 := (hA.drewN 1).cell 0
 have n0 := (hN.drewN 1).cell 0
 simp at a0 n0
 unfold RisePost
 clear hlen h b1 b2 b3 hA hN
 generalize cellD zs (r * W + c) = x at *
 go_enter Tryz.func146, Tryz.ntmps146
 go_wp2_with fail
 refine wp_region_held_drew (S := fun w' => Blk w' A 146 #[.pointer (some ⟨G, 0, none⟩)] ∧ Blk w' NB 2 #[.int .i64 nn]) (by kernel_rfl) (by exact ⟨HA.out, HN.out⟩) (fun hHeld => ?_)
 refine tkH (i := 0) (v := ?_) rfl (by kernel_rfl) (fun _ _ _ h => h) (Or.inl ⟨by rfl, ?_⟩) (by assumption) ?_
 rotate_left
 ·intro w hSw
  have c1 := hSw.1.cell 0
  have c2 := hSw.2.cell 0
  simp at c1 c2
  go_simp
  try with_reducible rfl
 simp only [Act.put, z1, z2, z3, z4, z5, z6]
 refine tkH (i := 1) (v := ?_) rfl (by kernel_rfl) (fun _ _ _ h => h) (Or.inl ⟨by rfl, ?_⟩) (by assumption) ?_
 rotate_left
 ·intro w hSw
  try dsimp only at hSw
  go_simp
  try with_reducible rfl
 simp only [Act.put, z1, z2, z3, z4, z5, z6]
 refine tkH (i := 2) (v := ?_) rfl (by kernel_rfl) (fun _ _ _ h => h) (Or.inl ⟨by rfl, ?_⟩) (by assumption) ?_
 rotate_left
 ·intro w hSw
  try dsimp only at hSw
  go_simp
  try with_reducible rfl
 simp only [Act.put, z1, z2, z3, z4, z5, z6]
 refine tkH (i := 4) (v := ?_) rfl (by kernel_rfl) (fun _ _ _ h => h) (Or.inl ⟨by rfl, ?_⟩) (by assumption) ?_
 rotate_left
 ·intro w hSw
  have c1 := hSw.1.cell 0
  have c2 := hSw.2.cell 0
  simp at c1 c2
  go_simp
  try with_reducible rfl
 simp only [Act.put, z1, z2, z3, z4, z5, z6]
 refine wpAnyH_ready (rs := [3]) (by kernel_rfl) (by simp) ?_
 refine AllReadyH.cons rfl (fun Kc hKc => ?_) AllReadyH.nil
 go_simp
 go_wp2_with (go_at_call 122; refine PA.out.mono ?_; rintro e w' ⟨rfl, hw'⟩; subst hw')
 refine hKc.out _ _ ?_ (fun hHeld => ?_)
 ·assumption
 clear hKc Kc
 refine tkH (i := 5) (v := ?_) rfl (by kernel_rfl) (fun _ _ _ h => h) (Or.inl ⟨by rfl, ?_⟩) (by assumption) ?_
 rotate_left
 ·intro w hSw
  try dsimp only at hSw
  go_simp
  try with_reducible rfl
 simp only [Act.put, z1, z2, z3, z4, z5, z6]
 refine wpAnyH_done (by kernel_rfl) ?_ _
 clear hHeld
 by_cases hlt : x < nn
 ·have e1 : decide (x < nn) = true := decide_eq_true hlt
  have a1 : w.drew.cell? ⟨A, 0, none⟩ = some (.pointer (some ⟨G, 0, none⟩)) := a0
  have n1 : w.drew.cell? ⟨NB, 0, none⟩ = some (.int .i64 nn) := n0
  go_wp2_with fail
  refine PP.out.mono ?_; rintro e w' ⟨rfl, hw'⟩
  have HW := Lib.hid hw'
  clear hw'
  go_wp2
  (try simp only [Exit.inBlock, Exit.then])
  refine bodyPost_end (results_none rfl _ _ _) rfl ?_
  refine ⟨⟨_, rfl⟩, ?_, ?_⟩
  ·rw [HW.out]; first | exact HG.out.set _ _ hn.1 hn.2 | (rw [if_pos (by omega)]; exact HG.out.set _ _ hn.1 hn.2)
  ·rw [HW.out]; exact grown_trans hgr0.out (grown_set _ _ _ _)
 ·have e1 : decide (x < nn) = false := decide_eq_false hlt
  go_wp2
  (try simp only [Exit.inBlock, Exit.then])
  refine bodyPost_end (results_none rfl _ _ _) rfl ?_
  exact ⟨⟨_, rfl⟩, by first | (rw [HSAME.out]; exact HG.out) | (rw [if_neg (by omega), HSAME.out]; exact HG.out), hgr0.out⟩

set_option maxRecDepth 100000 in
set_option maxHeartbeats 4000000 in
theorem raise_yes (w : World) (G C R W : Nat) (zs cs : List Int) (d : Int) (v : Value) (h : GridIs w G C R W zs) (hv : IntsAt w v cs) (hm : meetB R W cs = true) (hd : In64 d) (hvc : v.ownBlock ≠ some C) :
  Calls Tryz.prog 137 #[.pointer (some ⟨G, 0, none⟩), v, .int .i64 d] w (RaisePost w G C R W zs cs d) := by
 have hR8 := h.rows
 have hfit := h.fit
 obtain ⟨h0R, hlR, hcol⟩ := meetB_of hm
 have HK := Lib.hid (box_kept (w := w) (cs := #[.pointer (some ⟨G, 0, none⟩)]) (t := 146) (Below.refl _ _))
 have P1 := least_yes _ G C R W zs cs v (h.kept HK.out.2) (hv.kept HK.out.2) hm
 unfold TellPost at P1
 have HG := Lib.hid h
 have HCOL := Lib.hid hcol
 have HFIT := Lib.hid hfit
 have HV := Lib.hid hv
 clear h hcol hm hfit
 obtain ⟨ao, cap, rfl, hcap, hcells⟩ := hv
 obtain ⟨g, rfl, hg, hc⟩ := hcells (by omega)
 have HC := Lib.hid hc
 have hgC : g ≠ C := fun e => hvc (by simp [Value.ownBlock, e])
 clear hcells hc hvc
 obtain ⟨n, hlen⟩ : ∃ n, n = cs.length := ⟨_, rfl⟩
 rw [← hlen] at hcap P1 ⊢
 have HLEN := Lib.hid hlen
 have hn8 : n ≤ 8 := by omega
 have hnR : Hid (n = R) := by show _ = _; omega
 clear hlen hlR
 have hbx := HK.out.1
 have q0 := hbx.cell 0
 simp at q0
 go_enter Tryz.func137, Tryz.ntmps137
 go_wp2_with fail
 refine P1.mono ?_; clear P1; rintro e w2 ⟨u, rfl, hu, hb⟩
 have HU := Lib.hid hu
 have HX2 := Lib.hid (hbx.kept hb)
 have HB2 := Lib.hid (HK.out.2.trans (hb.mono HK.out.2.size))
 have hu64 : In64 u := by
  have := (kth_zero hu).1
  simp only [readZ, List.mem_map] at this
  obtain ⟨r, _, rfl⟩ := this
  exact cell_fit HFIT.out _
 clear hu hb q0
 by_cases hneg : d < 0
 ·have e1 : decide (d < 0) = true := decide_eq_true hneg
  go_wp2
  go_ret
  exact ⟨u, HU.out, .inl ⟨hneg, rfl, HB2.out⟩⟩
 ·have e1 : decide (d < 0) = false := decide_eq_false hneg
  by_cases hs64 : In64 (u + d)
  ·have P2 := (opok_plus u d w2 hu64 hd).1 hs64
   unfold TwoPost at P2
   go_wp2_with fail
   refine P2.mono ?_; clear P2; rintro e w3 ⟨rfl, hb⟩
   have HX3 := Lib.hid (HX2.out.kept hb)
   have HB3 := Lib.hid (btr HB2.out hb)
   have hA3 := HX3.out.lt
   clear hb
   go_wp2_with fail
   obtain ⟨nn, hnn⟩ : ∃ nn, nn = u + d := ⟨_, rfl⟩
   rw [← hnn]
   have hn64 : In64 nn := by rw [hnn]; exact hs64
   have HNN := Lib.hid hnn
   have hnb := Blk.new w3 2 #[.int .i64 nn]
   have HX4 := Lib.hid (HX3.out.alloc (.cells #[.int .i64 nn] 2))
   have hb4 : Below w.heap.size w (w3.alloc (.cells #[.int .i64 nn] 2)) := btr HB3.out (below_alloc1 _ _)
   have HG4 := Lib.hid (HG.out.kept hb4)
   have HGR4 := Lib.hid (below_grown (row := some C) hb4)
   have HNB := Lib.hid hnb
   have hne1 : w3.heap.size ≠ C := by have := HG.out.ltC; have := HB3.out.size; omega
   have hne2 : w.heap.size ≠ C := by have := HG.out.ltC; omega
   clear hnn hs64 hnb hb4
   generalize (w3.alloc (.cells #[.int .i64 nn] 2)) = w5 at *
   generalize hNB : w3.heap.size = NB at *
   clear hNB
   go_loopw [36] (fun i wr => ∃ j : Nat, j ≤ n ∧ i = .int .i64 (j : Int) ∧ GridIs wr G C R W (setsZ W zs (colN cs) (riseV W zs cs nn) j) ∧ Blk wr w.heap.size 146 #[.pointer (some ⟨G, 0, none⟩)] ∧ Blk wr NB 2 #[.int .i64 nn] ∧ w.grownBy wr (some C)) (fun i _ => n - (intOf i).toNat)
   case atStart => exact ⟨0, by omega, rfl, HG4.out, HX4.out, HNB.out, HGR4.out⟩
   case round =>
    obtain ⟨j, hj, rfl, hg', hx', hnb', hgr'⟩ := hrel
    clear HG4 HX4 HNB HGR4
    have HG5 := Lib.hid hg'
    have HX5 := Lib.hid hx'
    have HN5 := Lib.hid hnb'
    have HGR := Lib.hid hgr'
    by_cases hlt : j < n
    ·obtain ⟨hcj, hcw⟩ := HCOL.out j (by have := hnR.out; omega)
     have cx := hgr'.cell (HC.out j _ hcj) (by simpa using hgC)
     have i0 : (0 : Int) ≤ (j : Int) := by omega
     have i1 : (j : Int) < (n : Int) := by omega
     have PR := Lib.hid (rise_any wr w.heap.size NB G C R W j (colN cs j) _ nn hg' (by have := hnR.out; omega) hcw hn64 hx' hnb')
     have HST : Hid ((setsZ W zs (colN cs) (riseV W zs cs nn) j).set (j * W + colN cs j) (if cellD (setsZ W zs (colN cs) (riseV W zs cs nn) j) (j * W + colN cs j) < nn then nn else cellD (setsZ W zs (colN cs) (riseV W zs cs nn) j) (j * W + colN cs j)) = setsZ W zs (colN cs) (riseV W zs cs nn) (j + 1)) := Lib.hid (by
      have e := setsZ_get (cf := colN cs) (vf := riseV W zs cs nn) HG.out.len (fun r hr => (HCOL.out r hr).2) j (by have := hnR.out; omega) j (colN cs j) (by have := hnR.out; omega) hcw
      rw [if_neg (by omega)] at e
      rw [e]; rfl)
     unfold RisePost at PR
     clear hg' hx' hnb' hgr' hcj hcw
     rw [HST.out] at PR
     generalize hy : colN cs j = y at *
     clear hy HST
     go_wp2_with fail
     refine PR.out.mono ?_; rintro e w6 ⟨⟨v, rfl⟩, hg6, hgr6⟩
     have HG6 := Lib.hid hg6
     have HX6 := Lib.hid (HX5.out.grown hgr6 (by simpa using hne2))
     have HN6 := Lib.hid (HN5.out.grown hgr6 (by simpa using hne1))
     have HGR6 := Lib.hid (grown_trans HGR.out hgr6)
     clear hg6 hgr6
     go_wp2
     go_roundw
     case rel => exact ⟨j + 1, by omega, by go_num, HG6.out, HX6.out, HN6.out, HGR6.out⟩
     case measure => simp [intOf]; omega
    ·obtain rfl : j = n := by omega
     have HP : Hid (RaisePost w G C R W zs cs d (.returned (.int .i64 0)) wr) := ⟨u, HU.out, .inr (.inr ⟨by omega, by rw [← HNN.out]; exact hn64, rfl, by rw [← HNN.out, raiseZ, ← HLEN.out]; exact HG5.out, HGR.out⟩)⟩
     clear hg' hx' hnb' hgr'
     go_wp2
     go_ret
     exact HP.out
  ·have P2 := (opok_plus u d w2 hu64 hd).2 hs64
   unfold TwoPost at P2
   go_wp2_with fail
   refine P2.mono ?_; clear P2; rintro e w3 ⟨rfl, hb⟩
   have HB3 := Lib.hid (btr HB2.out hb)
   have HB4 : Hid (Below w.heap.size w (w3.alloc (.cells #[.int .i64 0] 2))) := Lib.hid (btr HB3.out (below_alloc1 _ _))
   clear hb
   go_wp2
   go_ret
   exact ⟨u, HU.out, .inr (.inl ⟨by omega, hs64, rfl, HB4.out⟩)⟩
end Go.Proofs.YthbkljeibmkimaaGreat


namespace Go.Proofs.YthbkljeibmkimaaGreat
open Go.RowKit
set_option linter.unusedVariables false
set_option linter.unusedSimpArgs false

def rowZ (zs : List Int) (W r : Nat) : List Int := (zs.drop (r * W)).take W
theorem rowZ_len {zs : List Int} {R W r : Nat} (h : zs.length = R * W) (hr : r < R) : (rowZ zs W r).length = W := by
  have h1 : (r + 1) * W ≤ R * W := Nat.mul_le_mul_right W hr
  rw [Nat.add_mul] at h1
  simp [rowZ]; omega
theorem rowZ_get {zs : List Int} {W r c : Nat} (hc : c < W) : (rowZ zs W r)[c]? = zs[r * W + c]? := by
  simp [rowZ, List.getElem?_take, hc, List.getElem?_drop]
theorem RefIs.below {w w' : World} {N G : Nat} {v : Value} {B K : Nat → Nat} {R W : Nat} {zs : List Int} {M : Nat} (h : RefIs w N G v B K R W zs) (hb : Below M w w') (hM : w.heap.size ≤ M) : RefIs w' N G v B K R W zs := h.kept (hb.mono hM)

theorem RefIs.look {w : World} {N G L vcap : Nat} {B K : Nat → Nat} {R W r c : Nat} {zs : List Int} (h : RefIs w N G (.slice (some ⟨L, 0, none⟩) R vcap) B K R W zs) (hr : r < R) (hc : c < W) :
    w.cell? ⟨G, 0, none⟩ = some (.slice (some ⟨L, 0, none⟩) R vcap) ∧ w.cell? ⟨L, r, none⟩ = some (.slice (some ⟨B r, 0, none⟩) W (K r)) ∧ w.cell? ⟨B r, c, none⟩ = some (.int .i64 (cellD zs (r * W + c))) ∧ w.frozen? ⟨B r, c, none⟩ = false := by
  obtain ⟨b1, -, -⟩ := placeBd hr hc h.rows h.width
  obtain ⟨ao, cap, e, _, hao⟩ := h.openG
  simp only [Value.slice.injEq] at e
  obtain ⟨rfl, -, rfl⟩ := e
  obtain ⟨L', cur, e, -, hL, hcur⟩ := hao (by omega)
  simp only [Option.some.injEq, Addr.mk.injEq, and_true] at e
  subst e
  obtain ⟨curB, hB, hcurB⟩ := h.cells r hr
  have hz : zs[r * W + c]? = some (cellD zs (r * W + c)) := by
    have : r * W + c < zs.length := by rw [h.len]; omega
    simp [cellD, this]
  exact ⟨h.box.cell 0, (hL.cell r).trans (hcur r hr), (hB.cell c).trans (hcurB c _ hc hz), hB.frozen c⟩
theorem RefIs.lookR {w : World} {N G L vcap : Nat} {B K : Nat → Nat} {R W r : Nat} {zs : List Int} (h : RefIs w N G (.slice (some ⟨L, 0, none⟩) R vcap) B K R W zs) (hr : r < R) :
    w.cell? ⟨G, 0, none⟩ = some (.slice (some ⟨L, 0, none⟩) R vcap) ∧ w.cell? ⟨L, r, none⟩ = some (.slice (some ⟨B r, 0, none⟩) W (K r)) := by
  obtain ⟨ao, cap, e, _, hao⟩ := h.openG
  simp only [Value.slice.injEq] at e
  obtain ⟨rfl, -, rfl⟩ := e
  obtain ⟨L', cur, e, -, hL, hcur⟩ := hao (by omega)
  simp only [Option.some.injEq, Addr.mk.injEq, and_true] at e
  subst e
  exact ⟨h.box.cell 0, (hL.cell r).trans (hcur r hr)⟩
theorem RefIs.openL {w : World} {N G : Nat} {v : Value} {B K : Nat → Nat} {R W : Nat} {zs : List Int} (h : RefIs w N G v B K R W zs) (hR : 0 < R) : ∃ L vcap, v = .slice (some ⟨L, 0, none⟩) R vcap := by
  obtain ⟨ao, cap, e, _, hao⟩ := h.openG
  obtain ⟨L, cur, rfl, -⟩ := hao hR
  exact ⟨L, cap, e⟩

set_option maxRecDepth 100000 in
set_option maxHeartbeats 4000000 in
theorem rmeet_any (w : World) (N G : Nat) (v : Value) (B K : Nat → Nat) (R W : Nat) (zs cs : List Int) (vc : Value) (h : RefIs w N G v B K R W zs) (hv : IntsAt w vc cs) (hl : cs.length ≤ 100000) :
  Calls Tryz.prog 79 #[.pointer (some ⟨G, 0, none⟩), vc] w fun e w' => e = .returned (.bool (meetB R W cs)) ∧ Below w.heap.size w w' := by
 have hR8 := h.rows
 have hW8 := h.width
 have HV := Lib.hid hv
 obtain ⟨ao, cap, rfl, hcap, hcells⟩ := hv
 have HC := Lib.hid hcells
 clear hcells
 obtain ⟨n, hlen⟩ : ∃ n, n = cs.length := ⟨_, rfl⟩
 rw [← hlen] at hcap hl HC ⊢
 have HLEN := Lib.hid hlen
 by_cases hR : R = 0
 ·have HM : Hid (meetB R W cs = false) := Lib.hid (by rw [hR]; exact meetB_zero)
  obtain ⟨ao', cap', rfl, _, _⟩ := h.openG
  have c0 := h.box.cell 0
  simp at c0
  have d0 : decide ((R : Int) = 0) = true := decide_eq_true (by omega)
  have d1 : ((R : Int) == 0) = true := by simp [hR]
  have d2 : (R == 0) = true := by simp [hR]
  have d3 : decide (R = 0) = true := by simp [hR]
  clear hR h HC hlen
  go_enter Tryz.func79, Tryz.ntmps79
  go_wp2
  go_ret
  exact ⟨ret_boolq HM.out.symm, Below.refl _ _⟩
 have h0R : 0 < R := by omega
 obtain ⟨L, vcap, rfl⟩ := h.openL h0R
 have c0 := h.box.cell 0
 simp at c0
 have d0 : decide ((R : Int) = 0) = false := decide_eq_false (by omega)
 have d1 : ((R : Int) == 0) = false := by simp [hR]
 have d2 : (R == 0) = false := by simp [hR]
 have d3 : decide (R = 0) = false := by simp [hR]
 by_cases hn : n = R
 ·have HN := Lib.hid hn
  have d4 : ((n : Int) != (R : Int)) = false := by simp [hn]
  have d4' : (n != R) = false := by simp [hn]
  have HG := Lib.hid h
  have hn8 : n ≤ 8 := by omega
  clear hn hR h hlen
  go_enter Tryz.func79, Tryz.ntmps79
  go_wp2_with fail
  go_loopw [5] (fun i wr => ∃ j : Nat, j ≤ n ∧ i = .int .i64 (j : Int) ∧ (∀ k c, k < j → cs[k]? = some c → 0 ≤ c ∧ c < (W : Int)) ∧ Below w.heap.size w wr) (fun i _ => n - (intOf i).toNat)
  case atStart => exact ⟨0, by omega, rfl, fun k c hk => by omega, Below.refl _ _⟩
  case round =>
   obtain ⟨j, hj, rfl, hok, hbel⟩ := hrel
   have HOK := Lib.hid hok
   have HB := Lib.hid hbel
   clear hok hbel c0
   by_cases hlt : j < n
   ·obtain ⟨g, rfl, hg, hc⟩ := HC.out (by have := HLEN.out; omega)
    have hcj : cs[j]? = some (cellD cs j) := by
     have : j < cs.length := by have := HLEN.out; omega
     simp [cellD, this]
    have cx := (HB.out.cell (p := ⟨g, j, none⟩) hg).trans (hc j _ hcj)
    have hjR : j < R := by have := HN.out; omega
    obtain ⟨l0, l1⟩ := (HG.out.kept HB.out).lookR hjR
    have HCJ := Lib.hid hcj
    clear hc hcj
    generalize cellD cs j = x at *
    generalize B j = Bj at *
    generalize K j = Kj at *
    have i0 : (0 : Int) ≤ (j : Int) := by omega
    have i1 : (j : Int) < (n : Int) := by omega
    have i2 : (j : Int) < (R : Int) := by omega
    have HBD := Lib.hid (fun k => below_drewN HB.out k)
    by_cases h1 : x < 0
    ·have HM : Hid (meetB R W cs = false) := Lib.hid (meetB_bad HCJ.out (.inl h1))
     have e1 : decide (x < 0) = true := decide_eq_true h1
     clear h1
     go_wp2_with fail
     go_quiet (fail)
     go_wp2
     go_ret
     exact ⟨ret_boolq HM.out.symm, HBD.out _⟩
    by_cases h2 : (W : Int) ≤ x
    ·have HM : Hid (meetB R W cs = false) := Lib.hid (meetB_bad HCJ.out (.inr h2))
     have e1 : decide (x < 0) = false := decide_eq_false h1
     have e2 : decide ((W : Int) ≤ x) = true := decide_eq_true h2
     clear h1 h2
     go_wp2_with fail
     go_quiet (fail)
     go_wp2
     go_ret
     exact ⟨ret_boolq HM.out.symm, HBD.out _⟩
    have HX : Hid (∀ k c, k < j + 1 → cs[k]? = some c → 0 ≤ c ∧ c < (W : Int)) := Lib.hid (fun k c hk hc => by
     by_cases e : k = j
     ·subst e; rw [HCJ.out] at hc; have := Option.some.inj hc; omega
     ·exact HOK.out k c (by omega) hc)
    have e1 : decide (x < 0) = false := decide_eq_false h1
    have e2 : decide ((W : Int) ≤ x) = false := decide_eq_false h2
    clear h1 h2
    go_wp2_with fail
    go_quiet (fail)
    go_wp2
    go_roundw
    case rel => exact ⟨j + 1, by omega, by go_num, HX.out, HBD.out _⟩
    case measure => simp [intOf]; omega
   ·obtain rfl : j = n := by omega
    have HM : Hid (meetB R W cs = true) := Lib.hid (meetB_all h0R (by rw [← HLEN.out, HN.out]) (fun k c hc => HOK.out k c (by
     have := (List.getElem?_eq_some_iff.1 hc).1
     have := HLEN.out
     omega) hc))
    go_wp2
    go_ret
    exact ⟨ret_boolq HM.out.symm, HB.out⟩
 ·have HM : Hid (meetB R W cs = false) := Lib.hid (meetB_len (by have := HLEN.out; omega))
  have d4 : ((n : Int) != (R : Int)) = true := by simp; omega
  have d4' : (n != R) = true := by simp; omega
  clear hn hR h hlen
  go_enter Tryz.func79, Tryz.ntmps79
  go_wp2
  go_ret
  exact ⟨ret_boolq HM.out.symm, Below.refl _ _⟩
end Go.Proofs.YthbkljeibmkimaaGreat


namespace Go.Proofs.YthbkljeibmkimaaGreat
open Go.RowKit
set_option linter.unusedVariables false
set_option linter.unusedSimpArgs false


def RReadPost (w : World) (W : Nat) (zs cs : List Int) (e : Ending) (w' : World) : Prop :=
  ∃ g cap, e = .returned (.tuple #[.slice (some ⟨g, 0, none⟩) cs.length cap, .int .i64 0]) ∧ w.heap.size ≤ g ∧ IntsAt w' (.slice (some ⟨g, 0, none⟩) cs.length cap) (readZ W zs cs) ∧ Below w.heap.size w w'
set_option maxRecDepth 100000 in
set_option maxHeartbeats 4000000 in
theorem rread_yes (w : World) (N G : Nat) (v : Value) (B K : Nat → Nat) (R W : Nat) (zs cs : List Int) (vc : Value) (h : RefIs w N G v B K R W zs) (hv : IntsAt w vc cs) (hm : meetB R W cs = true) :
  Calls Tryz.prog 84 #[.pointer (some ⟨G, 0, none⟩), vc] w (RReadPost w W zs cs) := by
 obtain ⟨h0R, hlR, hcol⟩ := meetB_of hm
 have hR8 := h.rows
 obtain ⟨L, vcap, rfl⟩ := h.openL h0R
 have hal : Below w.heap.size w (w.alloc (.cells #[] 2)) := (Below.refl _ _).alloc (Nat.le_refl _) _
 have P1 := rmeet_any _ N G _ B K R W zs cs vc (h.kept hal) (hv.kept hal) (by omega)
 rw [hm] at P1
 have HG0 := Lib.hid h
 have HV1 := Lib.hid (hv.kept hal)
 have HCOL := Lib.hid hcol
 obtain ⟨ao, cap, rfl, hcap, hcells⟩ := hv
 obtain ⟨g, rfl, hg, hc⟩ := hcells (by omega)
 have HC := Lib.hid hc
 clear hcells hc hcol hm h
 obtain ⟨n, hlen⟩ : ∃ n, n = cs.length := ⟨_, rfl⟩
 unfold RReadPost readZ
 rw [← hlen] at hcap P1 HV1
 simp only [← hlen]
 have hn8 : n ≤ 8 := by omega
 have HNR : Hid (n = R) := Lib.hid (by omega)
 clear hlen hlR
 obtain ⟨f, hf⟩ : ∃ f : Nat → Int, f = fun r => cellD zs (r * W + colN cs r) := ⟨_, rfl⟩
 rw [← hf]
 have HF := Lib.hid hf
 have hown0 := World.ownsRow_lit (base := w.heap.size) (e := 2) (size := 1) w #[] 0 (by simp) (by unfold maxLen; omega) (by simp)
 have HO1 := Lib.hid hown0
 have HB1 := Lib.hid hal
 have P1 := Lib.hid P1
 obtain ⟨i0, hi, hz0, hz1, hz2⟩ := info_parts Tryz.info64
 clear hf hown0 hal
 go_enter Tryz.func84, Tryz.ntmps84
 go_wp2_with fail
 with_reducible refine P1.out.mono ?_
 rintro e w2 ⟨rfl, hb⟩
 have HO2 := Lib.hid (HO1.out.kept (below_grown (row := none) hb) (by simp [Value.ownBlock]))
 have HB2 := Lib.hid (btr HB1.out hb)
 have hs2 : w.heap.size ≤ w2.heap.size := HB2.out.size
 clear hb P1 HV1 HO1 HB1
 go_wp2_with fail
 go_loopw [6, 7] (fun x i wr => ∃ j : Nat, j ≤ n ∧ i = .int .i64 (j : Int) ∧ x ≠ .slice none 0 0 ∧ wr.ownsRow w.heap.size 2 1 x j (((List.range j).map f).map (Value.int .i64)) ∧ Below w.heap.size w wr) (fun _ i _ => n - (intOf i).toNat)
 case atStart => exact ⟨0, by omega, rfl, by simp, by simpa using HO2.out, HB2.out⟩
 case round =>
  obtain ⟨j, hj, rfl, hnil, hown, hbel⟩ := hrel
  clear HO2 HB2
  have HB := Lib.hid hbel
  have HO := Lib.hid hown
  have HNIL := Lib.hid hnil
  have hszr : w.heap.size ≤ wr.heap.size := hbel.size
  by_cases hlt : j < n
  ·have hjR : j < R := by have := HNR.out; omega
   obtain ⟨hcj, hcw⟩ := HCOL.out j hjR
   obtain ⟨l0, l1, l2, -⟩ := HG0.out.look hjR hcw
   have cx := HC.out j _ hcj
   have HN : Hid (((List.range (j + 1)).map f).map (Value.int .i64) = ((List.range j).map f).map (Value.int .i64) ++ [.int .i64 (f j)]) := Lib.hid (by rw [List.range_succ]; simp)
   have HFJ : Hid (cellD zs (j * W + colN cs j) = f j) := Lib.hid (by rw [HF.out])
   rw [HFJ.out] at l2
   have hmx1 : j + 1 ≤ maxLen := by unfold maxLen; omega
   clear hown hnil hbel hcj
   generalize hy : colN cs j = y at *
   have HY := Lib.hid hy
   clear hy
   generalize B j = Bj at *
   generalize K j = Kj at *
   generalize hfj : f j = fj at *
   have d1 : (0 : Int) ≤ (j : Int) := by omega
   have d2 : (j : Int) < (n : Int) := by omega
   have d3 : (j : Int) < (R : Int) := by omega
   have d4 : (0 : Int) ≤ (y : Int) := by omega
   have d5 : (y : Int) < (W : Int) := by omega
   have L0 := Lib.hid l0
   have L1 := Lib.hid l1
   have L2 := Lib.hid l2
   have CX := Lib.hid cx
   clear l0 l1 l2 cx hfj
   go_wp2_with fail
   refine wp_region_held_drew (S := fun w' => Below w.heap.size w w') (by kernel_rfl) (by exact below_drewN HB.out 1) (fun hHeld => ?_)
   refine tkH (i := 0) (v := ?_) rfl (by kernel_rfl) (fun _ _ _ h => h) (Or.inl ⟨by rfl, ?_⟩) (by assumption) ?_
   rotate_left
   ·intro w hSw
    try dsimp only at hSw
    go_simp
    try with_reducible rfl
   simp only [Act.put, z1, z2, z3, z4, z5, z6]
   refine tkH (i := 1) (v := ?_) rfl (by kernel_rfl) (fun _ _ _ h => h) (Or.inl ⟨by rfl, ?_⟩) (by assumption) ?_
   rotate_left
   ·intro w hSw
    try dsimp only at hSw
    go_simp
    try with_reducible rfl
   simp only [Act.put, z1, z2, z3, z4, z5, z6]
   refine tkH (i := 2) (v := ?_) rfl (by kernel_rfl) (fun _ _ _ h => h) (Or.inl ⟨by rfl, ?_⟩) (by assumption) ?_
   rotate_left
   ·intro w hSw
    try dsimp only at hSw
    go_simp
    try with_reducible rfl
   simp only [Act.put, z1, z2, z3, z4, z5, z6]
   refine tkH (i := 3) (v := ?_) rfl (by kernel_rfl) (fun _ _ _ h => h) (Or.inl ⟨by rfl, ?_⟩) (by assumption) ?_
   rotate_left
   ·intro w hSw
    try dsimp only at hSw
    go_simp
    try with_reducible rfl
   simp only [Act.put, z1, z2, z3, z4, z5, z6]
   refine tkH (i := 4) (v := ?_) rfl (by kernel_rfl) (fun _ _ _ h => h) (Or.inl ⟨by rfl, ?_⟩) (by assumption) ?_
   rotate_left
   ·intro w hSw
    have q0 := (hSw.cell (p := ⟨G, 0, none⟩) (cell_block L0.out)).trans L0.out
    have q1 := (hSw.cell (p := ⟨L, j, none⟩) (cell_block L1.out)).trans L1.out
    have q2 := (hSw.cell (p := ⟨Bj, y, none⟩) (cell_block L2.out)).trans L2.out
    have q3 := (hSw.cell (p := ⟨g, j, none⟩) (cell_block CX.out)).trans CX.out
    go_simp
    try with_reducible rfl
   simp only [Act.put, z1, z2, z3, z4, z5, z6]
   refine tkH (i := 5) (v := ?_) rfl (by kernel_rfl) (fun _ _ _ h => h) (Or.inl ⟨by rfl, ?_⟩) (by assumption) ?_
   rotate_left
   ·intro w hSw
    try dsimp only at hSw
    go_simp
    try with_reducible rfl
   simp only [Act.put, z1, z2, z3, z4, z5, z6]
   refine tkH (i := 6) (v := ?_) rfl (by kernel_rfl) (fun _ _ _ h => h) (Or.inl ⟨by rfl, ?_⟩) (by assumption) ?_
   rotate_left
   ·intro w hSw
    try dsimp only at hSw
    go_simp
    try with_reducible rfl
   simp only [Act.put, z1, z2, z3, z4, z5, z6]
   refine tkH (i := 7) (v := ?_) rfl (by kernel_rfl) (fun _ _ _ h => h) (Or.inl ⟨by rfl, ?_⟩) (by assumption) ?_
   rotate_left
   ·intro w hSw
    have q0 := (hSw.cell (p := ⟨G, 0, none⟩) (cell_block L0.out)).trans L0.out
    have q1 := (hSw.cell (p := ⟨L, j, none⟩) (cell_block L1.out)).trans L1.out
    have q2 := (hSw.cell (p := ⟨Bj, y, none⟩) (cell_block L2.out)).trans L2.out
    have q3 := (hSw.cell (p := ⟨g, j, none⟩) (cell_block CX.out)).trans CX.out
    go_simp
    try with_reducible rfl
   simp only [Act.put, z1, z2, z3, z4, z5, z6]
   refine tkH (i := 8) (v := ?_) rfl (by kernel_rfl) (fun _ _ _ h => h) (Or.inl ⟨by rfl, ?_⟩) (by assumption) ?_
   rotate_left
   ·intro w hSw
    try dsimp only at hSw
    go_simp
    try with_reducible rfl
   simp only [Act.put, z1, z2, z3, z4, z5, z6]
   refine tkH (i := 9) (v := ?_) rfl (by kernel_rfl) (fun _ _ _ h => h) (Or.inl ⟨by rfl, ?_⟩) (by assumption) ?_
   rotate_left
   ·intro w hSw
    try dsimp only at hSw
    go_simp
    try with_reducible rfl
   simp only [Act.put, z1, z2, z3, z4, z5, z6]
   refine tkH (i := 10) (v := ?_) rfl (by kernel_rfl) (fun _ _ _ h => h) (Or.inl ⟨by rfl, ?_⟩) (by assumption) ?_
   rotate_left
   ·intro w hSw
    try dsimp only at hSw
    go_simp
    try with_reducible rfl
   simp only [Act.put, z1, z2, z3, z4, z5, z6]
   refine tkH (i := 11) (v := ?_) rfl (by kernel_rfl) (fun _ _ _ h => h) (Or.inl ⟨by rfl, ?_⟩) (by assumption) ?_
   rotate_left
   ·intro w hSw
    have q0 := (hSw.cell (p := ⟨G, 0, none⟩) (cell_block L0.out)).trans L0.out
    have q1 := (hSw.cell (p := ⟨L, j, none⟩) (cell_block L1.out)).trans L1.out
    have q2 := (hSw.cell (p := ⟨Bj, y, none⟩) (cell_block L2.out)).trans L2.out
    have q3 := (hSw.cell (p := ⟨g, j, none⟩) (cell_block CX.out)).trans CX.out
    go_simp
    try with_reducible rfl
   simp only [Act.put, z1, z2, z3, z4, z5, z6]
   refine tkH (i := 12) (v := ?_) rfl (by kernel_rfl) (fun _ _ _ h => h) (Or.inl ⟨by rfl, ?_⟩) (by assumption) ?_
   rotate_left
   ·intro w hSw
    try dsimp only at hSw
    go_simp
    try with_reducible rfl
   simp only [Act.put, z1, z2, z3, z4, z5, z6]
   refine tkH (i := 13) (v := ?_) rfl (by kernel_rfl) (fun _ _ _ h => h) (Or.inl ⟨by rfl, ?_⟩) (by assumption) ?_
   rotate_left
   ·intro w hSw
    have q0 := (hSw.cell (p := ⟨G, 0, none⟩) (cell_block L0.out)).trans L0.out
    have q1 := (hSw.cell (p := ⟨L, j, none⟩) (cell_block L1.out)).trans L1.out
    have q2 := (hSw.cell (p := ⟨Bj, y, none⟩) (cell_block L2.out)).trans L2.out
    have q3 := (hSw.cell (p := ⟨g, j, none⟩) (cell_block CX.out)).trans CX.out
    go_simp
    try with_reducible rfl
   simp only [Act.put, z1, z2, z3, z4, z5, z6]
   refine wpAnyH_ready (rs := [14]) (by kernel_rfl) (by simp) ?_
   refine AllReadyH.cons rfl (fun Kc hKc => ?_) AllReadyH.nil
   go_simp
   refine hKc.out _ _ ?_ (fun hHeld => ?_)
   ·first | exact hHeld.alloc hHeld.size _ | exact hHeld.grown hgrow hHeld.size (fun k e => (HO.out.lt k e).1)
   clear hKc Kc
   refine wpAnyH_ready (rs := [15]) (by kernel_rfl) (by simp) ?_
   refine AllReadyH.cons rfl (fun Kc hKc => ?_) AllReadyH.nil
   refine wp_append_own_at _ _ 54 rfl w.heap.size 2 i0 (.int .i64 0) 1 8 Tryz.underlying54 hi hz0 hz1 hz2 rfl (by decide) _ j _ rfl ((show World.ownsRow (wr.drewN 1) w.heap.size 2 1 u6 j (((List.range j).map f).map (Value.int .i64)) from HO.out).alloc _) ⟨wr.heap.size, 0, none⟩ 1 1 [.int .i64 fj] rfl rfl (cell_one_new _ _ _) (by simp [Value.oneCell']) hmx1 (by omega) (by simp; omega) ?_; intro v' w3 hown' hgrow hnil' hq9
   refine hKc.out _ _ ?_ (fun hHeld => ?_)
   ·first | exact hHeld.alloc hHeld.size _ | exact hHeld.grown hgrow hHeld.size (fun k e => (HO.out.lt k e).1)
   clear hKc Kc
   refine tkH (i := 16) (v := ?_) rfl (by kernel_rfl) (fun _ _ _ h => h) (Or.inl ⟨by rfl, ?_⟩) (by assumption) ?_
   rotate_left
   ·intro w hSw
    try dsimp only at hSw
    go_simp
    try with_reducible rfl
   simp only [Act.put, z1, z2, z3, z4, z5, z6]
   refine wpAnyH_done (by kernel_rfl) ?_ _
   have HNIL' : Hid (v' ≠ .slice none 0 0) := Lib.hid (fun h => HNIL.out (hnil'.1 h).1)
   have HO4 : Hid (w3.ownsRow w.heap.size 2 1 v' (j + 1) (((List.range (j + 1)).map f).map (Value.int .i64))) := Lib.hid (by rw [HN.out]; exact hown')
   have HB4 := Lib.hid hHeld
   clear hown' hgrow hnil' hq9 hHeld
   go_wp2
   go_roundw
   case rel => exact ⟨j + 1, by omega, by go_num, HNIL'.out, HO4.out, HB4.out⟩
   case measure => simp [intOf]; omega
  ·obtain rfl : j = n := by omega
   have hown2 : wr.ownsRow w.heap.size 2 1 u6 ((List.range j).map f).length (((List.range j).map f).map (Value.int .i64)) := by simpa using hown
   have hi := IntsAt.of_own hown2 rfl
   obtain ⟨gr, cpr, rfl, hgr2, hcpr, _⟩ := own_row hown2 hnil
   have hl : ((List.range j).map f).length = j := by simp
   rw [hl] at hi ⊢
   have HI := Lib.hid hi
   clear hi hown hown2 hnil hbel hl
   go_wp2
   go_ret2
   exact ⟨gr, cpr, rfl, hgr2, HI.out, HB.out⟩
end Go.Proofs.YthbkljeibmkimaaGreat


namespace Go.Proofs.YthbkljeibmkimaaGreat
open Go.RowKit
set_option linter.unusedVariables false
set_option linter.unusedSimpArgs false

set_option maxRecDepth 100000 in
set_option maxHeartbeats 4000000 in
theorem rmin_any (v : Value) (zs : List Int) (w : World) (hv : IntsAt w v zs) (hk : 0 < zs.length) (hn : zs.length ≤ 100000) :
  Calls Tryz.prog 85 #[v] w fun e w' => ∃ u, e = .returned (.tuple #[.int .i64 u, .bool true]) ∧ IsKth zs 0 u ∧ w = w' := by
 obtain ⟨ao, cap, rfl, hcap, hcells⟩ := hv
 obtain ⟨g, rfl, hg, hc⟩ := hcells hk
 have HC := Lib.hid hc
 have h0 : zs[0]? = some (cellD zs 0) := by simp [cellD, hk]
 have c0 := hc 0 _ h0
 have HM0 := Lib.hid (List.mem_of_getElem? h0)
 clear hc hcells h0
 obtain ⟨n, hlen⟩ : ∃ n, n = zs.length := ⟨_, rfl⟩
 rw [← hlen] at hcap hk hn ⊢
 have HLEN := Lib.hid hlen
 clear hlen
 have d0 : ((n : Int) == 0) = false := by simp; omega
 have d1 : (n == 0) = false := by simp; omega
 have d2 : decide ((n : Int) = 0) = false := by simp; omega
 have d3 : decide (n = 0) = false := by simp; omega
 have d4 : (0 : Int) < (n : Int) := by omega
 generalize hz0 : cellD zs 0 = z0 at *
 clear hz0
 go_enter Tryz.func85, Tryz.ntmps85
 go_wp2_with fail
 go_loop [4, 5] (fun b i => ∃ (j : Nat) (u : Int), j ≤ n ∧ i = .int .i64 (j : Int) ∧ b = .int .i64 u ∧ u ∈ zs ∧ ∀ k x, k < j → zs[k]? = some x → u ≤ x) (fun _ i => n - (intOf i).toNat)
 case atStart => exact ⟨0, z0, by omega, rfl, rfl, HM0.out, fun k x hk => by omega⟩
 case round =>
  obtain ⟨j, u, hj, rfl, rfl, hm, hle⟩ := hrel
  have HM := Lib.hid hm
  have HLE := Lib.hid hle
  clear hm hle c0
  by_cases hlt : j < n
  ·have hzj : zs[j]? = some (cellD zs j) := by
    have : j < zs.length := by have := HLEN.out; omega
    simp [cellD, this]
   have cx := HC.out j _ hzj
   have HZJ := Lib.hid hzj
   clear hzj
   generalize cellD zs j = x at *
   have i0 : (0 : Int) ≤ (j : Int) := by omega
   have i1 : (j : Int) < (n : Int) := by omega
   obtain ⟨y, hy⟩ : ∃ y, y = if x < u then x else u := ⟨_, rfl⟩
   have HY : Hid (y ∈ zs ∧ ∀ k z, k < j + 1 → zs[k]? = some z → y ≤ z) := Lib.hid (by
    refine ⟨by rw [hy]; split; exact List.mem_of_getElem? HZJ.out; exact HM.out, fun k z hk hz => ?_⟩
    by_cases e : k = j
    ·subst e
     rw [HZJ.out] at hz
     have := Option.some.inj hz
     rw [hy]; split <;> omega
    ·have := HLE.out k z (by omega) hz
     rw [hy]; split <;> omega)
   have ey : (if x < u then x else u) = y := hy.symm
   clear hy
   go_wp2
   go_round
   case rel => exact ⟨j + 1, y, by omega, by go_num, rfl, HY.out.1, HY.out.2⟩
   case measure => simp [intOf]; omega
  ·obtain rfl : j = n := by omega
   have HK : Hid (IsKth zs 0 u) := Lib.hid (kth_zero_of HM.out (fun x hx => by
    obtain ⟨k, hk⟩ := List.getElem?_of_mem hx
    have hk2 : k < zs.length := (List.getElem?_eq_some_iff.1 hk).1
    exact HLE.out k x (by have := HLEN.out; omega) hk))
   go_wp2
   go_ret2
   exact ⟨u, rfl, HK.out, rfl⟩

theorem rleast_yes (w : World) (N G : Nat) (v : Value) (B K : Nat → Nat) (R W : Nat) (zs cs : List Int) (vc : Value) (h : RefIs w N G v B K R W zs) (hv : IntsAt w vc cs) (hm : meetB R W cs = true) :
  Calls Tryz.prog 78 #[.pointer (some ⟨G, 0, none⟩), vc] w (TellPost w W zs cs 0) := by
 obtain ⟨h0R, hlR, hcol⟩ := meetB_of hm
 have hR8 := h.rows
 have P1 := rread_yes w N G v B K R W zs cs vc h hv hm
 have hrl : (readZ W zs cs).length = cs.length := by rw [readZ, List.length_map, List.length_range]
 obtain ⟨ao, cap, rfl, hcap, hcells⟩ := hv
 clear hcells hcol h
 unfold RReadPost at P1
 obtain ⟨n, hlen⟩ : ∃ n, n = cs.length := ⟨_, rfl⟩
 rw [← hlen] at hcap hlR hrl P1 ⊢
 have hn0 : 0 < n := by omega
 have hn8 : n ≤ 8 := by omega
 have HRL := Lib.hid hrl
 have P1 := Lib.hid P1
 clear hlen hlR hrl
 go_enter Tryz.func78, Tryz.ntmps78
 go_wp2_with fail
 with_reducible refine P1.out.mono ?_
 rintro e w2 ⟨g, cp, rfl, hg, hi, hb⟩
 have HB := Lib.hid hb
 have P2 := Lib.hid (rmin_any _ _ w2 hi (by have := HRL.out; omega) (by have := HRL.out; omega))
 clear hb hi
 go_wp2_with fail
 with_reducible refine P2.out.mono ?_
 rintro e w3 ⟨u, rfl, hu, hw3⟩
 subst hw3
 have HU := Lib.hid hu
 clear hu
 go_wp2
 go_ret2
 exact ⟨u, rfl, HU.out, HB.out⟩
structure RGr (w w' : World) (B : Nat → Nat) (R : Nat) : Prop where
  os : w'.os = w.os
  tape : w'.tape = w.tape
  output : w'.output = w.output
  size : w.heap.size ≤ w'.heap.size
  block : ∀ k, k < w.heap.size → (∀ r, r < R → k ≠ B r) → w'.heap[k]? = w.heap[k]?
theorem RGr.of_below {w w' : World} {B : Nat → Nat} {R : Nat} (h : Below w.heap.size w w') : RGr w w' B R := ⟨h.os, h.tape, h.output, h.size, fun k hk _ => h.block k hk⟩
theorem RGr.trans {w w1 w2 : World} {B : Nat → Nat} {R : Nat} (h : RGr w w1 B R) (k : RGr w1 w2 B R) : RGr w w2 B R :=
  ⟨k.os.trans h.os, k.tape.trans h.tape, k.output.trans h.output, Nat.le_trans h.size k.size, fun j hj hne => (k.block j (Nat.lt_of_lt_of_le hj h.size) hne).trans (h.block j hj hne)⟩
theorem RGr.set {w : World} {B : Nat → Nat} {R r c : Nat} (hr : r < R) (u : Value) : RGr w (w.setCell ⟨B r, c, none⟩ u) B R :=
  ⟨rfl, rfl, rfl, by simp [World.setCell], fun k hk hne => Below.heap_setCell _ _ _ _ (by simpa using hne r hr)⟩
theorem RGr.below {w w' : World} {N G : Nat} {v : Value} {B K : Nat → Nat} {R W : Nat} {zs : List Int} (h : RGr w w' B R) (hr : RefIs w N G v B K R W zs) : Below N w w' :=
  ⟨h.os, h.tape, h.output, h.size, fun k hk => h.block k (by have := hr.lo.1; have := hr.ltG; omega) (fun r hr' e => by have := hr.lo.2 r hr'; omega)⟩
theorem RGr.row {w w' : World} {N G : Nat} {v : Value} {B K : Nat → Nat} {R W : Nat} {zs cs : List Int} {vc : Value} (h : RGr w w' B R) (hr : RefIs w N G v B K R W zs) (hv : RowI w vc cs) : RowI w' vc cs := by
  obtain ⟨g, cap, cur, rfl, hc, hg, hx⟩ := hv
  refine ⟨g, cap, cur, rfl, hc, (h.block g hg.lt (fun r hr' => ?_)).trans hg, hx⟩
  obtain ⟨cB, hB, -⟩ := hr.cells r hr'
  exact hg.ne_ hB (by decide)

def RRaisePost (w : World) (N G : Nat) (v : Value) (B K : Nat → Nat) (R W : Nat) (zs cs : List Int) (d : Int) (e : Ending) (w' : World) : Prop :=
  ∃ u, IsKth (readZ W zs cs) 0 u ∧ ((d < 0 ∧ e = .returned (.int .i64 3) ∧ Below w.heap.size w w') ∨ (0 ≤ d ∧ ¬ In64 (u + d) ∧ e = .returned (.int .i64 4) ∧ Below w.heap.size w w') ∨
    (0 ≤ d ∧ In64 (u + d) ∧ e = .returned (.int .i64 0) ∧ RefIs w' N G v B K R W (raiseZ W zs cs (u + d)) ∧ RGr w w' B R))

set_option maxRecDepth 100000 in
set_option maxHeartbeats 8000000 in
theorem rraise_yes (w : World) (N G : Nat) (v : Value) (B K : Nat → Nat) (R W : Nat) (zs cs : List Int) (d : Int) (vc : Value) (h : RefIs w N G v B K R W zs) (hv : RowI w vc cs) (hm : meetB R W cs = true) (hd : In64 d) (hfit : Fit zs) :
  Calls Tryz.prog 70 #[.pointer (some ⟨G, 0, none⟩), vc, .int .i64 d] w (RRaisePost w N G v B K R W zs cs d) := by
 obtain ⟨h0R, hlR, hcol⟩ := meetB_of hm
 have hR8 := h.rows
 have hzl := h.len
 have P1 := Lib.hid (rleast_yes w N G v B K R W zs cs vc h hv.ints hm)
 obtain ⟨L, vcap, rfl⟩ := h.openL h0R
 have HG := Lib.hid h
 have HV := Lib.hid hv
 have HCOL := Lib.hid hcol
 have HFIT := Lib.hid hfit
 have HZL := Lib.hid hzl
 obtain ⟨g, cap, cur, rfl, hcap, hgb, hcur⟩ := hv
 have HC := Lib.hid (show ∀ i u, cs[i]? = some u → w.cell? ⟨g, i, none⟩ = some (.int .i64 u) from fun i u hu => (hgb.cell i).trans (hcur i u hu))
 have HGL := Lib.hid hgb.lt
 have HGB := Lib.hid (show ∀ r, r < R → g ≠ B r from fun r hr' => by
  obtain ⟨cB, hB, -⟩ := h.cells r hr'
  exact hgb.ne_ hB (by decide))
 clear h hgb hcur hfit hcol hzl
 obtain ⟨n, hlen⟩ : ∃ n, n = cs.length := ⟨_, rfl⟩
 have HLEN := Lib.hid hlen
 rw [← hlen] at hcap hlR P1 ⊢
 have HNR : Hid (n = R) := Lib.hid hlR
 have hn8 : n ≤ 8 := by omega
 clear hlen hlR
 go_enter Tryz.func70, Tryz.ntmps70
 go_wp2_with fail
 with_reducible refine P1.out.mono ?_
 rintro e w2 ⟨u, rfl, hu, hb⟩
 have HU := Lib.hid hu
 have HB2 := Lib.hid hb
 have hu64 : In64 u := by
  have := hu.1
  simp [readZ] at this
  obtain ⟨r, hr, rfl⟩ := this
  exact cell_fit HFIT.out _
 clear hu hb P1
 by_cases hd0 : d < 0
 ·have e1 : decide (d < 0) = true := decide_eq_true hd0
  have HD0 := Lib.hid hd0
  clear hd0
  go_wp2
  go_ret
  exact ⟨u, HU.out, .inl ⟨HD0.out, rfl, HB2.out⟩⟩
 have e1 : decide (d < 0) = false := decide_eq_false hd0
 have HD0 : Hid (0 ≤ d) := Lib.hid (by omega)
 by_cases h64 : In64 (u + d)
 ·have PA := Lib.hid (ladd_yes u d hu64 hd h64 w2)
  have H64 := Lib.hid h64
  clear hu64 hd h64 hd0
  unfold TwoPost at PA
  obtain ⟨nn, hnn⟩ : ∃ nn, nn = u + d := ⟨_, rfl⟩
  rw [← hnn] at PA H64
  have HNN := Lib.hid hnn
  clear hnn
  go_wp2_with fail
  with_reducible refine PA.out.mono ?_
  rintro e w3 ⟨rfl, hb⟩
  have HB3 := Lib.hid (btr HB2.out hb)
  clear hb PA
  go_wp2_with fail
  go_loopw [11] (fun i wr => ∃ k : Nat, k ≤ n ∧ i = .int .i64 (k : Int) ∧ RefIs wr N G (.slice (some ⟨L, 0, none⟩) R vcap) B K R W (setsZ W zs (colN cs) (riseV W zs cs nn) k) ∧ RGr w wr B R) (fun i _ => n - (intOf i).toNat)
  case atStart => exact ⟨0, by omega, rfl, HG.out.kept HB3.out, RGr.of_below HB3.out⟩
  case round =>
   obtain ⟨k, hk, rfl, hg, hgr⟩ := hrel
   have HG2 := Lib.hid hg
   have HGR := Lib.hid hgr
   by_cases hlk : k < n
   ·have hkR : k < R := by have := HNR.out; omega
    obtain ⟨hck, hcw⟩ := HCOL.out k hkR
    obtain ⟨l0, l1, l2, l3⟩ := hg.look hkR hcw
    have hsame : cellD (setsZ W zs (colN cs) (riseV W zs cs nn) k) (k * W + colN cs k) = cellD zs (k * W + colN cs k) := by
     rw [setsZ_get HZL.out (fun r hr => (HCOL.out r hr).2) k (by omega) k (colN cs k) hkR hcw, if_neg (by omega)]
    rw [hsame] at l2
    have cx : wr.cell? ⟨g, k, none⟩ = some (.int .i64 (colN cs k : Int)) := by
     have := hgr.block g HGL.out HGB.out
     have h2 := HC.out k _ hck
     simp only [World.cell?] at h2 ⊢
     rw [this]
     exact h2
    have HSET : Hid (setsZ W zs (colN cs) (riseV W zs cs nn) (k + 1) = (setsZ W zs (colN cs) (riseV W zs cs nn) k).set (k * W + colN cs k) (if cellD zs (k * W + colN cs k) < nn then nn else cellD zs (k * W + colN cs k))) := rfl
    clear hg hgr hck hsame
    generalize hx : cellD zs (k * W + colN cs k) = x at *
    generalize hy : colN cs k = y at *
    have HY := Lib.hid hy
    clear hx hy
    obtain ⟨zz, hzz⟩ : ∃ zz, zz = if x < nn then nn else x := ⟨_, rfl⟩
    have ez : (if x < nn then nn else x) = zz := hzz.symm
    rw [← hzz] at HSET
    clear hzz
    have d1 : (0 : Int) ≤ (k : Int) := by omega
    have d2 : (k : Int) < (n : Int) := by omega
    have d3 : (k : Int) < (R : Int) := by omega
    have d4 : (0 : Int) ≤ (y : Int) := by omega
    have d5 : (y : Int) < (W : Int) := by omega
    go_wp2_with fail
    refine wp_region_still_tail 27 (by kernel_rfl) (by kernel_rfl) ?_
    simp only [List.take_succ_cons, List.take_zero, List.drop_succ_cons, List.drop_zero]
    have HG3 : Hid (RefIs { heap := wr.heap, tape := wr.tape, drawn := wr.drawn + 1, os := wr.os, output := wr.output } N G (.slice (some ⟨L, 0, none⟩) R vcap) B K R W (setsZ W zs (colN cs) (riseV W zs cs nn) k)) := Lib.hid (HG2.out.drewN 1)
    have HGR3 : Hid (RGr w { heap := wr.heap, tape := wr.tape, drawn := wr.drawn + 1, os := wr.os, output := wr.output } B R) := Lib.hid (HGR.out.trans (RGr.of_below (below_drewN (Below.refl _ _) 1)))
    change World.cell? { heap := wr.heap, tape := wr.tape, drawn := wr.drawn + 1, os := wr.os, output := wr.output } _ = _ at l0 l1 l2 cx
    change World.frozen? { heap := wr.heap, tape := wr.tape, drawn := wr.drawn + 1, os := wr.os, output := wr.output } _ = _ at l3
    generalize ({ heap := wr.heap, tape := wr.tape, drawn := wr.drawn + 1, os := wr.os, output := wr.output } : World) = wd at *
    generalize hBk : B k = Bk at *
    have HBK := Lib.hid hBk
    clear hBk
    generalize K k = Kk at *
    repeat still_step
    refine wpStill_nil ?_
    go_wp2
    go_roundw
    case rel => exact ⟨k + 1, by omega, by go_num, by rw [HSET.out, ← HBK.out]; exact HG3.out.set k y zz hkR hcw, by rw [← HBK.out]; exact HGR3.out.trans (RGr.set hkR _)⟩
    case measure => simp [intOf]; omega
   ·obtain rfl : k = n := by omega
    have HP : Hid (RRaisePost w N G (.slice (some ⟨L, 0, none⟩) R vcap) B K R W zs cs d (.returned (.int .i64 0)) wr) := ⟨u, HU.out, .inr (.inr ⟨HD0.out, by rw [← HNN.out]; exact H64.out, rfl, by
     have := HG2.out
     unfold raiseZ
     rw [← HLEN.out, ← HNN.out]
     exact this, HGR.out⟩)⟩
    clear hg hgr
    go_wp2
    go_ret
    exact HP.out
 ·have PA := Lib.hid (ladd_no u d hu64 hd h64 w2)
  have H64 := Lib.hid h64
  clear hu64 hd h64 hd0
  unfold TwoPost at PA
  go_wp2_with fail
  with_reducible refine PA.out.mono ?_
  rintro e w3 ⟨rfl, hb⟩
  have HB3 := Lib.hid (btr HB2.out hb)
  clear hb PA
  go_wp2
  go_ret
  exact ⟨u, HU.out, .inr (.inl ⟨HD0.out, H64.out, rfl, HB3.out⟩)⟩
end Go.Proofs.YthbkljeibmkimaaGreat


namespace Go.Proofs.YthbkljeibmkimaaGreat
open Go.RowKit
set_option linter.unusedVariables false
set_option linter.unusedSimpArgs false

def RSpec (R W : Nat) (zs cs : List Int) (d : Int) (err : Int) (zs' : List Int) : Prop :=
  (meetB R W cs = false ∧ err = 1 ∧ zs' = zs) ∨ (meetB R W cs = true ∧ ∃ u, IsKth (readZ W zs cs) 0 u ∧ ((d < 0 ∧ err = 3 ∧ zs' = zs) ∨ (0 ≤ d ∧ ¬ In64 (u + d) ∧ err = 4 ∧ zs' = zs) ∨ (0 ≤ d ∧ In64 (u + d) ∧ err = 0 ∧ zs' = raiseZ W zs cs (u + d))))
theorem RSpec.unique {R W : Nat} {zs cs : List Int} {d e1 e2 : Int} {z1 z2 : List Int} (h1 : RSpec R W zs cs d e1 z1) (h2 : RSpec R W zs cs d e2 z2) : e2 = e1 ∧ z2 = z1 := by
  rcases h1 with ⟨m1, rfl, rfl⟩ | ⟨m1, u1, k1, h1⟩
  · rcases h2 with ⟨m2, rfl, rfl⟩ | ⟨m2, u2, k2, h2⟩
    · exact ⟨rfl, rfl⟩
    · rw [m1] at m2; cases m2
  · rcases h2 with ⟨m2, rfl, rfl⟩ | ⟨m2, u2, k2, h2⟩
    · rw [m1] at m2; cases m2
    · obtain rfl := k1.unique k2
      rcases h1 with ⟨a1, rfl, rfl⟩ | ⟨a1, b1, rfl, rfl⟩ | ⟨a1, b1, rfl, rfl⟩ <;> rcases h2 with ⟨a2, rfl, rfl⟩ | ⟨a2, b2, rfl, rfl⟩ | ⟨a2, b2, rfl, rfl⟩ <;> first | exact ⟨rfl, rfl⟩ | (exfalso; omega) | exact absurd b1 b2 | exact absurd b2 b1
end Go.Proofs.YthbkljeibmkimaaGreat


namespace Go.Proofs.YthbkljeibmkimaaGreat
open Go.RowKit
set_option linter.unusedVariables false
set_option linter.unusedSimpArgs false

def RChangePost (w : World) (N G : Nat) (v : Value) (B K : Nat → Nat) (R W : Nat) (zs cs : List Int) (d : Int) (e : Ending) (w' : World) : Prop :=
  (changeFits W zs cs d ∧ e = .returned (.int .i64 0) ∧ RefIs w' N G v B K R W (changeZ W zs cs d) ∧ RGr w w' B R) ∨ (¬ changeFits W zs cs d ∧ e = .returned (.int .i64 4) ∧ Below w.heap.size w w')
theorem RGr.cell {w w' : World} {B : Nat → Nat} {R g i : Nat} {x : Value} (h : RGr w w' B R) (hc : w.cell? ⟨g, i, none⟩ = some x) (hne : ∀ r, r < R → g ≠ B r) : w'.cell? ⟨g, i, none⟩ = some x := by
  have h1 := cell_block hc
  have h2 := h.block g h1 hne
  simp only [World.cell?] at hc ⊢
  rw [h2]
  exact hc
set_option maxRecDepth 100000 in
set_option maxHeartbeats 8000000 in
theorem rchange_yes (w : World) (N G : Nat) (v : Value) (B K : Nat → Nat) (R W : Nat) (zs cs : List Int) (d : Int) (vc : Value) (h : RefIs w N G v B K R W zs) (hv : RowI w vc cs) (hm : meetB R W cs = true) (hd : In64 d) (hfit : Fit zs) :
  Calls Tryz.prog 71 #[.pointer (some ⟨G, 0, none⟩), vc, .int .i64 d] w (RChangePost w N G v B K R W zs cs d) := by
 obtain ⟨h0R, hlR, hcol⟩ := meetB_of hm
 have hR8 := h.rows
 have P1 := rmeet_any w N G v B K R W zs cs vc h hv.ints (by omega)
 rw [hm] at P1
 have P1 := Lib.hid P1
 have HZL := Lib.hid h.len
 obtain ⟨L, vcap, rfl⟩ := h.openL h0R
 have HG := Lib.hid h
 have HCOL := Lib.hid hcol
 have HFIT := Lib.hid hfit
 obtain ⟨g, cap, cur, rfl, hcap, hgb, hcur⟩ := hv
 have HC := Lib.hid (show ∀ i u, cs[i]? = some u → w.cell? ⟨g, i, none⟩ = some (.int .i64 u) from fun i u hu => (hgb.cell i).trans (hcur i u hu))
 have HGL := Lib.hid hgb.lt
 have HGB := Lib.hid (show ∀ r, r < R → g ≠ B r from fun r hr' => by
  obtain ⟨cB, hB, -⟩ := h.cells r hr'
  exact hgb.ne_ hB (by decide))
 have HBL := Lib.hid (show ∀ r, r < R → B r < w.heap.size from fun r hr' => by
  obtain ⟨cB, hB, -⟩ := h.cells r hr'
  exact hB.lt)
 clear h hgb hcur hfit hcol
 obtain ⟨n, hlen⟩ : ∃ n, n = cs.length := ⟨_, rfl⟩
 have HLEN := Lib.hid hlen
 rw [← hlen] at hcap hlR P1 ⊢
 have HNR : Hid (n = R) := Lib.hid hlR
 have hn8 : n ≤ 8 := by omega
 obtain ⟨f, hf⟩ : ∃ f : Nat → Int, f = fun r => cellD zs (r * W + colN cs r) := ⟨_, rfl⟩
 have HF64 : Hid (∀ r, In64 (f r)) := Lib.hid (fun r => by rw [hf]; exact cell_fit HFIT.out _)
 have HFITS : Hid (changeFits W zs cs d ↔ ∀ r, r < n → In64 (f r + d)) := Lib.hid (by rw [hf, hlen]; exact Iff.rfl)
 have HCZ : Hid (changeZ W zs cs d = setsZ W zs (colN cs) (fun r => f r + d) n) := Lib.hid (by rw [hf, hlen]; rfl)
 have HF := Lib.hid hf
 obtain ⟨i0, hi, hz0, hz1, hz2⟩ := info_parts Tryz.info64
 clear hlen hlR hf
 go_enter Tryz.func71, Tryz.ntmps71
 go_wp2_with fail
 with_reducible refine P1.out.mono ?_
 rintro e w2 ⟨rfl, hb⟩
 have hown0 := World.ownsRow_lit (base := w.heap.size) (e := 2) (size := 1) w2 #[] 0 (by have := hb.size; omega) (by unfold maxLen; omega) (by simp)
 have HO2 := Lib.hid hown0
 have HB2 := Lib.hid (hb.alloc hb.size (.cells #[] 2))
 clear hb P1 hown0
 go_wp2_with fail
 go_loopw [7, 8] (fun x i wr => ∃ j : Nat, j ≤ n ∧ i = .int .i64 (j : Int) ∧ x ≠ .slice none 0 0 ∧ wr.ownsRow w.heap.size 2 1 x j (((List.range j).map fun r => f r + d).map (Value.int .i64)) ∧ (∀ k, k < j → In64 (f k + d)) ∧ Below w.heap.size w wr) (fun _ i _ => n - (intOf i).toNat)
 case atStart => exact ⟨0, by omega, rfl, by simp, by simpa using HO2.out, fun k hk => by omega, HB2.out⟩
 case round =>
  obtain ⟨j, hj, rfl, hnil, hown, hok, hbel⟩ := hrel
  clear HO2 HB2
  have HB := Lib.hid hbel
  have HO := Lib.hid hown
  have HNIL := Lib.hid hnil
  have HOK := Lib.hid hok
  have hszr : w.heap.size ≤ wr.heap.size := hbel.size
  by_cases hlt : j < n
  ·have hjR : j < R := by have := HNR.out; omega
   obtain ⟨hcj, hcw⟩ := HCOL.out j hjR
   obtain ⟨l0, l1, l2, -⟩ := HG.out.look hjR hcw
   have cx := HC.out j _ hcj
   have HN : Hid (((List.range (j + 1)).map fun r => f r + d).map (Value.int .i64) = ((List.range j).map fun r => f r + d).map (Value.int .i64) ++ [.int .i64 (f j + d)]) := Lib.hid (by rw [List.range_succ]; simp)
   have HFJ : Hid (cellD zs (j * W + colN cs j) = f j) := Lib.hid (by rw [HF.out])
   rw [HFJ.out] at l2
   have hmx1 : j + 1 ≤ maxLen := by unfold maxLen; omega
   have h64f := HF64.out j
   have HNF : Hid (¬ In64 (f j + d) → ¬ changeFits W zs cs d) := Lib.hid (fun h1 h2 => h1 (HFITS.out.1 h2 j hlt))
   have HOK2 : Hid (In64 (f j + d) → ∀ k, k < j + 1 → In64 (f k + d)) := Lib.hid (fun h1 k hk => by
    by_cases e : k = j
    ·subst e; exact h1
    ·exact HOK.out k (by omega))
   clear hown hnil hbel hcj hok
   generalize hy : colN cs j = y at *
   have HY := Lib.hid hy
   clear hy
   generalize B j = Bj at *
   generalize K j = Kj at *
   generalize f j = fj at *
   have d1 : (0 : Int) ≤ (j : Int) := by omega
   have d2 : (j : Int) < (n : Int) := by omega
   have d3 : (j : Int) < (R : Int) := by omega
   have d4 : (0 : Int) ≤ (y : Int) := by omega
   have d5 : (y : Int) < (W : Int) := by omega
   have L0 := Lib.hid l0
   have L1 := Lib.hid l1
   have L2 := Lib.hid l2
   have CX := Lib.hid cx
   clear l0 l1 l2 cx
   by_cases h64 : In64 (fj + d)
   ·have PA := Lib.hid (ladd_yes fj d h64f hd h64)
    unfold TwoPost at PA
    have HOK3 := Lib.hid (HOK2.out h64)
    clear h64 h64f
    generalize fj + d = x at *
    go_wp2_with fail
    refine wp_region_held_drew (S := fun w' => Below w.heap.size w w') (by kernel_rfl) (by exact below_drewN HB.out 1) (fun hHeld => ?_)
    refine tkH (i := 0) (v := ?_) rfl (by kernel_rfl) (fun _ _ _ h => h) (Or.inl ⟨by rfl, ?_⟩) (by assumption) ?_
    rotate_left
    ·intro w hSw
     try dsimp only at hSw
     go_simp
     try with_reducible rfl
    simp only [Act.put, z1, z2, z3, z4, z5, z6]
    refine tkH (i := 1) (v := ?_) rfl (by kernel_rfl) (fun _ _ _ h => h) (Or.inl ⟨by rfl, ?_⟩) (by assumption) ?_
    rotate_left
    ·intro w hSw
     try dsimp only at hSw
     go_simp
     try with_reducible rfl
    simp only [Act.put, z1, z2, z3, z4, z5, z6]
    refine tkH (i := 2) (v := ?_) rfl (by kernel_rfl) (fun _ _ _ h => h) (Or.inl ⟨by rfl, ?_⟩) (by assumption) ?_
    rotate_left
    ·intro w hSw
     try dsimp only at hSw
     go_simp
     try with_reducible rfl
    simp only [Act.put, z1, z2, z3, z4, z5, z6]
    refine tkH (i := 3) (v := ?_) rfl (by kernel_rfl) (fun _ _ _ h => h) (Or.inl ⟨by rfl, ?_⟩) (by assumption) ?_
    rotate_left
    ·intro w hSw
     have q0 := (hSw.cell (p := ⟨G, 0, none⟩) (cell_block L0.out)).trans L0.out
     have q1 := (hSw.cell (p := ⟨L, j, none⟩) (cell_block L1.out)).trans L1.out
     have q2 := (hSw.cell (p := ⟨Bj, y, none⟩) (cell_block L2.out)).trans L2.out
     have q3 := (hSw.cell (p := ⟨g, j, none⟩) (cell_block CX.out)).trans CX.out
     go_simp
     try with_reducible rfl
    simp only [Act.put, z1, z2, z3, z4, z5, z6]
    refine tkH (i := 4) (v := ?_) rfl (by kernel_rfl) (fun _ _ _ h => h) (Or.inl ⟨by rfl, ?_⟩) (by assumption) ?_
    rotate_left
    ·intro w hSw
     try dsimp only at hSw
     go_simp
     try with_reducible rfl
    simp only [Act.put, z1, z2, z3, z4, z5, z6]
    refine tkH (i := 5) (v := ?_) rfl (by kernel_rfl) (fun _ _ _ h => h) (Or.inl ⟨by rfl, ?_⟩) (by assumption) ?_
    rotate_left
    ·intro w hSw
     try dsimp only at hSw
     go_simp
     try with_reducible rfl
    simp only [Act.put, z1, z2, z3, z4, z5, z6]
    refine tkH (i := 6) (v := ?_) rfl (by kernel_rfl) (fun _ _ _ h => h) (Or.inl ⟨by rfl, ?_⟩) (by assumption) ?_
    rotate_left
    ·intro w hSw
     have q0 := (hSw.cell (p := ⟨G, 0, none⟩) (cell_block L0.out)).trans L0.out
     have q1 := (hSw.cell (p := ⟨L, j, none⟩) (cell_block L1.out)).trans L1.out
     have q2 := (hSw.cell (p := ⟨Bj, y, none⟩) (cell_block L2.out)).trans L2.out
     have q3 := (hSw.cell (p := ⟨g, j, none⟩) (cell_block CX.out)).trans CX.out
     go_simp
     try with_reducible rfl
    simp only [Act.put, z1, z2, z3, z4, z5, z6]
    refine tkH (i := 7) (v := ?_) rfl (by kernel_rfl) (fun _ _ _ h => h) (Or.inl ⟨by rfl, ?_⟩) (by assumption) ?_
    rotate_left
    ·intro w hSw
     try dsimp only at hSw
     go_simp
     try with_reducible rfl
    simp only [Act.put, z1, z2, z3, z4, z5, z6]
    refine tkH (i := 8) (v := ?_) rfl (by kernel_rfl) (fun _ _ _ h => h) (Or.inl ⟨by rfl, ?_⟩) (by assumption) ?_
    rotate_left
    ·intro w hSw
     try dsimp only at hSw
     go_simp
     try with_reducible rfl
    simp only [Act.put, z1, z2, z3, z4, z5, z6]
    refine tkH (i := 9) (v := ?_) rfl (by kernel_rfl) (fun _ _ _ h => h) (Or.inl ⟨by rfl, ?_⟩) (by assumption) ?_
    rotate_left
    ·intro w hSw
     try dsimp only at hSw
     go_simp
     try with_reducible rfl
    simp only [Act.put, z1, z2, z3, z4, z5, z6]
    refine tkH (i := 10) (v := ?_) rfl (by kernel_rfl) (fun _ _ _ h => h) (Or.inl ⟨by rfl, ?_⟩) (by assumption) ?_
    rotate_left
    ·intro w hSw
     have q0 := (hSw.cell (p := ⟨G, 0, none⟩) (cell_block L0.out)).trans L0.out
     have q1 := (hSw.cell (p := ⟨L, j, none⟩) (cell_block L1.out)).trans L1.out
     have q2 := (hSw.cell (p := ⟨Bj, y, none⟩) (cell_block L2.out)).trans L2.out
     have q3 := (hSw.cell (p := ⟨g, j, none⟩) (cell_block CX.out)).trans CX.out
     go_simp
     try with_reducible rfl
    simp only [Act.put, z1, z2, z3, z4, z5, z6]
    refine tkH (i := 11) (v := ?_) rfl (by kernel_rfl) (fun _ _ _ h => h) (Or.inl ⟨by rfl, ?_⟩) (by assumption) ?_
    rotate_left
    ·intro w hSw
     try dsimp only at hSw
     go_simp
     try with_reducible rfl
    simp only [Act.put, z1, z2, z3, z4, z5, z6]
    refine tkH (i := 12) (v := ?_) rfl (by kernel_rfl) (fun _ _ _ h => h) (Or.inl ⟨by rfl, ?_⟩) (by assumption) ?_
    rotate_left
    ·intro w hSw
     have q0 := (hSw.cell (p := ⟨G, 0, none⟩) (cell_block L0.out)).trans L0.out
     have q1 := (hSw.cell (p := ⟨L, j, none⟩) (cell_block L1.out)).trans L1.out
     have q2 := (hSw.cell (p := ⟨Bj, y, none⟩) (cell_block L2.out)).trans L2.out
     have q3 := (hSw.cell (p := ⟨g, j, none⟩) (cell_block CX.out)).trans CX.out
     go_simp
     try with_reducible rfl
    simp only [Act.put, z1, z2, z3, z4, z5, z6]
    refine tkH (i := 13) (v := ?_) rfl (by kernel_rfl) (fun _ _ _ h => h) (Or.inl ⟨by rfl, ?_⟩) (by assumption) ?_
    rotate_left
    ·intro w hSw
     try dsimp only at hSw
     go_simp
     try with_reducible rfl
    simp only [Act.put, z1, z2, z3, z4, z5, z6]
    refine wpAnyH_ready (rs := [14]) (by kernel_rfl) (by simp) ?_
    refine AllReadyH.cons rfl (fun Kc hKc => ?_) AllReadyH.nil
    go_simp
    go_wp2_with ((go_at_call 68; refine (PA.out _).mono ?_; rintro e w5 ⟨rfl, hb5⟩; have HB5 := Lib.hid hb5; clear hb5))
    refine hKc.out _ _ ?_ (fun hHeld => ?_)
    ·exact btr hHeld HB5.out
    clear hKc Kc
    refine tkH (i := 15) (v := ?_) rfl (by kernel_rfl) (fun _ _ _ h => h) (Or.inl ⟨by rfl, ?_⟩) (by assumption) ?_
    rotate_left
    ·intro w hSw
     try dsimp only at hSw
     go_simp
     try with_reducible rfl
    simp only [Act.put, z1, z2, z3, z4, z5, z6]
    refine tkH (i := 16) (v := ?_) rfl (by kernel_rfl) (fun _ _ _ h => h) (Or.inl ⟨by rfl, ?_⟩) (by assumption) ?_
    rotate_left
    ·intro w hSw
     try dsimp only at hSw
     go_simp
     try with_reducible rfl
    simp only [Act.put, z1, z2, z3, z4, z5, z6]
    refine tkH (i := 17) (v := ?_) rfl (by kernel_rfl) (fun _ _ _ h => h) (Or.inl ⟨by rfl, ?_⟩) (by assumption) ?_
    rotate_left
    ·intro w hSw
     try dsimp only at hSw
     go_simp
     try with_reducible rfl
    simp only [Act.put, z1, z2, z3, z4, z5, z6]
    refine tkH (i := 18) (v := ?_) rfl (by kernel_rfl) (fun _ _ _ h => h) (Or.inl ⟨by rfl, ?_⟩) (by assumption) ?_
    rotate_left
    ·intro w hSw
     try dsimp only at hSw
     go_simp
     try with_reducible rfl
    simp only [Act.put, z1, z2, z3, z4, z5, z6]
    refine tkH (i := 19) (v := ?_) rfl (by kernel_rfl) (fun _ _ _ h => h) (Or.inl ⟨by rfl, ?_⟩) (by assumption) ?_
    rotate_left
    ·intro w hSw
     try dsimp only at hSw
     go_simp
     try with_reducible rfl
    simp only [Act.put, z1, z2, z3, z4, z5, z6]
    refine wpAnyH_done (by kernel_rfl) ?_ _
    have HB3 := Lib.hid hHeld
    have HO3 := Lib.hid (HO.out.kept (below_grown (row := none) ((below_drewN (Below.refl wr.heap.size wr) 1).trans HB5.out)) (by cases u7.ownBlock <;> simp))
    have hsz3 : w.heap.size ≤ w5.heap.size := hHeld.size
    clear hHeld
    go_wp2_with (at_builtin; refine wpList_append_own_at _ rfl _ _ 54 rfl w.heap.size 2 i0 (.int .i64 0) 1 8 Tryz.underlying54 hi hz0 hz1 hz2 rfl (by decide) _ j _ rfl (HO3.out.alloc _) ⟨w5.heap.size, 0, none⟩ 1 1 [.int .i64 x] rfl rfl (cell_one_new _ _ _) ?c2 hmx1 ?c4 ?c5 ?_)
    case c2 => simp [Value.oneCell']
    case c4 => omega
    case c5 => simp; omega
    intro v' w6 hown' hgrow hnil' hq9
    have HNIL' : Hid (v' ≠ .slice none 0 0) := Lib.hid hnil'
    have HO4 : Hid (w6.ownsRow w.heap.size 2 1 v' (j + 1) (((List.range (j + 1)).map fun r => f r + d).map (Value.int .i64))) := Lib.hid (by rw [HN.out, List.map_map]; exact hown')
    have hMk := fun k hk => (HO3.out.lt k hk).1
    have HB4 : Hid (Below w.heap.size w w6) := Lib.hid ((HB3.out.alloc hsz3 _).grown hgrow (by first | omega | (simp; done) | (simp; omega)) (fun k e => hMk k e))
    clear hown' hgrow hnil' hq9 hMk
    go_wp2
    go_roundw
    case rel => exact ⟨j + 1, by omega, by go_num, HNIL'.out, HO4.out, HOK3.out, HB4.out⟩
    case measure => simp [intOf]; omega
   ·have PA := Lib.hid (ladd_no fj d h64f hd h64)
    unfold TwoPost at PA
    have HNF2 := Lib.hid (HNF.out h64)
    clear h64 h64f
    go_wp2_with fail
    refine wp_region_held_drew (S := fun w' => Below w.heap.size w w') (by kernel_rfl) (by exact below_drewN HB.out 1) (fun hHeld => ?_)
    refine tkH (i := 0) (v := ?_) rfl (by kernel_rfl) (fun _ _ _ h => h) (Or.inl ⟨by rfl, ?_⟩) (by assumption) ?_
    rotate_left
    ·intro w hSw
     try dsimp only at hSw
     go_simp
     try with_reducible rfl
    simp only [Act.put, z1, z2, z3, z4, z5, z6]
    refine tkH (i := 1) (v := ?_) rfl (by kernel_rfl) (fun _ _ _ h => h) (Or.inl ⟨by rfl, ?_⟩) (by assumption) ?_
    rotate_left
    ·intro w hSw
     try dsimp only at hSw
     go_simp
     try with_reducible rfl
    simp only [Act.put, z1, z2, z3, z4, z5, z6]
    refine tkH (i := 2) (v := ?_) rfl (by kernel_rfl) (fun _ _ _ h => h) (Or.inl ⟨by rfl, ?_⟩) (by assumption) ?_
    rotate_left
    ·intro w hSw
     try dsimp only at hSw
     go_simp
     try with_reducible rfl
    simp only [Act.put, z1, z2, z3, z4, z5, z6]
    refine tkH (i := 3) (v := ?_) rfl (by kernel_rfl) (fun _ _ _ h => h) (Or.inl ⟨by rfl, ?_⟩) (by assumption) ?_
    rotate_left
    ·intro w hSw
     have q0 := (hSw.cell (p := ⟨G, 0, none⟩) (cell_block L0.out)).trans L0.out
     have q1 := (hSw.cell (p := ⟨L, j, none⟩) (cell_block L1.out)).trans L1.out
     have q2 := (hSw.cell (p := ⟨Bj, y, none⟩) (cell_block L2.out)).trans L2.out
     have q3 := (hSw.cell (p := ⟨g, j, none⟩) (cell_block CX.out)).trans CX.out
     go_simp
     try with_reducible rfl
    simp only [Act.put, z1, z2, z3, z4, z5, z6]
    refine tkH (i := 4) (v := ?_) rfl (by kernel_rfl) (fun _ _ _ h => h) (Or.inl ⟨by rfl, ?_⟩) (by assumption) ?_
    rotate_left
    ·intro w hSw
     try dsimp only at hSw
     go_simp
     try with_reducible rfl
    simp only [Act.put, z1, z2, z3, z4, z5, z6]
    refine tkH (i := 5) (v := ?_) rfl (by kernel_rfl) (fun _ _ _ h => h) (Or.inl ⟨by rfl, ?_⟩) (by assumption) ?_
    rotate_left
    ·intro w hSw
     try dsimp only at hSw
     go_simp
     try with_reducible rfl
    simp only [Act.put, z1, z2, z3, z4, z5, z6]
    refine tkH (i := 6) (v := ?_) rfl (by kernel_rfl) (fun _ _ _ h => h) (Or.inl ⟨by rfl, ?_⟩) (by assumption) ?_
    rotate_left
    ·intro w hSw
     have q0 := (hSw.cell (p := ⟨G, 0, none⟩) (cell_block L0.out)).trans L0.out
     have q1 := (hSw.cell (p := ⟨L, j, none⟩) (cell_block L1.out)).trans L1.out
     have q2 := (hSw.cell (p := ⟨Bj, y, none⟩) (cell_block L2.out)).trans L2.out
     have q3 := (hSw.cell (p := ⟨g, j, none⟩) (cell_block CX.out)).trans CX.out
     go_simp
     try with_reducible rfl
    simp only [Act.put, z1, z2, z3, z4, z5, z6]
    refine tkH (i := 7) (v := ?_) rfl (by kernel_rfl) (fun _ _ _ h => h) (Or.inl ⟨by rfl, ?_⟩) (by assumption) ?_
    rotate_left
    ·intro w hSw
     try dsimp only at hSw
     go_simp
     try with_reducible rfl
    simp only [Act.put, z1, z2, z3, z4, z5, z6]
    refine tkH (i := 8) (v := ?_) rfl (by kernel_rfl) (fun _ _ _ h => h) (Or.inl ⟨by rfl, ?_⟩) (by assumption) ?_
    rotate_left
    ·intro w hSw
     try dsimp only at hSw
     go_simp
     try with_reducible rfl
    simp only [Act.put, z1, z2, z3, z4, z5, z6]
    refine tkH (i := 9) (v := ?_) rfl (by kernel_rfl) (fun _ _ _ h => h) (Or.inl ⟨by rfl, ?_⟩) (by assumption) ?_
    rotate_left
    ·intro w hSw
     try dsimp only at hSw
     go_simp
     try with_reducible rfl
    simp only [Act.put, z1, z2, z3, z4, z5, z6]
    refine tkH (i := 10) (v := ?_) rfl (by kernel_rfl) (fun _ _ _ h => h) (Or.inl ⟨by rfl, ?_⟩) (by assumption) ?_
    rotate_left
    ·intro w hSw
     have q0 := (hSw.cell (p := ⟨G, 0, none⟩) (cell_block L0.out)).trans L0.out
     have q1 := (hSw.cell (p := ⟨L, j, none⟩) (cell_block L1.out)).trans L1.out
     have q2 := (hSw.cell (p := ⟨Bj, y, none⟩) (cell_block L2.out)).trans L2.out
     have q3 := (hSw.cell (p := ⟨g, j, none⟩) (cell_block CX.out)).trans CX.out
     go_simp
     try with_reducible rfl
    simp only [Act.put, z1, z2, z3, z4, z5, z6]
    refine tkH (i := 11) (v := ?_) rfl (by kernel_rfl) (fun _ _ _ h => h) (Or.inl ⟨by rfl, ?_⟩) (by assumption) ?_
    rotate_left
    ·intro w hSw
     try dsimp only at hSw
     go_simp
     try with_reducible rfl
    simp only [Act.put, z1, z2, z3, z4, z5, z6]
    refine tkH (i := 12) (v := ?_) rfl (by kernel_rfl) (fun _ _ _ h => h) (Or.inl ⟨by rfl, ?_⟩) (by assumption) ?_
    rotate_left
    ·intro w hSw
     have q0 := (hSw.cell (p := ⟨G, 0, none⟩) (cell_block L0.out)).trans L0.out
     have q1 := (hSw.cell (p := ⟨L, j, none⟩) (cell_block L1.out)).trans L1.out
     have q2 := (hSw.cell (p := ⟨Bj, y, none⟩) (cell_block L2.out)).trans L2.out
     have q3 := (hSw.cell (p := ⟨g, j, none⟩) (cell_block CX.out)).trans CX.out
     go_simp
     try with_reducible rfl
    simp only [Act.put, z1, z2, z3, z4, z5, z6]
    refine tkH (i := 13) (v := ?_) rfl (by kernel_rfl) (fun _ _ _ h => h) (Or.inl ⟨by rfl, ?_⟩) (by assumption) ?_
    rotate_left
    ·intro w hSw
     try dsimp only at hSw
     go_simp
     try with_reducible rfl
    simp only [Act.put, z1, z2, z3, z4, z5, z6]
    refine wpAnyH_ready (rs := [14]) (by kernel_rfl) (by simp) ?_
    refine AllReadyH.cons rfl (fun Kc hKc => ?_) AllReadyH.nil
    go_simp
    go_wp2_with ((go_at_call 68; refine (PA.out _).mono ?_; rintro e w5 ⟨rfl, hb5⟩; have HB5 := Lib.hid hb5; clear hb5))
    refine hKc.out _ _ ?_ (fun hHeld => ?_)
    ·exact btr hHeld HB5.out
    clear hKc Kc
    refine tkH (i := 15) (v := ?_) rfl (by kernel_rfl) (fun _ _ _ h => h) (Or.inl ⟨by rfl, ?_⟩) (by assumption) ?_
    rotate_left
    ·intro w hSw
     try dsimp only at hSw
     go_simp
     try with_reducible rfl
    simp only [Act.put, z1, z2, z3, z4, z5, z6]
    refine tkH (i := 16) (v := ?_) rfl (by kernel_rfl) (fun _ _ _ h => h) (Or.inl ⟨by rfl, ?_⟩) (by assumption) ?_
    rotate_left
    ·intro w hSw
     try dsimp only at hSw
     go_simp
     try with_reducible rfl
    simp only [Act.put, z1, z2, z3, z4, z5, z6]
    refine tkH (i := 17) (v := ?_) rfl (by kernel_rfl) (fun _ _ _ h => h) (Or.inl ⟨by rfl, ?_⟩) (by assumption) ?_
    rotate_left
    ·intro w hSw
     try dsimp only at hSw
     go_simp
     try with_reducible rfl
    simp only [Act.put, z1, z2, z3, z4, z5, z6]
    refine tkH (i := 18) (v := ?_) rfl (by kernel_rfl) (fun _ _ _ h => h) (Or.inl ⟨by rfl, ?_⟩) (by assumption) ?_
    rotate_left
    ·intro w hSw
     try dsimp only at hSw
     go_simp
     try with_reducible rfl
    simp only [Act.put, z1, z2, z3, z4, z5, z6]
    refine tkH (i := 19) (v := ?_) rfl (by kernel_rfl) (fun _ _ _ h => h) (Or.inl ⟨by rfl, ?_⟩) (by assumption) ?_
    rotate_left
    ·intro w hSw
     try dsimp only at hSw
     go_simp
     try with_reducible rfl
    simp only [Act.put, z1, z2, z3, z4, z5, z6]
    refine wpAnyH_done (by kernel_rfl) ?_ _
    have HB3 := Lib.hid hHeld
    clear hHeld
    go_wp2
    go_ret
    exact .inr ⟨HNF2.out, rfl, HB3.out⟩
  ·obtain rfl : j = n := by omega
   have hown2 : wr.ownsRow w.heap.size 2 1 u7 ((List.range j).map fun r => f r + d).length (((List.range j).map fun r => f r + d).map (Value.int .i64)) := by simpa using hown
   obtain ⟨go, cpo, rfl, hgo, hcpo, curo, hco, hcoz⟩ := own_row hown2 hnil
   have hl : ((List.range j).map fun r => f r + d).length = j := by simp
   rw [hl] at hcpo ⊢
   have HOC := Lib.hid (show ∀ k, k < j → wr.cell? ⟨go, k, none⟩ = some (.int .i64 (f k + d)) from fun k hk => (hco.cell k).trans (hcoz k _ (by simp [hk])))
   have HGOB := Lib.hid (show ∀ r, r < R → go ≠ B r from fun r hr' => by have := HBL.out r hr'; omega)
   have HGW := Lib.hid (HG.out.kept hbel)
   have HFT := Lib.hid (HFITS.out.2 hok)
   have HRG : Hid (RGr w wr B R) := Lib.hid (RGr.of_below hbel)
   clear hown hown2 hnil hok hl hco hcoz hbel HO HB HNIL HOK hszr
   generalize wr = wo at *
   go_wp2_with fail
   go_loopw [11] (fun i ws => ∃ k : Nat, k ≤ j ∧ i = .int .i64 (k : Int) ∧ RefIs ws N G (.slice (some ⟨L, 0, none⟩) R vcap) B K R W (setsZ W zs (colN cs) (fun r => f r + d) k) ∧ RGr w ws B R ∧ RGr wo ws B R) (fun i _ => j - (intOf i).toNat)
   case atStart => exact ⟨0, by omega, rfl, HGW.out, HRG.out, RGr.of_below (Below.refl _ _)⟩
   case round =>
    obtain ⟨k, hk, rfl, hg, hgr, hgr2⟩ := hrel
    have HG2 := Lib.hid hg
    have HGR := Lib.hid hgr
    have HGR2 := Lib.hid hgr2
    by_cases hlk : k < j
    ·have hkR : k < R := by have := HNR.out; omega
     obtain ⟨hck, hcw⟩ := HCOL.out k hkR
     obtain ⟨l0, l1, l2, l3⟩ := hg.look hkR hcw
     have cx := hgr.cell (HC.out k _ hck) HGB.out
     have co := hgr2.cell (HOC.out k hlk) HGOB.out
     have HSET : Hid (setsZ W zs (colN cs) (fun r => f r + d) (k + 1) = (setsZ W zs (colN cs) (fun r => f r + d) k).set (k * W + colN cs k) (f k + d)) := rfl
     clear hg hgr hgr2 hck
     generalize hxx : cellD (setsZ W zs (colN cs) (fun r => f r + d) k) (k * W + colN cs k) = xx at *
     generalize hy : colN cs k = y at *
     generalize f k + d = zz at *
     have HY := Lib.hid hy
     clear hxx hy
     have d1 : (0 : Int) ≤ (k : Int) := by omega
     have d2 : (k : Int) < (j : Int) := by omega
     have d3 : (k : Int) < (R : Int) := by omega
     have d4 : (0 : Int) ≤ (y : Int) := by omega
     have d5 : (y : Int) < (W : Int) := by omega
     go_wp2_with fail
     refine wp_region_still_tail 16 (by kernel_rfl) (by kernel_rfl) ?_
     simp only [List.take_succ_cons, List.take_zero, List.drop_succ_cons, List.drop_zero]
     have HG3 : Hid (RefIs { heap := wr.heap, tape := wr.tape, drawn := wr.drawn + 1, os := wr.os, output := wr.output } N G (.slice (some ⟨L, 0, none⟩) R vcap) B K R W (setsZ W zs (colN cs) (fun r => f r + d) k)) := Lib.hid (HG2.out.drewN 1)
     have HGR3 : Hid (RGr w { heap := wr.heap, tape := wr.tape, drawn := wr.drawn + 1, os := wr.os, output := wr.output } B R) := Lib.hid (HGR.out.trans (RGr.of_below (below_drewN (Below.refl _ _) 1)))
     have HGR4 : Hid (RGr wo { heap := wr.heap, tape := wr.tape, drawn := wr.drawn + 1, os := wr.os, output := wr.output } B R) := Lib.hid (HGR2.out.trans (RGr.of_below (below_drewN (Below.refl _ _) 1)))
     change World.cell? { heap := wr.heap, tape := wr.tape, drawn := wr.drawn + 1, os := wr.os, output := wr.output } _ = _ at l0 l1 l2 cx co
     change World.frozen? { heap := wr.heap, tape := wr.tape, drawn := wr.drawn + 1, os := wr.os, output := wr.output } _ = _ at l3
     generalize ({ heap := wr.heap, tape := wr.tape, drawn := wr.drawn + 1, os := wr.os, output := wr.output } : World) = wd at *
     generalize hBk : B k = Bk at *
     have HBK := Lib.hid hBk
     clear hBk
     generalize K k = Kk at *
     repeat still_step
     refine wpStill_nil ?_
     go_wp2
     go_roundw
     case rel => exact ⟨k + 1, by omega, by go_num, by rw [HSET.out, ← HBK.out]; exact HG3.out.set k y zz hkR hcw, by rw [← HBK.out]; exact HGR3.out.trans (RGr.set hkR _), by rw [← HBK.out]; exact HGR4.out.trans (RGr.set hkR _)⟩
     case measure => simp [intOf]; omega
    ·obtain rfl : k = j := by omega
     clear hg hgr hgr2
     go_wp2
     go_ret
     exact .inl ⟨HFT.out, rfl, by rw [HCZ.out]; exact HG2.out, HGR.out⟩

def CSpec (R W : Nat) (zs cs : List Int) (d : Int) (err : Int) (zs' : List Int) : Prop :=
  (meetB R W cs = false ∧ err = 1 ∧ zs' = zs) ∨ (meetB R W cs = true ∧ ((changeFits W zs cs d ∧ err = 0 ∧ zs' = changeZ W zs cs d) ∨ (¬ changeFits W zs cs d ∧ err = 4 ∧ zs' = zs)))
theorem CSpec.unique {R W : Nat} {zs cs : List Int} {d e1 e2 : Int} {z1 z2 : List Int} (h1 : CSpec R W zs cs d e1 z1) (h2 : CSpec R W zs cs d e2 z2) : e2 = e1 ∧ z2 = z1 := by
  rcases h1 with ⟨m1, rfl, rfl⟩ | ⟨m1, h1⟩
  · rcases h2 with ⟨m2, rfl, rfl⟩ | ⟨m2, h2⟩
    · exact ⟨rfl, rfl⟩
    · rw [m1] at m2; cases m2
  · rcases h2 with ⟨m2, rfl, rfl⟩ | ⟨m2, h2⟩
    · rw [m1] at m2; cases m2
    · rcases h1 with ⟨a1, rfl, rfl⟩ | ⟨a1, rfl, rfl⟩ <;> rcases h2 with ⟨a2, rfl, rfl⟩ | ⟨a2, rfl, rfl⟩ <;> first | exact ⟨rfl, rfl⟩ | exact absurd a1 a2 | exact absurd a2 a1
end Go.Proofs.YthbkljeibmkimaaGreat


namespace Go.Proofs.YthbkljeibmkimaaGreat
open Go.RowKit
set_option linter.unusedVariables false
set_option linter.unusedSimpArgs false

structure SkIs (w : World) (A G C : Nat) (b r d m s l : Int) (zs : List Int) : Prop where
  box : Blk w A 153 #[.pointer (some ⟨G, 0, none⟩), .int .i64 b, .int .i64 r, .int .i64 d, .int .i64 m, .int .u64 s, .int .i64 l]
  grid : GridIs w G C r.toNat d.toNat zs
theorem SkIs.kept {w w' : World} {A G C : Nat} {b r d m s l : Int} {zs : List Int} (h : SkIs w A G C b r d m s l zs) (hb : Below w.heap.size w w') : SkIs w' A G C b r d m s l zs := ⟨h.box.kept hb, h.grid.kept hb⟩
theorem SkIs.grown {w w' : World} {A G C : Nat} {b r d m s l : Int} {zs : List Int} {row : Option Nat} (h : SkIs w A G C b r d m s l zs) (hb : w.grownBy w' row) (h1 : some A ≠ row) (h2 : some G ≠ row) (h3 : some C ≠ row) : SkIs w' A G C b r d m s l zs := ⟨h.box.grown hb h1, h.grid.grown hb h2 h3⟩
theorem SkIs.neA {w : World} {A G C : Nat} {b r d m s l : Int} {zs : List Int} (h : SkIs w A G C b r d m s l zs) : A ≠ C := by
  obtain ⟨cur, hc, -⟩ := h.grid.cells
  exact h.box.ne_ hc (by decide)
def SkNewPost (w : World) (b r d m s l : Int) (e : Ending) (w' : World) : Prop :=
  ∃ A G C, e = .returned (.tuple #[.pointer (some ⟨A, 0, none⟩), .int .i64 0]) ∧ w.heap.size ≤ A ∧ w.heap.size ≤ G ∧ w.heap.size ≤ C ∧ SkIs w' A G C b r d m s l (List.replicate (r.toNat * d.toNat) 0) ∧ Below w.heap.size w w'
theorem clampN_of {n : Int} {top : Nat} (h : n ≤ (top : Int)) : clampN n top = n.toNat := by unfold clampN; omega
set_option maxRecDepth 100000 in
set_option maxHeartbeats 4000000 in
theorem sknew_yes (b r d m s l : Int) (hr : rightB b r d m = true) (h0 : 0 ≤ l) (h1 : l ≤ b) (w : World) :
  Calls Tryz.prog 50 #[.agg #[.int .i64 b, .int .i64 r, .int .i64 d, .int .i64 m, .int .u64 s], .int .i64 l] w (SkNewPost w b r d m s l) := by
 have hR := right_of hr
 have hk : 0 < keysI b r d m l := by
  rw [keysI_yes hr h0 h1]
  have := pow_le (b - l).toNat (by omega)
  omega
 have PK := Lib.hid (fun w => keys_any b r d m s l w)
 have PN := Lib.hid (fun w => new_any r d w)
 rw [clampN_of (by omega), clampN_of (by omega)] at PN
 have e1 : (keysI b r d m l == 0) = false := by simp; omega
 generalize keysI b r d m l = kk at *
 clear hk hr hR h0 h1
 obtain ⟨g1, hb1, hsz1⟩ := news1 w (.cells #[.int .i64 b, .int .i64 r, .int .i64 d, .int .i64 m, .int .u64 s] 24)
 have hx1 : Blk _ w.heap.size 24 #[.int .i64 b, .int .i64 r, .int .i64 d, .int .i64 m, .int .u64 s] := g1
 have HB1 := Lib.hid hb1
 have HX1 := Lib.hid hx1
 clear g1 hb1 hsz1
 go_enter Tryz.func50, Tryz.ntmps50
 go_wp2_with (refine wpList_load_row rfl 24 _ rfl w.heap.size rfl 24 _ (0, 0) _ hx1 Tryz.underlying24 rfl (by kernel_rfl) ?_)
 with_reducible refine (PK.out _).mono ?_
 rintro e w2 ⟨rfl, hb⟩
 have HB2 := Lib.hid (btr HB1.out hb)
 have HX2 := Lib.hid (HX1.out.kept hb)
 clear hb hx1
 go_wp2_with fail
 refine wp_region_held_drew (S := fun w' => Blk w' w.heap.size 24 #[.int .i64 b, .int .i64 r, .int .i64 d, .int .i64 m, .int .u64 s] ∧ w.heap.size ≤ w'.heap.size) (by kernel_rfl) (by exact ⟨HX2.out.drewN 1, HB2.out.size⟩) (fun hHeld => ?_)
 refine tkH (i := 0) (v := ?_) rfl (by kernel_rfl) (fun _ _ _ h => h) (Or.inl ⟨by rfl, ?_⟩) (by assumption) ?_
 rotate_left
 ·intro w hSw
  try dsimp only at hSw
  go_simp
  try with_reducible rfl
 simp only [Act.put, z1, z2, z3, z4, z5, z6]
 refine tkH (i := 1) (v := ?_) rfl (by kernel_rfl) (fun _ _ _ h => h) (Or.inl ⟨by rfl, ?_⟩) (by assumption) ?_
 rotate_left
 ·intro w hSw
  have q0 := hSw.1.cell 0
  have q1 := hSw.1.cell 1
  have q2 := hSw.1.cell 2
  simp at q0 q1 q2
  try refine (exec_load_row 24 _ rfl _ rfl 24 _ (0, 0) _ hSw.1 Tryz.underlying24 rfl (by kernel_rfl)).trans ?_
  go_simp
  try with_reducible rfl
 simp only [Act.put, z1, z2, z3, z4, z5, z6]
 refine tkH (i := 2) (v := ?_) rfl (by kernel_rfl) (fun _ _ _ h => h) (Or.inl ⟨by rfl, ?_⟩) (by assumption) ?_
 rotate_left
 ·intro w hSw
  try dsimp only at hSw
  go_simp
  try with_reducible rfl
 simp only [Act.put, z1, z2, z3, z4, z5, z6]
 refine tkH (i := 3) (v := ?_) rfl (by kernel_rfl) (fun _ _ _ h => h) (Or.inl ⟨by rfl, ?_⟩) (by assumption) ?_
 rotate_left
 ·intro w hSw
  have q0 := hSw.1.cell 0
  have q1 := hSw.1.cell 1
  have q2 := hSw.1.cell 2
  simp at q0 q1 q2
  try refine (exec_load_row 24 _ rfl _ rfl 24 _ (0, 0) _ hSw.1 Tryz.underlying24 rfl (by kernel_rfl)).trans ?_
  go_simp
  try with_reducible rfl
 simp only [Act.put, z1, z2, z3, z4, z5, z6]
 refine tkH (i := 6) (v := ?_) rfl (by kernel_rfl) (fun _ _ _ h => h) (Or.inl ⟨by rfl, ?_⟩) (by assumption) ?_
 rotate_left
 ·intro w hSw
  have q0 := hSw.1.cell 0
  have q1 := hSw.1.cell 1
  have q2 := hSw.1.cell 2
  simp at q0 q1 q2
  try refine (exec_load_row 24 _ rfl _ rfl 24 _ (0, 0) _ hSw.1 Tryz.underlying24 rfl (by kernel_rfl)).trans ?_
  go_simp
  try with_reducible rfl
 simp only [Act.put, z1, z2, z3, z4, z5, z6]
 refine tkH (i := 7) (v := ?_) rfl (by kernel_rfl) (fun _ _ _ h => h) (Or.inl ⟨by rfl, ?_⟩) (by assumption) ?_
 rotate_left
 ·intro w hSw
  try dsimp only at hSw
  go_simp
  try with_reducible rfl
 simp only [Act.put, z1, z2, z3, z4, z5, z6]
 refine wpAnyH_ready (rs := [4]) (by kernel_rfl) (by simp) ?_
 refine AllReadyH.cons rfl (fun Kc hKc => ?_) AllReadyH.nil
 go_simp
 go_wp2_with (go_at_call 64; refine (PN.out _).mono ?_; rintro e w4 ⟨G, C, rfl, hG, hC, hg, hb'⟩; have HG4 := Lib.hid hg; have HB4 := Lib.hid (btr (below_drewN HB2.out 1) hb'); have hGC : Hid (w.heap.size ≤ G ∧ w.heap.size ≤ C) := ⟨Nat.le_trans hHeld.2 hG, Nat.le_trans hHeld.2 hC⟩; clear hg)
 refine hKc.out _ _ ?_ (fun hHeld => ?_)
 ·first | assumption | exact ⟨hHeld.1.kept hb', Nat.le_trans hHeld.2 hb'.size⟩ | exact ⟨hHeld.1.alloc _, by have := hHeld.2; simp; omega⟩
 clear hKc Kc
 refine tkH (i := 5) (v := ?_) rfl (by kernel_rfl) (fun _ _ _ h => h) (Or.inl ⟨by rfl, ?_⟩) (by assumption) ?_
 rotate_left
 ·intro w hSw
  try dsimp only at hSw
  go_simp
  try with_reducible rfl
 simp only [Act.put, z1, z2, z3, z4, z5, z6]
 refine tkH (i := 8) (v := ?_) rfl (by kernel_rfl) (fun _ _ _ h => h) (Or.inl ⟨by rfl, ?_⟩) (by assumption) ?_
 rotate_left
 ·intro w hSw
  try dsimp only at hSw
  go_simp
  try with_reducible rfl
 simp only [Act.put, z1, z2, z3, z4, z5, z6]
 refine wpAnyH_ready (rs := [9]) (by kernel_rfl) (by simp) ?_
 refine AllReadyH.cons rfl (fun Kc hKc => ?_) AllReadyH.nil
 go_simp
 refine hKc.out _ _ ?_ (fun hHeld => ?_)
 ·first | assumption | exact ⟨hHeld.1.kept hb', Nat.le_trans hHeld.2 hb'.size⟩ | exact ⟨hHeld.1.alloc _, by have := hHeld.2; simp; omega⟩
 clear hKc Kc
 refine tkH (i := 10) (v := ?_) rfl (by kernel_rfl) (fun _ _ _ h => h) (Or.inl ⟨by rfl, ?_⟩) (by assumption) ?_
 rotate_left
 ·intro w hSw
  try dsimp only at hSw
  go_simp
  try with_reducible rfl
 simp only [Act.put, z1, z2, z3, z4, z5, z6]
 refine tkH (i := 11) (v := ?_) rfl (by kernel_rfl) (fun _ _ _ h => h) (Or.inl ⟨by rfl, ?_⟩) (by assumption) ?_
 rotate_left
 ·intro w hSw
  try dsimp only at hSw
  go_simp
  try with_reducible rfl
 simp only [Act.put, z1, z2, z3, z4, z5, z6]
 refine wpAnyH_done (by kernel_rfl) ?_ _
 have HNEW := Lib.hid (Blk.new w4 153 #[.pointer (some ⟨G, 0, none⟩), .int .i64 b, .int .i64 r, .int .i64 d, .int .i64 m, .int .u64 s, .int .i64 l])
 have HAL : Hid (Below w4.heap.size w4 (w4.alloc (.cells #[.pointer (some ⟨G, 0, none⟩), .int .i64 b, .int .i64 r, .int .i64 d, .int .i64 m, .int .u64 s, .int .i64 l] 153))) := Lib.hid ((Below.refl _ _).alloc (Nat.le_refl _) _)
 have HG5 := Lib.hid (HG4.out.kept HAL.out)
 have HB5 := Lib.hid (btr HB4.out HAL.out)
 clear hHeld
 go_wp2_with fail
 go_ret2
 exact ⟨w4.heap.size, G, C, rfl, HB4.out.size, hGC.out.1, hGC.out.2, ⟨HNEW.out, HG5.out⟩, HB5.out⟩
end Go.Proofs.YthbkljeibmkimaaGreat


namespace Go.Proofs.YthbkljeibmkimaaGreat
open Go.RowKit
set_option linter.unusedVariables false
set_option linter.unusedSimpArgs false

def cellsN (b r d m l : Int) : Nat := if exactB b r d m l = true then (keysI b r d m l).toNat else r.toNat * d.toNat
def LevIs (w : World) (x : Value) (A G C : Nat) (b r d m s l : Int) (zs : List Int) : Prop :=
  (exactB b r d m l = true ∧ x = .iface 129 (.pointer (some ⟨A, 0, none⟩)) ∧ ArrIs w A G C b r d m s l (keysI b r d m l).toNat zs) ∨
  (exactB b r d m l = false ∧ x = .iface 132 (.pointer (some ⟨A, 0, none⟩)) ∧ SkIs w A G C b r d m s l zs)
theorem LevIs.kept {w w' : World} {x : Value} {A G C : Nat} {b r d m s l : Int} {zs : List Int} (h : LevIs w x A G C b r d m s l zs) (hb : Below w.heap.size w w') : LevIs w' x A G C b r d m s l zs := by
  rcases h with ⟨h1, h2, h3⟩ | ⟨h1, h2, h3⟩
  · exact .inl ⟨h1, h2, h3.kept hb⟩
  · exact .inr ⟨h1, h2, h3.kept hb⟩
theorem LevIs.len {w : World} {x : Value} {A G C : Nat} {b r d m s l : Int} {zs : List Int} (h : LevIs w x A G C b r d m s l zs) : zs.length = cellsN b r d m l := by
  unfold cellsN
  rcases h with ⟨h1, h2, h3⟩ | ⟨h1, h2, h3⟩
  · rw [if_pos h1, h3.2.len, Nat.one_mul]
  · rw [h1]; simpa using h3.grid.len
theorem LevIs.fit {w : World} {x : Value} {A G C : Nat} {b r d m s l : Int} {zs : List Int} (h : LevIs w x A G C b r d m s l zs) : Fit zs := by
  rcases h with ⟨h1, h2, h3⟩ | ⟨h1, h2, h3⟩
  · exact h3.2.fit
  · exact h3.grid.fit
theorem LevIs.cells {w : World} {x : Value} {A G C : Nat} {b r d m s l : Int} {zs : List Int} (h : LevIs w x A G C b r d m s l zs) : ∃ cur, Blk w C 2 cur := by
  rcases h with ⟨h1, h2, h3⟩ | ⟨h1, h2, h3⟩
  · obtain ⟨cur, hc, -⟩ := h3.2.cells; exact ⟨cur, hc⟩
  · obtain ⟨cur, hc, -⟩ := h3.grid.cells; exact ⟨cur, hc⟩
theorem LevIs.other {w w' : World} {x : Value} {A G C D : Nat} {b r d m s l : Int} {zs : List Int} {cur : Array Value} (h : LevIs w x A G C b r d m s l zs) (hg : w.grownBy w' (some D)) (hD : Blk w D 2 cur) (hne : C ≠ D) : LevIs w' x A G C b r d m s l zs := by
  rcases h with ⟨h1, h2, h3⟩ | ⟨h1, h2, h3⟩
  · obtain ⟨cap, hG, -⟩ := h3.2.fields
    exact .inl ⟨h1, h2, h3.grown hg (by simpa using h3.1.ne_ hD (by decide)) (by simpa using hG.ne_ hD (by decide)) (by simpa using hne)⟩
  · obtain ⟨cap, hG, -⟩ := h3.grid.fields
    exact .inr ⟨h1, h2, h3.grown hg (by simpa using h3.box.ne_ hD (by decide)) (by simpa using hG.ne_ hD (by decide)) (by simpa using hne)⟩
def LvNewPost (w : World) (b r d m s l : Int) (e : Ending) (w' : World) : Prop :=
  ∃ x A G C, e = .returned (.tuple #[x, .int .i64 0]) ∧ w.heap.size ≤ C ∧ LevIs w' x A G C b r d m s l (List.replicate (cellsN b r d m l) 0) ∧ Below w.heap.size w w'
set_option maxRecDepth 100000 in
set_option maxHeartbeats 4000000 in
theorem lvnew_yes (b r d m s l : Int) (hr : rightB b r d m = true) (h0 : 0 ≤ l) (h1 : l ≤ b) (w : World) :
  Calls Tryz.prog 21 #[.agg #[.int .i64 b, .int .i64 r, .int .i64 d, .int .i64 m, .int .u64 s], .int .i64 l] w (LvNewPost w b r d m s l) := by
 have PE := fun w => exact_any b r d m s l w
 obtain ⟨g1, hb1, hsz1⟩ := news1 w (.cells #[.int .i64 b, .int .i64 r, .int .i64 d, .int .i64 m, .int .u64 s] 24)
 have hx1 : Blk _ w.heap.size 24 #[.int .i64 b, .int .i64 r, .int .i64 d, .int .i64 m, .int .u64 s] := g1
 have HB1 := Lib.hid hb1
 have HX1 := Lib.hid hx1
 clear g1 hb1 hsz1
 cases he : exactB b r d m l
 ·rw [he] at PE
  have PE := Lib.hid PE
  have PS := Lib.hid (fun w => sknew_yes b r d m s l hr h0 h1 w)
  have HEX := Lib.hid he
  have HCN : Hid (cellsN b r d m l = r.toNat * d.toNat) := Lib.hid (by unfold cellsN; rw [he]; simp)
  clear he hr h0 h1
  go_enter Tryz.func21, Tryz.ntmps21
  go_wp2_with (refine wpList_load_row rfl 24 _ rfl w.heap.size rfl 24 _ (0, 0) _ hx1 Tryz.underlying24 rfl (by kernel_rfl) ?_)
  with_reducible refine (PE.out _).mono ?_
  rintro e w2 ⟨rfl, hb⟩
  have HB2 := Lib.hid (btr HB1.out hb)
  have HX2 := Lib.hid (HX1.out.kept hb)
  clear hb hx1
  go_wp2_with (refine wpList_load_row rfl 24 _ rfl w.heap.size rfl 24 _ (0, 0) _ HX2.out Tryz.underlying24 rfl (by kernel_rfl) ?_)
  with_reducible refine (PS.out _).mono ?_
  rintro e w3 ⟨A, G, C, rfl, hA, hG, hC, hsk, hb⟩
  have HB3 := Lib.hid (btr HB2.out hb)
  have HSK := Lib.hid hsk
  have HC3 : Hid (w.heap.size ≤ C) := Lib.hid (Nat.le_trans HB2.out.size hC)
  clear hb hsk hA hG hC
  go_wp2
  go_ret2
  exact ⟨_, A, G, C, rfl, HC3.out, .inr ⟨HEX.out, rfl, by rw [HCN.out]; exact HSK.out⟩, HB3.out⟩
 ·rw [he] at PE
  have PE := Lib.hid PE
  have PS := Lib.hid (fun w => exnew_yes b r d m s l he w)
  have HEX := Lib.hid he
  have HCN : Hid (cellsN b r d m l = 1 * (keysI b r d m l).toNat) := Lib.hid (by unfold cellsN; rw [he]; simp)
  clear he hr h0 h1
  go_enter Tryz.func21, Tryz.ntmps21
  go_wp2_with (refine wpList_load_row rfl 24 _ rfl w.heap.size rfl 24 _ (0, 0) _ hx1 Tryz.underlying24 rfl (by kernel_rfl) ?_)
  with_reducible refine (PE.out _).mono ?_
  rintro e w2 ⟨rfl, hb⟩
  have HB2 := Lib.hid (btr HB1.out hb)
  have HX2 := Lib.hid (HX1.out.kept hb)
  clear hb hx1
  go_wp2_with (refine wpList_load_row rfl 24 _ rfl w.heap.size rfl 24 _ (0, 0) _ HX2.out Tryz.underlying24 rfl (by kernel_rfl) ?_)
  with_reducible refine (PS.out _).mono ?_
  rintro e w3 ⟨A, G, C, rfl, hA, hG, hC, hsk, hb⟩
  have HB3 := Lib.hid (btr HB2.out hb)
  have HSK := Lib.hid hsk
  have HC3 : Hid (w.heap.size ≤ C) := Lib.hid (Nat.le_trans HB2.out.size hC)
  clear hb hsk hA hG hC
  go_wp2
  go_ret2
  exact ⟨_, A, G, C, rfl, HC3.out, .inl ⟨HEX.out, rfl, by rw [HCN.out]; exact HSK.out⟩, HB3.out⟩
end Go.Proofs.YthbkljeibmkimaaGreat


namespace Go.Proofs
open Go.Shelf
def Tryz.lays264_ren : Go.Shelf.Ren := ⟨fun | 264 => 157 | n => n, fun | 53 => 22 | 46 => 83 | n => n, fun | n => n⟩
theorem Tryz.lays264 : Go.Proofs.Lays.n264 Tryz.prog Tryz.lays264_ren := {
  mixed := by kernel_rfl
  f264 := Tryz.func157.trans (congrArg some (by kernel_rfl))
  t46 := Tryz.underlying83
  a46 := Tryz.isAgg83
  z46 := Tryz.sizeOf83
  v46 := Tryz.zeroValue83
  t53 := Tryz.underlying22
  a53 := Tryz.isAgg22
  z53 := Tryz.sizeOf22
  v53 := Tryz.zeroValue22 }
open Go.RowKit Go.Lib in
theorem Tryz.bits_Mul64 (x y : Nat) (hx : x < 18446744073709551616) (hy : y < 18446744073709551616) (w : World) :
    Calls Tryz.prog 157 #[.int .u64 x, .int .u64 y] w fun e w' => e = .returned (.tuple #[.int .u64 ((x * y / 18446744073709551616 : Nat) : Int), .int .u64 ((x * y % 18446744073709551616 : Nat) : Int)]) ∧ w' = w := Any.bits_Mul64 Tryz.lays264 x y hx hy w
end Go.Proofs
namespace Go.Proofs.YthbkljeibmkimaaGreat
open Go.RowKit

theorem ret_u64 {a b : Int} (h : a = b) : Ending.returned (.int .u64 a) = .returned (.int .u64 b) := by rw [h]

theorem fold_any (a : Int) (h0 : 0 ≤ a) (h1 : a ≤ 18446744073709551615) (w : World) :
    Calls Tryz.prog 156 #[.int .u64 a] w fun e w' => e = .returned (.int .u64 (ffold a)) ∧ w = w' := by
  obtain ⟨hs1, hs2⟩ := fold_step a h0 h1
  have e1 := and_P a h0 h1
  by_cases c : 2305843009213693951 ≤ a % 2305843009213693952 + a / 2305843009213693952
  · have H := Lib.hid (hs1 c)
    clear hs1 hs2
    go_enter Tryz.func156, Tryz.ntmps156
    go_wp2
    go_ret
    exact ⟨ret_u64 H.out, rfl⟩
  · have H := Lib.hid (hs2 (by omega))
    clear hs1 hs2
    go_enter Tryz.func156, Tryz.ntmps156
    go_wp2
    go_ret
    exact ⟨ret_u64 H.out, rfl⟩

theorem add_any (a b : Int) (h0 : 0 ≤ a) (h1 : a ≤ 18446744073709551615) (g0 : 0 ≤ b) (g1 : b ≤ 18446744073709551615) (w : World) :
    Calls Tryz.prog 152 #[.int .u64 a, .int .u64 b] w fun e w' => e = .returned (.int .u64 (fadd a b)) ∧ w = w' := by
  obtain ⟨b1, b2⟩ := ffold_bd a
  obtain ⟨b3, b4⟩ := ffold_bd b
  go_enter Tryz.func152, Tryz.ntmps152
  go_wp2_with (go_at_call 156; refine (fold_any _ (by omega) (by omega) _).mono ?_; rintro e w' ⟨rfl, rfl⟩)
  go_ret
  exact ⟨ret_u64 (fadd_of a b), rfl⟩

theorem radd_any (a b : Int) (h0 : 0 ≤ a) (h1 : a ≤ 18446744073709551615) (g0 : 0 ≤ b) (g1 : b ≤ 18446744073709551615) (w : World) :
    Calls Tryz.prog 90 #[.int .u64 a, .int .u64 b] w fun e w' => e = .returned (.int .u64 (fadd a b)) ∧ w = w' := by
  have H : Hid ((a % 2305843009213693951 + b % 2305843009213693951) % 2305843009213693951 = fadd a b) := Lib.hid (by rw [← P_eq, add_l, add_r]; rfl)
  go_enter Tryz.func90, Tryz.ntmps90
  go_wp2
  go_ret
  exact ⟨ret_u64 H.out, rfl⟩

theorem mul_any (a b : Int) (h0 : 0 ≤ a) (h1 : a ≤ 18446744073709551615) (g0 : 0 ≤ b) (g1 : b ≤ 18446744073709551615) (w : World) :
  Calls Tryz.prog 153 #[.int .u64 a, .int .u64 b] w fun e w' => e = .returned (.int .u64 (fmul a b)) ∧ w = w' := by
 obtain ⟨b1, b2⟩ := ffold_bd a
 obtain ⟨b3, b4⟩ := ffold_bd b
 obtain ⟨x, hx⟩ := Int.eq_ofNat_of_zero_le b1
 obtain ⟨y, hy⟩ := Int.eq_ofNat_of_zero_le b3
 have hh := hi_bd x y a b hx.symm hy.symm
 have hl : x * y % 18446744073709551616 < 18446744073709551616 := Nat.mod_lt _ (by omega)
 have H := Lib.hid (fmul_of x y a b hx.symm hy.symm)
 have Ho := or_shift (x * y / 18446744073709551616) (x * y % 18446744073709551616) hh hl
 have Ha := and_P ((x * y % 18446744073709551616 : Nat) : Int) (by omega) (by omega)
 have HX := Lib.hid hx
 have HY := Lib.hid hy
 clear hx hy
 go_enter Tryz.func153, Tryz.ntmps153
 go_wp2_with fail
 refine (fold_any a h0 h1 _).mono ?_; rintro e w' ⟨rfl, rfl⟩
 go_wp2_with fail
 refine (fold_any b g0 g1 _).mono ?_; rintro e w' ⟨rfl, rfl⟩
 go_wp2_with fail
 rw [HX.out, HY.out]
 refine (Tryz.bits_Mul64 x y (by have := HX.out; omega) (by have := HY.out; omega) _).mono ?_
 rintro e w' ⟨rfl, rfl⟩
 generalize x * y / 18446744073709551616 = h at *
 generalize x * y % 18446744073709551616 = l at *
 go_wp2_with fail
 refine (add_any _ _ (by omega) (by omega) (by omega) (by omega) _).mono ?_; rintro e w' ⟨rfl, rfl⟩
 go_wp2_with fail
 go_ret
 exact ⟨ret_u64 H.out, rfl⟩
end Go.Proofs.YthbkljeibmkimaaGreat


namespace Go.Proofs.YthbkljeibmkimaaGreat
open Go.RowKit
set_option linter.unusedVariables false

theorem rmul_step (O X Y : Int) (h : 0 ≤ Y) :
    (Y % 2 = 1 → ((O + X) % P + (X + X) % P * (Y / 2)) % P = (O + X * Y) % P) ∧ (Y % 2 = 0 → (O + (X + X) % P * (Y / 2)) % P = (O + X * Y) % P) := by
  have key : ∀ Z : Int, (Z + (X + X) % P * (Y / 2)) % P = (Z + X * (2 * (Y / 2))) % P := by
    intro Z
    rw [← add_r Z ((X + X) % P * (Y / 2)), mul_l, add_r]
    congr 2
    rw [← Int.mul_assoc, show X + X = X * 2 by omega]
  constructor
  · intro e
    rw [key, add_l, Int.add_assoc]
    congr 2
    rw [show X * Y = X * (1 + 2 * (Y / 2)) by congr 1; omega, Int.mul_add, Int.mul_one]
  · intro e
    rw [key]
    congr 3
    omega

def RMulRel (a b O X Y : Int) : Prop := 0 ≤ O ∧ O ≤ 2305843009213693950 ∧ 0 ≤ X ∧ X ≤ 2305843009213693950 ∧ 0 ≤ Y ∧ Y ≤ 2305843009213693950 ∧ (O + X * Y) % P = fmul a b

theorem rmul_any (a b : Int) (h0 : 0 ≤ a) (h1 : a ≤ 18446744073709551615) (g0 : 0 ≤ b) (g1 : b ≤ 18446744073709551615) (w : World) :
  Calls Tryz.prog 91 #[.int .u64 a, .int .u64 b] w fun e w' => e = .returned (.int .u64 (fmul a b)) ∧ w = w' := by
 have start : RMulRel a b 0 (a % 2305843009213693951) (b % 2305843009213693951) := by
  refine ⟨by omega, by omega, by omega, by omega, by omega, by omega, ?_⟩
  rw [← P_eq, Int.zero_add, mul_l, mul_r]; rfl
 go_enter Tryz.func91, Tryz.ntmps91
 go_wp2
 go_loop [5, 6, 7] (fun x y o => ∃ O X Y : Int, RMulRel a b O X Y ∧ x = .int .u64 X ∧ y = .int .u64 Y ∧ o = .int .u64 O) (fun _ y _ => (intOf y).toNat)
 case atStart => exact ⟨_, _, _, start, rfl, rfl, rfl⟩
 case round =>
  obtain ⟨O, X, Y, hR, rfl, rfl, rfl⟩ := hrel
  have HR := Lib.hid hR
  obtain ⟨o0, o1, x0, x1, y0, y1, hmid⟩ := hR
  have HM := Lib.hid hmid
  clear hmid start
  by_cases hy : 0 < Y
  ·by_cases ho : Y % 2 = 1
   ·have hob : (Y % 2 == 1) = true := by simp [ho]
    have HS := Lib.hid ((rmul_step O X Y y0).1 ho)
    go_wp2
    go_round
    case rel => exact ⟨_, _, _, ⟨by omega, by omega, by omega, by omega, by omega, by omega, by have := HS.out; rw [P_eq] at *; rw [this, ← P_eq]; exact HM.out⟩, rfl, rfl, rfl⟩
    case measure => simp [intOf]; omega
   ·have hob : (Y % 2 == 1) = false := by simp [ho]
    have HS := Lib.hid ((rmul_step O X Y y0).2 (by omega))
    go_wp2
    go_round
    case rel => exact ⟨_, _, _, ⟨by omega, by omega, by omega, by omega, by omega, by omega, by have := HS.out; rw [P_eq] at *; rw [this, ← P_eq]; exact HM.out⟩, rfl, rfl, rfl⟩
    case measure => simp [intOf]; omega
  ·obtain rfl : Y = 0 := by omega
   go_wp2
   go_ret
   refine ⟨ret_u64 ?_, rfl⟩
   have := HM.out
   rw [Int.mul_zero, Int.add_zero] at this
   rw [← this]; unfold P; omega

end Go.Proofs.YthbkljeibmkimaaGreat


namespace Go.Proofs.YthbkljeibmkimaaGreat
open Go.RowKit
set_option linter.unusedVariables false
set_option linter.unusedSimpArgs false

theorem ret_i64 {a b : Int} (h : a = b) : Ending.returned (.int .i64 a) = .returned (.int .i64 b) := by rw [h]

theorem at_any (a b x : Int) (h0 : 0 ≤ a) (h1 : a ≤ 18446744073709551615) (g0 : 0 ≤ b) (g1 : b ≤ 18446744073709551615) (k0 : 0 ≤ x) (k1 : x ≤ 18446744073709551615) (w : World) :
    Calls Tryz.prog 148 #[.agg #[.int .u64 a, .int .u64 b], .int .u64 x] w fun e w' => e = .returned (.int .u64 (lineI a b x)) ∧ Below w.heap.size w w' := by
  have b1 := fmul_bd a x
  go_enter Tryz.func148, Tryz.ntmps148
  go_wp2_with fail
  go_quiet ((first
    | (go_at_call 153; exact Calls.quiet_of_same ((mul_any _ _ (by omega) (by omega) (by omega) (by omega) _).mono fun e w' ⟨p, q⟩ => ⟨p, q.symm⟩))
    | (go_at_call 152; exact Calls.quiet_of_same ((add_any _ _ (by omega) (by omega) (by omega) (by omega) _).mono fun e w' ⟨p, q⟩ => ⟨p, q.symm⟩))))
  go_wp2
  go_ret
  exact ⟨ret_u64 rfl, below_drewN ((Below.refl _ _).alloc (Nat.le_refl _) _) _⟩


theorem bucket_any (a b x n : Int) (h0 : 0 ≤ a) (h1 : a ≤ 18446744073709551615) (g0 : 0 ≤ b) (g1 : b ≤ 18446744073709551615) (k0 : 0 ≤ x) (k1 : x ≤ 18446744073709551615) (n0 : 1 ≤ n) (n1 : n ≤ 9223372036854775807) (w : World) :
    Calls Tryz.prog 141 #[.int .u64 a, .int .u64 b, .int .u64 x, .int .i64 n] w fun e w' => e = .returned (.int .i64 (lineI a b x % n)) ∧ Below w.heap.size w w' := by
  have b1 := lineI_bd a b x
  have m0 : 0 ≤ lineI a b x % n := Int.emod_nonneg _ (by omega)
  have m1 : lineI a b x % n < n := Int.emod_lt_of_pos _ (by omega)
  go_enter Tryz.func141, Tryz.ntmps141
  go_wp2_with (go_at_call 148; refine (at_any a b x h0 h1 g0 g1 k0 k1 _).mono ?_; rintro e w' ⟨rfl, hb⟩)
  go_ret
  exact ⟨ret_i64 rfl, hb⟩
theorem rline_any (a b x : Int) (h0 : 0 ≤ a) (h1 : a ≤ 18446744073709551615) (g0 : 0 ≤ b) (g1 : b ≤ 18446744073709551615) (k0 : 0 ≤ x) (k1 : x ≤ 18446744073709551615) (w : World) :
    Calls Tryz.prog 83 #[.int .u64 a, .int .u64 b, .int .u64 x] w fun e w' => e = .returned (.int .u64 (lineI a b x)) ∧ w = w' := by
  have b1 := fmul_bd x a
  have H : Hid (fadd (fmul x a) b = lineI a b x) := Lib.hid (by unfold lineI; rw [fmul_comm])
  go_enter Tryz.func83, Tryz.ntmps83
  go_wp2_with (first
    | (go_at_call 156; refine (fold_any _ (by omega) (by omega) _).mono ?_; rintro e w' ⟨rfl, rfl⟩)
    | (go_at_call 152; refine (add_any _ _ (by omega) (by omega) (by omega) (by omega) _).mono ?_; rintro e w' ⟨rfl, rfl⟩)
    | (go_at_call 90; refine (radd_any _ _ (by omega) (by omega) (by omega) (by omega) _).mono ?_; rintro e w' ⟨rfl, rfl⟩)
    | (go_at_call 153; refine (mul_any _ _ (by omega) (by omega) (by omega) (by omega) _).mono ?_; rintro e w' ⟨rfl, rfl⟩)
    | (go_at_call 91; refine (rmul_any _ _ (by omega) (by omega) (by omega) (by omega) _).mono ?_; rintro e w' ⟨rfl, rfl⟩)
  )
  go_ret
  exact ⟨ret_u64 H.out, rfl⟩
theorem rbucket_any (a b x n : Int) (h0 : 0 ≤ a) (h1 : a ≤ 18446744073709551615) (g0 : 0 ≤ b) (g1 : b ≤ 18446744073709551615) (k0 : 0 ≤ x) (k1 : x ≤ 18446744073709551615) (n0 : 1 ≤ n) (n1 : n ≤ 9223372036854775807) (w : World) :
    Calls Tryz.prog 77 #[.int .u64 a, .int .u64 b, .int .u64 x, .int .i64 n] w fun e w' => e = .returned (.int .i64 (lineI a b x % n)) ∧ w = w' := by
  have b1 := lineI_bd a b x
  have m0 : 0 ≤ lineI a b x % n := Int.emod_nonneg _ (by omega)
  have m1 : lineI a b x % n < n := Int.emod_lt_of_pos _ (by omega)
  go_enter Tryz.func77, Tryz.ntmps77
  go_wp2_with (go_at_call 83; refine (rline_any a b x h0 h1 g0 g1 k0 k1 _).mono ?_; rintro e w' ⟨rfl, rfl⟩)
  go_ret
  exact ⟨ret_i64 rfl, rfl⟩
end Go.Proofs.YthbkljeibmkimaaGreat


namespace Go.Proofs.YthbkljeibmkimaaGreat
open Go.RowKit
set_option linter.unusedVariables false
set_option linter.unusedSimpArgs false

theorem ret_u64s {a b : Int} (h : a = b) : Ending.returned (.int .u64 a) = .returned (.int .u64 b) := by rw [h]
theorem bel_trans {w w1 w2 : World} (h : Below w.heap.size w w1) (k : Below w1.heap.size w1 w2) : Below w.heap.size w w2 := h.trans (k.mono h.size)

theorem steps_any (w : World) :
    Calls Tryz.prog 155 #[] w fun e w' => e = .returned (.agg #[.int .u64 30, .int .u64 13787848793156543929, .int .u64 27, .int .u64 10723151780598845931, .int .u64 31, .int .u64 1]) ∧ Below w.heap.size w w' := by
  go_enter Tryz.func155, Tryz.ntmps155
  go_wp2
  exact bodyPost_ret (v := .agg #[.int .u64 30, .int .u64 13787848793156543929, .int .u64 27, .int .u64 10723151780598845931, .int .u64 31, .int .u64 1]) (by simp [results, Tryz.results155, go_sem]) rfl ⟨rfl, (Below.refl _ _).alloc (Nat.le_refl _) _⟩
theorem idx0 : ∀ w, (Instr.index 214 (.agg #[.int .u64 30, .int .u64 13787848793156543929, .int .u64 27, .int .u64 10723151780598845931, .int .u64 31, .int .u64 1]) (.int .i64 0)).run Tryz.prog w = .ok (.agg #[.int .u64 30, .int .u64 13787848793156543929]) w := fun _ => by kernel_rfl
theorem idx1 : ∀ w, (Instr.index 214 (.agg #[.int .u64 30, .int .u64 13787848793156543929, .int .u64 27, .int .u64 10723151780598845931, .int .u64 31, .int .u64 1]) (.int .i64 1)).run Tryz.prog w = .ok (.agg #[.int .u64 27, .int .u64 10723151780598845931]) w := fun _ => by kernel_rfl
theorem idx2 : ∀ w, (Instr.index 214 (.agg #[.int .u64 30, .int .u64 13787848793156543929, .int .u64 27, .int .u64 10723151780598845931, .int .u64 31, .int .u64 1]) (.int .i64 2)).run Tryz.prog w = .ok (.agg #[.int .u64 31, .int .u64 1]) w := fun _ => by kernel_rfl

theorem mix_any (a : Int) (h0 : 0 ≤ a) (h1 : a ≤ 18446744073709551615) (w : World) :
    Calls Tryz.prog 151 #[.int .u64 a] w fun e w' => e = .returned (.int .u64 (mixI a)) ∧ Below w.heap.size w w' := by
  have H := Lib.hid (mix_walk a h0 h1)
  have i0 := idx0
  have i1 := idx1
  have i2 := idx2
  go_enter Tryz.func151, Tryz.ntmps151
  go_wp2_with (go_at_call 155; refine (steps_any _).mono ?_; rintro e w' ⟨rfl, hb⟩)
  refine wp_loop_rounds 4 ?_
  rw [rounds_succ]
  go_wp2
  rw [rounds_succ]
  go_wp2
  rw [rounds_succ]
  go_wp2
  rw [rounds_succ]
  go_wp2
  go_ret
  refine ⟨ret_u64s H.out, ?_⟩
  have hs := hb.size
  exact ((hb.alloc (by omega) _).alloc (by simp; omega) _).alloc (by simp; omega) _

theorem draw_any (s i : Int) (h0 : 0 ≤ s) (h1 : s ≤ 18446744073709551615) (g0 : 0 ≤ i) (g1 : i ≤ 18446744073709551615) (w : World) :
    Calls Tryz.prog 147 #[.int .u64 s, .int .u64 i] w fun e w' => e = .returned (.int .u64 (drawI s i)) ∧ Below w.heap.size w w' := by
  have HE : Hid (mixI (IntKind.u64.wrap (s + IntKind.u64.wrap (IntKind.u64.wrap (i + 1) * 11400714819323198485))) = drawI s i) := Lib.hid (by
    unfold mixI drawI drawB; rw [bv_wrap, bv_add, bv_wrap, bv_mul, bv_wrap, bv_add]; rfl)
  have hw : 0 ≤ IntKind.u64.wrap (s + IntKind.u64.wrap (IntKind.u64.wrap (i + 1) * 11400714819323198485)) ∧ IntKind.u64.wrap (s + IntKind.u64.wrap (IntKind.u64.wrap (i + 1) * 11400714819323198485)) ≤ 18446744073709551615 := by rw [wrap_bv]; exact nv_bd _
  have HW := Lib.hid hw
  clear hw
  go_enter Tryz.func147, Tryz.ntmps147
  go_wp2_with fail
  refine (mix_any _ HW.out.1 HW.out.2 _).mono ?_
  rintro e w' ⟨rfl, hb⟩
  go_wp2_with fail
  go_ret
  exact ⟨ret_u64s HE.out, hb⟩

theorem ret_u64s2 {a b c d : Int} (h : a = b) (k : c = d) : Ending.returned (.tuple #[.int .u64 a, .int .u64 c]) = .returned (.tuple #[.int .u64 b, .int .u64 d]) := by rw [h, k]

theorem pair_any (s l r : Int) (h0 : 0 ≤ s) (h1 : s ≤ 18446744073709551615) (l0 : 0 ≤ l) (l1 : l ≤ 59) (r0 : 0 ≤ r) (r1 : r ≤ 7) (w : World) :
    Calls Tryz.prog 140 #[.int .u64 s, .int .i64 l, .int .i64 r] w fun e w' => e = .returned (.tuple #[.int .u64 (pairA s l r), .int .u64 (pairB s l r)]) ∧ Below w.heap.size w w' := by
  have b1 := drawI_bd s (2 * (l * 8 + r))
  have b2 := drawI_bd s (2 * (l * 8 + r) + 1)
  have e1 : Hid (2 * (l * 8 + r) = pairN l r) := Lib.hid (by unfold pairN; omega)
  go_enter Tryz.func140, Tryz.ntmps140
  go_wp2_with fail
  refine (draw_any _ _ h0 h1 (by omega) (by omega) _).mono ?_
  rintro e w' ⟨rfl, hb⟩
  go_wp2_with fail
  refine (draw_any _ _ h0 h1 (by omega) (by omega) _).mono ?_
  rintro e w2 ⟨rfl, hb2⟩
  go_wp2_with fail
  go_ret2
  refine ⟨ret_u64s2 ?_ ?_, bel_trans hb hb2⟩
  · rw [e1.out]; rfl
  · rw [e1.out]; rfl

end Go.Proofs.YthbkljeibmkimaaGreat


namespace Go.Proofs.YthbkljeibmkimaaGreat
open Go.RowKit
set_option linter.unusedVariables false
set_option linter.unusedSimpArgs false

theorem rowKept {w w' : World} {b : Nat} {t : TypeId} {n : Nat} {f : Nat → Value} (h : w.rowIs b t n f) (hb : Below w.heap.size w w') : w'.rowIs b t n f := h.of_block (hb.block b h.lt)
theorem ret_i64c {a b : Int} (h : a = b) : Ending.returned (.int .i64 a) = .returned (.int .i64 b) := by rw [h]

structure Caps (w : World) (A B C : Nat) (b r d m s l k : Int) : Prop where
  cfg : Blk w A 24 #[.int .i64 b, .int .i64 r, .int .i64 d, .int .i64 m, .int .u64 s]
  lev : Blk w B 3 #[.int .i64 l]
  key : Blk w C 22 #[.int .u64 k]
theorem Caps.kept {w w' : World} {A B C : Nat} {b r d m s l k : Int} (h : Caps w A B C b r d m s l k) (hb : Below w.heap.size w w') : Caps w' A B C b r d m s l k :=
  ⟨h.cfg.kept hb, h.lev.kept hb, h.key.kept hb⟩

theorem Caps.cells {w : World} {A B C : Nat} {b r d m s l k : Int} (h : Caps w A B C b r d m s l k) :
    (w.cell? ⟨A, 0, none⟩ = some (.int .i64 b) ∧ w.cell? ⟨A, 1, none⟩ = some (.int .i64 r) ∧ w.cell? ⟨A, 2, none⟩ = some (.int .i64 d) ∧ w.cell? ⟨A, 3, none⟩ = some (.int .i64 m) ∧ w.cell? ⟨A, 4, none⟩ = some (.int .u64 s)) ∧
    w.cell? ⟨B, 0, none⟩ = some (.int .i64 l) ∧ w.cell? ⟨C, 0, none⟩ = some (.int .u64 k) := ⟨box_cells h.cfg, h.lev.cell 0, h.key.cell 0⟩
theorem Caps.drew {w : World} {A B C : Nat} {b r d m s l k : Int} (h : Caps w A B C b r d m s l k) : Caps w.drew A B C b r d m s l k := ⟨h.cfg, h.lev, h.key⟩
theorem col1_any (A B C : Nat) (b r d m s l k i : Int) (s0 : 0 ≤ s) (s1 : s ≤ 18446744073709551615) (k0 : 0 ≤ k) (k1 : k ≤ 18446744073709551615) (l0 : 0 ≤ l) (l1 : l ≤ 59) (i0 : 0 ≤ i) (i1 : i ≤ 7) (d0 : 1 ≤ d) (d1 : d ≤ 9223372036854775807) (w : World)
    (hC : Caps w A B C b r d m s l k) :
    Calls Tryz.prog 139 #[.int .i64 i, .pointer (some ⟨A, 0, none⟩), .pointer (some ⟨B, 0, none⟩), .pointer (some ⟨C, 0, none⟩)] w fun e w' => e = .returned (.int .i64 (colI d s l k i)) ∧ Below w.heap.size w w' := by
  have a2 := hC.cfg.cell 2
  have a4 := hC.cfg.cell 4
  have bl := hC.lev.cell 0
  have ck := hC.key.cell 0
  simp at a2 a4 bl ck
  have HC := Lib.hid hC
  clear hC
  obtain ⟨p0, p1⟩ := pairA_bd s l i
  obtain ⟨q0, q1⟩ := pairB_bd s l i
  go_enter Tryz.func139, Tryz.ntmps139
  go_wp2_with fail
  refine (pair_any s l i s0 s1 l0 l1 i0 i1 _).mono ?_; rintro e w1 ⟨rfl, hb⟩
  have hC1 := HC.out.kept hb
  have c2 := hC1.cfg.cell 2
  have ck1 := hC1.key.cell 0
  simp at c2 ck1
  go_wp2_with fail
  refine (bucket_any _ _ k d (by omega) (by omega) (by omega) (by omega) k0 k1 d0 d1 _).mono ?_; rintro e w2 ⟨rfl, hb2⟩
  go_wp2
  go_ret
  exact ⟨ret_i64c rfl, btr hb hb2⟩

def ColsPost (w : World) (R : Nat) (d s l k : Int) (e : Ending) (w' : World) : Prop :=
  ∃ g, e = .returned (.slice (some ⟨g, 0, none⟩) R R) ∧ w.heap.size ≤ g ∧ w'.rowIs g 3 R (fun i => .int .i64 (colI d s l k (i : Int))) ∧ Below w.heap.size w w'

theorem Tryz.infoInt : (Tryz.prog.info? 3).map (fun i => (i.zero, i.size, i.bytes)) = some (some (.int .i64 0), 1, 8) := by kernel_rfl

theorem cols_any (b d m s l k : Int) (R : Nat) (s0 : 0 ≤ s) (s1 : s ≤ 18446744073709551615) (k0 : 0 ≤ k) (k1 : k ≤ 18446744073709551615) (hk : k < keysI b (R : Int) d m l) (w : World) :
  Calls Tryz.prog 133 #[.agg #[.int .i64 b, .int .i64 (R : Int), .int .i64 d, .int .i64 m, .int .u64 s], .int .i64 l, .int .u64 k] w (ColsPost w R d s l k) := by
 obtain ⟨j0, j1⟩ := keysI_bd b (R : Int) d m l
 have HR := keys_right (b := b) (r := (R : Int)) (d := d) (m := m) (l := l) (by omega)
 obtain ⟨d0, d1, b0, b1, l0, l1, r0, r1, _⟩ := HR
 have e1 : decide (keysI b (R : Int) d m l ≤ k) = false := decide_eq_false (by omega)
 have hnew0 := Blk.new w 24 #[.int .i64 b, .int .i64 (R : Int), .int .i64 d, .int .i64 m, .int .u64 s]
 go_enter Tryz.func133, Tryz.ntmps133
 go_wp2_with fail
 have hcap : Caps (((w.alloc (.cells #[.int .i64 b, .int .i64 (R : Int), .int .i64 d, .int .i64 m, .int .u64 s] 24)).alloc (.cells #[.int .i64 l] 3)).alloc (.cells #[.int .u64 k] 22)) w.heap.size (w.heap.size + 1) (w.heap.size + 1 + 1) b (R : Int) d m s l k := by
  refine ⟨((Blk.new _ _ _).alloc _).alloc _, Blk.alloc (by have := Blk.new (w.alloc (.cells #[.int .i64 b, .int .i64 (R : Int), .int .i64 d, .int .i64 m, .int .u64 s] 24)) 3 #[.int .i64 l]; simpa using this) _, ?_⟩
  have := Blk.new ((w.alloc (.cells #[.int .i64 b, .int .i64 (R : Int), .int .i64 d, .int .i64 m, .int .u64 s] 24)).alloc (.cells #[.int .i64 l] 3)) 22 #[.int .u64 k]
  simpa using this
 have hbel : Below w.heap.size w (((w.alloc (.cells #[.int .i64 b, .int .i64 (R : Int), .int .i64 d, .int .i64 m, .int .u64 s] 24)).alloc (.cells #[.int .i64 l] 3)).alloc (.cells #[.int .u64 k] 22)) :=
  (((Below.refl _ _).alloc (Nat.le_refl _) _).alloc (by simp) _).alloc (by simp; omega) _
 generalize (((w.alloc (.cells #[.int .i64 b, .int .i64 (R : Int), .int .i64 d, .int .i64 m, .int .u64 s] 24)).alloc (.cells #[.int .i64 l] 3)).alloc (.cells #[.int .u64 k] 22)) = wz at *
 have hsz := hbel.size
 generalize hA : w.heap.size = A at *
 generalize hB : A + 1 = B at *
 generalize hC : B + 1 = C at *
 obtain ⟨n, hn⟩ : ∃ n, n = A := ⟨_, rfl⟩
 have hbel : Below n w wz := by rw [hn]; exact hbel
 have HN := Lib.hid (hn.trans hA.symm)
 have hnw : n ≤ w.heap.size := by omega
 clear hA hB hC hn
 have HE := Lib.hid e1
 refine wp_region_held_drew (S := fun w' => Caps w' A B C b (R : Int) d m s l k ∧ Below n w w') (by kernel_rfl) (by exact ⟨hcap.drew, hbel.drew⟩) (fun hHeld => ?_)
 refine tkH (i := 0) (v := ?_) rfl (by kernel_rfl) (fun _ _ _ h => h) (Or.inl ⟨by rfl, ?_⟩) (by assumption) ?_
 rotate_left
 ·intro w hSw
  obtain ⟨⟨q0, q1, q2, q3, q4⟩, qb, qk⟩ := Caps.cells hSw.1
  go_simp
  try with_reducible rfl
 simp only [Act.put, z1, z2, z3, z4, z5, z6]
 refine tkH (i := 1) (v := ?_) rfl (by kernel_rfl) (fun _ _ _ h => h) (Or.inl ⟨by rfl, ?_⟩) (by assumption) ?_
 rotate_left
 ·intro w hSw
  obtain ⟨⟨q0, q1, q2, q3, q4⟩, qb, qk⟩ := Caps.cells hSw.1
  go_simp
  try with_reducible rfl
 simp only [Act.put, z1, z2, z3, z4, z5, z6]
 refine tkH (i := 2) (v := ?_) rfl (by kernel_rfl) (fun _ _ _ h => h) (Or.inl ⟨by rfl, ?_⟩) (by assumption) ?_
 rotate_left
 ·intro w hSw
  obtain ⟨⟨q0, q1, q2, q3, q4⟩, qb, qk⟩ := Caps.cells hSw.1
  go_simp
  try with_reducible rfl
 simp only [Act.put, z1, z2, z3, z4, z5, z6]
 refine wpAnyH_ready (rs := [3]) (by kernel_rfl) (by simp) ?_
 refine AllReadyH.cons rfl (fun K hK => ?_) AllReadyH.nil
 go_simp
 go_wp2_with ((go_at_call 23; refine (keys_any _ _ _ _ _ _ _).mono ?_; rintro e w' ⟨rfl, hb'⟩))
 refine hK.out _ _ ?_ (fun hHeld => ?_)
 ·first | assumption | exact ⟨hHeld.1.kept hb', hHeld.2.trans (hb'.mono (by have := hHeld.2.size; omega))⟩
 clear hK K
 refine tkH (i := 4) (v := ?_) rfl (by kernel_rfl) (fun _ _ _ h => h) (Or.inl ⟨by rfl, ?_⟩) (by assumption) ?_
 rotate_left
 ·intro w hSw
  skip
  go_simp
  try with_reducible rfl
 simp only [Act.put, z1, z2, z3, z4, z5, z6]
 refine wpAnyH_done (by kernel_rfl) ?_ _
 clear hnew0 hbel hsz hcap hb'
 obtain ⟨hcap, hbel⟩ := hHeld
 obtain ⟨⟨q0, q1, q2, q3, q4⟩, qb, qk⟩ := hcap.cells
 have hmk := fun W => run_make_row' (P := Tryz.prog) 158 3 (.int .i64 0) 8 Tryz.underlying158 Tryz.infoInt rfl .i64 .i64 R (by omega) (by omega) W
 go_wp2_with fail
 have hrow := World.rowIs_made w' (.int .i64 0) R 3
 have hcap2 : Caps (w'.alloc (.cells (madeCells #[.int .i64 0] R) 3)) A B C b (R : Int) d m s l k := ⟨hcap.cfg.alloc _, hcap.lev.alloc _, hcap.key.alloc _⟩
 have hbel2 : Below n w (w'.alloc (.cells (madeCells #[.int .i64 0] R) 3)) := hbel.alloc (by have := hbel.size; omega) _
 have hGA : A ≠ w'.heap.size := Nat.ne_of_lt hcap.cfg.lt
 have hGB : B ≠ w'.heap.size := Nat.ne_of_lt hcap.lev.lt
 have hGC : C ≠ w'.heap.size := Nat.ne_of_lt hcap.key.lt
 have hGn : n ≤ w'.heap.size := by have := hbel.size; omega
 clear hmk q0 q1 q2 q3 q4 qb qk
 clear hcap hbel
 generalize (w'.alloc (.cells (madeCells #[.int .i64 0] R) 3)) = wq at *
 generalize w'.heap.size = G at *
 go_loopw [21] (fun i wr => ∃ j : Nat, j ≤ R ∧ i = .int .i64 (j : Int) ∧ wr.rowIs G 3 R (fun x => .int .i64 (if x < j then colI d s l k (x : Int) else 0)) ∧ Caps wr A B C b (R : Int) d m s l k ∧ Below n w wr) (fun i _ => R - (intOf i).toNat)
 case atStart => exact ⟨0, by omega, rfl, hrow.congr (fun x _ => by simp), hcap2, hbel2⟩
 case round =>
  obtain ⟨j, hj, rfl, hrow, hcap, hbel⟩ := hrel
  clear hcap2 hbel2
  have HR := Lib.hid hrow
  have HC := Lib.hid hcap
  have HB := Lib.hid hbel
  clear hrow hcap hbel
  by_cases hlt : j < R
  ·go_wp2_with fail
   refine (col1_any A B C b (R : Int) d m s l k (j : Int) s0 s1 k0 k1 l0 (by omega) (by omega) (by omega) d0 (by omega) _ HC.out).mono ?_
   rintro e w2 ⟨rfl, hb2⟩
   have hr2 := rowKept HR.out hb2
   have hcell := hr2.cell hlt
   have hfrz := hr2.frozen j
   have HR2 := Lib.hid (hr2.set j (.int .i64 (colI d s l k (j : Int))))
   have HC2 := Lib.hid (HC.out.kept hb2)
   have HB2 : Hid (Below n w w2) := Lib.hid (HB.out.trans (hb2.mono (by have := HB.out.size; omega)))
   clear hr2 hb2
   go_wp2
   go_roundw
   case rel =>
    refine ⟨j + 1, by omega, by go_num, HR2.out.congr (fun x _ => ?_), ⟨HC2.out.cfg.far hGA _, HC2.out.lev.far hGB _, HC2.out.key.far hGC _⟩, HB2.out.setCell hGn _⟩
    by_cases e : x = j
    ·subst e; simp
    ·rw [if_neg e]
     by_cases e2 : x < j
     ·rw [if_pos e2, if_pos (by omega)]
     ·rw [if_neg e2, if_neg (by omega)]
   case measure => simp [intOf]; omega
  ·obtain rfl : j = R := by omega
   go_wp2
   go_ret
   exact ⟨G, rfl, by have := HN.out; omega, HR.out.congr (fun x hx => by rw [if_pos hx]), by rw [← HN.out]; exact HB.out⟩

theorem cols_none (b r d m s l k : Int) (hk : ¬ k < keysI b r d m l) (w : World) :
  Calls Tryz.prog 133 #[.agg #[.int .i64 b, .int .i64 r, .int .i64 d, .int .i64 m, .int .u64 s], .int .i64 l, .int .u64 k] w fun e w' => e = .returned (.slice none 0 0) ∧ Below w.heap.size w w' := by
 have e1 : decide (keysI b r d m l ≤ k) = true := decide_eq_true (by omega)
 go_enter Tryz.func133, Tryz.ntmps133
 go_wp2_with fail
 have hcap : Caps (((w.alloc (.cells #[.int .i64 b, .int .i64 r, .int .i64 d, .int .i64 m, .int .u64 s] 24)).alloc (.cells #[.int .i64 l] 3)).alloc (.cells #[.int .u64 k] 22)) w.heap.size (w.heap.size + 1) (w.heap.size + 1 + 1) b r d m s l k := by
  refine ⟨((Blk.new _ _ _).alloc _).alloc _, Blk.alloc (by have := Blk.new (w.alloc (.cells #[.int .i64 b, .int .i64 r, .int .i64 d, .int .i64 m, .int .u64 s] 24)) 3 #[.int .i64 l]; simpa using this) _, ?_⟩
  have := Blk.new ((w.alloc (.cells #[.int .i64 b, .int .i64 r, .int .i64 d, .int .i64 m, .int .u64 s] 24)).alloc (.cells #[.int .i64 l] 3)) 22 #[.int .u64 k]
  simpa using this
 have hbel : Below w.heap.size w (((w.alloc (.cells #[.int .i64 b, .int .i64 r, .int .i64 d, .int .i64 m, .int .u64 s] 24)).alloc (.cells #[.int .i64 l] 3)).alloc (.cells #[.int .u64 k] 22)) :=
  (((Below.refl _ _).alloc (Nat.le_refl _) _).alloc (by simp) _).alloc (by simp; omega) _
 generalize (((w.alloc (.cells #[.int .i64 b, .int .i64 r, .int .i64 d, .int .i64 m, .int .u64 s] 24)).alloc (.cells #[.int .i64 l] 3)).alloc (.cells #[.int .u64 k] 22)) = wz at *
 have hsz := hbel.size
 generalize hA : w.heap.size = A at *
 generalize hB : A + 1 = B at *
 generalize hC : B + 1 = C at *
 obtain ⟨n, hn⟩ : ∃ n, n = A := ⟨_, rfl⟩
 have hbel : Below n w wz := by rw [hn]; exact hbel
 have HN := Lib.hid (hn.trans hA.symm)
 have hnw : n ≤ w.heap.size := by omega
 clear hA hB hC hn
 refine wp_region_held_drew (S := fun w' => Caps w' A B C b r d m s l k ∧ Below n w w') (by kernel_rfl) (by exact ⟨hcap.drew, hbel.drew⟩) (fun hHeld => ?_)
 refine tkH (i := 0) (v := ?_) rfl (by kernel_rfl) (fun _ _ _ h => h) (Or.inl ⟨by rfl, ?_⟩) (by assumption) ?_
 rotate_left
 ·intro w hSw
  obtain ⟨⟨q0, q1, q2, q3, q4⟩, qb, qk⟩ := Caps.cells hSw.1
  go_simp
  try with_reducible rfl
 simp only [Act.put, z1, z2, z3, z4, z5, z6]
 refine tkH (i := 1) (v := ?_) rfl (by kernel_rfl) (fun _ _ _ h => h) (Or.inl ⟨by rfl, ?_⟩) (by assumption) ?_
 rotate_left
 ·intro w hSw
  obtain ⟨⟨q0, q1, q2, q3, q4⟩, qb, qk⟩ := Caps.cells hSw.1
  go_simp
  try with_reducible rfl
 simp only [Act.put, z1, z2, z3, z4, z5, z6]
 refine tkH (i := 2) (v := ?_) rfl (by kernel_rfl) (fun _ _ _ h => h) (Or.inl ⟨by rfl, ?_⟩) (by assumption) ?_
 rotate_left
 ·intro w hSw
  obtain ⟨⟨q0, q1, q2, q3, q4⟩, qb, qk⟩ := Caps.cells hSw.1
  go_simp
  try with_reducible rfl
 simp only [Act.put, z1, z2, z3, z4, z5, z6]
 refine wpAnyH_ready (rs := [3]) (by kernel_rfl) (by simp) ?_
 refine AllReadyH.cons rfl (fun K hK => ?_) AllReadyH.nil
 go_simp
 go_wp2_with ((go_at_call 23; refine (keys_any _ _ _ _ _ _ _).mono ?_; rintro e w' ⟨rfl, hb'⟩))
 refine hK.out _ _ ?_ (fun hHeld => ?_)
 ·first | assumption | exact ⟨hHeld.1.kept hb', hHeld.2.trans (hb'.mono (by have := hHeld.2.size; omega))⟩
 clear hK K
 refine tkH (i := 4) (v := ?_) rfl (by kernel_rfl) (fun _ _ _ h => h) (Or.inl ⟨by rfl, ?_⟩) (by assumption) ?_
 rotate_left
 ·intro w hSw
  skip
  go_simp
  try with_reducible rfl
 simp only [Act.put, z1, z2, z3, z4, z5, z6]
 refine wpAnyH_done (by kernel_rfl) ?_ _
 have HB := Lib.hid hHeld.2
 clear hbel hcap hHeld
 go_wp2
 go_ret
 exact ⟨rfl, by rw [← HN.out]; exact HB.out⟩
end Go.Proofs.YthbkljeibmkimaaGreat


namespace Go.Proofs.YthbkljeibmkimaaGreat
open Go.RowKit
set_option linter.unusedVariables false
set_option linter.unusedSimpArgs false

open Classical in
noncomputable def kthL (l : List Int) (k : Nat) : Int := if h : ∃ v, IsKth l k v then h.choose else 0
theorem kthL_of {l : List Int} {k : Nat} {v : Int} (h : IsKth l k v) : kthL l k = v := by
  have hx : ∃ v, IsKth l k v := ⟨v, h⟩
  unfold kthL
  rw [dif_pos hx]
  exact hx.choose_spec.unique h
def colsZ (d s l k : Int) (R : Nat) : List Int := (List.range R).map fun (i : Nat) => colI d s l k (i : Int)
theorem colsZ_len (d s l k : Int) (R : Nat) : (colsZ d s l k R).length = R := by simp [colsZ]
theorem colsZ_meet {d s l k : Int} {R : Nat} (hR : 0 < R) (hd : 1 ≤ d) : meetB R d.toNat (colsZ d s l k R) = true := by
  refine meetB_all hR (colsZ_len ..) (fun j c hc => ?_)
  unfold colsZ at hc
  rw [List.getElem?_map] at hc
  cases hj : (List.range R)[j]? with
  | none => rw [hj] at hc; simp at hc
  | some i =>
    rw [hj] at hc
    simp at hc
    subst hc
    unfold colI
    have h1 := Int.emod_nonneg (lineI (pairA s l (i : Int)) (pairB s l (i : Int)) k) (show d ≠ 0 by omega)
    have h2 := Int.emod_lt_of_pos (lineI (pairA s l (i : Int)) (pairB s l (i : Int)) k) (show 0 < d by omega)
    omega
open Classical in
noncomputable def skErr (b r d m s l : Int) (zs : List Int) (k : Int) (x : Int) : Int :=
  if keysI b r d m l ≤ k then 2
  else if m = 2 then (if x < 0 then 3 else if In64 (kthL (readZ d.toNat zs (colsZ d s l k r.toNat)) 0 + x) then 0 else 4)
  else if changeFits d.toNat zs (colsZ d s l k r.toNat) x then 0 else 4
open Classical in
noncomputable def skUpd (b r d m s l : Int) (zs : List Int) (k : Int) (x : Int) : List Int :=
  if skErr b r d m s l zs k x = 0 then
    (if m = 2 then raiseZ d.toNat zs (colsZ d s l k r.toNat) (kthL (readZ d.toNat zs (colsZ d s l k r.toNat)) 0 + x) else changeZ d.toNat zs (colsZ d s l k r.toNat) x)
  else zs
noncomputable def lvErr (b r d m s l : Int) (zs : List Int) (k : Nat) (x : Int) : Int :=
  if exactB b r d m l = true then chkI (keysI b r d m l).toNat m zs k x else skErr b r d m s l zs (k : Int) x
noncomputable def lvUpd (b r d m s l : Int) (zs : List Int) (k : Nat) (x : Int) : List Int :=
  if exactB b r d m l = true then updZ (keysI b r d m l).toNat m zs k x else skUpd b r d m s l zs (k : Int) x
theorem key_down {b r d m : Int} (hr : rightB b r d m = true) {k : Nat} (hk : (k : Int) < keysI b r d m 0) {n : Nat} (hn : n ≤ b.toNat) : ((k / 2 ^ n : Nat) : Int) < keysI b r d m (n : Int) := by
  have hR := right_of hr
  rw [keysI_yes hr (by omega) (by omega)] at hk ⊢
  obtain ⟨q, hq⟩ : ∃ q : Nat, b = (q : Int) := ⟨b.toNat, by omega⟩
  subst hq
  have e0 : ((q : Int) - 0).toNat = q := by omega
  have e1 : ((q : Int) - (n : Int)).toNat = q - n := by omega
  rw [e0] at hk
  rw [e1]
  have h2 : (k : Int) < ((2 ^ q : Nat) : Int) := by rw [Int.natCast_pow]; exact hk
  have h3 : k < 2 ^ q := by exact_mod_cast h2
  have h4 : k / 2 ^ n < 2 ^ (q - n) := by
    apply Nat.div_lt_of_lt_mul
    rw [← Nat.pow_add]
    have : n + (q - n) = q := by simp at hn; omega
    rw [this]
    exact h3
  have h5 : ((k / 2 ^ n : Nat) : Int) < ((2 ^ (q - n) : Nat) : Int) := by exact_mod_cast h4
  rw [Int.natCast_pow] at h5
  exact h5
theorem lvErr_in {b r d m s l : Int} {zs : List Int} {k : Nat} {x : Int} (hk : (k : Int) < keysI b r d m l) : (m = 2 ∧ x < 0 → lvErr b r d m s l zs k x = 3) ∧ (¬ (m = 2 ∧ x < 0) → lvErr b r d m s l zs k x = 0 ∨ lvErr b r d m s l zs k x = 4) := by
  unfold lvErr
  have hb := keysI_bd b r d m l
  split
  · unfold chkI
    rw [if_neg (by omega)]
    refine ⟨fun h => by rw [if_pos h], fun h => ?_⟩
    rw [if_neg h]
    split
    · exact .inl rfl
    · exact .inr rfl
  · unfold skErr
    rw [if_neg (by omega)]
    refine ⟨fun h => by rw [if_pos h.1, if_pos h.2], fun h => ?_⟩
    by_cases hm : m = 2
    · rw [if_pos hm, if_neg (by omega)]
      split
      · exact .inl rfl
      · exact .inr rfl
    · rw [if_neg hm]
      split
      · exact .inl rfl
      · exact .inr rfl
open Classical in
noncomputable def stErr (b r d m s : Int) (Z : Nat → List Int) (k : Nat) (x : Int) : Int :=
  if keysI b r d m 0 ≤ (k : Int) then 2 else if m = 2 ∧ x < 0 then 3 else if ∀ n : Nat, n ≤ b.toNat → lvErr b r d m s (n : Int) (Z n) (k / 2 ^ n) x = 0 then 0 else 4
noncomputable def stUpd (b r d m s : Int) (Z : Nat → List Int) (k : Nat) (x : Int) (n : Nat) : List Int :=
  if stErr b r d m s Z k x = 0 then lvUpd b r d m s (n : Int) (Z n) (k / 2 ^ n) x else Z n
noncomputable def lvPt (b r d m s l : Int) (zs : List Int) (k : Nat) : Int :=
  if exactB b r d m l = true then cellD zs k else kthL (readZ d.toNat zs (colsZ d s l (k : Int) r.toNat)) (if m = 3 then (r.toNat - 1) / 2 else 0)
def firstI (a c : Int) : Int := if a = 0 then c else a
theorem stErr_firsts {b r d m s : Int} (hr : rightB b r d m = true) {Z : Nat → List Int} {k : Nat} {x : Int} (hk : (k : Int) < keysI b r d m 0) :
  (List.range (b.toNat + 1)).foldl (fun a (n : Nat) => firstI a (lvErr b r d m s (n : Int) (Z n) (k / 2 ^ n) x)) 0 = stErr b r d m s Z k x := by
 have key : ∀ j : Nat, j ≤ b.toNat + 1 → (List.range j).foldl (fun a (n : Nat) => firstI a (lvErr b r d m s (n : Int) (Z n) (k / 2 ^ n) x)) 0 =
   (if m = 2 ∧ x < 0 then (if j = 0 then 0 else 3) else open Classical in if ∀ n : Nat, n < j → lvErr b r d m s (n : Int) (Z n) (k / 2 ^ n) x = 0 then 0 else 4) := by
  intro j
  induction j with
  | zero =>
   intro _
   simp
  | succ j ih =>
   intro hj
   rw [List.range_succ, List.foldl_append, ih (by omega)]
   simp only [List.foldl_cons, List.foldl_nil]
   obtain ⟨h3, h4⟩ := lvErr_in (s := s) (zs := Z j) (x := x) (key_down hr hk (show j ≤ b.toNat by omega))
   by_cases hm : m = 2 ∧ x < 0
   ·rw [if_pos hm, if_pos hm, h3 hm]
    unfold firstI
    by_cases e : j = 0 <;> simp [e]
   ·rw [if_neg hm, if_neg hm]
    by_cases ha : ∀ n : Nat, n < j → lvErr b r d m s (n : Int) (Z n) (k / 2 ^ n) x = 0
    ·rw [if_pos ha]
     unfold firstI
     rw [if_pos rfl]
     rcases h4 hm with e | e
     ·rw [e, if_pos]
      intro n hn
      by_cases en : n = j
      ·subst en; exact e
      ·exact ha n (by omega)
     ·rw [e, if_neg]
      intro h
      have := h j (by omega)
      rw [e] at this
      cases this
    ·rw [if_neg ha]
     unfold firstI
     rw [if_neg (by decide), if_neg]
     intro h
     exact ha (fun n hn => h n (by omega))
 rw [key _ (Nat.le_refl _)]
 unfold stErr
 have hnk : ¬ keysI b r d m 0 ≤ (k : Int) := by omega
 by_cases hm : m = 2 ∧ x < 0
 ·rw [if_pos hm, if_neg (show ¬ b.toNat + 1 = 0 by omega), if_neg hnk, if_pos hm]
 ·rw [if_neg hm, if_neg hnk, if_neg hm]
  have : (∀ n : Nat, n < b.toNat + 1 → lvErr b r d m s (n : Int) (Z n) (k / 2 ^ n) x = 0) ↔ (∀ n : Nat, n ≤ b.toNat → lvErr b r d m s (n : Int) (Z n) (k / 2 ^ n) x = 0) :=
   ⟨fun h n hn => h n (by omega), fun h n hn => h n (by omega)⟩
  simp only [this]
end Go.Proofs.YthbkljeibmkimaaGreat


namespace Go.Proofs.YthbkljeibmkimaaGreat
open Go.RowKit
set_option linter.unusedVariables false
set_option linter.unusedSimpArgs false

theorem Tryz.slI (w : World) (a : Option Addr) (n c : Nat) : Sem.run Tryz.prog (binOp .eql 158 (.slice a n c) (.slice none 0 0)) w = .ok (.bool a.isNone) w := Go.Lib.run_eql_slice_nil w 158 3 a n c 0 0 Tryz.underlying158
theorem ret_err {a b : Int} (h : a = b) : Ending.returned (.int .i64 a) = .returned (.int .i64 b) := by rw [h]
theorem ColsPost.ints {w w' : World} {R : Nat} {d s l k : Int} {e : Ending} (h : ColsPost w R d s l k e w') : ∃ g, e = .returned (.slice (some ⟨g, 0, none⟩) R R) ∧ w.heap.size ≤ g ∧ w'.rowIs g 3 R (fun i => .int .i64 (colI d s l k (i : Int))) ∧ IntsAt w' (.slice (some ⟨g, 0, none⟩) R R) (colsZ d s l k R) ∧ Below w.heap.size w w' := by
  obtain ⟨g, e, h1, h2, h3⟩ := h
  exact ⟨g, e, h1, h2, IntsAt.of_row h2, h3⟩
set_option maxRecDepth 100000 in
set_option maxHeartbeats 4000000 in
theorem skcheck_none (w : World) (A G C : Nat) (b r d m s l : Int) (zs : List Int) (h : SkIs w A G C b r d m s l zs) (k x : Int) (hk : keysI b r d m l ≤ k) :
  Calls Tryz.prog 127 #[.pointer (some ⟨A, 0, none⟩), .int .u64 k, .int .i64 x] w fun e w' => e = .returned (.int .i64 2) ∧ Below w.heap.size w w' := by
 have HA := Lib.hid h
 have PC := Lib.hid (fun w => cols_none b r d m s l k (by omega) w)
 clear h hk
 go_enter Tryz.func127, Tryz.ntmps127
 go_wp2_with fail
 refine wp_region_still_tail 9 (by kernel_rfl) (by kernel_rfl) ?_
 simp only [List.take_succ_cons, List.take_zero, List.drop_succ_cons, List.drop_zero]
 have HA2 : Hid (SkIs { heap := w.heap, tape := w.tape, drawn := w.drawn + 1, os := w.os, output := w.output } A G C b r d m s l zs) := Lib.hid (HA.out.kept (below_drewN (Below.refl _ _) 1))
 have HB2 : Hid (Below w.heap.size w { heap := w.heap, tape := w.tape, drawn := w.drawn + 1, os := w.os, output := w.output }) := Lib.hid (below_drewN (Below.refl _ _) 1)
 generalize ({ heap := w.heap, tape := w.tape, drawn := w.drawn + 1, os := w.os, output := w.output } : World) = wd at *
 have q1 := HA2.out.box.cell 1
 have q2 := HA2.out.box.cell 2
 have q3 := HA2.out.box.cell 3
 have q4 := HA2.out.box.cell 4
 have q5 := HA2.out.box.cell 5
 have q6 := HA2.out.box.cell 6
 simp at q1 q2 q3 q4 q5 q6
 repeat still_step
 refine wpStill_nil ?_
 go_wp2_with fail
 with_reducible refine (PC.out _).mono ?_
 rintro e w3 ⟨rfl, hb⟩
 have HB3 := Lib.hid (btr HB2.out hb)
 clear hb q1 q2 q3 q4 q5 q6
 have hn := Tryz.slI
 go_wp2
 go_ret
 exact ⟨rfl, HB3.out⟩
theorem sk_nat {w : World} {A G C : Nat} {b r d m s l : Int} {zs : List Int} (hr : rightB b r d m = true) : ∃ R W : Nat, r = (R : Int) ∧ d = (W : Int) ∧ 0 < R ∧ R ≤ 8 ∧ 0 < W ∧ W ≤ 128 := by
  have h := right_of hr
  exact ⟨r.toNat, d.toNat, by omega, by omega, by omega, by omega, by omega, by omega⟩
set_option maxRecDepth 100000 in
set_option maxHeartbeats 8000000 in
theorem skcheck_lin (w : World) (A G C : Nat) (b m s l : Int) (R W : Nat) (zs : List Int) (h : SkIs w A G C b R W m s l zs) (hR : 0 < R) (hR8 : R ≤ 8) (hW : 0 < W) (s0 : 0 ≤ s) (s1 : s ≤ 18446744073709551615) (k x : Int) (k0 : 0 ≤ k) (k1 : k ≤ 18446744073709551615) (hk : k < keysI b R W m l) (hm : m ≠ 2) (hx : In64 x) :
  Calls Tryz.prog 127 #[.pointer (some ⟨A, 0, none⟩), .int .u64 k, .int .i64 x] w fun e w' => e = .returned (.int .i64 (skErr b R W m s l zs k x)) ∧ Below w.heap.size w w' := by
 have HA := Lib.hid h
 have PC := Lib.hid (fun w => cols_any b W m s l k R s0 s1 k0 k1 hk w)
 have HM : Hid (meetB R W (colsZ W s l k R) = true) := Lib.hid (by have := colsZ_meet (d := (W : Int)) (s := s) (l := l) (k := k) hR (by omega); simpa using this)
 have HLC := Lib.hid (colsZ_len (W : Int) s l k R)
 have hq : skErr b R W m s l zs k x = (open Classical in if changeFits W zs (colsZ W s l k R) x then 0 else 4) := by
  unfold skErr
  rw [if_neg (by omega), if_neg hm, Int.toNat_natCast, Int.toNat_natCast]
 obtain ⟨q, hqq⟩ : ∃ q, q = skErr b R W m s l zs k x := ⟨_, rfl⟩
 rw [← hqq] at hq ⊢
 obtain ⟨f, hf⟩ : ∃ f : Nat → Int, f = fun r => cellD zs (r * W + colN (colsZ W s l k R) r) := ⟨_, rfl⟩
 have HF := Lib.hid hf
 have HYES : Hid ((∀ r, r < R → In64 (f r + x)) → q = 0) := Lib.hid (fun hh => by
  rw [hq, if_pos]
  intro r hr
  rw [HLC.out] at hr
  have := hh r hr
  rw [hf] at this
  exact this)
 have HNO : Hid (∀ r, r < R → ¬ In64 (f r + x) → q = 4) := Lib.hid (fun r hr hn => by
  rw [hq, if_neg]
  intro hh
  apply hn
  have := hh r (by rw [HLC.out]; exact hr)
  rw [hf]
  exact this)
 have HFZ : Hid (∀ r, In64 (f r)) := Lib.hid (fun r => by rw [hf]; exact fitC h.grid.fit _)
 have em : (m == 2) = false := by simp [hm]
 have em' : decide (m = 2) = false := by simp [hm]
 clear h hk hq hqq hf
 go_enter Tryz.func127, Tryz.ntmps127
 go_wp2_with fail
 refine wp_region_still_tail 9 (by kernel_rfl) (by kernel_rfl) ?_
 simp only [List.take_succ_cons, List.take_zero, List.drop_succ_cons, List.drop_zero]
 have HA2 : Hid (SkIs { heap := w.heap, tape := w.tape, drawn := w.drawn + 1, os := w.os, output := w.output } A G C b R W m s l zs) := Lib.hid (HA.out.kept (below_drewN (Below.refl _ _) 1))
 have HB2 : Hid (Below w.heap.size w { heap := w.heap, tape := w.tape, drawn := w.drawn + 1, os := w.os, output := w.output }) := Lib.hid (below_drewN (Below.refl _ _) 1)
 generalize ({ heap := w.heap, tape := w.tape, drawn := w.drawn + 1, os := w.os, output := w.output } : World) = wd at *
 have q1 := HA2.out.box.cell 1
 have q2 := HA2.out.box.cell 2
 have q3 := HA2.out.box.cell 3
 have q4 := HA2.out.box.cell 4
 have q5 := HA2.out.box.cell 5
 have q6 := HA2.out.box.cell 6
 simp at q1 q2 q3 q4 q5 q6
 repeat still_step
 refine wpStill_nil ?_
 go_wp2_with fail
 with_reducible refine (PC.out _).mono ?_
 intro e w3 hpost
 obtain ⟨gc, rfl, -, -, hints, hb⟩ := hpost.ints
 have HA3 := Lib.hid (HA2.out.kept hb)
 have HB3 := Lib.hid (btr HB2.out hb)
 have PR : Calls Tryz.prog 134 #[.pointer (some ⟨G, 0, none⟩), .slice (some ⟨gc, 0, none⟩) R R] w3 (ReadPost w3 W zs (colsZ W s l k R)) := by
  have h1 := HA3.out.grid
  rw [Int.toNat_natCast, Int.toNat_natCast] at h1
  exact read_yes w3 G C R W zs (colsZ W s l k R) _ h1 hints HM.out
 have PR := Lib.hid PR
 clear hb hpost hints q1 q2 q3 q4 q5 q6
 have q0 := HA3.out.box.cell 0
 have q4 := HA3.out.box.cell 4
 simp at q0 q4
 have hn := Tryz.slI
 go_wp2_with fail
 with_reducible refine PR.out.mono ?_
 rintro e w4 ⟨g, rfl, -, hrow, hb⟩
 rw [HLC.out]
 have HROW : Hid (w4.rowIs g 2 R (fun r => .int .i64 (f r))) := Lib.hid (by rw [HF.out]; have h2 := hrow; rw [HLC.out] at h2; exact h2)
 have HA4 := Lib.hid (HA3.out.kept hb)
 have HB4 := Lib.hid (btr HB3.out hb)
 have HGL : Hid (g < w4.heap.size) := Lib.hid hrow.lt
 clear hb hrow q0 q4 hn
 have q4 := HA4.out.box.cell 4
 simp at q4
 go_wp2_with fail
 go_loopw [61] (fun i wr => ∃ j : Nat, j ≤ R ∧ i = .int .i64 (j : Int) ∧ (∀ r, r < j → In64 (f r + x)) ∧ Below w4.heap.size w4 wr) (fun i _ => R - (intOf i).toNat)
 case atStart => exact ⟨0, by omega, rfl, fun r hr => by omega, Below.refl _ _⟩
 case round =>
  obtain ⟨j, hj, rfl, hok, hbel⟩ := hrel
  have HOK := Lib.hid hok
  have HBR := Lib.hid hbel
  clear hok
  by_cases hlt : j < R
  ·have cx := (hbel.cell (p := ⟨g, j, none⟩) HGL.out).trans (HROW.out.cell hlt)
   have hfj := HFZ.out j
   have HOK2 : Hid (In64 (f j + x) → ∀ r, r < j + 1 → In64 (f r + x)) := Lib.hid (fun h1 r hr => by
    by_cases e : r = j
    ·subst e; exact h1
    ·exact HOK.out r (by omega))
   have HNJ : Hid (¬ In64 (f j + x) → q = 4) := Lib.hid (HNO.out j hlt)
   have P3 := fun wz => opok_plus (f j) x wz hfj hx
   have i0 : (0 : Int) ≤ (j : Int) := by omega
   have i1 : (j : Int) < (R : Int) := by omega
   clear hbel
   generalize f j = y at *
   by_cases h64 : In64 (y + x)
   ·have P3 := Lib.hid (fun wz => (P3 wz).1 h64)
    have HOK2 := Lib.hid (HOK2.out h64)
    clear h64 hfj HNJ
    unfold TwoPost at P3
    go_wp2_with fail
    with_reducible refine (P3.out _).mono ?_
    rintro e w5 ⟨rfl, hb⟩
    have HB5 := Lib.hid (btr HBR.out hb)
    clear hb cx
    go_wp2
    go_roundw
    case rel => exact ⟨j + 1, by omega, by go_num, HOK2.out, HB5.out⟩
    case measure => simp [intOf]; omega
   ·have P3 := Lib.hid (fun wz => (P3 wz).2 h64)
    have HQ := Lib.hid (HNJ.out h64)
    clear h64 hfj HNJ HOK2
    unfold TwoPost at P3
    go_wp2_with fail
    with_reducible refine (P3.out _).mono ?_
    rintro e w5 ⟨rfl, hb⟩
    have HB5 := Lib.hid (btr HB4.out (btr HBR.out hb))
    clear hb cx
    go_wp2
    go_ret
    exact ⟨ret_err HQ.out.symm, HB5.out⟩
  ·have HQ : Hid (q = 0) := Lib.hid (HYES.out (fun r hr => HOK.out r (by omega)))
   have hge : R ≤ j := by omega
   have HB5 := Lib.hid (btr HB4.out HBR.out)
   clear hbel
   go_wp2
   go_ret
   exact ⟨ret_err HQ.out.symm, HB5.out⟩
set_option maxRecDepth 100000 in
set_option maxHeartbeats 8000000 in
theorem skcheck_neg (w : World) (A G C : Nat) (b s l : Int) (R W : Nat) (zs : List Int) (h : SkIs w A G C b R W 2 s l zs) (hR : 0 < R) (hR8 : R ≤ 8) (hW : 0 < W) (s0 : 0 ≤ s) (s1 : s ≤ 18446744073709551615) (k x : Int) (k0 : 0 ≤ k) (k1 : k ≤ 18446744073709551615) (hk : k < keysI b R W 2 l) (hx : In64 x) (hx0 : x < 0) :
  Calls Tryz.prog 127 #[.pointer (some ⟨A, 0, none⟩), .int .u64 k, .int .i64 x] w fun e w' => e = .returned (.int .i64 (skErr b R W 2 s l zs k x)) ∧ Below w.heap.size w w' := by
 have HA := Lib.hid h
 have PC := Lib.hid (fun w => cols_any b W 2 s l k R s0 s1 k0 k1 hk w)
 have HM : Hid (meetB R W (colsZ W s l k R) = true) := Lib.hid (by have := colsZ_meet (d := (W : Int)) (s := s) (l := l) (k := k) hR (by omega); simpa using this)
 have HLC := Lib.hid (colsZ_len (W : Int) s l k R)
 have HQ : Hid (skErr b R W 2 s l zs k x = 3) := Lib.hid (by
  unfold skErr
  rw [if_neg (by omega), if_pos rfl, if_pos hx0])
 obtain ⟨q, hqq⟩ : ∃ q, q = skErr b R W 2 s l zs k x := ⟨_, rfl⟩
 rw [← hqq] at HQ ⊢
 have e1 : decide (x < 0) = true := decide_eq_true hx0
 clear hqq
 clear h hk
 go_enter Tryz.func127, Tryz.ntmps127
 go_wp2_with fail
 refine wp_region_still_tail 9 (by kernel_rfl) (by kernel_rfl) ?_
 simp only [List.take_succ_cons, List.take_zero, List.drop_succ_cons, List.drop_zero]
 have HA2 : Hid (SkIs { heap := w.heap, tape := w.tape, drawn := w.drawn + 1, os := w.os, output := w.output } A G C b R W 2 s l zs) := Lib.hid (HA.out.kept (below_drewN (Below.refl _ _) 1))
 have HB2 : Hid (Below w.heap.size w { heap := w.heap, tape := w.tape, drawn := w.drawn + 1, os := w.os, output := w.output }) := Lib.hid (below_drewN (Below.refl _ _) 1)
 generalize ({ heap := w.heap, tape := w.tape, drawn := w.drawn + 1, os := w.os, output := w.output } : World) = wd at *
 have q1 := HA2.out.box.cell 1
 have q2 := HA2.out.box.cell 2
 have q3 := HA2.out.box.cell 3
 have q4 := HA2.out.box.cell 4
 have q5 := HA2.out.box.cell 5
 have q6 := HA2.out.box.cell 6
 simp at q1 q2 q3 q4 q5 q6
 repeat still_step
 refine wpStill_nil ?_
 go_wp2_with fail
 with_reducible refine (PC.out _).mono ?_
 intro e w3 hpost
 obtain ⟨gc, rfl, -, -, hints, hb⟩ := hpost.ints
 have HA3 := Lib.hid (HA2.out.kept hb)
 have HB3 := Lib.hid (btr HB2.out hb)
 have HGR : Hid (GridIs w3 G C R W zs) := Lib.hid (by
  have h1 := HA3.out.grid
  rw [Int.toNat_natCast, Int.toNat_natCast] at h1
  exact h1)
 have PR : Calls Tryz.prog 134 #[.pointer (some ⟨G, 0, none⟩), .slice (some ⟨gc, 0, none⟩) R R] w3 (ReadPost w3 W zs (colsZ W s l k R)) :=
  read_yes w3 G C R W zs (colsZ W s l k R) _ HGR.out hints HM.out
 have PR := Lib.hid PR
 have HIN := Lib.hid hints
 clear hb hpost hints q1 q2 q3 q4 q5 q6
 have q0 := HA3.out.box.cell 0
 have q4 := HA3.out.box.cell 4
 simp at q0 q4
 have hn := Tryz.slI
 go_wp2_with fail
 with_reducible refine PR.out.mono ?_
 rintro e w4 ⟨g, rfl, -, hrow, hb⟩
 rw [HLC.out]
 have HA4 := Lib.hid (HA3.out.kept hb)
 have HB4 := Lib.hid (btr HB3.out hb)
 clear hb hrow q0 q4 hn
 have q4 := HA4.out.box.cell 4
 simp at q4
 go_wp2
 go_ret
 exact ⟨ret_err HQ.out.symm, HB4.out⟩
set_option maxRecDepth 100000 in
set_option maxHeartbeats 8000000 in
theorem skcheck_con (w : World) (A G C : Nat) (b s l : Int) (R W : Nat) (zs : List Int) (h : SkIs w A G C b R W 2 s l zs) (hR : 0 < R) (hR8 : R ≤ 8) (hW : 0 < W) (s0 : 0 ≤ s) (s1 : s ≤ 18446744073709551615) (k x : Int) (k0 : 0 ≤ k) (k1 : k ≤ 18446744073709551615) (hk : k < keysI b R W 2 l) (hx : In64 x) (hx0 : 0 ≤ x) :
  Calls Tryz.prog 127 #[.pointer (some ⟨A, 0, none⟩), .int .u64 k, .int .i64 x] w fun e w' => e = .returned (.int .i64 (skErr b R W 2 s l zs k x)) ∧ Below w.heap.size w w' := by
 have HA := Lib.hid h
 have PC := Lib.hid (fun w => cols_any b W 2 s l k R s0 s1 k0 k1 hk w)
 have HM : Hid (meetB R W (colsZ W s l k R) = true) := Lib.hid (by have := colsZ_meet (d := (W : Int)) (s := s) (l := l) (k := k) hR (by omega); simpa using this)
 have HLC := Lib.hid (colsZ_len (W : Int) s l k R)
 have hq : skErr b R W 2 s l zs k x = (if In64 (kthL (readZ W zs (colsZ W s l k R)) 0 + x) then 0 else 4) := by
  unfold skErr
  rw [if_neg (by omega), if_pos rfl, if_neg (by omega), Int.toNat_natCast, Int.toNat_natCast]
 obtain ⟨q, hqq⟩ : ∃ q, q = skErr b R W 2 s l zs k x := ⟨_, rfl⟩
 rw [← hqq] at hq ⊢
 have HQ := Lib.hid hq
 have e1 : decide (x < 0) = false := decide_eq_false (by omega)
 clear hqq hq
 clear h hk
 go_enter Tryz.func127, Tryz.ntmps127
 go_wp2_with fail
 refine wp_region_still_tail 9 (by kernel_rfl) (by kernel_rfl) ?_
 simp only [List.take_succ_cons, List.take_zero, List.drop_succ_cons, List.drop_zero]
 have HA2 : Hid (SkIs { heap := w.heap, tape := w.tape, drawn := w.drawn + 1, os := w.os, output := w.output } A G C b R W 2 s l zs) := Lib.hid (HA.out.kept (below_drewN (Below.refl _ _) 1))
 have HB2 : Hid (Below w.heap.size w { heap := w.heap, tape := w.tape, drawn := w.drawn + 1, os := w.os, output := w.output }) := Lib.hid (below_drewN (Below.refl _ _) 1)
 generalize ({ heap := w.heap, tape := w.tape, drawn := w.drawn + 1, os := w.os, output := w.output } : World) = wd at *
 have q1 := HA2.out.box.cell 1
 have q2 := HA2.out.box.cell 2
 have q3 := HA2.out.box.cell 3
 have q4 := HA2.out.box.cell 4
 have q5 := HA2.out.box.cell 5
 have q6 := HA2.out.box.cell 6
 simp at q1 q2 q3 q4 q5 q6
 repeat still_step
 refine wpStill_nil ?_
 go_wp2_with fail
 with_reducible refine (PC.out _).mono ?_
 intro e w3 hpost
 obtain ⟨gc, rfl, -, -, hints, hb⟩ := hpost.ints
 have HA3 := Lib.hid (HA2.out.kept hb)
 have HB3 := Lib.hid (btr HB2.out hb)
 have HGR : Hid (GridIs w3 G C R W zs) := Lib.hid (by
  have h1 := HA3.out.grid
  rw [Int.toNat_natCast, Int.toNat_natCast] at h1
  exact h1)
 have PR : Calls Tryz.prog 134 #[.pointer (some ⟨G, 0, none⟩), .slice (some ⟨gc, 0, none⟩) R R] w3 (ReadPost w3 W zs (colsZ W s l k R)) :=
  read_yes w3 G C R W zs (colsZ W s l k R) _ HGR.out hints HM.out
 have PR := Lib.hid PR
 have HIN := Lib.hid hints
 clear hb hpost hints q1 q2 q3 q4 q5 q6
 have q0 := HA3.out.box.cell 0
 have q4 := HA3.out.box.cell 4
 simp at q0 q4
 have hn := Tryz.slI
 go_wp2_with fail
 with_reducible refine PR.out.mono ?_
 rintro e w4 ⟨g, rfl, -, hrow, hb⟩
 rw [HLC.out]
 have HA4 := Lib.hid (HA3.out.kept hb)
 have HB4 := Lib.hid (btr HB3.out hb)
 have PL : Calls Tryz.prog 135 #[.pointer (some ⟨G, 0, none⟩), .slice (some ⟨gc, 0, none⟩) R R] w4 (TellPost w4 W zs (colsZ W s l k R) 0) :=
  least_yes w4 G C R W zs (colsZ W s l k R) _ (HGR.out.kept hb) (HIN.out.kept hb) HM.out
 have PL := Lib.hid PL
 clear hb hrow q0 q4 hn
 have q0 := HA4.out.box.cell 0
 have q4 := HA4.out.box.cell 4
 simp at q0 q4
 go_wp2_with fail
 with_reducible refine PL.out.mono ?_
 rintro e w5 ⟨u, rfl, hu, hb⟩
 have HU := Lib.hid (kthL_of hu)
 have HB5 := Lib.hid (btr HB4.out hb)
 have hu64 : In64 u := by
  have h1 := hu.1
  unfold readZ at h1
  obtain ⟨r, -, rfl⟩ := List.mem_map.1 h1
  exact fitC HGR.out.fit _
 have HB6 : Hid (Below w.heap.size w (w5.alloc (.cells #[.int .i64 u] 2))) := Lib.hid (HB5.out.alloc HB5.out.size _)
 have HBLK := Lib.hid (Blk.new w5 2 #[.int .i64 u])
 clear hb q0 q4 hu
 go_wp2_with fail
 generalize (w5.alloc (.cells #[.int .i64 u] 2)) = w6 at *
 have P3 := fun wz => opok_plus u x wz hu64 hx
 go_loopw [61] (fun i wr => ∃ j : Nat, j ≤ 1 ∧ i = .int .i64 (j : Int) ∧ (0 < j → In64 (u + x)) ∧ Below w6.heap.size w6 wr) (fun i _ => 1 - (intOf i).toNat)
 case atStart => exact ⟨0, by omega, rfl, fun h0 => by omega, Below.refl _ _⟩
 case round =>
  obtain ⟨j, hj, rfl, hok, hbel⟩ := hrel
  have HOK := Lib.hid hok
  have HBR := Lib.hid hbel
  clear hok
  by_cases hlt : j < 1
  ·obtain rfl : j = 0 := by omega
   have cx := (hbel.cell (p := ⟨w5.heap.size, 0, none⟩) HBLK.out.lt).trans (HBLK.out.cell 0)
   simp at cx
   clear hbel
   by_cases h64 : In64 (u + x)
   ·have P3 := Lib.hid (fun wz => (P3 wz).1 h64)
    have H64 := Lib.hid h64
    clear h64 hu64
    unfold TwoPost at P3
    go_wp2_with fail
    with_reducible refine (P3.out _).mono ?_
    rintro e w7 ⟨rfl, hb⟩
    have HB7 := Lib.hid (btr HBR.out hb)
    clear hb cx
    go_wp2
    go_roundw
    case rel => exact ⟨1, by omega, by go_num, fun _ => H64.out, HB7.out⟩
    case measure => simp [intOf]
   ·have P3 := Lib.hid (fun wz => (P3 wz).2 h64)
    have HQ4 : Hid (q = 4) := Lib.hid (by rw [HQ.out, HU.out, if_neg h64])
    clear h64 hu64
    unfold TwoPost at P3
    go_wp2_with fail
    with_reducible refine (P3.out _).mono ?_
    rintro e w7 ⟨rfl, hb⟩
    have HB7 := Lib.hid (btr HB6.out (btr HBR.out hb))
    clear hb cx
    go_wp2
    go_ret
    exact ⟨ret_err HQ4.out.symm, HB7.out⟩
  ·obtain rfl : j = 1 := by omega
   have HQ0 : Hid (q = 0) := Lib.hid (by rw [HQ.out, HU.out, if_pos (HOK.out (by omega))])
   have HB7 := Lib.hid (btr HB6.out HBR.out)
   clear hbel P3 hu64
   go_wp2
   go_ret
   exact ⟨ret_err HQ0.out.symm, HB7.out⟩
theorem skcheck (w : World) (A G C : Nat) (b r d m s l : Int) (zs : List Int) (h : SkIs w A G C b r d m s l zs) (hr : rightB b r d m = true) (s0 : 0 ≤ s) (s1 : s ≤ 18446744073709551615) (k x : Int) (k0 : 0 ≤ k) (k1 : k ≤ 18446744073709551615) (hx : In64 x) :
    Calls Tryz.prog 127 #[.pointer (some ⟨A, 0, none⟩), .int .u64 k, .int .i64 x] w fun e w' => e = .returned (.int .i64 (skErr b r d m s l zs k x)) ∧ Below w.heap.size w w' := by
  by_cases hk : keysI b r d m l ≤ k
  · have : skErr b r d m s l zs k x = 2 := by unfold skErr; rw [if_pos hk]
    rw [this]
    exact skcheck_none w A G C b r d m s l zs h k x hk
  · obtain ⟨R, W, rfl, rfl, h1, h2, h3, h4⟩ := sk_nat (w := w) (A := A) (G := G) (C := C) (s := s) (l := l) (zs := zs) hr
    by_cases hm : m = 2
    · subst hm
      by_cases h0 : x < 0
      · exact skcheck_neg w A G C b s l R W zs h h1 h2 h3 s0 s1 k x k0 k1 (by omega) hx h0
      · exact skcheck_con w A G C b s l R W zs h h1 h2 h3 s0 s1 k x k0 k1 (by omega) hx (by omega)
    · exact skcheck_lin w A G C b m s l R W zs h h1 h2 h3 s0 s1 k x k0 k1 (by omega) hm hx
end Go.Proofs.YthbkljeibmkimaaGreat


namespace Go.Proofs.YthbkljeibmkimaaGreat
open Go.RowKit
set_option linter.unusedVariables false
set_option linter.unusedSimpArgs false

theorem LevIs.own {w w' : World} {x v : Value} {A G C base k : Nat} {b r d m s l : Int} {zs : List Int} {xs : List Value} (h : LevIs w x A G C b r d m s l zs) (ho : w.ownsRow base 74 1 v k xs) (hg : w.grownBy w' v.ownBlock) : LevIs w' x A G C b r d m s l zs := by
  rcases h with ⟨h1, h2, h3⟩ | ⟨h1, h2, h3⟩
  · obtain ⟨cap, hG, -⟩ := h3.2.fields
    obtain ⟨cur, hc, -⟩ := h3.2.cells
    exact .inl ⟨h1, h2, h3.grown hg (Ne.symm (own_ne ho h3.1 (by decide))) (Ne.symm (own_ne ho hG (by decide))) (Ne.symm (own_ne ho hc (by decide)))⟩
  · obtain ⟨cap, hG, -⟩ := h3.grid.fields
    obtain ⟨cur, hc, -⟩ := h3.grid.cells
    exact .inr ⟨h1, h2, h3.grown hg (Ne.symm (own_ne ho h3.box (by decide))) (Ne.symm (own_ne ho hG (by decide))) (Ne.symm (own_ne ho hc (by decide)))⟩
theorem LevIs.far {w w' : World} {x : Value} {A G C g : Nat} {t : TypeId} {cs : Array Value} {b r d m s l : Int} {zs : List Int} (h : LevIs w x A G C b r d m s l zs) (hb : Blk w g t cs) (ht : 2 ≠ t ∧ 164 ≠ t ∧ 149 ≠ t ∧ 153 ≠ t) (hg : w.grownBy w' (some g)) : LevIs w' x A G C b r d m s l zs := by
  rcases h with ⟨h1, h2, h3⟩ | ⟨h1, h2, h3⟩
  · obtain ⟨cap, hG, -⟩ := h3.2.fields
    obtain ⟨cur, hc, -⟩ := h3.2.cells
    exact .inl ⟨h1, h2, h3.grown hg (by simpa using h3.1.ne_ hb ht.2.2.1) (by simpa using hG.ne_ hb ht.2.1) (by simpa using hc.ne_ hb ht.1)⟩
  · obtain ⟨cap, hG, -⟩ := h3.grid.fields
    obtain ⟨cur, hc, -⟩ := h3.grid.cells
    exact .inr ⟨h1, h2, h3.grown hg (by simpa using h3.box.ne_ hb ht.2.2.2) (by simpa using hG.ne_ hb ht.2.1) (by simpa using hc.ne_ hb ht.1)⟩
theorem LevIs.open_ {w : World} {x : Value} {A G C : Nat} {b r d m s l : Int} {zs : List Int} (h : LevIs w x A G C b r d m s l zs) : ∃ t, x = .iface t (.pointer (some ⟨A, 0, none⟩)) := by
  rcases h with ⟨h1, h2, h3⟩ | ⟨h1, h2, h3⟩
  · exact ⟨_, h2⟩
  · exact ⟨_, h2⟩
theorem LevIs.ltC {w : World} {x : Value} {A G C : Nat} {b r d m s l : Int} {zs : List Int} (h : LevIs w x A G C b r d m s l zs) : C < w.heap.size := by
  obtain ⟨cur, hc⟩ := h.cells
  exact hc.lt
def upN {α : Type} (f : Nat → α) (j : Nat) (x : α) : Nat → α := fun k => if k = j then x else f k
theorem upN_same {α : Type} (f : Nat → α) (j : Nat) (x : α) : upN f j x j = x := if_pos rfl
theorem upN_other {α : Type} (f : Nat → α) {j k : Nat} (x : α) (h : k ≠ j) : upN f j x k = f k := if_neg h
structure LevsB (w : World) (base : Nat) (v : Value) (b r d m s : Int) (X : Nat → Value) (A G C : Nat → Nat) (Z : Nat → List Int) (j : Nat) : Prop where
  own : w.ownsRow base 74 1 v j ((List.range j).map X)
  lev : ∀ n, n < j → LevIs w (X n) (A n) (G n) (C n) b r d m s n (Z n)
  apart : ∀ n k, n < j → k < j → n ≠ k → C n ≠ C k
  low : ∀ n, n < j → base ≤ C n
theorem LevsB.kept {w w' : World} {base : Nat} {v : Value} {b r d m s : Int} {X : Nat → Value} {A G C : Nat → Nat} {Z : Nat → List Int} {j : Nat} (h : LevsB w base v b r d m s X A G C Z j) (hb : Below w.heap.size w w') : LevsB w' base v b r d m s X A G C Z j :=
  ⟨World.ownsRow.kept h.own (below_gr (row := none) hb) (by cases v.ownBlock <;> simp), fun n hn => (h.lev n hn).kept hb, h.apart, h.low⟩
theorem LevsB.zero (w : World) (base : Nat) (b r d m s : Int) (X : Nat → Value) (A G C : Nat → Nat) (Z : Nat → List Int) : LevsB w base (.slice none 0 0) b r d m s X A G C Z 0 :=
  ⟨World.ownsRow_nil _ _ _ _, fun n hn => by omega, fun n k hn => by omega, fun n hn => by omega⟩
theorem LevsB.push {w w' : World} {base : Nat} {v v' x : Value} {b r d m s : Int} {X : Nat → Value} {A G C : Nat → Nat} {Z : Nat → List Int} {j a g c : Nat} {zs : List Int} (h : LevsB w base v b r d m s X A G C Z j)
  (hl : LevIs w x a g c b r d m s j zs) (hc : base ≤ c) (hne : ∀ n, n < j → C n ≠ c) (hg : w.grownBy w' v.ownBlock) (ho : w'.ownsRow base 74 1 v' (j + 1) ((List.range j).map X ++ [x])) :
  LevsB w' base v' b r d m s (upN X j x) (upN A j a) (upN G j g) (upN C j c) (upN Z j zs) (j + 1) := by
 refine ⟨?_, fun n hn => ?_, fun n k hn hk e => ?_, fun n hn => ?_⟩
 ·have e : (List.range (j + 1)).map (upN X j x) = (List.range j).map X ++ [x] := by
   rw [List.range_succ, List.map_append]
   congr 1
   ·exact List.map_congr_left fun k hk => upN_other _ _ (by have := List.mem_range.1 hk; omega)
   ·simp [upN]
  rw [e]; exact ho
 ·by_cases e : n = j
  ·subst e; rw [upN_same, upN_same, upN_same, upN_same, upN_same]; exact hl.own h.own hg
  ·rw [upN_other _ _ e, upN_other _ _ e, upN_other _ _ e, upN_other _ _ e, upN_other _ _ e]; exact (h.lev n (by omega)).own h.own hg
 ·by_cases e1 : n = j
  ·subst e1; rw [upN_same, upN_other _ _ (Ne.symm e)]; exact Ne.symm (hne k (by omega))
  ·by_cases e2 : k = j
   ·subst e2; rw [upN_same, upN_other _ _ e1]; exact hne n (by omega)
   ·rw [upN_other _ _ e1, upN_other _ _ e2]; exact h.apart n k (by omega) (by omega) e
 ·by_cases e : n = j
  ·subst e; rw [upN_same]; exact hc
  ·rw [upN_other _ _ e]; exact h.low n (by omega)
structure StIs (w : World) (base S L : Nat) (b r d m s : Int) (X : Nat → Value) (A G C : Nat → Nat) (Z : Nat → List Int) : Prop where
  box : ∃ cap : Nat, Blk w S 72 #[.int .i64 b, .int .i64 r, .int .i64 d, .int .i64 m, .int .u64 s, .slice (some ⟨L, 0, none⟩) (b.toNat + 1) cap] ∧ b.toNat + 1 ≤ cap
  right : rightB b r d m = true
  row : ∃ cur : Array Value, Blk w L 74 cur ∧ ∀ n, n ≤ b.toNat → cur[n]? = some (X n)
  lev : ∀ n, n ≤ b.toNat → LevIs w (X n) (A n) (G n) (C n) b r d m s n (Z n)
  apart : ∀ n k, n ≤ b.toNat → k ≤ b.toNat → n ≠ k → C n ≠ C k
  low : ∀ n, n ≤ b.toNat → base ≤ C n
theorem StIs.kept {w w' : World} {base S L : Nat} {b r d m s : Int} {X : Nat → Value} {A G C : Nat → Nat} {Z : Nat → List Int} (h : StIs w base S L b r d m s X A G C Z) (hb : Below w.heap.size w w') : StIs w' base S L b r d m s X A G C Z := by
  obtain ⟨cap, h1, h2⟩ := h.box
  obtain ⟨cur, h3, h4⟩ := h.row
  exact ⟨⟨cap, h1.kept hb, h2⟩, h.right, ⟨cur, h3.kept hb, h4⟩, fun n hn => (h.lev n hn).kept hb, h.apart, h.low⟩
theorem StIs.put {w w' : World} {base S L : Nat} {b r d m s : Int} {X : Nat → Value} {A G C : Nat → Nat} {Z : Nat → List Int} (h : StIs w base S L b r d m s X A G C Z) {n : Nat} (hn : n ≤ b.toNat) (hg : w.grownBy w' (some (C n))) {zs : List Int}
    (hl : LevIs w' (X n) (A n) (G n) (C n) b r d m s n zs) : StIs w' base S L b r d m s X A G C (upN Z n zs) := by
  obtain ⟨cap, h1, h2⟩ := h.box
  obtain ⟨cur, h3, h4⟩ := h.row
  obtain ⟨cn, hc⟩ := (h.lev n hn).cells
  refine ⟨⟨cap, h1.grown hg (by simpa using h1.ne_ hc (by decide)), h2⟩, h.right, ⟨cur, h3.grown hg (by simpa using h3.ne_ hc (by decide)), h4⟩, fun k hk => ?_, h.apart, h.low⟩
  by_cases e : k = n
  · subst e; rw [upN_same]; exact hl
  · rw [upN_other _ _ e]; exact (h.lev k hk).other hg hc (h.apart k n hk hn e)
theorem StIs.setC {w : World} {base S L : Nat} {b r d m s : Int} {X : Nat → Value} {A G C : Nat → Nat} {Z Z' : Nat → List Int} (h : StIs w base S L b r d m s X A G C Z) (e : ∀ n, n ≤ b.toNat → Z n = Z' n) : StIs w base S L b r d m s X A G C Z' :=
  ⟨h.box, h.right, h.row, fun n hn => by rw [← e n hn]; exact h.lev n hn, h.apart, h.low⟩
theorem LevsB.row {w : World} {base : Nat} {v : Value} {b r d m s : Int} {X : Nat → Value} {A G C : Nat → Nat} {Z : Nat → List Int} {j : Nat} (h : LevsB w base v b r d m s X A G C Z j) (hj : 0 < j) : ∃ (L cap : Nat) (cur : Array Value), v = .slice (some ⟨L, 0, none⟩) j cap ∧ j ≤ cap ∧ base ≤ L ∧ Blk w L 74 cur ∧ ∀ n, n < j → cur[n]? = some (X n) := by
  rcases h.own.2 with ⟨rfl, h0⟩ | ⟨g, cap, cur, rfl, hb, hg, hnc, hcm, hsz, htake⟩
  · omega
  · refine ⟨g, cap, cur, rfl, hnc, hb, hg, fun n hn => ?_⟩
    have h2 : (cur.toList.take (j * 1))[n]? = ((List.range j).map X)[n]? := by rw [htake]
    rw [List.getElem?_take, if_pos (by omega)] at h2
    simpa [hn] using h2
theorem LevsB.stack {w : World} {base S : Nat} {v : Value} {r d m s : Int} {X : Nat → Value} {A G C : Nat → Nat} {Z : Nat → List Int} {n : Nat} (h : LevsB w base v (n : Int) r d m s X A G C Z (n + 1)) (hr : rightB (n : Int) r d m = true)
    (hs : Blk w S 72 #[.int .i64 (n : Int), .int .i64 r, .int .i64 d, .int .i64 m, .int .u64 s, .slice none 0 0]) : ∃ L, StIs (w.setCell ⟨S, 5, none⟩ v) base S L (n : Int) r d m s X A G C Z := by
  obtain ⟨L, cap, cur, rfl, hcap, hL, hrow, hcur⟩ := h.row (by omega)
  have hg := grown_set w S 5 (.slice (some ⟨L, 0, none⟩) (n + 1) cap)
  refine ⟨L, ⟨cap, by simpa using hs.set_ 5 (.slice (some ⟨L, 0, none⟩) (n + 1) cap), by simpa using hcap⟩, hr, ⟨cur, hrow.grown hg (by simpa using hrow.ne_ hs (by decide)), fun k hk => hcur k (by simp at hk; omega)⟩, fun k hk => (h.lev k (by simp at hk; omega)).far hs (by decide) hg, fun k q hk hq e => h.apart k q (by simp at hk; omega) (by simp at hq; omega) e, fun k hk => h.low k (by simp at hk; omega)⟩
def zeroZ (b r d m : Int) (n : Nat) : List Int := List.replicate (cellsN b r d m (n : Int)) 0
def StNewPost (w : World) (b r d m s : Int) (e : Ending) (w' : World) : Prop :=
  ∃ S L X A G C, e = .returned (.tuple #[.pointer (some ⟨S, 0, none⟩), .int .i64 0]) ∧ w.heap.size ≤ S ∧ StIs w' w.heap.size S L b r d m s X A G C (zeroZ b r d m) ∧ Below w.heap.size w w'
theorem Tryz.infoLv : (Tryz.prog.info? 74).map (fun i => (i.zero, i.size, i.bytes)) = some (some .nilIface, 1, 16) := by kernel_rfl
set_option maxRecDepth 100000 in
set_option maxHeartbeats 4000000 in
theorem stnew_yes (b r d m s : Int) (hr : rightB b r d m = true) (w : World) :
  Calls Tryz.prog 7 #[.agg #[.int .i64 b, .int .i64 r, .int .i64 d, .int .i64 m, .int .u64 s]] w (StNewPost w b r d m s) := by
 obtain ⟨i0', hi, hz0, hz1, hz2⟩ := info_parts Tryz.infoLv
 have PR := fun w => right_any b r d m s w
 rw [hr] at PR
 have PR := Lib.hid PR
 have HR := Lib.hid hr
 have hb59 := right_of hr
 obtain ⟨n, hn⟩ : ∃ n : Nat, b = (n : Int) := ⟨b.toNat, by omega⟩
 subst hn
 have hn59 : n ≤ 59 := by omega
 have PN := Lib.hid (fun (j : Nat) (hj : j ≤ n) w => lvnew_yes (n : Int) r d m s (j : Int) hr (by omega) (by omega) w)
 clear hb59 hr
 obtain ⟨g1, hb1, hsz1⟩ := news1 w (.cells #[.int .i64 (n : Int), .int .i64 r, .int .i64 d, .int .i64 m, .int .u64 s] 24)
 have hx1 : Blk _ w.heap.size 24 #[.int .i64 (n : Int), .int .i64 r, .int .i64 d, .int .i64 m, .int .u64 s] := g1
 have HB1 := Lib.hid hb1
 have HX1 := Lib.hid hx1
 clear g1 hb1 hsz1
 go_enter Tryz.func7, Tryz.ntmps7
 go_wp2_with (refine wpList_load_row rfl 24 _ rfl w.heap.size rfl 24 _ (0, 0) _ hx1 Tryz.underlying24 rfl (by kernel_rfl) ?_)
 with_reducible refine (PR.out _).mono ?_
 rintro e w2 ⟨rfl, hb⟩
 have HB2 := Lib.hid (btr HB1.out hb)
 have HX2 := Lib.hid (HX1.out.kept hb)
 clear hb hx1
 have q0 := HX2.out.cell 0
 simp at q0
 go_upto_region 5 with (refine wpList_load_row rfl 24 _ rfl w.heap.size rfl 24 _ (0, 0) _ HX2.out Tryz.underlying24 rfl (by kernel_rfl) ?_)
 have HSB := Lib.hid (Blk.new w2 72 #[.int .i64 (n : Int), .int .i64 r, .int .i64 d, .int .i64 m, .int .u64 s, .slice none 0 0])
 have HX3 := Lib.hid (HX2.out.alloc (.cells #[.int .i64 (n : Int), .int .i64 r, .int .i64 d, .int .i64 m, .int .u64 s, .slice none 0 0] 72))
 have HB3 := Lib.hid (HB2.out.alloc HB2.out.size (.cells #[.int .i64 (n : Int), .int .i64 r, .int .i64 d, .int .i64 m, .int .u64 s, .slice none 0 0] 72))
 have HSL : Hid (w.heap.size ≤ w2.heap.size) := Lib.hid HB2.out.size
 clear HX2 HB2 q0 HX1 HB1
 generalize w2.alloc (.cells #[.int .i64 (n : Int), .int .i64 r, .int .i64 d, .int .i64 m, .int .u64 s, .slice none 0 0] 72) = w3 at *
 generalize w2.heap.size = SB at *
 have q0 := HX3.out.cell 0
 simp at q0
 go_wp2_with fail
 clear q0
 go_loopw [5, 18] (fun v i wr => ∃ (j : Nat) (X : Nat → Value) (A G C : Nat → Nat), j ≤ n + 1 ∧ i = .int .i64 (j : Int) ∧ LevsB wr w.heap.size v (n : Int) r d m s X A G C (zeroZ (n : Int) r d m) j ∧ Blk wr w.heap.size 24 #[.int .i64 (n : Int), .int .i64 r, .int .i64 d, .int .i64 m, .int .u64 s] ∧ Blk wr SB 72 #[.int .i64 (n : Int), .int .i64 r, .int .i64 d, .int .i64 m, .int .u64 s, .slice none 0 0] ∧ Below w.heap.size w wr) (fun _ i _ => n + 1 - (intOf i).toNat)
 case atStart => exact ⟨0, fun _ => .nilIface, fun _ => 0, fun _ => 0, fun _ => 0, by omega, rfl, LevsB.zero _ _ _ _ _ _ _ _ _ _ _ _, HX3.out, HSB.out, HB3.out⟩
 case round =>
  obtain ⟨j, X, A, G, C, hj, rfl, hlv, hx, hs, hbel⟩ := hrel
  have HLV := Lib.hid hlv
  have HX := Lib.hid hx
  have HS := Lib.hid hs
  have HBL := Lib.hid hbel
  clear hlv hx hs hbel HX3 HSB HB3
  by_cases hlt : j < n + 1
  ·have i0 : (0 : Int) ≤ (j : Int) := by omega
   have i1 : (j : Int) < (n : Int) + 1 := by omega
   have PL := Lib.hid (PN.out j (by omega))
   go_wp2_with (refine wpList_load_row rfl 24 _ rfl w.heap.size rfl 24 _ (0, 0) _ HX.out Tryz.underlying24 rfl (by kernel_rfl) ?_)
   with_reducible refine (PL.out _).mono ?_
   rintro e w4 ⟨x, A4, G4, C4, rfl, hC4, hl4, hb4⟩
   obtain ⟨tx, rfl⟩ := hl4.open_
   have HL4 := Lib.hid hl4
   have HC4 := Lib.hid hC4
   have HLV4 := Lib.hid (HLV.out.kept hb4)
   have HX4 := Lib.hid (HX.out.kept hb4)
   have HS4 := Lib.hid (HS.out.kept hb4)
   have HB4 := Lib.hid (btr HBL.out hb4)
   have hs4 := HB4.out.size
   have HLN : Hid (((List.range j).map X).length = j) := Lib.hid (by simp)
   have HCN : Hid (∀ k, k < j → C k ≠ C4) := Lib.hid (fun k hk => by have := (HLV.out.lev k hk).ltC; omega)
   have hc1 : j + 1 ≤ maxLen := by unfold maxLen; omega
   have hc4 : (j + 1) * 16 ≤ 140737488355328 := by omega
   clear hl4 hC4 hb4 PL
   go_wp2_with (at_builtin; refine wpList_append_own_at _ rfl _ _ 70 rfl w.heap.size 74 i0' .nilIface 1 16 Tryz.underlying70 hi hz0 hz1 hz2 rfl (by decide) _ j _ rfl (World.ownsRow.alloc HLV4.out.own _) ⟨w4.heap.size, 0, none⟩ 1 1 [.iface tx (.pointer (some ⟨A4, 0, none⟩))] rfl rfl (cell_one_new _ _ _) ?c2 hc1 hc4 ?c5 ?_)
   case c2 => simp [Value.oneCell']
   case c5 => simp; omega
   intro v8 w8 hown' hgrow hnil' hq9
   have HAL : Hid (Below w4.heap.size w4 (w4.alloc (.cells #[.iface tx (.pointer (some ⟨A4, 0, none⟩))] 74))) := Lib.hid ((Below.refl _ _).alloc (Nat.le_refl _) _)
   have HLV8 := Lib.hid ((HLV4.out.kept HAL.out).push (HL4.out.kept HAL.out) (Nat.le_trans HBL.out.size HC4.out) HCN.out hgrow hown')
   have HX8 : Hid (Blk w8 w.heap.size 24 #[.int .i64 (n : Int), .int .i64 r, .int .i64 d, .int .i64 m, .int .u64 s]) := Lib.hid ((HX4.out.kept HAL.out).grown hgrow (Ne.symm (own_ne (HLV4.out.kept HAL.out).own (HX4.out.kept HAL.out) (by decide))))
   have HS8 : Hid (Blk w8 SB 72 #[.int .i64 (n : Int), .int .i64 r, .int .i64 d, .int .i64 m, .int .u64 s, .slice none 0 0]) := Lib.hid ((HS4.out.kept HAL.out).grown hgrow (Ne.symm (own_ne (HLV4.out.kept HAL.out).own (HS4.out.kept HAL.out) (by decide))))
   have HB8 : Hid (Below w.heap.size w w8) := Lib.hid ((HB4.out.alloc HB4.out.size _).grown hgrow (by simp; omega) (fun k e => (HLV4.out.own.lt k e).1))
   have HZ8 : Hid (upN (zeroZ (n : Int) r d m) j (List.replicate (cellsN (n : Int) r d m (j : Int)) 0) = zeroZ (n : Int) r d m) := Lib.hid (by
    funext k
    by_cases e : k = j
    ·subst e; exact upN_same _ _ _
    ·exact upN_other _ _ e)
   rw [HZ8.out] at HLV8
   clear hown' hgrow hnil' hq9 HAL HL4 HZ8
   go_wp2
   go_roundw
   case rel => exact ⟨j + 1, _, _, _, _, by omega, by go_num, HLV8.out, HX8.out, HS8.out, HB8.out⟩
   case measure => simp [intOf]; omega
  ·obtain rfl : j = n + 1 := by omega
   obtain ⟨L, hst⟩ := HLV.out.stack HR.out HS.out
   obtain ⟨L2, cap, cur, rfl, -⟩ := HLV.out.row (by omega)
   have HST := Lib.hid hst
   have HBS : Hid (Below w.heap.size w (wr.setCell ⟨SB, 5, none⟩ (.slice (some ⟨L2, 0, none⟩) (n + 1) cap))) := Lib.hid (HBL.out.setCell HSL.out _)
   have f5 := HS.out.frozen 5
   have c5 := HS.out.cell 5
   simp at c5
   have i1 : ¬ (((n + 1 : Nat) : Int) < (n : Int) + 1) := by omega
   clear hst hlt HLV
   go_wp2_with fail
   go_ret2
   exact ⟨SB, L, X, A, G, C, rfl, HSL.out, HST.out, HBS.out⟩
theorem StIs.low_ {w : World} {base base' S L : Nat} {b r d m s : Int} {X : Nat → Value} {A G C : Nat → Nat} {Z : Nat → List Int} (h : StIs w base S L b r d m s X A G C Z) (hb : base' ≤ base) : StIs w base' S L b r d m s X A G C Z :=
  ⟨h.box, h.right, h.row, h.lev, h.apart, fun n hn => Nat.le_trans hb (h.low n hn)⟩
theorem StIs.far {w w' : World} {base S L g : Nat} {t : TypeId} {cs : Array Value} {b r d m s : Int} {X : Nat → Value} {A G C : Nat → Nat} {Z : Nat → List Int} (h : StIs w base S L b r d m s X A G C Z) (hb : Blk w g t cs) (ht : 2 ≠ t ∧ 164 ≠ t ∧ 149 ≠ t ∧ 153 ≠ t)
    (ht2 : 72 ≠ t ∧ 74 ≠ t) (hg : w.grownBy w' (some g)) : StIs w' base S L b r d m s X A G C Z := by
  obtain ⟨cap, h1, h2⟩ := h.box
  obtain ⟨cur, h3, h4⟩ := h.row
  exact ⟨⟨cap, h1.grown hg (by simpa using h1.ne_ hb ht2.1), h2⟩, h.right, ⟨cur, h3.grown hg (by simpa using h3.ne_ hb ht2.2), h4⟩, fun n hn => (h.lev n hn).far hb ht hg, h.apart, h.low⟩
end Go.Proofs.YthbkljeibmkimaaGreat


namespace Go.Proofs.YthbkljeibmkimaaGreat
open Go.RowKit
set_option linter.unusedVariables false
set_option linter.unusedSimpArgs false

theorem stlevel (w : World) (base S L : Nat) (b r d m s : Int) (X : Nat → Value) (A G C : Nat → Nat) (Z : Nat → List Int) (h : StIs w base S L b r d m s X A G C Z) (n : Nat) (hn : n ≤ b.toNat) :
    Calls Tryz.prog 46 #[.pointer (some ⟨S, 0, none⟩), .int .i64 (n : Int)] w fun e w' => e = .returned (.tuple #[X n, .bool true]) ∧ w = w' := by
  obtain ⟨cap, h1, h2⟩ := h.box
  obtain ⟨cur, h3, h4⟩ := h.row
  have hR := right_of h.right
  have c5 := h1.cell 5
  have cn := (h3.cell n).trans (h4 n hn)
  simp at c5
  obtain ⟨q, hq⟩ : ∃ q : Nat, b.toNat = q := ⟨_, rfl⟩
  rw [hq] at c5 hn h2
  have d1 : decide ((n : Int) < 0) = false := decide_eq_false (by omega)
  have d2 : decide ((q : Int) + 1 ≤ (n : Int)) = false := decide_eq_false (by omega)
  have d3 : decide (q + 1 ≤ n) = false := decide_eq_false (by omega)
  have i0 : (0 : Int) ≤ (n : Int) := by omega
  have i1 : (n : Int) < (q : Int) + 1 := by omega
  have i2 : n < q + 1 := by omega
  obtain ⟨t, hx⟩ := (h.lev n (by omega)).open_
  rw [hx] at cn ⊢
  clear h h1 h3 h4 hR hq hx
  go_enter Tryz.func46, Tryz.ntmps46
  go_wp2
  go_ret2
  exact ⟨rfl, rfl⟩
theorem stconfig (w : World) (base S L : Nat) (b r d m s : Int) (X : Nat → Value) (A G C : Nat → Nat) (Z : Nat → List Int) (h : StIs w base S L b r d m s X A G C Z) :
  Calls Tryz.prog 29 #[.pointer (some ⟨S, 0, none⟩)] w fun e w' => e = .returned (.agg #[.int .i64 b, .int .i64 r, .int .i64 d, .int .i64 m, .int .u64 s]) ∧ Below w.heap.size w w' := by
 obtain ⟨g1, hb1, hsz1⟩ := news1 w (.cells #[.int .i64 0, .int .i64 0, .int .i64 0, .int .i64 0, .int .u64 0] 24)
 have hx1 : Blk _ w.heap.size 24 #[.int .i64 0, .int .i64 0, .int .i64 0, .int .i64 0, .int .u64 0] := g1
 obtain ⟨cap, hbx, -⟩ := h.box
 have hA := hbx.kept hb1
 have c0 := hA.cell 0
 have c1 := hA.cell 1
 have c2 := hA.cell 2
 have c3 := hA.cell 3
 have c4 := hA.cell 4
 simp at c0 c1 c2 c3 c4
 have HX1 := Lib.hid hx1
 have HB1 := Lib.hid hb1
 have n0 := hx1.cell 0
 have n1 := hx1.cell 1
 have n2 := hx1.cell 2
 have n3 := hx1.cell 3
 have n4 := hx1.cell 4
 simp at n0 n1 n2 n3 n4
 have f0 := hx1.frozen 0
 have f1 := hx1.frozen 1
 have f2 := hx1.frozen 2
 have f3 := hx1.frozen 3
 have f4 := hx1.frozen 4
 clear hA hx1 hb1 g1 hsz1 h hbx
 go_enter Tryz.func29, Tryz.ntmps29
 go_wp2_with fail
 refine bodyPost_ret (v := .agg #[.int .i64 b, .int .i64 r, .int .i64 d, .int .i64 m, .int .u64 s]) (results_cell_row rfl _ _ w.heap.size 24 _ (0, 0) _ rfl (heap_alloc_new w _) Tryz.underlying24 rfl (by kernel_rfl)) rfl ⟨rfl, ?_⟩
 exact (Below.refl _ _).alloc (Nat.le_refl _) _
end Go.Proofs.YthbkljeibmkimaaGreat


namespace Go.Proofs.YthbkljeibmkimaaGreat
open Go.RowKit
set_option linter.unusedVariables false
set_option linter.unusedSimpArgs false

set_option maxRecDepth 100000 in
set_option maxHeartbeats 8000000 in
theorem skpoint (w : World) (A G C : Nat) (b r d m s l : Int) (zs : List Int) (h : SkIs w A G C b r d m s l zs) (hr : rightB b r d m = true) (he : exactB b r d m l = false) (s0 : 0 ≤ s) (s1 : s ≤ 18446744073709551615) (k : Nat) (k1 : k < 18446744073709551616) (hk : (k : Int) < keysI b r d m l) :
  Calls Tryz.prog 131 #[.pointer (some ⟨A, 0, none⟩), .int .u64 (k : Int)] w fun e w' => e = .returned (.tuple #[.int .i64 (lvPt b r d m s l zs k), .int .i64 0]) ∧ Below w.heap.size w w' := by
 have HA := Lib.hid h
 obtain ⟨R, W, rfl, rfl, h1, h2, h3, h4⟩ := sk_nat (w := w) (A := A) (G := G) (C := C) (s := s) (l := l) (zs := zs) hr
 have PK := Lib.hid (fun w => cols_any b W m s l k R s0 s1 (by omega) (by omega) hk w)
 have HM : Hid (meetB R W (colsZ W s l k R) = true) := Lib.hid (by have := colsZ_meet (d := (W : Int)) (s := s) (l := l) (k := (k : Int)) h1 (by omega); simpa using this)
 have HV : Hid (lvPt b R W m s l zs k = kthL (readZ W zs (colsZ W s l k R)) (if m = 3 then (R - 1) / 2 else 0)) := Lib.hid (by unfold lvPt; rw [he]; simp)
 have HCLn := Lib.hid (colsZ_len (W : Int) s l k R)
 have k0 : 0 ≤ (k : Int) := by omega
 have hsl := Tryz.slI
 clear h hk he hr
 go_enter Tryz.func131, Tryz.ntmps131
 go_wp2_with fail
 refine wp_region_still_tail 9 (by kernel_rfl) (by kernel_rfl) ?_
 simp only [List.take_succ_cons, List.take_zero, List.drop_succ_cons, List.drop_zero]
 have HA2 : Hid (SkIs { heap := w.heap, tape := w.tape, drawn := w.drawn + 1, os := w.os, output := w.output } A G C b R W _ s l zs) := Lib.hid (HA.out.kept (below_drewN (Below.refl _ _) 1))
 have HB2 : Hid (Below w.heap.size w { heap := w.heap, tape := w.tape, drawn := w.drawn + 1, os := w.os, output := w.output }) := Lib.hid (below_drewN (Below.refl _ _) 1)
 generalize ({ heap := w.heap, tape := w.tape, drawn := w.drawn + 1, os := w.os, output := w.output } : World) = wd at *
 have q1 := HA2.out.box.cell 1
 have q2 := HA2.out.box.cell 2
 have q3 := HA2.out.box.cell 3
 have q4 := HA2.out.box.cell 4
 have q5 := HA2.out.box.cell 5
 have q6 := HA2.out.box.cell 6
 simp at q1 q2 q3 q4 q5 q6
 repeat still_step
 refine wpStill_nil ?_
 go_wp2_with fail
 with_reducible refine (PK.out _).mono ?_
 intro e w3 hpost
 obtain ⟨gc, rfl, hgc, -, hints, hb⟩ := hpost.ints
 have HA3 := Lib.hid (HA2.out.kept hb)
 have HB3 := Lib.hid (btr HB2.out hb)
 have HGR : Hid (GridIs w3 G C R W zs) := Lib.hid (by
  have h1 := HA3.out.grid
  rw [Int.toNat_natCast, Int.toNat_natCast] at h1
  exact h1)
 have HIN := Lib.hid hints
 clear hb hpost hints q1 q2 q3 q4 q5 q6 hgc
 have q0 := HA3.out.box.cell 0
 have q4 := HA3.out.box.cell 4
 simp at q0 q4
 by_cases hm : m = 3
 ·subst hm
  have PR := Lib.hid (middle_yes w3 G C R W zs (colsZ W s l k R) _ HGR.out HIN.out HM.out)
  go_wp2_with fail
  with_reducible refine PR.out.mono ?_
  rintro e w4 ⟨u, rfl, hu, hb⟩
  have HU : Hid (u = lvPt b R W 3 s l zs k) := Lib.hid (by rw [HCLn.out] at hu; have h1 := kthL_of hu; have h2 := HV.out; simp only [if_true] at h2; rw [h2]; simpa using h1.symm)
  have HB4 := Lib.hid (btr HB3.out hb)
  clear hu hb q0 q4
  go_wp2
  go_ret2
  first | exact ⟨rfl, HB4.out⟩ | exact ⟨by rw [HU.out]; rfl, HB4.out⟩
 ·have PR := Lib.hid (least_yes w3 G C R W zs (colsZ W s l k R) _ HGR.out HIN.out HM.out)
  have em : (m == 3) = false := by simp [hm]
  have em' : decide (m = 3) = false := by simp [hm]
  go_wp2_with fail
  with_reducible refine PR.out.mono ?_
  rintro e w4 ⟨u, rfl, hu, hb⟩
  have HU : Hid (u = lvPt b R W m s l zs k) := Lib.hid (by rw [HV.out, if_neg hm]; exact (kthL_of hu).symm)
  have HB4 := Lib.hid (btr HB3.out hb)
  clear hu hb q0 q4
  go_wp2
  go_ret2
  first | exact ⟨rfl, HB4.out⟩ | exact ⟨by rw [HU.out]; rfl, HB4.out⟩
theorem Tryz.mExPoint (k : Nat) (a : Addr) (w : World) : (method (k + 1) 129 (.pointer (some a)) "Point").run Tryz.prog w = .ok (118, .pointer (some a)) w := by kernel_rfl
theorem Tryz.mSkPoint (k : Nat) (a : Addr) (w : World) : (method (k + 1) 132 (.pointer (some a)) "Point").run Tryz.prog w = .ok (131, .pointer (some a)) w := by kernel_rfl
theorem stpoint (w : World) (base S L : Nat) (b r d m s : Int) (X : Nat → Value) (A G C : Nat → Nat) (Z : Nat → List Int) (h : StIs w base S L b r d m s X A G C Z) (s0 : 0 ≤ s) (s1 : s ≤ 18446744073709551615) (n : Nat) (hn : n ≤ b.toNat) (k : Nat) (k1 : k < 18446744073709551616) (hk : (k : Int) < keysI b r d m (n : Int)) :
  Calls Tryz.prog 30 #[.pointer (some ⟨S, 0, none⟩), .agg #[.int .i64 (n : Int), .int .u64 (k : Int)]] w fun e w' => e = .returned (.tuple #[.int .i64 (lvPt b r d m s (n : Int) (Z n) k), .int .i64 0]) ∧ Below w.heap.size w w' := by
 have hl := h.lev n hn
 have hrt := h.right
 have HS := Lib.hid h
 have PL := Lib.hid (fun wq hq => stlevel wq base S L b r d m s X A G C Z hq n hn)
 obtain ⟨g1, hb1, hsz1⟩ := news1 w (.cells #[.int .i64 (n : Int), .int .u64 (k : Int)] 64)
 have HX1 : Hid (Blk _ w.heap.size 64 #[.int .i64 (n : Int), .int .u64 (k : Int)]) := Lib.hid g1
 have HB1 := Lib.hid hb1
 have HS1 := Lib.hid (h.kept hb1)
 clear g1 hb1 hsz1
 have q0 := HX1.out.cell 0
 have q1 := HX1.out.cell 1
 simp at q0 q1
 have PLL := Lib.hid (PL.out _ HS1.out)
 rcases hl with ⟨h1, h2, h3⟩ | ⟨h1, h2, h3⟩
 ·rw [h2] at PLL
  have HV : Hid (lvPt b r d m s (n : Int) (Z n) k = cellD (Z n) k) := Lib.hid (by unfold lvPt; rw [if_pos h1])
  have PC := Lib.hid (fun wq hq => expoint_yes wq (A n) (G n) (C n) b r d m s (n : Int) (keysI b r d m (n : Int)).toNat k (Z n) hq (by omega))
  have H3 := Lib.hid (h3.kept HB1.out)
  clear h h1 h2 h3 hk hrt PL
  have hm := Tryz.mExPoint
  go_enter Tryz.func30, Tryz.ntmps30
  go_wp2_with fail
  with_reducible refine PLL.out.mono ?_
  rintro e w2 ⟨rfl, hw2⟩
  subst hw2
  go_wp2_with fail
  with_reducible refine (PC.out _ H3.out).mono ?_
  rintro e w2 ⟨rfl, hw2⟩
  subst hw2
  go_wp2
  go_ret2
  exact ⟨by rw [HV.out]; rfl, HB1.out⟩
 ·rw [h2] at PLL
  have PC := Lib.hid (fun wq hq => skpoint wq (A n) (G n) (C n) b r d m s (n : Int) (Z n) hq hrt h1 s0 s1 k k1 hk)
  have H3 := Lib.hid (h3.kept HB1.out)
  clear h h1 h2 h3 hk hrt PL
  have hm := Tryz.mSkPoint
  go_enter Tryz.func30, Tryz.ntmps30
  go_wp2_with fail
  with_reducible refine PLL.out.mono ?_
  rintro e w2 ⟨rfl, hw2⟩
  subst hw2
  go_wp2_with fail
  with_reducible refine (PC.out _ H3.out).mono ?_
  rintro e w2 ⟨rfl, hb⟩
  have HB2 := Lib.hid (btr HB1.out hb)
  clear hb
  go_wp2
  go_ret2
  exact ⟨rfl, HB2.out⟩
end Go.Proofs.YthbkljeibmkimaaGreat

