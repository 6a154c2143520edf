/-
  The walk of the reference's grid: New. Conditions: none beyond those stated at each theorem.
-/
import Derived.Test.YtbghchgmoiniiaaGrdR
import Derived.Test.YtbghchgmoiniiaaGrdN
import Derived.Test.YtbghchgmoiniiaaGrdC
namespace Go.Proofs.Ytbghchgmoiniiaa
open Go.RowKit
set_option linter.unusedVariables false
set_option linter.unusedSimpArgs false

def RNewPost (w : World) (R W : Nat) (e : Ending) (w' : World) : Prop :=
  ∃ G v B K, e = .returned (.pointer (some ⟨G, 0, none⟩)) ∧ RefIs w' w.heap.size G v B K R W (List.replicate (R * W) 0) ∧ Below w.heap.size w w'

/-- the rows that are laid: j of them -/
structure RowsZ (w : World) (A : Nat) (v : Value) (B K : Nat → Nat) (j W : Nat) : Prop where
  box : Blk w A 101 #[v]
  own : w.ownsRow (A + 1) 51 1 v j ((List.range j).map fun r => Value.slice (some ⟨B r, 0, none⟩) W (K r))
  cap : ∀ r, r < j → W ≤ K r
  cells : ∀ r, r < j → ∃ cur : Array Value, Blk w (B r) 2 cur ∧ ∀ (c : Nat), c < W → cur[c]? = some (Value.int .i64 0)
  inj : ∀ r r', r < j → r' < j → B r = B r' → r = r'
  lo : ∀ r, r < j → A + 1 ≤ B r
theorem RowsZ.grown {w w' : World} {A : Nat} {v : Value} {B K : Nat → Nat} {j W : Nat} {row : Option Nat} (h : RowsZ w A v B K j W) (hb : w.grownBy w' row) (h1 : some A ≠ row) (h2 : v.ownBlock = none ∨ v.ownBlock ≠ row) (h3 : ∀ r, r < j → some (B r) ≠ row) : RowsZ w' A v B K j W :=
  ⟨h.box.grown hb h1, h.own.kept hb h2, h.cap, fun r hr => by obtain ⟨cur, hc, hcur⟩ := h.cells r hr; exact ⟨cur, hc.grown hb (h3 r hr), hcur⟩, h.inj, h.lo⟩
theorem RowsZ.kept {w w' : World} {A : Nat} {v : Value} {B K : Nat → Nat} {j W : Nat} (h : RowsZ w A v B K j W) (hb : Below w.heap.size w w') : RowsZ w' A v B K j W :=
  h.grown (row := none) ⟨hb.os, hb.tape, hb.output, hb.size, fun k hk _ => hb.block k hk⟩ (by simp) (by cases v.ownBlock <;> simp) (by simp)
theorem RowsZ.ltB {w : World} {A : Nat} {v : Value} {B K : Nat → Nat} {j W : Nat} (h : RowsZ w A v B K j W) {r : Nat} (hr : r < j) : B r < w.heap.size := by
  obtain ⟨cur, hc, _⟩ := h.cells r hr; exact hc.lt

theorem own_ne {w : World} {base : Nat} {e t : TypeId} {v : Value} {n : Nat} {xs : List Value} {b : Nat} {cs : Array Value} (h : w.ownsRow base e 1 v n xs) (hb : Blk w b t cs) (hne : e ≠ t) : v.ownBlock ≠ some b := by
  rcases h.2 with ⟨rfl, _⟩ | ⟨g, cap, cur, rfl, _, hg, _⟩
  · simp [Value.ownBlock]
  · simp only [Value.ownBlock]
    intro e2
    have e2 : g = b := Option.some.inj e2
    exact Blk.ne_ (w := w) (g := g) (g' := b) hg hb hne e2
theorem RowsZ.push {w w3 : World} {A : Nat} {v v' : Value} {B K : Nat → Nat} {j W b cp : Nat} {cur : Array Value} (h : RowsZ w A v B K j W) (hg : w.grownBy w3 v.ownBlock)
    (hown : w3.ownsRow (A + 1) 51 1 v' (j + 1) (((List.range j).map fun r => Value.slice (some ⟨B r, 0, none⟩) W (K r)) ++ [.slice (some ⟨b, 0, none⟩) W cp]))
    (hrow : Blk w b 2 cur) (hcur : ∀ c, c < W → cur[c]? = some (Value.int .i64 0)) (hW : W ≤ cp) (hA : A + 1 ≤ b) (hnB : ∀ r, r < j → B r ≠ b) :
    RowsZ (w3.setCell ⟨A, 0, none⟩ v') A v' (fun r => if r = j then b else B r) (fun r => if r = j then cp else K r) (j + 1) W := by
  have hvA : v.ownBlock ≠ some A := fun e => by have := (h.own.lt A e).1; omega
  have hbox3 : Blk w3 A 101 #[v] := h.box.grown hg (fun e => hvA e.symm)
  have hvA' : v'.ownBlock ≠ some A := fun e => by have := (hown.lt A e).1; omega
  have hgs := grown_set w3 A 0 v'
  have hr3 : ∀ r, r < j + 1 → ∃ cur : Array Value, Blk w3 (if r = j then b else B r) 2 cur ∧ ∀ (c : Nat), c < W → cur[c]? = some (Value.int .i64 0) := by
    intro r hr
    by_cases e : r = j
    · rw [if_pos e]; exact ⟨cur, hrow.grown hg (fun e2 => own_ne h.own hrow (by decide) e2.symm), hcur⟩
    · rw [if_neg e]
      obtain ⟨c2, h2, h3⟩ := h.cells r (by omega)
      exact ⟨c2, h2.grown hg (fun e2 => own_ne h.own h2 (by decide) e2.symm), h3⟩
  have hloB : ∀ r, r < j + 1 → A + 1 ≤ (if r = j then b else B r) := by
    intro r hr
    by_cases e : r = j
    · rw [if_pos e]; exact hA
    · rw [if_neg e]; exact h.lo r (by omega)
  refine ⟨by simpa using hbox3.set_ 0 v', ?_, fun r hr => ?_, fun r hr => ?_, fun r r' hr hr' e => ?_, hloB⟩
  · have := hown.kept hgs (.inr hvA')
    have e : (List.range (j + 1)).map (fun r => Value.slice (some ⟨(if r = j then b else B r), 0, none⟩) W (if r = j then cp else K r)) = ((List.range j).map fun r => Value.slice (some ⟨B r, 0, none⟩) W (K r)) ++ [.slice (some ⟨b, 0, none⟩) W cp] := by
      rw [List.range_succ, List.map_append]
      congr 1
      · apply List.map_congr_left
        intro r hr
        have : r ≠ j := by have := List.mem_range.1 hr; omega
        rw [if_neg this, if_neg this]
      · simp
    rw [e]
    exact this
  · by_cases e : r = j
    · simp only [if_pos e]; exact hW
    · simp only [if_neg e]; exact h.cap r (by omega)
  · obtain ⟨c2, h2, h3⟩ := hr3 r hr
    have := hloB r hr
    exact ⟨c2, h2.far (by simp; omega) _, h3⟩
  · by_cases e1 : r = j
    · by_cases e2 : r' = j
      · omega
      · simp only [if_pos e1, if_neg e2] at e
        exact absurd e.symm (hnB r' (by omega))
    · by_cases e2 : r' = j
      · simp only [if_neg e1, if_pos e2] at e
        exact absurd e (hnB r (by omega))
      · simp only [if_neg e1, if_neg e2] at e
        exact h.inj r r' (by omega) (by omega) e
theorem RowsZ.ref {w : World} {A : Nat} {v : Value} {B K : Nat → Nat} {R W : Nat} (h : RowsZ w A v B K R W) (hR : R ≤ 8) (hW : W ≤ 128) : RefIs w A A v B K R W (List.replicate (R * W) 0) := by
  refine ⟨h.box, ⟨h.own.1, ?_⟩, h.cap, fun r hr => ?_, h.inj, ⟨Nat.le_refl _, fun r hr => by have := h.lo r hr; omega⟩, by simp, hR, hW⟩
  · rcases h.own.2 with h1 | ⟨g, cap, cur, h1, h2, h3⟩
    · exact .inl h1
    · exact .inr ⟨g, cap, cur, h1, by omega, h3⟩
  · obtain ⟨cur, h1, h2⟩ := h.cells r hr
    refine ⟨cur, h1, fun c u hc hu => ?_⟩
    have := List.mem_of_getElem? hu
    simp at this
    rw [h2 c hc, this.2]

theorem Try.infoSl : (Try.prog.info? 51).map (fun i => (i.zero, i.size, i.bytes)) = some (some (.slice none 0 0), 1, 24) := by kernel_rfl

set_option maxRecDepth 100000 in
set_option maxHeartbeats 4000000 in
theorem rnew_any (rI cI : Int) (w : World) : Calls Try.prog 64 #[.int .i64 rI, .int .i64 cI] w (RNewPost w (clampN rI 8) (clampN cI 128)) := by
  have hR := clampN_le rI 8
  have hW := clampN_le cI 128
  have eR : ∀ j : Nat, (decide ((j : Int) < rI) = true ∧ decide ((j : Int) < 8) = true) ↔ j < clampN rI 8 := by intro j; simp only [decide_eq_true_eq, clampN]; omega
  have eW : ∀ j : Nat, (decide ((j : Int) < cI) = true ∧ decide ((j : Int) < 128) = true) ↔ j < clampN cI 128 := by intro j; simp only [decide_eq_true_eq, clampN]; omega
  generalize clampN rI 8 = R at *
  generalize clampN cI 128 = W at *
  have ER := Lib.hid eR
  have EW := Lib.hid eW
  clear eR eW
  obtain ⟨i0, hi, hz0, hz1, hz2⟩ := info_parts Try.info64
  obtain ⟨i1, hj, hy0, hy1, hy2⟩ := info_parts Try.infoSl
  go_enter Try.func64, Try.ntmps64
  go_wp2_with fail
  obtain ⟨g1, hbel, hsz⟩ := news1 w (.cells #[.slice none 0 0] 101)
  have hz : RowsZ (w.alloc (.cells #[.slice none 0 0] 101)) w.heap.size (.slice none 0 0) (fun _ => 0) (fun _ => 0) 0 W :=
    ⟨g1, World.ownsRow_nil _ _ _ _, fun r hr => by omega, fun r hr => by omega, fun r r' hr => by omega, fun r hr => by omega⟩
  clear g1
  generalize (w.alloc (.cells #[.slice none 0 0] 101)) = wz at *
  generalize hA : w.heap.size = A at *
  have HA := Lib.hid hA
  have HZ := Lib.hid hz
  have HB := Lib.hid hbel
  clear hA hz hbel
  go_loopw [6] (fun i wr => ∃ (j : Nat) (v : Value) (B K : Nat → Nat), j ≤ R ∧ i = .int .i64 (j : Int) ∧ RowsZ wr A v B K j W ∧ Below A w wr ∧ A + 1 ≤ wr.heap.size) (fun i _ => R - (intOf i).toNat)
  case atStart => exact ⟨0, _, _, _, by omega, rfl, HZ.out, HB.out, by omega⟩
  case round =>
    obtain ⟨j, v, B, K, hjr, rfl, hz, hbel, hsz⟩ := hrel
    clear HZ HB
    have HZ := Lib.hid hz
    have HB := Lib.hid hbel
    clear hz hbel
    by_cases hlt : j < R
    · obtain ⟨d1, d2⟩ := (ER.out j).2 hlt
      go_wp2_with fail
      obtain ⟨g1, hb1, hsz1⟩ := news1 wr (.cells #[] 2)
      have hown0 := World.ownsRow_lit (base := wr.heap.size) (e := 2) (size := 1) wr #[] 0 (by simp) (by unfold maxLen; omega) (by simp)
      have hz1 := HZ.out.kept hb1
      have hbel1 : Below A w (wr.alloc (.cells #[] 2)) := HB.out.trans (hb1.mono (by omega))
      generalize hwn : (wr.alloc (.cells #[] 2)) = wn at *
      clear hwn g1 hb1
      have HLT : Hid (∀ r, r < j → B r < wr.heap.size) := Lib.hid (fun r hr => HZ.out.ltB hr)
      have HLV : Hid (∀ k, v.ownBlock = some k → k < wr.heap.size) := Lib.hid (fun k hk => (HZ.out.own.lt k hk).2)
      generalize hM : wr.heap.size = M at *
      clear hM
      have HZ1 := Lib.hid hz1
      have HB1 := Lib.hid hbel1
      have HO1 := Lib.hid hown0
      clear hz1 hbel1 hown0 HZ HB
      go_loopw [7, 8] (fun x i wr => ∃ (c : Nat), c ≤ W ∧ i = .int .i64 (c : Int) ∧ x ≠ .slice none 0 0 ∧ wr.ownsRow M 2 1 x c (List.replicate c (Value.int .i64 0)) ∧ RowsZ wr A v B K j W ∧ Below A w wr ∧ M ≤ wr.heap.size) (fun _ i _ => W - (intOf i).toNat)
      case atStart => exact ⟨0, by omega, rfl, by simp, HO1.out, HZ1.out, HB1.out, by omega⟩
      case round =>
        obtain ⟨c, hcw, rfl, hnil, hown, hz, hbel, hszM⟩ := hrel
        clear HZ1 HB1 HO1
        have HZ := Lib.hid hz
        have HB := Lib.hid hbel
        have HO := Lib.hid hown
        have HNIL := Lib.hid hnil
        clear hz hbel hown hnil
        by_cases hltc : c < W
        · obtain ⟨d3, d4⟩ := (EW.out c).2 hltc
          have hlen : c + 1 ≤ maxLen := by unfold maxLen; omega
          go_wp2_with (at_builtin; refine wpList_append_own_at _ rfl _ _ 51 rfl M 2 i0 (.int .i64 0) 1 8 Try.underlying51 hi hz0 hz1 hz2 rfl (by decide) _ c _ rfl (HO.out.alloc _) ⟨wr.heap.size, 0, none⟩ 1 1 [.int .i64 0] rfl rfl (cell_one_new _ _ _) ?c2 hlen ?c4 ?c5 ?_)
          case c2 => simp [Value.oneCell']
          case c4 => omega
          case c5 => simp; omega
          intro v' w3 hown' hgrow hnil' hq9
          have HNIL' : Hid (v' ≠ .slice none 0 0) := Lib.hid (fun h => by have := HNIL.out; simp_all)
          have HO3 : Hid (w3.ownsRow M 2 1 v' (c + 1) (List.replicate (c + 1) (Value.int .i64 0))) := Lib.hid (by rw [List.replicate_succ']; exact hown')
          have hown2 := HO.out
          have hMk : ∀ k, Value.ownBlock u7 = some k → M ≤ k := fun k hk => (hown2.lt k hk).1
          have HZ3 : Hid (RowsZ w3 A v B K j W) := Lib.hid ((HZ.out.kept ((Below.refl _ _).alloc (Nat.le_refl _) _)).grown hgrow (fun e => by have := hMk A e.symm; omega)
            (by cases hv : v.ownBlock with
              | none => exact .inl rfl
              | some k => exact .inr (fun e => by have := hMk k e.symm; have := HLV.out k hv; omega))
            (fun r hr e => by have := hMk _ e.symm; have := HLT.out r hr; omega))
          have HB3 : Hid (Below A w w3) := Lib.hid ((HB.out.alloc (by omega) _).grown hgrow (by simp; omega) (fun k e => by have := hMk k e; omega))
          have hsz3 : M ≤ w3.heap.size := by have := hgrow.size; simp at this; omega
          clear hown' hgrow hnil' hq9 hown2 hMk
          go_wp2
          go_roundw
          case rel => exact ⟨c + 1, by omega, by go_num, HNIL'.out, HO3.out, HZ3.out, HB3.out, hsz3⟩
          case measure => simp [intOf]; omega
        · obtain rfl : c = W := by omega
          have hd : decide ((c : Int) < cI) = false ∨ (decide ((c : Int) < cI) = true ∧ decide ((c : Int) < 128) = false) := by
            cases h1 : decide ((c : Int) < cI) with
            | false => exact .inl rfl
            | true =>
              cases h2 : decide ((c : Int) < 128) with
              | false => exact .inr ⟨rfl, rfl⟩
              | true => exact absurd ((EW.out c).1 ⟨h1, h2⟩) hltc
          have hrow := HO.out
          rw [show List.replicate c (Value.int .i64 0) = (List.replicate c (0 : Int)).map (Value.int .i64) by simp] at hrow
          obtain ⟨b, cp, rfl, hMb, hcp, cur, hcur, hz0'⟩ := own_row (zs := List.replicate c 0) (by simpa using hrow) HNIL.out
          simp only [List.length_replicate] at hcp ⊢
          have HCUR := Lib.hid hcur
          have HZ0 : Hid (∀ k, k < c → cur[k]? = some (Value.int .i64 0)) := Lib.hid (fun k hk => hz0' k 0 (by simp [hk]))
          have hbx := HZ.out.box.cell 0
          have hbf := HZ.out.box.frozen 0
          simp at hbx
          have HOV := Lib.hid HZ.out.own
          have hjm : j + 1 ≤ maxLen := by unfold maxLen; omega
          have hAlt := HZ.out.box.lt
          clear hrow hcur hz0' HO
          rcases hd with d3 | ⟨d3, d4⟩
          all_goals
            go_wp2_with (at_builtin; refine wpList_append_own_at _ rfl _ _ 99 rfl (A + 1) 51 i1 (.slice none 0 0) 1 24 Try.underlying99 hj hy0 hy1 hy2 rfl (by decide) _ j _ rfl (HOV.out.alloc _) ⟨wr.heap.size, 0, none⟩ 1 1 [.slice (some ⟨b, 0, none⟩) c cp] rfl rfl (cell_one_new _ _ _) ?c2 hjm ?c4 ?c5 ?_)
            case c2 => simp [Value.oneCell']
            case c4 => omega
            case c5 => simp; omega
            intro v' w3 hown' hgrow hnil' hq9
            obtain ⟨L, capL, rfl⟩ : ∃ L capL, v' = .slice (some ⟨L, 0, none⟩) (j + 1) capL := by
              rcases hown'.2 with ⟨_, h0⟩ | ⟨L, capL, curL, h1, _⟩
              · omega
              · exact ⟨L, capL, h1⟩
            have hpush := RowsZ.push (HZ.out.kept ((Below.refl _ _).alloc (Nat.le_refl _) (.cells #[.slice (some ⟨b, 0, none⟩) c cp] 51))) hgrow hown' (HCUR.out.alloc _) HZ0.out hcp (by omega) (fun r hr => by have := HLT.out r hr; omega)
            have HP := Lib.hid hpush
            have hvk : ∀ k, v.ownBlock = some k → A + 1 ≤ k := fun k hk => (HOV.out.lt k hk).1
            have HB3 : Hid (Below A w w3) := Lib.hid ((HB.out.alloc (by omega) _).grown hgrow (by simp; omega) (fun k e => by have := hvk k e; omega))
            have hbx3 : w3.cell? ⟨A, 0, none⟩ = some v := by
              have h1 := (hgrow.block A (by simp; omega) (fun e => by have := hvk A e.symm; omega))
              have h2 := Blk.alloc HZ.out.box (.cells #[.slice (some ⟨b, 0, none⟩) c cp] 51)
              exact (Blk.cell (w := w3) (h1.trans h2) 0)
            have hbf3 : w3.frozen? ⟨A, 0, none⟩ = false := by
              have h1 := (hgrow.block A (by simp; omega) (fun e => by have := hvk A e.symm; omega))
              have h2 := Blk.alloc HZ.out.box (.cells #[.slice (some ⟨b, 0, none⟩) c cp] 51)
              exact (Blk.frozen (w := w3) (h1.trans h2) 0)
            have hs3 : A + 1 ≤ w3.heap.size := by have := hgrow.size; simp at this; omega
            clear hown' hgrow hnil' hq9 hpush hvk hbx hbf
            go_wp2
            go_roundw
            case rel => exact ⟨j + 1, _, _, _, by omega, by go_num, HP.out, HB3.out.setCell (Nat.le_refl _) _, by simp [World.setCell]; omega⟩
            case measure => simp [intOf]; omega
    · obtain rfl : j = R := by omega
      have hd : decide ((j : Int) < rI) = false ∨ (decide ((j : Int) < rI) = true ∧ decide ((j : Int) < 8) = false) := by
        cases h1 : decide ((j : Int) < rI) with
        | false => exact .inl rfl
        | true =>
          cases h2 : decide ((j : Int) < 8) with
          | false => exact .inr ⟨rfl, rfl⟩
          | true => exact absurd ((ER.out j).1 ⟨h1, h2⟩) hlt
      have HP : Hid (RNewPost w j W (.returned (.pointer (some ⟨A, 0, none⟩))) wr) := ⟨A, v, B, K, rfl, by rw [HA.out]; exact HZ.out.ref hR hW, by rw [HA.out]; exact HB.out⟩
      rcases hd with d3 | ⟨d3, d4⟩
      all_goals
        go_wp2
        go_ret
        exact HP.out
end Go.Proofs.Ytbghchgmoiniiaa
