/-
  The walks of order.part, Kth, Min, Median. Conditions: none beyond those stated at each theorem.
-/
import Derived.Test.YtcinlcbmjboaaaaKth
import Derived.Test.YtcinlcbmjboaaaaRow
import Derived.Test.YtcinlcbmjboaaaaGrd
import Derived.Test.YtcinlcbmjboaaaaGrdC
import Derived.Test.YtcinlcbmjboaaaaLng
import Derived.Deep.RegionHeld3
namespace Go.Proofs.Ytcinlcbmjboaaaa
open Go.RowKit
set_option linter.unusedVariables false
set_option linter.unusedSimpArgs false

theorem Blk.setRow_same {w : World} {g : Nat} {t : TypeId} {cs : Array Value} (h : Blk w g t cs) : w.setRow g cs = w := by
  have h2 : (w.setRow g cs).heap = w.heap := by
    apply Array.ext_getElem?
    intro i
    unfold World.setRow
    simp only
    rw [Array.getElem?_modify]
    by_cases e : g = i
    · subst e
      unfold Blk at h
      simp [h]
    · simp [e]
  calc w.setRow g cs = { w with heap := (w.setRow g cs).heap } := rfl
    _ = w := by rw [h2]
theorem grown_cell_far (w : World) (p : Addr) (u : Value) {g : Nat} (h : g ≠ p.block) (i : Nat) : (w.setCell p u).cell? ⟨g, i, none⟩ = w.cell? ⟨g, i, none⟩ := by
  have hg : w.grownBy (w.setCell p u) (some p.block) := ⟨rfl, rfl, rfl, by simp [World.setCell], fun k hk hne => Below.heap_setCell _ _ _ _ (by simpa using hne)⟩
  cases hc : w.cell? ⟨g, i, none⟩ with
  | some x => exact hg.cell hc (by simpa using h)
  | none => simp only [World.cell?] at hc ⊢; rw [Below.heap_setCell _ _ _ _ h]; exact hc
theorem IntsAt.far {w : World} {v : Value} {zs : List Int} {p : Addr} (h : IntsAt w v zs) (hne : v.ownBlock ≠ some p.block) (u : Value) : IntsAt (w.setCell p u) v zs := by
  obtain ⟨ao, cap, rfl, hc, h⟩ := h
  refine ⟨ao, cap, rfl, hc, fun h0 => ?_⟩
  obtain ⟨g, rfl, hg, hc⟩ := h h0
  have hne : g ≠ p.block := fun e => hne (by simp [Value.ownBlock, e])
  exact ⟨g, rfl, by simpa [World.setCell] using hg, fun i u' hu => (grown_cell_far w p u hne i).trans (hc i u' hu)⟩
theorem results_row2_tmp {P : Program} {fn : Func} {p q u : Tmp} {ty : TypeId} (h : fn.results = #[.cell p ty, .cell q ty, .tmp u]) (tmps : Array Value) (w : World) (g g' : Nat) (t t' : TypeId) (cs cs' : Array Value) (fr fr' : Nat × Nat) (d : TypeDesc)
    (hp : tmps.getD p undef = .pointer (some ⟨g, 0, none⟩)) (hq : tmps.getD q undef = .pointer (some ⟨g', 0, none⟩)) (hg : w.heap[g]? = some (.cells cs t fr)) (hg' : w.heap[g']? = some (.cells cs' t' fr'))
    (hu : P.underlying ty = some d) (hd : (match d with | .struct _ | .array _ _ => true | _ => false) = true) (hi : (P.info? ty).map (·.size) = some cs.size) (hi' : (P.info? ty).map (·.size) = some cs'.size) :
    (results fn tmps).run P w = .ok (.tuple #[.agg cs, .agg cs', tmps.getD u undef]) w := by
  have hp' : tmps[p]?.getD undef = .pointer (some ⟨g, 0, none⟩) := by simpa using hp
  have hq' : tmps[q]?.getD undef = .pointer (some ⟨g', 0, none⟩) := by simpa using hq
  simp [results, h, hp', hq', asAddr, run_loadVar_row w g t ty cs fr d hg hu hd hi, run_loadVar_row w g' t' ty cs' fr' d hg' hu hd hi']
/-- two rows that are being filled: their slices stand in the blocks A + 1 and A + 1 + 1 -/
structure PartSt (w : World) (A : Nat) (lv mv : Value) (ls ms : List Int) : Prop where
  b1 : Blk w (A + 1) 101 #[lv]
  b2 : Blk w (A + 1 + 1) 101 #[mv]
  o1 : w.ownsRow (A + 3) 2 1 lv ls.length (ls.map (Value.int .i64))
  o2 : w.ownsRow (A + 3) 2 1 mv ms.length (ms.map (Value.int .i64))
  apart : ∀ k, lv.ownBlock = some k → mv.ownBlock ≠ some k
theorem own_slice {w : World} {base : Nat} {e : TypeId} {v : Value} {n : Nat} {xs : List Value} (h : w.ownsRow base e 1 v n xs) : ∃ ao cap, v = .slice ao n cap := by
  rcases h.2 with ⟨rfl, rfl⟩ | ⟨g, cap, cur, h1, _⟩
  · exact ⟨none, 0, rfl⟩
  · exact ⟨_, _, h1⟩
theorem PartSt.kept {w w' : World} {A : Nat} {lv mv : Value} {ls ms : List Int} (h : PartSt w A lv mv ls ms) (hb : Below w.heap.size w w') : PartSt w' A lv mv ls ms := by
  have hg : w.grownBy w' none := ⟨hb.os, hb.tape, hb.output, hb.size, fun k hk _ => hb.block k hk⟩
  exact ⟨h.b1.kept hb, h.b2.kept hb, h.o1.kept hg (by cases lv.ownBlock <;> simp), h.o2.kept hg (by cases mv.ownBlock <;> simp), h.apart⟩
theorem PartSt.drewN {w : World} {A : Nat} {lv mv : Value} {ls ms : List Int} (h : PartSt w A lv mv ls ms) (n : Nat) : PartSt (w.drewN n) A lv mv ls ms := h.kept (below_drewN (Below.refl _ _) n)
theorem PartSt.pushL {w w3 : World} {A : Nat} {lv mv v' : Value} {ls ms : List Int} {x : Int} (h : PartSt w A lv mv ls ms) (hg : w.grownBy w3 lv.ownBlock)
    (hown : w3.ownsRow (A + 3) 2 1 v' (ls.length + 1) (ls.map (Value.int .i64) ++ [.int .i64 x])) (hat : v'.ownBlock = lv.ownBlock ∨ v'.ownBlock = some w.heap.size) :
    PartSt (w3.setCell ⟨A + 1, 0, none⟩ v') A v' mv (ls ++ [x]) ms := by
  have hlo : ∀ k, lv.ownBlock = some k → A + 3 ≤ k := fun k hk => (h.o1.lt k hk).1
  have hlo' : ∀ k, v'.ownBlock = some k → A + 3 ≤ k := fun k hk => (hown.lt k hk).1
  have hmo : ∀ k, mv.ownBlock = some k → A + 3 ≤ k ∧ k < w.heap.size := fun k hk => h.o2.lt k hk
  have hgs := grown_set w3 (A + 1) 0 v'
  have b1 := h.b1.grown hg (fun e => by have := hlo _ e.symm; omega)
  have b2 := h.b2.grown hg (fun e => by have := hlo _ e.symm; omega)
  have o2 := h.o2.kept hg (by
    cases hm : mv.ownBlock with
    | none => exact .inl rfl
    | some k => exact .inr (fun e => h.apart k e.symm hm))
  refine ⟨by simpa using b1.set_ 0 v', b2.far (by simp) _, ?_, ?_, fun k hk hm => ?_⟩
  · have := hown.kept hgs (.inr (fun e => by have := hlo' _ e; omega))
    simpa using this
  · exact o2.kept hgs (by
      cases hm : mv.ownBlock with
      | none => exact .inl rfl
      | some k => exact .inr (fun e => by have := (hmo k hm).1; have := Option.some.inj e; omega))
  · rcases hat with e | e
    · exact h.apart k (e.symm.trans hk) hm
    · have := (hmo k hm).2
      have := Option.some.inj (e.symm.trans hk)
      omega
theorem PartSt.pushM {w w3 : World} {A : Nat} {lv mv v' : Value} {ls ms : List Int} {x : Int} (h : PartSt w A lv mv ls ms) (hg : w.grownBy w3 mv.ownBlock)
    (hown : w3.ownsRow (A + 3) 2 1 v' (ms.length + 1) (ms.map (Value.int .i64) ++ [.int .i64 x])) (hat : v'.ownBlock = mv.ownBlock ∨ v'.ownBlock = some w.heap.size) :
    PartSt (w3.setCell ⟨A + 1 + 1, 0, none⟩ v') A lv v' ls (ms ++ [x]) := by
  have hlo : ∀ k, mv.ownBlock = some k → A + 3 ≤ k := fun k hk => (h.o2.lt k hk).1
  have hlo' : ∀ k, v'.ownBlock = some k → A + 3 ≤ k := fun k hk => (hown.lt k hk).1
  have hmo : ∀ k, lv.ownBlock = some k → A + 3 ≤ k ∧ k < w.heap.size := fun k hk => h.o1.lt k hk
  have hgs := grown_set w3 (A + 1 + 1) 0 v'
  have b1 := h.b1.grown hg (fun e => by have := hlo _ e.symm; omega)
  have b2 := h.b2.grown hg (fun e => by have := hlo _ e.symm; omega)
  have o1 := h.o1.kept hg (by
    cases hm : lv.ownBlock with
    | none => exact .inl rfl
    | some k => exact .inr (fun e => h.apart k hm e.symm))
  refine ⟨b1.far (by simp) _, by simpa using b2.set_ 0 v', ?_, ?_, fun k hk hm => ?_⟩
  · exact o1.kept hgs (by
      cases hm : lv.ownBlock with
      | none => exact .inl rfl
      | some k => exact .inr (fun e => by have := (hmo k hm).1; have := Option.some.inj e; omega))
  · have := hown.kept hgs (.inr (fun e => by have := hlo' _ e; omega))
    simpa using this
  · rcases hat with e | e
    · exact h.apart k hk (e.symm.trans hm)
    · have := (hmo k hk).2
      have := Option.some.inj (e.symm.trans hm)
      omega

def PartPost (w : World) (zs : List Int) (by_ : Int) (e : Ending) (w' : World) : Prop :=
  ∃ lv mv, e = .returned (.tuple #[.agg #[lv], .agg #[mv], .int .i64 (cEq zs by_ : Int)]) ∧ IntsAt w' lv (lessL zs by_) ∧ IntsAt w' mv (moreL zs by_) ∧ (∀ k, lv.ownBlock = some k ∨ mv.ownBlock = some k → w.heap.size ≤ k) ∧ Below w.heap.size w w'

theorem take_less (zs : List Int) (b : Int) (j : Nat) (x : Int) (h : zs[j]? = some x) : lessL (zs.take (j + 1)) b = lessL (zs.take j) b ++ (if x < b then [x] else []) ∧ moreL (zs.take (j + 1)) b = moreL (zs.take j) b ++ (if b < x then [x] else []) ∧ cEq (zs.take (j + 1)) b = cEq (zs.take j) b + (if x = b then 1 else 0) := by
  rw [List.take_add_one, h]
  refine ⟨?_, ?_, ?_⟩
  · simp only [lessL, List.filter_append, Option.toList_some, List.filter_cons, List.filter_nil, decide_eq_true_eq]
  · simp only [moreL, List.filter_append, Option.toList_some, List.filter_cons, List.filter_nil, decide_eq_true_eq]
  · simp only [cEq, List.filter_append, Option.toList_some, List.filter_cons, List.filter_nil, List.length_append, decide_eq_true_eq]; split <;> simp

set_option maxRecDepth 100000 in
set_option maxHeartbeats 4000000 in
theorem part_any (v : Value) (zs : List Int) (b : Int) (w : World) (hv : IntsAt w v zs) (hn : zs.length ≤ 100000) :
    Calls Try.prog 65 #[.agg #[v], .int .i64 b] w (PartPost w zs b) := by
  obtain ⟨i0', hi, hz0, hz1, hz2⟩ := info_parts Try.info64
  have HV := Lib.hid hv
  obtain ⟨ao, cap, rfl, hcap, hcells⟩ := hv
  have HCL := Lib.hid hcells
  clear hcells
  obtain ⟨n, hlen⟩ : ∃ n, n = zs.length := ⟨_, rfl⟩
  rw [← hlen] at hcap hn ⊢
  have HLEN := Lib.hid hlen
  clear hlen
  go_enter Try.func65, Try.ntmps65
  go_wp2_with fail
  obtain ⟨g1, g2, g3, hbel, hsz⟩ := news3 w (.cells #[.slice ao n cap] 101) (.cells #[.slice none 0 0] 101) (.cells #[.slice none 0 0] 101)
  have hst : PartSt (((w.alloc (.cells #[.slice ao n cap] 101)).alloc (.cells #[.slice none 0 0] 101)).alloc (.cells #[.slice none 0 0] 101)) w.heap.size (.slice none 0 0) (.slice none 0 0) [] [] :=
    ⟨g2, g3, World.ownsRow_nil _ _ _ _, World.ownsRow_nil _ _ _ _, fun k hk => by simp [Value.ownBlock] at hk⟩
  generalize (((w.alloc (.cells #[.slice ao n cap] 101)).alloc (.cells #[.slice none 0 0] 101)).alloc (.cells #[.slice none 0 0] 101)) = wz at *
  have hszA : w.heap.size + 3 ≤ wz.heap.size := by omega
  clear g1 g2 g3 hsz
  generalize hA : w.heap.size = A at *
  have HA := Lib.hid hA
  have HS := Lib.hid hst
  have HB := Lib.hid hbel
  clear hA hst hbel
  go_loopw [6, 14] (fun s i wr => ∃ (j : Nat) (lv mv : Value), j ≤ n ∧ i = .int .i64 (j : Int) ∧ s = .int .i64 (cEq (zs.take j) b : Int) ∧ PartSt wr A lv mv (lessL (zs.take j) b) (moreL (zs.take j) b) ∧ Below A w wr ∧ A + 3 ≤ wr.heap.size) (fun _ i _ => n - (intOf i).toNat)
  case atStart => exact ⟨0, _, _, by omega, rfl, rfl, HS.out, HB.out, hszA⟩
  case round =>
    obtain ⟨j, lv, mv, hj, rfl, rfl, hst, hbel, hszA⟩ := hrel
    clear HS HB
    have HS := Lib.hid hst
    have HB := Lib.hid hbel
    clear hst hbel
    have hcq : cEq (zs.take j) b ≤ j := by
      have h1 := parts_len (zs.take j) b
      have h2 : (zs.take j).length ≤ j := by rw [List.length_take]; omega
      omega
    by_cases hlt : j < n
    · obtain ⟨g, rfl, hgl, hgc⟩ := HCL.out (by rw [← HLEN.out]; omega)
      have hjz : zs[j]? = some (cellD zs j) := by
        have : j < zs.length := by rw [← HLEN.out]; exact hlt
        simp [cellD, this]
      have cx := (HB.out.cell (p := ⟨g, j, none⟩) hgl).trans (hgc j _ hjz)
      obtain ⟨t1, t2, t3⟩ := take_less zs b j _ hjz
      have T1 := Lib.hid t1
      have T2 := Lib.hid t2
      have T3 := Lib.hid t3
      clear t1 t2 t3 hgc hjz
      have LL : Hid ((lessL (zs.take j) b).length ≤ j ∧ (moreL (zs.take j) b).length ≤ j) := Lib.hid (by
        have h1 := parts_len (zs.take j) b
        have h2 : (zs.take j).length ≤ j := by rw [List.length_take]; omega
        omega)
      generalize lessL (zs.take j) b = L at *
      generalize moreL (zs.take j) b = M at *
      generalize cEq (zs.take j) b = q at *
      generalize cellD zs j = x at *
      have i0 : (0 : Int) ≤ (j : Int) := by omega
      have i1 : (j : Int) < (n : Int) := by omega
      rcases Int.lt_trichotomy x b with hxb | hxb | hxb
      · have e1 : decide (x < b) = true := decide_eq_true hxb
        have e2 : ¬ b < x := by omega
        have e3 : ¬ x = b := by omega
        have HL1 : Hid (lessL (zs.take (j + 1)) b = L ++ [x] ∧ moreL (zs.take (j + 1)) b = M ∧ cEq (zs.take (j + 1)) b = q) := ⟨by rw [T1.out]; simp [hxb], by rw [T2.out]; simp [e2], by rw [T3.out]; simp [e3]⟩
        have l1 := HS.out.b1.cell 0
        simp at l1
        clear hxb e2 e3
        have hLl := LL.out
        have hmx : L.length + 1 ≤ maxLen := by unfold maxLen; omega
        go_wp2_with (at_builtin; refine wpList_append_own_at _ rfl _ _ 39 rfl (A + 3) 2 i0' (.int .i64 0) 1 8 Try.underlying39 hi hz0 hz1 hz2 rfl (by decide) _ L.length _ rfl (HS.out.o1.alloc _) ⟨wr.heap.size, 0, none⟩ 1 1 [.int .i64 x] rfl rfl (cell_one_new _ _ _) ?c2 hmx ?c4 ?c5 ?_)
        case c2 => simp [Value.oneCell']
        case c4 => omega
        case c5 => simp; omega
        intro v' w3 hown' hgrow hnil' hq9
        obtain ⟨ao', cap', rfl⟩ := own_slice hown'
        have hst3 := PartSt.pushL (HS.out.kept ((Below.refl _ _).alloc (Nat.le_refl _) (.cells #[.int .i64 x] 2))) hgrow hown' (by simpa using hq9)
        have hvk : ∀ k, Value.ownBlock lv = some k → A + 3 ≤ k := fun k hk => (HS.out.o1.lt k hk).1
        have HS3 := Lib.hid hst3
        have HB3 : Hid (Below A w w3) := Lib.hid ((HB.out.alloc (by omega) _).grown hgrow (by first | omega | (simp; done) | (simp; omega)) (fun k e => by have := hvk k e; omega))
        have hbk := (HS.out.b1.alloc (.cells #[.int .i64 x] 2)).grown hgrow (fun e => by have := hvk _ e.symm; omega)
        have hc3 := hbk.cell 0
        have hf3 := hbk.frozen 0
        simp at hc3
        have hsz3 : A + 3 ≤ w3.heap.size := by have := hgrow.size; simp at this; omega
        clear hown' hgrow hnil' hq9 hst3 hvk hbk
        go_wp2
        go_roundw
        case rel => exact ⟨j + 1, _, _, by omega, by go_num, by rw [HL1.out.2.2], by rw [HL1.out.1, HL1.out.2.1]; exact HS3.out, HB3.out.setCell (by first | (simp; done) | (simp; omega)) _, by simp [World.setCell]; omega⟩
        case measure => simp [intOf]; omega
      · have e1 : decide (b < x) = false := decide_eq_false (by omega)
        have e0 : decide (x < b) = false := decide_eq_false (by omega)
        have e2 : ¬ x < b := by omega
        have e3 : ¬ b < x := by omega
        have HL1 : Hid (lessL (zs.take (j + 1)) b = L ∧ moreL (zs.take (j + 1)) b = M ∧ cEq (zs.take (j + 1)) b = q + 1) := ⟨by rw [T1.out]; simp [e2], by rw [T2.out]; simp [e3], by rw [T3.out]; simp [hxb]⟩
        clear hxb e2 e3
        go_wp2
        go_roundw
        case rel => exact ⟨j + 1, _, _, by omega, by go_num, by rw [HL1.out.2.2]; go_num, by rw [HL1.out.1, HL1.out.2.1]; exact HS.out, HB.out, hszA⟩
        case measure => simp [intOf]; omega
      · have e1 : decide (b < x) = true := decide_eq_true hxb
        have e0 : decide (x < b) = false := decide_eq_false (by omega)
        have e2 : ¬ x < b := by omega
        have e3 : ¬ x = b := by omega
        have HL1 : Hid (lessL (zs.take (j + 1)) b = L ∧ moreL (zs.take (j + 1)) b = M ++ [x] ∧ cEq (zs.take (j + 1)) b = q) := ⟨by rw [T1.out]; simp [e2], by rw [T2.out]; simp [hxb], by rw [T3.out]; simp [e3]⟩
        have l1 := HS.out.b2.cell 0
        simp at l1
        clear hxb e2 e3
        have hLl := LL.out
        have hmx : M.length + 1 ≤ maxLen := by unfold maxLen; omega
        go_wp2_with (at_builtin; refine wpList_append_own_at _ rfl _ _ 39 rfl (A + 3) 2 i0' (.int .i64 0) 1 8 Try.underlying39 hi hz0 hz1 hz2 rfl (by decide) _ M.length _ rfl (HS.out.o2.alloc _) ⟨wr.heap.size, 0, none⟩ 1 1 [.int .i64 x] rfl rfl (cell_one_new _ _ _) ?c2 hmx ?c4 ?c5 ?_)
        case c2 => simp [Value.oneCell']
        case c4 => omega
        case c5 => simp; omega
        intro v' w3 hown' hgrow hnil' hq9
        obtain ⟨ao', cap', rfl⟩ := own_slice hown'
        have hst3 := PartSt.pushM (HS.out.kept ((Below.refl _ _).alloc (Nat.le_refl _) (.cells #[.int .i64 x] 2))) hgrow hown' (by simpa using hq9)
        have hvk : ∀ k, Value.ownBlock mv = some k → A + 3 ≤ k := fun k hk => (HS.out.o2.lt k hk).1
        have HS3 := Lib.hid hst3
        have HB3 : Hid (Below A w w3) := Lib.hid ((HB.out.alloc (by omega) _).grown hgrow (by first | omega | (simp; done) | (simp; omega)) (fun k e => by have := hvk k e; omega))
        have hbk := (HS.out.b2.alloc (.cells #[.int .i64 x] 2)).grown hgrow (fun e => by have := hvk _ e.symm; omega)
        have hc3 := hbk.cell 0
        have hf3 := hbk.frozen 0
        simp at hc3
        have hsz3 : A + 3 ≤ w3.heap.size := by have := hgrow.size; simp at this; omega
        clear hown' hgrow hnil' hq9 hst3 hvk hbk
        go_wp2
        go_roundw
        case rel => exact ⟨j + 1, _, _, by omega, by go_num, by rw [HL1.out.2.2], by rw [HL1.out.1, HL1.out.2.1]; exact HS3.out, HB3.out.setCell (by first | (simp; done) | (simp; omega)) _, by simp [World.setCell]; omega⟩
        case measure => simp [intOf]; omega
    · obtain rfl : j = n := by omega
      have HE : Hid (zs.take j = zs) := Lib.hid (by rw [HLEN.out, List.take_length])
      rw [HE.out] at HS hcq ⊢
      obtain ⟨ao1, cap1, rfl⟩ := own_slice HS.out.o1
      obtain ⟨ao2, cap2, rfl⟩ := own_slice HS.out.o2
      have HO1 : Hid (IntsAt wr (.slice ao1 (lessL zs b).length cap1) (lessL zs b)) := Lib.hid (IntsAt.of_own HS.out.o1 rfl)
      have HO2 : Hid (IntsAt wr (.slice ao2 (moreL zs b).length cap2) (moreL zs b)) := Lib.hid (IntsAt.of_own HS.out.o2 rfl)
      have HFR : Hid (∀ k, Value.ownBlock (.slice ao1 (lessL zs b).length cap1) = some k ∨ Value.ownBlock (.slice ao2 (moreL zs b).length cap2) = some k → A ≤ k) := Lib.hid (fun k hk => by rcases hk with hk | hk; exact Nat.le_trans (by omega) (HS.out.o1.lt k hk).1; exact Nat.le_trans (by omega) (HS.out.o2.lt k hk).1)
      have HB1 : Hid (Blk (wr.drewN 1) (A + 1) 101 #[.slice ao1 (lessL zs b).length cap1]) := Lib.hid (HS.out.b1.drewN 1)
      have HB2 : Hid (Blk (wr.drewN 1) (A + 1 + 1) 101 #[.slice ao2 (moreL zs b).length cap2]) := Lib.hid (HS.out.b2.drewN 1)
      generalize (lessL zs b).length = nl at *
      generalize (moreL zs b).length = nm at *
      go_wp2_with fail
      refine wp_region_held_drew (S := fun w' => Blk w' (A + 1) 101 #[.slice ao1 nl cap1] ∧ Blk w' (A + 1 + 1) 101 #[.slice ao2 nm cap2]) (by kernel_rfl) (by exact ⟨HB1.out, HB2.out⟩) (fun hHeld => ?_)
      refine wpAnyH_take (i := 0) (v := ?_) rfl (by kernel_rfl) (by kernel_rfl) (by kernel_rfl) (fun _ _ _ h => h) (Or.inl ⟨by rfl, ?_⟩) (by assumption) ?_
      rotate_left
      · intro w hSw
        first | refine (exec_load_row 101 _ rfl (A + 1) rfl 101 #[.slice ao1 nl cap1] (0, 0) _ hSw.1 Try.underlying101 rfl (by kernel_rfl)).trans ?_ | refine (exec_load_row 101 _ rfl (A + 1 + 1) rfl 101 #[.slice ao2 nm cap2] (0, 0) _ hSw.2 Try.underlying101 rfl (by kernel_rfl)).trans ?_
        go_simp
        try with_reducible rfl
      simp only [Act.put, List.setIfInBounds_toArray, List.set_cons_zero, List.set_cons_succ, List.getElem_toArray, List.getElem_cons_zero, List.getElem_cons_succ]
      refine wpAnyH_take (i := 1) (v := ?_) rfl (by kernel_rfl) (by kernel_rfl) (by kernel_rfl) (fun _ _ _ h => h) (Or.inl ⟨by rfl, ?_⟩) (by assumption) ?_
      rotate_left
      · intro w hSw
        first | refine (exec_load_row 101 _ rfl (A + 1) rfl 101 #[.slice ao1 nl cap1] (0, 0) _ hSw.1 Try.underlying101 rfl (by kernel_rfl)).trans ?_ | refine (exec_load_row 101 _ rfl (A + 1 + 1) rfl 101 #[.slice ao2 nm cap2] (0, 0) _ hSw.2 Try.underlying101 rfl (by kernel_rfl)).trans ?_
        go_simp
        try with_reducible rfl
      simp only [Act.put, List.setIfInBounds_toArray, List.set_cons_zero, List.set_cons_succ, List.getElem_toArray, List.getElem_cons_zero, List.getElem_cons_succ]
      refine wpAnyH_take (i := 2) (v := ?_) rfl (by kernel_rfl) (by kernel_rfl) (by kernel_rfl) (fun _ _ _ h => h) (Or.inl ⟨by rfl, ?_⟩) (by assumption) ?_
      rotate_left
      · intro w hSw
        try dsimp only at hSw
        go_simp
        try with_reducible rfl
      simp only [Act.put, List.setIfInBounds_toArray, List.set_cons_zero, List.set_cons_succ, List.getElem_toArray, List.getElem_cons_zero, List.getElem_cons_succ]
      refine wpAnyH_ready (rs := [3]) (by kernel_rfl) (by simp) ?_
      refine AllReadyH.cons rfl (fun Kc hKc => ?_) AllReadyH.nil
      first | (refine wp_store_row 101 _ _ rfl (A + 1) #[.slice ao1 nl cap1] rfl rfl 101 _ hHeld.1 (by kernel_rfl) rfl (by simp [Value.oneCell']) ?_; rw [Blk.setRow_same hHeld.1]) | (refine wp_store_row 101 _ _ rfl (A + 1 + 1) #[.slice ao2 nm cap2] rfl rfl 101 _ hHeld.2 (by kernel_rfl) rfl (by simp [Value.oneCell']) ?_; rw [Blk.setRow_same hHeld.2])
      refine hKc.out _ _ ?_ (fun hHeld => ?_)
      · first | assumption | (rw [Blk.setRow_same hHeld.1]; exact hHeld) | (rw [Blk.setRow_same hHeld.2]; exact hHeld)
      clear hKc Kc
      refine wpAnyH_ready (rs := [4]) (by kernel_rfl) (by simp) ?_
      refine AllReadyH.cons rfl (fun Kc hKc => ?_) AllReadyH.nil
      first | (refine wp_store_row 101 _ _ rfl (A + 1) #[.slice ao1 nl cap1] rfl rfl 101 _ hHeld.1 (by kernel_rfl) rfl (by simp [Value.oneCell']) ?_; rw [Blk.setRow_same hHeld.1]) | (refine wp_store_row 101 _ _ rfl (A + 1 + 1) #[.slice ao2 nm cap2] rfl rfl 101 _ hHeld.2 (by kernel_rfl) rfl (by simp [Value.oneCell']) ?_; rw [Blk.setRow_same hHeld.2])
      refine hKc.out _ _ ?_ (fun hHeld => ?_)
      · first | assumption | (rw [Blk.setRow_same hHeld.1]; exact hHeld) | (rw [Blk.setRow_same hHeld.2]; exact hHeld)
      clear hKc Kc
      refine wpAnyH_take (i := 5) (v := ?_) rfl (by kernel_rfl) (by kernel_rfl) (by kernel_rfl) (fun _ _ _ h => h) (Or.inl ⟨by rfl, ?_⟩) (by assumption) ?_
      rotate_left
      · intro w hSw
        try dsimp only at hSw
        go_simp
        try with_reducible rfl
      simp only [Act.put, List.setIfInBounds_toArray, List.set_cons_zero, List.set_cons_succ, List.getElem_toArray, List.getElem_cons_zero, List.getElem_cons_succ]
      refine wpAnyH_done (by kernel_rfl) ?_ _
      clear hHeld
      have HB9 := Lib.hid (below_drewN HB.out 1)
      have HQ : Hid (PartPost w zs b (.returned (.tuple #[.agg #[.slice ao1 nl cap1], .agg #[.slice ao2 nm cap2], .int .i64 (cEq zs b : Int)])) (wr.drewN 1)) := ⟨_, _, rfl, HO1.out.drewN 1, HO2.out.drewN 1, by rw [HA.out]; exact HFR.out, by rw [HA.out]; exact HB9.out⟩
      go_wp2_with fail
      refine bodyPost_ret (results_row2_tmp rfl _ _ (A + 1) (A + 1 + 1) 101 101 _ _ (0, 0) (0, 0) _ rfl rfl HB1.out HB2.out Try.underlying101 rfl (by kernel_rfl) (by kernel_rfl)) rfl ?_
      exact HQ.out
end Go.Proofs.Ytcinlcbmjboaaaa
