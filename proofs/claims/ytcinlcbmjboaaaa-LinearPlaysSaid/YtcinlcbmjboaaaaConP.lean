/-
  The walk of ConservePlays: it returns true. Conditions: the arguments are of their types.
-/
import Derived.Test.YtcinlcbmjboaaaaRfC
import Derived.Test.YtcinlcbmjboaaaaConS
namespace Go.Proofs.Ytcinlcbmjboaaaa
open Go.RowKit
set_option linter.unusedVariables false
set_option linter.unusedSimpArgs false

/-- what a raise answers, and what the cells are behind it -/
def RSpec (R W : Nat) (zs cs : List Int) (d : Int) (err : Int) (zs' : List Int) : Prop :=
  (meetB R W cs = false ∧ err = 1 ∧ zs' = zs) ∨ (meetB R W cs = true ∧ ∃ u, IsKth (readZ W zs cs) 0 u ∧ ((d < 0 ∧ err = 3 ∧ zs' = zs) ∨ (0 ≤ d ∧ ¬ In64 (u + d) ∧ err = 4 ∧ zs' = zs) ∨ (0 ≤ d ∧ In64 (u + d) ∧ err = 0 ∧ zs' = raiseZ W zs cs (u + d))))
theorem RSpec.unique {R W : Nat} {zs cs : List Int} {d e1 e2 : Int} {z1 z2 : List Int} (h1 : RSpec R W zs cs d e1 z1) (h2 : RSpec R W zs cs d e2 z2) : e2 = e1 ∧ z2 = z1 := by
  rcases h1 with ⟨m1, rfl, rfl⟩ | ⟨m1, u1, k1, h1⟩
  · rcases h2 with ⟨m2, rfl, rfl⟩ | ⟨m2, u2, k2, h2⟩
    · exact ⟨rfl, rfl⟩
    · rw [m1] at m2; cases m2
  · rcases h2 with ⟨m2, rfl, rfl⟩ | ⟨m2, u2, k2, h2⟩
    · rw [m1] at m2; cases m2
    · obtain rfl := k1.unique k2
      rcases h1 with ⟨a1, rfl, rfl⟩ | ⟨a1, b1, rfl, rfl⟩ | ⟨a1, b1, rfl, rfl⟩ <;> rcases h2 with ⟨a2, rfl, rfl⟩ | ⟨a2, b2, rfl, rfl⟩ | ⟨a2, b2, rfl, rfl⟩ <;> first | exact ⟨rfl, rfl⟩ | (exfalso; omega) | exact absurd b1 b2 | exact absurd b2 b1
theorem raise_no (w : World) (G C R W : Nat) (zs cs : List Int) (d : Int) (v : Value) (h : GridIs w G C R W zs) (hv : IntsAt w v cs) (hl : cs.length ≤ 100000) (hm : meetB R W cs = false) :
    Calls Try.prog 36 #[.pointer (some ⟨G, 0, none⟩), v, .int .i64 d] w fun e w' => e = .returned (.int .i64 1) ∧ Below w.heap.size w w' := by
  have HK := Lib.hid (box_kept (w := w) (cs := #[.pointer (some ⟨G, 0, none⟩)]) (t := 28) (Below.refl _ _))
  have P1 := Lib.hid (least_no _ G C R W zs cs v (h.kept HK.out.2) (hv.kept HK.out.2) hl hm)
  obtain ⟨ao, cap, rfl, hcap, hcells⟩ := hv
  clear hcells h hcap hl
  generalize cs.length = n at *
  have q0 := HK.out.1.cell 0
  simp at q0
  go_enter Try.func36, Try.ntmps36
  go_wp2_with fail
  with_reducible refine P1.out.mono ?_
  rintro e w2 ⟨rfl, hb⟩
  have HB := Lib.hid (HK.out.2.trans (hb.mono HK.out.2.size))
  clear hb
  go_wp2
  go_ret
  exact ⟨rfl, HB.out⟩
theorem raise_all (w : World) (G C R W : Nat) (zs cs : List Int) (d : Int) (v : Value) (h : GridIs w G C R W zs) (hv : RowI w v cs) (hl : cs.length ≤ 100000) (hd : In64 d) :
    Calls Try.prog 36 #[.pointer (some ⟨G, 0, none⟩), v, .int .i64 d] w fun e w' => ∃ err zs', e = .returned (.int .i64 err) ∧ RSpec R W zs cs d err zs' ∧ GridIs w' G C R W zs' ∧ w.grownBy w' (some C) := by
  cases hm : meetB R W cs with
  | false =>
    refine (raise_no w G C R W zs cs d v h hv.ints hl hm).mono ?_
    rintro e w' ⟨rfl, hb⟩
    exact ⟨1, zs, rfl, .inl ⟨hm, rfl, rfl⟩, h.kept hb, below_grown hb⟩
  | true =>
    obtain ⟨curC, hC, -⟩ := h.cells
    refine (raise_yes w G C R W zs cs d v h hv.ints hm hd (hv.neC hC (by decide))).mono ?_
    rintro e w' ⟨u, hu, (⟨h1, rfl, hb⟩ | ⟨h1, h2, rfl, hb⟩ | ⟨h1, h2, rfl, hg, hgr⟩)⟩
    · exact ⟨3, zs, rfl, .inr ⟨hm, u, hu, .inl ⟨h1, rfl, rfl⟩⟩, h.kept hb, below_grown hb⟩
    · exact ⟨4, zs, rfl, .inr ⟨hm, u, hu, .inr (.inl ⟨h1, h2, rfl, rfl⟩)⟩, h.kept hb, below_grown hb⟩
    · exact ⟨0, _, rfl, .inr ⟨hm, u, hu, .inr (.inr ⟨h1, h2, rfl, rfl⟩)⟩, hg, hgr⟩
theorem rraise_all (w : World) (N G : Nat) (v : Value) (B K : Nat → Nat) (R W : Nat) (zs cs : List Int) (d : Int) (vc : Value) (h : RefIs w N G v B K R W zs) (hv : RowI w vc cs) (hl : cs.length ≤ 100000) (hd : In64 d) (hfit : Fit zs) :
    Calls Try.prog 37 #[.pointer (some ⟨G, 0, none⟩), vc, .int .i64 d] w fun e w' => ∃ err zs', e = .returned (.int .i64 err) ∧ RSpec R W zs cs d err zs' ∧ RefIs w' N G v B K R W zs' ∧ Below N w w' := by
  have hNG : N ≤ w.heap.size := by have := h.lo.1; have := h.ltG; omega
  cases hm : meetB R W cs with
  | false =>
    refine (rraise_no w N G v B K R W zs cs d vc h hv.ints hl hm).mono ?_
    rintro e w' ⟨rfl, hb⟩
    exact ⟨1, zs, rfl, .inl ⟨hm, rfl, rfl⟩, h.kept hb, hb.mono hNG⟩
  | true =>
    refine (rraise_yes w N G v B K R W zs cs d vc h hv hm hd hfit).mono ?_
    rintro e w' ⟨u, hu, (⟨h1, rfl, hb⟩ | ⟨h1, h2, rfl, hb⟩ | ⟨h1, h2, rfl, hg, hgr⟩)⟩
    · exact ⟨3, zs, rfl, .inr ⟨hm, u, hu, .inl ⟨h1, rfl, rfl⟩⟩, h.kept hb, hb.mono hNG⟩
    · exact ⟨4, zs, rfl, .inr ⟨hm, u, hu, .inr (.inl ⟨h1, h2, rfl, rfl⟩)⟩, h.kept hb, hb.mono hNG⟩
    · exact ⟨0, _, rfl, .inr ⟨hm, u, hu, .inr (.inr ⟨h1, h2, rfl, rfl⟩)⟩, hg, hgr.below h⟩

section
variable {P : Program}
theorem run_append_none (w : World) (t ty e : TypeId) (i : TypeInfo) (ht : P.underlying t = some (.slice e)) (hi : P.info? e = some i) (g cap : Nat) (ao : Option Addr) (c : Nat) :
    (Builtin.append_ #[t, t] ty #[.slice (some ⟨g, 0, none⟩) 0 cap, .slice ao 0 c]).run P w = .ok (.slice (some ⟨g, 0, none⟩) 0 cap) w := by
  cases ao <;> simp [Builtin.append_, run_underlying ht, sizeOf, typeInfo, hi, Builtin.lenOf, Builtin.firstCells, loadCells, loadCellsFrom, storeCells]
/-- 'append([]T{}, s...)' in a region that draws its order -/
theorem wp_append_lit {o : Oper} {w : World} {a : Act} {K : Act → World → Prop} {Q : Exit → Act → World → Prop} (s x : Operand) (t : TypeId)
    (ho : o.op = .call { callee := .builtin .append, args := #[s, x], argTypes := #[t, t] })
    (base : Nat) (e : TypeId) (i : TypeInfo) (z : Value) (bytes : Nat) (ht : P.underlying t = some (.slice e)) (hi : P.info? e = some i) (hz : i.zero = some z)
    (hsize : i.size = 1) (hby : i.bytes = bytes) (hzs : z.cells.size = 1)
    (g cap : Nat) (hs : a.eval s = .slice (some ⟨g, 0, none⟩) 0 cap) (hown : w.ownsRow base e 1 (.slice (some ⟨g, 0, none⟩) 0 cap) 0 [])
    (ao : Option Addr) (m c : Nat) (news : List Value) (hx : a.eval x = .slice ao m c) (hl : news.length = m) (hnews : 0 < m → ∃ ad, ao = some ad ∧ ∀ j u, news[j]? = some u → w.cell? (ad.add j) = some u) (h1 : ∀ u ∈ news, u.oneCell' = true)
    (h63 : m ≤ maxLen) (hbytes : m * bytes ≤ 140737488355328) (hbase : base ≤ w.heap.size)
    (h : ∀ v' w', w'.ownsRow base e 1 v' m news → w.grownBy w' (some g) → v' ≠ .slice none 0 0 → (v'.ownBlock = some g ∨ v'.ownBlock = some w.heap.size) → K (a.put o.dst v') w') :
    o.wp P a w K Q := by
  by_cases h0 : 0 < m
  · obtain ⟨ad, rfl, hc⟩ := hnews h0
    refine wp_append_own_at s x t ho base e i z 1 bytes ht hi hz hsize hby hzs (by decide) _ 0 [] hs hown ad m c news hx (by omega) hc h1 (by omega) (by rw [Nat.zero_add]; exact hbytes) hbase ?_
    intro v' w' h2 h3 h4 h5
    refine h v' w' (by simpa using h2) h3 ?_ h5
    intro hv
    have := (h4.1 hv).1
    cases this
  · obtain rfl : m = 0 := by omega
    obtain rfl : news = [] := List.eq_nil_of_length_eq_zero hl
    unfold Oper.wp execOp
    simp only [ho, resolve, invoke, builtin, Sem.run_bind, Sem.run_pure, Result.andThen_ok, List.map_toArray, List.map_cons, List.map_nil, hs, hx, run_append_none w t o.type e i ht hi g cap ao c]
    exact h _ w hown ⟨rfl, rfl, rfl, Nat.le_refl _, fun _ _ _ => rfl⟩ (by simp) (.inl rfl)
end
/-- the first q numbers of an argument's slice, laid into a row of its own -/
theorem cols_news {w w' : World} {ao : Option Addr} {cs ls : List Int} {n cap q : Nat} (h : ColsAt w (.slice ao n cap) cs) (hn : n = cs.length) (hq : q ≤ n) (hls : ls = cs.take q) (hb : Below w.heap.size w w') :
    0 < q → ∃ ad, ao = some ad ∧ ∀ j u, (ls.map (Value.int .i64))[j]? = some u → w'.cell? (ad.add j) = some u := by
  intro h0
  obtain ⟨ao', cap', e, -, -, hx⟩ := h
  simp only [Value.slice.injEq] at e
  obtain ⟨rfl, -, rfl⟩ := e
  obtain ⟨bb, off, rfl, hbb, hcc⟩ := hx (by omega)
  refine ⟨_, rfl, fun j u hu => ?_⟩
  rw [List.getElem?_map, hls, List.getElem?_take] at hu
  split at hu
  · cases hz : cs[j]? with
    | none => rw [hz] at hu; simp at hu
    | some z =>
      rw [hz] at hu
      simp at hu
      subst hu
      rw [addr_add, ← hcc j z hz]
      exact hb.cell (p := ⟨bb, off + j, none⟩) hbb
  · simp at hu

set_option maxRecDepth 100000 in
set_option maxHeartbeats 8000000 in
theorem ConservePlays_walk (v0 : Value) (w : World) (h0 : shPlay.Val w v0) :
    Calls Try.prog 9 #[v0] w fun e w' => e = .returned (.bool true) ∧ Below w.heap.size w w' := by
  obtain ⟨rI, cI, l, n, cs, ds, rfl, hl⟩ := val_play h0
  clear h0
  have HL := Lib.hid hl
  obtain ⟨ao, cap, rfl, hmx, hd64, hcells⟩ := hl
  have HCL := Lib.hid hcells
  have HD64 := Lib.hid hd64
  clear hcells hd64 HL
  have N1 := Lib.hid (new_any rI cI)
  have N2 := Lib.hid (rnew_any rI cI)
  generalize clampN rI 8 = R at *
  generalize clampN cI 128 = W at *
  have PS := Lib.hid shown09
  obtain ⟨g1, hb1, hsz1⟩ := news1 w (.cells #[.int .i64 rI, .int .i64 cI, .slice ao n cap] 63)
  have hx1 : Blk _ w.heap.size 63 #[.int .i64 rI, .int .i64 cI, .slice ao n cap] := g1
  have HX1 := Lib.hid hx1
  have HB1 := Lib.hid hb1
  clear g1 hx1 hb1 hsz1
  obtain ⟨m, hmm⟩ : ∃ m, m = min n 100 := ⟨_, rfl⟩
  have HM := Lib.hid hmm
  clear hmm
  obtain ⟨i0, hi, hz0, hz1, hz2⟩ := info_parts Try.infoI
  go_enter Try.func9, Try.ntmps9
  go_wp2_with fail
  with_reducible refine (PS.out _).mono ?_
  rintro e w2 ⟨rfl, hb⟩
  have HX2 := Lib.hid (HX1.out.kept hb)
  have HB2 := Lib.hid (btr HB1.out hb)
  have q0 := HX2.out.cell 0
  have q1 := HX2.out.cell 1
  simp at q0 q1
  clear hb
  go_wp2_with fail
  with_reducible refine (N1.out _).mono ?_
  rintro e w3 ⟨G, C, rfl, hG, hC, hg, hb⟩
  have HG3 := Lib.hid hg
  have HX3 := Lib.hid (HX2.out.kept hb)
  have HB3 := Lib.hid (btr HB2.out hb)
  have hsx := HX2.out.lt
  have HGC : Hid (w.heap.size < G ∧ w.heap.size < C ∧ G < w3.heap.size ∧ C < w3.heap.size ∧ w.heap.size < w3.heap.size) := by
    have h1 := hg.ltG
    have h2 := hg.ltC
    exact ⟨by omega, by omega, h1, h2, by omega⟩
  clear q0 q1 hsx hG hC hg hb
  have q0 := HX3.out.cell 0
  have q1 := HX3.out.cell 1
  simp at q0 q1
  go_wp2_with fail
  with_reducible refine (N2.out _).mono ?_
  rintro e w4 ⟨H, v, B, K, rfl, hr, hb⟩
  have HG4 := Lib.hid (HG3.out.kept hb)
  have HR4 := Lib.hid hr
  have HX4 := Lib.hid (HX3.out.kept hb)
  have HB4 := Lib.hid (btr HB3.out hb)
  clear q0 q1 hr hb
  generalize hN : w3.heap.size = N at *
  clear hN
  go_wp2_with fail
  go_loopw [6] (fun i wr => ∃ (j : Nat) (zs : List Int), j ≤ m ∧ i = .int .i64 (j : Int) ∧ GridIs wr G C R W zs ∧ RefIs wr N H v B K R W zs ∧ Blk wr w.heap.size 63 #[.int .i64 rI, .int .i64 cI, .slice ao n cap] ∧ Below w.heap.size w wr) (fun i _ => m - (intOf i).toNat)
  case atStart => exact ⟨0, _, by omega, rfl, HG4.out, HR4.out, HX4.out, HB4.out⟩
  case round =>
    obtain ⟨j, zs, hj, rfl, hg, hr, hx, hbel⟩ := hrel
    clear HG4 HR4 HX4 HB4
    have HG := Lib.hid hg
    have HR := Lib.hid hr
    have HX := Lib.hid hx
    have HB := Lib.hid hbel
    clear hg hr hbel
    have q2 := hx.cell 2
    simp at q2
    clear hx
    by_cases hlt : j < m
    · have hjn : j < n := by have := HM.out; omega
      have hj2 : j < 100 := by have := HM.out; omega
      obtain ⟨bb, off, rfl, hbb, hcc⟩ := HCL.out (by omega)
      obtain ⟨⟨vj, c1, c2⟩, c3⟩ := hcc j hjn
      have HC2 := Lib.hid c2
      obtain ⟨ao2, cap2, rfl, hcp2, hmx2, -⟩ := c2
      have HC1 := Lib.hid c1
      have HC3 := Lib.hid c3
      have HDJ := Lib.hid (HD64.out j hjn)
      obtain ⟨nj, hnj⟩ : ∃ nj, nj = (cs j).length := ⟨_, rfl⟩
      rw [← hnj] at HC1 HC2 hcp2
      obtain ⟨q, hq⟩ : ∃ q, q = min nj 20 := ⟨_, rfl⟩
      have hqn : q ≤ nj := by omega
      have hq2 : q ≤ 20 := by omega
      have emin : (if (20 : Int) < (nj : Int) then (20 : Int) else (nj : Int)) = (q : Int) := by split <;> omega
      have iq : (0 : Int) ≤ (q : Int) := by omega
      have iq2 : (q : Int) ≤ (cap2 : Int) := by omega
      obtain ⟨ls, hls⟩ : ∃ ls, ls = (cs j).take q := ⟨_, rfl⟩
      have HLQ : Hid (ls.length = q) := Lib.hid (by rw [hls, List.length_take]; omega)
      have HNEWS := Lib.hid (fun w' (hb : Below w.heap.size w w') => cols_news HC2.out hnj hqn hls hb)
      have i0' : (0 : Int) ≤ (j : Int) := by omega
      have i1 : (j : Int) < (n : Int) := by omega
      have i2 : (j : Int) < 100 := by omega
      have HBB := Lib.hid hbb
      generalize ds j = dj at *
      clear c1 c3 hcc hbb hnj hls hq hcp2 hmx2
      go_wp2_with fail
      have hown0 := World.ownsRow_lit (base := wr.heap.size) (e := 3) (size := 1) (wr.drewN 1) #[] 0 (by exact Nat.le_refl _) (by unfold maxLen; omega) (by simp)
      have HO := Lib.hid hown0
      clear hown0
      refine wp_region_held_drew (S := fun w' => Below w.heap.size w w' ∧ Blk w' w.heap.size 63 #[.int .i64 rI, .int .i64 cI, .slice (some ⟨bb, off, none⟩) n cap]) (by kernel_rfl) (by exact ⟨below_drewN HB.out 1, HX.out.drewN 1⟩) (fun hHeld => ?_)
      refine wpAnyH_take (i := 1) (v := ?_) rfl (by kernel_rfl) (by kernel_rfl) (by kernel_rfl) (fun _ _ _ h => h) (Or.inl ⟨by rfl, ?_⟩) (by assumption) ?_
      rotate_left
      · intro w hSw
        try dsimp only at hSw
        go_simp
        try with_reducible rfl
      simp only [Act.put, List.setIfInBounds_toArray, List.set_cons_zero, List.set_cons_succ, List.getElem_toArray, List.getElem_cons_zero, List.getElem_cons_succ]
      refine wpAnyH_take (i := 2) (v := ?_) rfl (by kernel_rfl) (by kernel_rfl) (by kernel_rfl) (fun _ _ _ h => h) (Or.inl ⟨by rfl, ?_⟩) (by assumption) ?_
      rotate_left
      · intro w hSw
        have q2 := hSw.2.cell 2
        simp at q2
        have p0 := (hSw.1.cell (p := ⟨bb, off + j * 2, none⟩) HBB.out).trans HC1.out
        go_simp
        try with_reducible rfl
      simp only [Act.put, List.setIfInBounds_toArray, List.set_cons_zero, List.set_cons_succ, List.getElem_toArray, List.getElem_cons_zero, List.getElem_cons_succ]
      refine wpAnyH_take (i := 3) (v := ?_) rfl (by kernel_rfl) (by kernel_rfl) (by kernel_rfl) (fun _ _ _ h => h) (Or.inl ⟨by rfl, ?_⟩) (by assumption) ?_
      rotate_left
      · intro w hSw
        try dsimp only at hSw
        go_simp
        try with_reducible rfl
      simp only [Act.put, List.setIfInBounds_toArray, List.set_cons_zero, List.set_cons_succ, List.getElem_toArray, List.getElem_cons_zero, List.getElem_cons_succ]
      refine wpAnyH_take (i := 4) (v := ?_) rfl (by kernel_rfl) (by kernel_rfl) (by kernel_rfl) (fun _ _ _ h => h) (Or.inl ⟨by rfl, ?_⟩) (by assumption) ?_
      rotate_left
      · intro w hSw
        try dsimp only at hSw
        go_simp
        try with_reducible rfl
      simp only [Act.put, List.setIfInBounds_toArray, List.set_cons_zero, List.set_cons_succ, List.getElem_toArray, List.getElem_cons_zero, List.getElem_cons_succ]
      refine wpAnyH_take (i := 5) (v := ?_) rfl (by kernel_rfl) (by kernel_rfl) (by kernel_rfl) (fun _ _ _ h => h) (Or.inl ⟨by rfl, ?_⟩) (by assumption) ?_
      rotate_left
      · intro w hSw
        try dsimp only at hSw
        go_simp
        try with_reducible rfl
      simp only [Act.put, List.setIfInBounds_toArray, List.set_cons_zero, List.set_cons_succ, List.getElem_toArray, List.getElem_cons_zero, List.getElem_cons_succ]
      refine wpAnyH_take (i := 6) (v := ?_) rfl (by kernel_rfl) (by kernel_rfl) (by kernel_rfl) (fun _ _ _ h => h) (Or.inl ⟨by rfl, ?_⟩) (by assumption) ?_
      rotate_left
      · intro w hSw
        have q2 := hSw.2.cell 2
        simp at q2
        have p0 := (hSw.1.cell (p := ⟨bb, off + j * 2, none⟩) HBB.out).trans HC1.out
        go_simp
        try with_reducible rfl
      simp only [Act.put, List.setIfInBounds_toArray, List.set_cons_zero, List.set_cons_succ, List.getElem_toArray, List.getElem_cons_zero, List.getElem_cons_succ]
      refine wpAnyH_take (i := 7) (v := ?_) rfl (by kernel_rfl) (by kernel_rfl) (by kernel_rfl) (fun _ _ _ h => h) (Or.inl ⟨by rfl, ?_⟩) (by assumption) ?_
      rotate_left
      · intro w hSw
        try dsimp only at hSw
        go_simp
        try with_reducible rfl
      simp only [Act.put, List.setIfInBounds_toArray, List.set_cons_zero, List.set_cons_succ, List.getElem_toArray, List.getElem_cons_zero, List.getElem_cons_succ]
      refine wpAnyH_take (i := 8) (v := ?_) rfl (by kernel_rfl) (by kernel_rfl) (by kernel_rfl) (fun _ _ _ h => h) (Or.inl ⟨by rfl, ?_⟩) (by assumption) ?_
      rotate_left
      · intro w hSw
        have q2 := hSw.2.cell 2
        simp at q2
        have p0 := (hSw.1.cell (p := ⟨bb, off + j * 2, none⟩) HBB.out).trans HC1.out
        go_simp
        try with_reducible rfl
      simp only [Act.put, List.setIfInBounds_toArray, List.set_cons_zero, List.set_cons_succ, List.getElem_toArray, List.getElem_cons_zero, List.getElem_cons_succ]
      refine wpAnyH_take (i := 9) (v := ?_) rfl (by kernel_rfl) (by kernel_rfl) (by kernel_rfl) (fun _ _ _ h => h) (Or.inl ⟨by rfl, ?_⟩) (by assumption) ?_
      rotate_left
      · intro w hSw
        try dsimp only at hSw
        go_simp
        try with_reducible rfl
      simp only [Act.put, List.setIfInBounds_toArray, List.set_cons_zero, List.set_cons_succ, List.getElem_toArray, List.getElem_cons_zero, List.getElem_cons_succ]
      refine wpAnyH_take (i := 10) (v := ?_) rfl (by kernel_rfl) (by kernel_rfl) (by kernel_rfl) (fun _ _ _ h => h) (Or.inl ⟨by rfl, ?_⟩) (by assumption) ?_
      rotate_left
      · intro w hSw
        try dsimp only at hSw
        go_simp
        try with_reducible rfl
      simp only [Act.put, List.setIfInBounds_toArray, List.set_cons_zero, List.set_cons_succ, List.getElem_toArray, List.getElem_cons_zero, List.getElem_cons_succ]
      refine wpAnyH_take (i := 11) (v := ?_) rfl (by kernel_rfl) (by kernel_rfl) (by kernel_rfl) (fun _ _ _ h => h) (Or.inl ⟨by rfl, ?_⟩) (by assumption) ?_
      rotate_left
      · intro w hSw
        try dsimp only at hSw
        go_simp
        try with_reducible rfl
      simp only [Act.put, List.setIfInBounds_toArray, List.set_cons_zero, List.set_cons_succ, List.getElem_toArray, List.getElem_cons_zero, List.getElem_cons_succ]
      refine wpAnyH_take (i := 12) (v := ?_) rfl (by kernel_rfl) (by kernel_rfl) (by kernel_rfl) (fun _ _ _ h => h) (Or.inl ⟨by rfl, ?_⟩) (by assumption) ?_
      rotate_left
      · intro w hSw
        have q2 := hSw.2.cell 2
        simp at q2
        have p0 := (hSw.1.cell (p := ⟨bb, off + j * 2, none⟩) HBB.out).trans HC1.out
        go_simp
        try with_reducible rfl
      simp only [Act.put, List.setIfInBounds_toArray, List.set_cons_zero, List.set_cons_succ, List.getElem_toArray, List.getElem_cons_zero, List.getElem_cons_succ]
      refine wpAnyH_take (i := 13) (v := ?_) rfl (by kernel_rfl) (by kernel_rfl) (by kernel_rfl) (fun _ _ _ h => h) (Or.inl ⟨by rfl, ?_⟩) (by assumption) ?_
      rotate_left
      · intro w hSw
        try dsimp only at hSw
        go_simp
        try with_reducible rfl
      simp only [Act.put, List.setIfInBounds_toArray, List.set_cons_zero, List.set_cons_succ, List.getElem_toArray, List.getElem_cons_zero, List.getElem_cons_succ]
      refine wpAnyH_take (i := 14) (v := ?_) rfl (by kernel_rfl) (by kernel_rfl) (by kernel_rfl) (fun _ _ _ h => h) (Or.inl ⟨by rfl, ?_⟩) (by assumption) ?_
      rotate_left
      · intro w hSw
        try dsimp only at hSw
        go_simp
        try with_reducible rfl
      simp only [Act.put, List.setIfInBounds_toArray, List.set_cons_zero, List.set_cons_succ, List.getElem_toArray, List.getElem_cons_zero, List.getElem_cons_succ]
      refine wpAnyH_take (i := 15) (v := ?_) rfl (by kernel_rfl) (by kernel_rfl) (by kernel_rfl) (fun _ _ _ h => h) (Or.inl ⟨by rfl, ?_⟩) (by assumption) ?_
      rotate_left
      · intro w hSw
        try dsimp only at hSw
        go_simp
        try with_reducible rfl
      simp only [Act.put, List.setIfInBounds_toArray, List.set_cons_zero, List.set_cons_succ, List.getElem_toArray, List.getElem_cons_zero, List.getElem_cons_succ]
      refine wpAnyH_ready (rs := [0]) (by kernel_rfl) (by simp) ?_
      refine AllReadyH.cons rfl (fun Kc hKc => ?_) AllReadyH.nil
      go_simp
      refine hKc.out _ _ ?_ (fun hHeld => ?_)
      · first | exact ⟨hHeld.1.alloc hHeld.1.size _, hHeld.2.alloc _⟩ | exact ⟨hHeld.1.grown hgrow hHeld.1.size (fun k e => by have := Option.some.inj e; have := HB.out.size; omega), hHeld.2.grown hgrow (fun e => by have := Option.some.inj e; have := HX.out.lt; omega)⟩
      clear hKc Kc
      refine wpAnyH_ready (rs := [16]) (by kernel_rfl) (by simp) ?_
      refine AllReadyH.cons rfl (fun Kc hKc => ?_) AllReadyH.nil
      refine wp_append_lit _ _ 32 rfl wr.heap.size 3 i0 (.int .i64 0) 8 Try.underlying32 hi hz0 hz1 hz2 rfl wr.heap.size 0 rfl HO.out ao2 q cap2 (ls.map (Value.int .i64)) rfl (by rw [List.length_map]; exact HLQ.out) (HNEWS.out _ hHeld.1) (fun u hu => by obtain ⟨z, -, rfl⟩ := List.mem_map.1 hu; rfl) (by unfold maxLen; omega) (by omega) (by simp) ?_; intro v' w5 hown' hgrow hnil' hq9
      refine hKc.out _ _ ?_ (fun hHeld => ?_)
      · first | exact ⟨hHeld.1.alloc hHeld.1.size _, hHeld.2.alloc _⟩ | exact ⟨hHeld.1.grown hgrow hHeld.1.size (fun k e => by have := Option.some.inj e; have := HB.out.size; omega), hHeld.2.grown hgrow (fun e => by have := Option.some.inj e; have := HX.out.lt; omega)⟩
      clear hKc Kc
      refine wpAnyH_take (i := 17) (v := ?_) rfl (by kernel_rfl) (by kernel_rfl) (by kernel_rfl) (fun _ _ _ h => h) (Or.inl ⟨by rfl, ?_⟩) (by assumption) ?_
      rotate_left
      · intro w hSw
        try dsimp only at hSw
        go_simp
        try with_reducible rfl
      simp only [Act.put, List.setIfInBounds_toArray, List.set_cons_zero, List.set_cons_succ, List.getElem_toArray, List.getElem_cons_zero, List.getElem_cons_succ]
      refine wpAnyH_done (by kernel_rfl) ?_ _
      have hown2 : w5.ownsRow wr.heap.size 3 1 v' ls.length (ls.map (Value.int .i64)) := by rw [HLQ.out]; exact hown'
      have HV5 := Lib.hid (own_rowI hown2 hnil')
      have h65 : Below wr.heap.size wr w5 := (below_drewN (Below.refl wr.heap.size wr) 1 |>.alloc (by exact Nat.le_refl _) _).grown hgrow (by simp) (fun k e => by have := Option.some.inj e; omega)
      have HG5 := Lib.hid (HG.out.kept h65)
      have HR5 := Lib.hid (HR.out.kept h65)
      have HX5 := Lib.hid hHeld.2
      have HB5 := Lib.hid hHeld.1
      have q2 := hHeld.2.cell 2
      simp at q2
      have p1 := (hHeld.1.cell (p := ⟨bb, off + j * 2 + 1, none⟩) HBB.out).trans HC3.out
      clear hown' hown2 hgrow hnil' hq9 hHeld h65 HO
      have P := Lib.hid (raise_all w5 G C R W zs ls dj v' HG5.out HV5.out (by have := HLQ.out; omega) HDJ.out)
      go_wp2_with fail
      with_reducible refine P.out.mono ?_
      rintro e w6 ⟨err, zs1, rfl, hsp, hg, hgr⟩
      have HSP := Lib.hid hsp
      have HG6 := Lib.hid hg
      obtain ⟨curC5, hC5, -⟩ := HG5.out.cells
      have HV6 := Lib.hid (HV5.out.far hgr hC5 (by decide))
      clear hC5
      have HR6 := Lib.hid (HR5.out.grown hgr (fun k e => by cases e; exact HGC.out.2.2.2.1))
      have HX6 := Lib.hid (HX5.out.grown hgr (fun e => by have := Option.some.inj e; have := HGC.out; omega))
      have HB6 := Lib.hid (HB5.out.grown hgr HB5.out.size (fun k e => by have := Option.some.inj e; have := HGC.out; omega))
      have HFIT := Lib.hid HG5.out.fit
      clear hsp hg hgr P q2 p1 HG5 HV5 HR5 HX5 HB5
      have q2 := HX6.out.cell 2
      simp at q2
      have p1 := (HB6.out.cell (p := ⟨bb, off + j * 2 + 1, none⟩) HBB.out).trans HC3.out
      have P := Lib.hid (rraise_all w6 N H v B K R W zs ls dj v' HR6.out HV6.out (by have := HLQ.out; omega) HDJ.out HFIT.out)
      go_wp2_with fail
      with_reducible refine P.out.mono ?_
      rintro e w7 ⟨err2, zs2, rfl, hsp, hr, hb⟩
      obtain ⟨rfl, rfl⟩ := HSP.out.unique hsp
      have HR7 := Lib.hid hr
      have HG7 := Lib.hid (HG6.out.below hb HGC.out.2.2.1 HGC.out.2.2.2.1)
      have HX7 := Lib.hid (HX6.out.below hb HGC.out.2.2.2.2)
      have HB7 := Lib.hid (HB6.out.trans (hb.mono (by have := HGC.out; omega)))
      clear hsp hr hb P q2 p1 HG6 HV6 HR6 HX6 HB6 HSP
      have P := Lib.hid (cells_ints w7 G C R W zs2 HG7.out)
      go_wp2_with fail
      with_reducible refine P.out.mono ?_
      rintro e w8 ⟨ga, ca, rfl, -, -, hia, hb⟩
      have HIA := Lib.hid hia
      have HR8 := Lib.hid (HR7.out.kept hb)
      have HG8 := Lib.hid (HG7.out.kept hb)
      have HX8 := Lib.hid (HX7.out.kept hb)
      have HB8 := Lib.hid (btr HB7.out hb)
      clear hia hb P HG7 HR7 HX7 HB7
      have P := Lib.hid (rcells_any w8 N H v B K R W zs2 HR8.out)
      go_wp2_with fail
      with_reducible refine P.out.mono ?_
      rintro e w9 ⟨gc, cc, rfl, -, -, hib, hb⟩
      have HIB := Lib.hid hib
      have HIA9 := Lib.hid (HIA.out.kept hb)
      have HR9 := Lib.hid (HR8.out.kept hb)
      have HG9 := Lib.hid (HG8.out.kept hb)
      have HX9 := Lib.hid (HX8.out.kept hb)
      have HB9 := Lib.hid (btr HB8.out hb)
      have hzl : zs2.length ≤ 1024 := by rw [HG9.out.len]; exact Nat.mul_le_mul HG9.out.rows HG9.out.width
      clear hib hb P HG8 HR8 HX8 HB8 HIA
      have P := Lib.hid (same_yes HIA9.out HIB.out (by omega))
      go_wp2_with fail
      with_reducible refine P.out.mono ?_
      rintro e wa ⟨rfl, hb⟩
      have HRa := Lib.hid (HR9.out.kept hb)
      have HGa := Lib.hid (HG9.out.kept hb)
      have HXa := Lib.hid (HX9.out.kept hb)
      have HBa := Lib.hid (btr HB9.out hb)
      clear hb P
      go_wp2
      go_roundw
      case rel => exact ⟨j + 1, zs2, by omega, by go_num, HGa.out, HRa.out, HXa.out, HBa.out⟩
      case measure => simp [intOf]; omega
    · obtain rfl : j = m := by omega
      have hd : (decide (j < n) = false ∧ decide ((j : Int) < (n : Int)) = false) ∨ ((decide (j < n) = true ∧ decide ((j : Int) < (n : Int)) = true) ∧ decide ((j : Int) < 100) = false ∧ decide (j < 100) = false) := by
        have := HM.out
        by_cases h1 : j < n
        · exact .inr ⟨⟨decide_eq_true h1, decide_eq_true (by omega)⟩, decide_eq_false (by omega), decide_eq_false (by omega)⟩
        · exact .inl ⟨decide_eq_false h1, decide_eq_false (by omega)⟩
      rcases hd with ⟨d3, d5⟩ | ⟨⟨d3, d5⟩, d4, d6⟩
      all_goals
        go_wp2
        go_ret
        exact ⟨rfl, HB.out⟩
end Go.Proofs.Ytcinlcbmjboaaaa
