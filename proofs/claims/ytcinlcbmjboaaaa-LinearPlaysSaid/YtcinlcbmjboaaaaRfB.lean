/-
  The walks of gaugerref08.Read, Least, gaugerref05.Min. Conditions: none beyond those stated at each theorem.
-/
import Derived.Test.YtcinlcbmjboaaaaRfA
import Derived.StillTailTactics
namespace Go.Proofs.Ytcinlcbmjboaaaa
open Go.RowKit
set_option linter.unusedVariables false
set_option linter.unusedSimpArgs false

section
variable {P : Program}
theorem wp_append_own_at {o : Oper} {a : Act} {w : World} {K : Act → World → Prop} {Q : Exit → Act → World → Prop} (s x : Operand) (t : TypeId)
    (ho : o.op = .call { callee := .builtin .append, args := #[s, x], argTypes := #[t, t] })
    (base : Nat) (e : TypeId) (i : TypeInfo) (z : Value) (size bytes : Nat) (ht : P.underlying t = some (.slice e)) (hi : P.info? e = some i) (hz : i.zero = some z)
    (hsize : i.size = size) (hby : i.bytes = bytes) (hzs : z.cells.size = size) (hsz : 0 < size)
    (v : Value) (n : Nat) (xs : List Value) (hs : a.eval s = v) (hown : w.ownsRow base e size v n xs)
    (ad : Addr) (m c : Nat) (news : List Value) (hx : a.eval x = .slice (some ad) m c) (hl : news.length = m * size) (hnews : ∀ j u, news[j]? = some u → w.cell? (ad.add j) = some u) (h1 : ∀ u ∈ news, u.oneCell' = true)
    (h63 : n + m ≤ maxLen) (hbytes : (n + m) * bytes ≤ 140737488355328) (hbase : base ≤ w.heap.size)
    (h : ∀ v' w', w'.ownsRow base e size v' (n + m) (xs ++ news) → w.grownBy w' v.ownBlock → (v' = .slice none 0 0 ↔ v = .slice none 0 0 ∧ m = 0) → (v'.ownBlock = v.ownBlock ∨ v'.ownBlock = some w.heap.size) → K (a.put o.dst v') w') :
    o.wp P a w K Q := by
  obtain ⟨v', w', hr, h2, h3, h4, h5⟩ := run_append_own_at (P := P) w base t o.type e i z size bytes ht hi hz hsize hby hzs hsz v n xs hown ad m c news hl hnews h1 h63 hbytes hbase
  unfold Oper.wp execOp
  simp only [ho, resolve, invoke, builtin, Sem.run_bind, Sem.run_pure, Result.andThen_ok, List.map_toArray, List.map_cons, List.map_nil, hs, hx, hr]
  exact h v' w' h2 h3 h4 h5
end

def RReadPost (w : World) (W : Nat) (zs cs : List Int) (e : Ending) (w' : World) : Prop :=
  ∃ g cap, e = .returned (.tuple #[.slice (some ⟨g, 0, none⟩) cs.length cap, .int .i64 0]) ∧ w.heap.size ≤ g ∧ IntsAt w' (.slice (some ⟨g, 0, none⟩) cs.length cap) (readZ W zs cs) ∧ Below w.heap.size w w'
set_option maxRecDepth 100000 in
set_option maxHeartbeats 4000000 in
theorem rread_yes (w : World) (N G : Nat) (v : Value) (B K : Nat → Nat) (R W : Nat) (zs cs : List Int) (vc : Value) (h : RefIs w N G v B K R W zs) (hv : IntsAt w vc cs) (hm : meetB R W cs = true) :
    Calls Try.prog 28 #[.pointer (some ⟨G, 0, none⟩), vc] w (RReadPost w W zs cs) := by
  obtain ⟨h0R, hlR, hcol⟩ := meetB_of hm
  have hR8 := h.rows
  obtain ⟨L, vcap, rfl⟩ := h.openL h0R
  have hal : Below w.heap.size w (w.alloc (.cells #[] 2)) := (Below.refl _ _).alloc (Nat.le_refl _) _
  have P1 := rmeet_any _ N G _ B K R W zs cs vc (h.kept hal) (hv.kept hal) (by omega)
  rw [hm] at P1
  have HG0 := Lib.hid h
  have HV1 := Lib.hid (hv.kept hal)
  have HCOL := Lib.hid hcol
  obtain ⟨ao, cap, rfl, hcap, hcells⟩ := hv
  obtain ⟨g, rfl, hg, hc⟩ := hcells (by omega)
  have HC := Lib.hid hc
  clear hcells hc hcol hm h
  obtain ⟨n, hlen⟩ : ∃ n, n = cs.length := ⟨_, rfl⟩
  unfold RReadPost readZ
  rw [← hlen] at hcap P1 HV1
  simp only [← hlen]
  have hn8 : n ≤ 8 := by omega
  have HNR : Hid (n = R) := Lib.hid (by omega)
  clear hlen hlR
  obtain ⟨f, hf⟩ : ∃ f : Nat → Int, f = fun r => cellD zs (r * W + colN cs r) := ⟨_, rfl⟩
  rw [← hf]
  have HF := Lib.hid hf
  have hown0 := World.ownsRow_lit (base := w.heap.size) (e := 2) (size := 1) w #[] 0 (by simp) (by unfold maxLen; omega) (by simp)
  have HO1 := Lib.hid hown0
  have HB1 := Lib.hid hal
  have P1 := Lib.hid P1
  obtain ⟨i0, hi, hz0, hz1, hz2⟩ := info_parts Try.info64
  clear hf hown0 hal
  go_enter Try.func28, Try.ntmps28
  go_wp2_with fail
  with_reducible refine P1.out.mono ?_
  rintro e w2 ⟨rfl, hb⟩
  have HO2 := Lib.hid (HO1.out.kept (below_grown (row := none) hb) (by simp [Value.ownBlock]))
  have HB2 := Lib.hid (btr HB1.out hb)
  have hs2 : w.heap.size ≤ w2.heap.size := HB2.out.size
  clear hb P1 HV1 HO1 HB1
  go_wp2_with fail
  go_loopw [6, 7] (fun x i wr => ∃ j : Nat, j ≤ n ∧ i = .int .i64 (j : Int) ∧ x ≠ .slice none 0 0 ∧ wr.ownsRow w.heap.size 2 1 x j (((List.range j).map f).map (Value.int .i64)) ∧ Below w.heap.size w wr) (fun _ i _ => n - (intOf i).toNat)
  case atStart => exact ⟨0, by omega, rfl, by simp, by simpa using HO2.out, HB2.out⟩
  case round =>
    obtain ⟨j, hj, rfl, hnil, hown, hbel⟩ := hrel
    clear HO2 HB2
    have HB := Lib.hid hbel
    have HO := Lib.hid hown
    have HNIL := Lib.hid hnil
    have hszr : w.heap.size ≤ wr.heap.size := hbel.size
    by_cases hlt : j < n
    · have hjR : j < R := by have := HNR.out; omega
      obtain ⟨hcj, hcw⟩ := HCOL.out j hjR
      obtain ⟨l0, l1, l2, -⟩ := HG0.out.look hjR hcw
      have cx := HC.out j _ hcj
      have HN : Hid (((List.range (j + 1)).map f).map (Value.int .i64) = ((List.range j).map f).map (Value.int .i64) ++ [.int .i64 (f j)]) := Lib.hid (by rw [List.range_succ]; simp)
      have HFJ : Hid (cellD zs (j * W + colN cs j) = f j) := Lib.hid (by rw [HF.out])
      rw [HFJ.out] at l2
      have hmx1 : j + 1 ≤ maxLen := by unfold maxLen; omega
      clear hown hnil hbel hcj
      generalize hy : colN cs j = y at *
      have HY := Lib.hid hy
      clear hy
      generalize B j = Bj at *
      generalize K j = Kj at *
      generalize hfj : f j = fj at *
      have d1 : (0 : Int) ≤ (j : Int) := by omega
      have d2 : (j : Int) < (n : Int) := by omega
      have d3 : (j : Int) < (R : Int) := by omega
      have d4 : (0 : Int) ≤ (y : Int) := by omega
      have d5 : (y : Int) < (W : Int) := by omega
      have L0 := Lib.hid l0
      have L1 := Lib.hid l1
      have L2 := Lib.hid l2
      have CX := Lib.hid cx
      clear l0 l1 l2 cx hfj
      go_wp2_with fail
      refine wp_region_held_drew (S := fun w' => Below w.heap.size w w') (by kernel_rfl) (by exact below_drewN HB.out 1) (fun hHeld => ?_)
      refine wpAnyH_take (i := 0) (v := ?_) rfl (by kernel_rfl) (by kernel_rfl) (by kernel_rfl) (fun _ _ _ h => h) (Or.inl ⟨by rfl, ?_⟩) (by assumption) ?_
      rotate_left
      · intro w hSw
        try dsimp only at hSw
        go_simp
        try with_reducible rfl
      simp only [Act.put, List.setIfInBounds_toArray, List.set_cons_zero, List.set_cons_succ, List.getElem_toArray, List.getElem_cons_zero, List.getElem_cons_succ]
      refine wpAnyH_take (i := 1) (v := ?_) rfl (by kernel_rfl) (by kernel_rfl) (by kernel_rfl) (fun _ _ _ h => h) (Or.inl ⟨by rfl, ?_⟩) (by assumption) ?_
      rotate_left
      · intro w hSw
        try dsimp only at hSw
        go_simp
        try with_reducible rfl
      simp only [Act.put, List.setIfInBounds_toArray, List.set_cons_zero, List.set_cons_succ, List.getElem_toArray, List.getElem_cons_zero, List.getElem_cons_succ]
      refine wpAnyH_take (i := 2) (v := ?_) rfl (by kernel_rfl) (by kernel_rfl) (by kernel_rfl) (fun _ _ _ h => h) (Or.inl ⟨by rfl, ?_⟩) (by assumption) ?_
      rotate_left
      · intro w hSw
        try dsimp only at hSw
        go_simp
        try with_reducible rfl
      simp only [Act.put, List.setIfInBounds_toArray, List.set_cons_zero, List.set_cons_succ, List.getElem_toArray, List.getElem_cons_zero, List.getElem_cons_succ]
      refine wpAnyH_take (i := 3) (v := ?_) rfl (by kernel_rfl) (by kernel_rfl) (by kernel_rfl) (fun _ _ _ h => h) (Or.inl ⟨by rfl, ?_⟩) (by assumption) ?_
      rotate_left
      · intro w hSw
        try dsimp only at hSw
        go_simp
        try with_reducible rfl
      simp only [Act.put, List.setIfInBounds_toArray, List.set_cons_zero, List.set_cons_succ, List.getElem_toArray, List.getElem_cons_zero, List.getElem_cons_succ]
      refine wpAnyH_take (i := 4) (v := ?_) rfl (by kernel_rfl) (by kernel_rfl) (by kernel_rfl) (fun _ _ _ h => h) (Or.inl ⟨by rfl, ?_⟩) (by assumption) ?_
      rotate_left
      · intro w hSw
        have q0 := (hSw.cell (p := ⟨G, 0, none⟩) (cell_block L0.out)).trans L0.out
        have q1 := (hSw.cell (p := ⟨L, j, none⟩) (cell_block L1.out)).trans L1.out
        have q2 := (hSw.cell (p := ⟨Bj, y, none⟩) (cell_block L2.out)).trans L2.out
        have q3 := (hSw.cell (p := ⟨g, j, none⟩) (cell_block CX.out)).trans CX.out
        go_simp
        try with_reducible rfl
      simp only [Act.put, List.setIfInBounds_toArray, List.set_cons_zero, List.set_cons_succ, List.getElem_toArray, List.getElem_cons_zero, List.getElem_cons_succ]
      refine wpAnyH_take (i := 5) (v := ?_) rfl (by kernel_rfl) (by kernel_rfl) (by kernel_rfl) (fun _ _ _ h => h) (Or.inl ⟨by rfl, ?_⟩) (by assumption) ?_
      rotate_left
      · intro w hSw
        try dsimp only at hSw
        go_simp
        try with_reducible rfl
      simp only [Act.put, List.setIfInBounds_toArray, List.set_cons_zero, List.set_cons_succ, List.getElem_toArray, List.getElem_cons_zero, List.getElem_cons_succ]
      refine wpAnyH_take (i := 6) (v := ?_) rfl (by kernel_rfl) (by kernel_rfl) (by kernel_rfl) (fun _ _ _ h => h) (Or.inl ⟨by rfl, ?_⟩) (by assumption) ?_
      rotate_left
      · intro w hSw
        try dsimp only at hSw
        go_simp
        try with_reducible rfl
      simp only [Act.put, List.setIfInBounds_toArray, List.set_cons_zero, List.set_cons_succ, List.getElem_toArray, List.getElem_cons_zero, List.getElem_cons_succ]
      refine wpAnyH_take (i := 7) (v := ?_) rfl (by kernel_rfl) (by kernel_rfl) (by kernel_rfl) (fun _ _ _ h => h) (Or.inl ⟨by rfl, ?_⟩) (by assumption) ?_
      rotate_left
      · intro w hSw
        have q0 := (hSw.cell (p := ⟨G, 0, none⟩) (cell_block L0.out)).trans L0.out
        have q1 := (hSw.cell (p := ⟨L, j, none⟩) (cell_block L1.out)).trans L1.out
        have q2 := (hSw.cell (p := ⟨Bj, y, none⟩) (cell_block L2.out)).trans L2.out
        have q3 := (hSw.cell (p := ⟨g, j, none⟩) (cell_block CX.out)).trans CX.out
        go_simp
        try with_reducible rfl
      simp only [Act.put, List.setIfInBounds_toArray, List.set_cons_zero, List.set_cons_succ, List.getElem_toArray, List.getElem_cons_zero, List.getElem_cons_succ]
      refine wpAnyH_take (i := 8) (v := ?_) rfl (by kernel_rfl) (by kernel_rfl) (by kernel_rfl) (fun _ _ _ h => h) (Or.inl ⟨by rfl, ?_⟩) (by assumption) ?_
      rotate_left
      · intro w hSw
        try dsimp only at hSw
        go_simp
        try with_reducible rfl
      simp only [Act.put, List.setIfInBounds_toArray, List.set_cons_zero, List.set_cons_succ, List.getElem_toArray, List.getElem_cons_zero, List.getElem_cons_succ]
      refine wpAnyH_take (i := 9) (v := ?_) rfl (by kernel_rfl) (by kernel_rfl) (by kernel_rfl) (fun _ _ _ h => h) (Or.inl ⟨by rfl, ?_⟩) (by assumption) ?_
      rotate_left
      · intro w hSw
        try dsimp only at hSw
        go_simp
        try with_reducible rfl
      simp only [Act.put, List.setIfInBounds_toArray, List.set_cons_zero, List.set_cons_succ, List.getElem_toArray, List.getElem_cons_zero, List.getElem_cons_succ]
      refine wpAnyH_take (i := 10) (v := ?_) rfl (by kernel_rfl) (by kernel_rfl) (by kernel_rfl) (fun _ _ _ h => h) (Or.inl ⟨by rfl, ?_⟩) (by assumption) ?_
      rotate_left
      · intro w hSw
        try dsimp only at hSw
        go_simp
        try with_reducible rfl
      simp only [Act.put, List.setIfInBounds_toArray, List.set_cons_zero, List.set_cons_succ, List.getElem_toArray, List.getElem_cons_zero, List.getElem_cons_succ]
      refine wpAnyH_take (i := 11) (v := ?_) rfl (by kernel_rfl) (by kernel_rfl) (by kernel_rfl) (fun _ _ _ h => h) (Or.inl ⟨by rfl, ?_⟩) (by assumption) ?_
      rotate_left
      · intro w hSw
        have q0 := (hSw.cell (p := ⟨G, 0, none⟩) (cell_block L0.out)).trans L0.out
        have q1 := (hSw.cell (p := ⟨L, j, none⟩) (cell_block L1.out)).trans L1.out
        have q2 := (hSw.cell (p := ⟨Bj, y, none⟩) (cell_block L2.out)).trans L2.out
        have q3 := (hSw.cell (p := ⟨g, j, none⟩) (cell_block CX.out)).trans CX.out
        go_simp
        try with_reducible rfl
      simp only [Act.put, List.setIfInBounds_toArray, List.set_cons_zero, List.set_cons_succ, List.getElem_toArray, List.getElem_cons_zero, List.getElem_cons_succ]
      refine wpAnyH_take (i := 12) (v := ?_) rfl (by kernel_rfl) (by kernel_rfl) (by kernel_rfl) (fun _ _ _ h => h) (Or.inl ⟨by rfl, ?_⟩) (by assumption) ?_
      rotate_left
      · intro w hSw
        try dsimp only at hSw
        go_simp
        try with_reducible rfl
      simp only [Act.put, List.setIfInBounds_toArray, List.set_cons_zero, List.set_cons_succ, List.getElem_toArray, List.getElem_cons_zero, List.getElem_cons_succ]
      refine wpAnyH_take (i := 13) (v := ?_) rfl (by kernel_rfl) (by kernel_rfl) (by kernel_rfl) (fun _ _ _ h => h) (Or.inl ⟨by rfl, ?_⟩) (by assumption) ?_
      rotate_left
      · intro w hSw
        have q0 := (hSw.cell (p := ⟨G, 0, none⟩) (cell_block L0.out)).trans L0.out
        have q1 := (hSw.cell (p := ⟨L, j, none⟩) (cell_block L1.out)).trans L1.out
        have q2 := (hSw.cell (p := ⟨Bj, y, none⟩) (cell_block L2.out)).trans L2.out
        have q3 := (hSw.cell (p := ⟨g, j, none⟩) (cell_block CX.out)).trans CX.out
        go_simp
        try with_reducible rfl
      simp only [Act.put, List.setIfInBounds_toArray, List.set_cons_zero, List.set_cons_succ, List.getElem_toArray, List.getElem_cons_zero, List.getElem_cons_succ]
      refine wpAnyH_ready (rs := [14]) (by kernel_rfl) (by simp) ?_
      refine AllReadyH.cons rfl (fun Kc hKc => ?_) AllReadyH.nil
      go_simp
      refine hKc.out _ _ ?_ (fun hHeld => ?_)
      · first | exact hHeld.alloc hHeld.size _ | exact hHeld.grown hgrow hHeld.size (fun k e => (HO.out.lt k e).1)
      clear hKc Kc
      refine wpAnyH_ready (rs := [15]) (by kernel_rfl) (by simp) ?_
      refine AllReadyH.cons rfl (fun Kc hKc => ?_) AllReadyH.nil
      refine wp_append_own_at _ _ 39 rfl w.heap.size 2 i0 (.int .i64 0) 1 8 Try.underlying39 hi hz0 hz1 hz2 rfl (by decide) _ j _ rfl ((show World.ownsRow (wr.drewN 1) w.heap.size 2 1 u6 j (((List.range j).map f).map (Value.int .i64)) from HO.out).alloc _) ⟨wr.heap.size, 0, none⟩ 1 1 [.int .i64 fj] rfl rfl (cell_one_new _ _ _) (by simp [Value.oneCell']) hmx1 (by omega) (by simp; omega) ?_; intro v' w3 hown' hgrow hnil' hq9
      refine hKc.out _ _ ?_ (fun hHeld => ?_)
      · first | exact hHeld.alloc hHeld.size _ | exact hHeld.grown hgrow hHeld.size (fun k e => (HO.out.lt k e).1)
      clear hKc Kc
      refine wpAnyH_take (i := 16) (v := ?_) rfl (by kernel_rfl) (by kernel_rfl) (by kernel_rfl) (fun _ _ _ h => h) (Or.inl ⟨by rfl, ?_⟩) (by assumption) ?_
      rotate_left
      · intro w hSw
        try dsimp only at hSw
        go_simp
        try with_reducible rfl
      simp only [Act.put, List.setIfInBounds_toArray, List.set_cons_zero, List.set_cons_succ, List.getElem_toArray, List.getElem_cons_zero, List.getElem_cons_succ]
      refine wpAnyH_done (by kernel_rfl) ?_ _
      have HNIL' : Hid (v' ≠ .slice none 0 0) := Lib.hid (fun h => HNIL.out (hnil'.1 h).1)
      have HO4 : Hid (w3.ownsRow w.heap.size 2 1 v' (j + 1) (((List.range (j + 1)).map f).map (Value.int .i64))) := Lib.hid (by rw [HN.out]; exact hown')
      have HB4 := Lib.hid hHeld
      clear hown' hgrow hnil' hq9 hHeld
      go_wp2
      go_roundw
      case rel => exact ⟨j + 1, by omega, by go_num, HNIL'.out, HO4.out, HB4.out⟩
      case measure => simp [intOf]; omega
    · obtain rfl : j = n := by omega
      have hown2 : wr.ownsRow w.heap.size 2 1 u6 ((List.range j).map f).length (((List.range j).map f).map (Value.int .i64)) := by simpa using hown
      have hi := IntsAt.of_own hown2 rfl
      obtain ⟨gr, cpr, rfl, hgr2, hcpr, _⟩ := own_row hown2 hnil
      have hl : ((List.range j).map f).length = j := by simp
      rw [hl] at hi ⊢
      have HI := Lib.hid hi
      clear hi hown hown2 hnil hbel hl
      go_wp2
      go_ret2
      exact ⟨gr, cpr, rfl, hgr2, HI.out, HB.out⟩
end Go.Proofs.Ytcinlcbmjboaaaa
