/-
  The walks of the document's Cells, and of GridPlays. Conditions: the arguments are of their types.
-/
import Derived.Test.YtfjhecgicemoeaaGrdB
import Derived.Test.YtfjhecgicemoeaaGrdD
namespace Go.Proofs.Ytfjhecgicemoeaa
open Go.RowKit
set_option linter.unusedVariables false
set_option linter.unusedSimpArgs false

def rowZ (zs : List Int) (W r : Nat) : List Int := (zs.drop (r * W)).take W
theorem rowZ_len {zs : List Int} {R W r : Nat} (h : zs.length = R * W) (hr : r < R) : (rowZ zs W r).length = W := by
  have h1 : (r + 1) * W ≤ R * W := Nat.mul_le_mul_right W hr
  rw [Nat.add_mul] at h1
  simp [rowZ]; omega
theorem rowZ_get {zs : List Int} {W r c : Nat} (hc : c < W) : (rowZ zs W r)[c]? = zs[r * W + c]? := by
  simp [rowZ, List.getElem?_take, hc, List.getElem?_drop]
theorem rowZ_next (zs : List Int) (W r : Nat) : zs.take ((r + 1) * W) = zs.take (r * W) ++ rowZ zs W r := by
  rw [Nat.add_mul, Nat.one_mul, List.take_add]; rfl

theorem RefIs.below {w w' : World} {N G : Nat} {v : Value} {B K : Nat → Nat} {R W : Nat} {zs : List Int} {M : Nat} (h : RefIs w N G v B K R W zs) (hb : Below M w w') (hM : w.heap.size ≤ M) : RefIs w' N G v B K R W zs := h.kept (hb.mono hM)

set_option maxRecDepth 100000 in
set_option maxHeartbeats 4000000 in
theorem rcells_any (w : World) (N G : Nat) (v : Value) (B K : Nat → Nat) (R W : Nat) (zs : List Int) (h : RefIs w N G v B K R W zs) :
    Calls Try.prog 41 #[.pointer (some ⟨G, 0, none⟩)] w fun e w' => ∃ g cap, e = .returned (.slice (some ⟨g, 0, none⟩) zs.length cap) ∧ zs.length ≤ cap ∧ w.heap.size ≤ g ∧ IntsAt w' (.slice (some ⟨g, 0, none⟩) zs.length cap) zs ∧ Below w.heap.size w w' := by
  have H := Lib.hid h
  have hR := h.rows
  have hW := h.width
  have hlen := Lib.hid h.len
  have hsmall : R * W ≤ 8 * 128 := Nat.mul_le_mul hR hW
  obtain ⟨ao, vcap, rfl, hvc, hao⟩ := h.openG
  have HAO := Lib.hid hao
  clear h hao
  obtain ⟨i0, hi, hz0, hz1, hz2⟩ := info_parts Try.info64
  go_enter Try.func41, Try.ntmps41
  go_wp2_with fail
  obtain ⟨g1, hb1, hsz1⟩ := news1 w (.cells #[] 2)
  have hown0 := World.ownsRow_lit (base := w.heap.size) (e := 2) (size := 1) w #[] 0 (by simp) (by unfold maxLen; omega) (by simp)
  generalize hwn : (w.alloc (.cells #[] 2)) = wn at *
  clear hwn g1
  have HO1 := Lib.hid hown0
  have HB1 := Lib.hid hb1
  clear hown0 hb1
  have hsz2 : w.heap.size ≤ wn.heap.size := by omega
  clear hsz1
  go_loopw [3, 4] (fun x i wr => ∃ r : Nat, r ≤ R ∧ i = .int .i64 (r : Int) ∧ x ≠ .slice none 0 0 ∧ wr.ownsRow w.heap.size 2 1 x (r * W) ((zs.take (r * W)).map (Value.int .i64)) ∧ Below w.heap.size w wr ∧ w.heap.size ≤ wr.heap.size) (fun _ i _ => R - (intOf i).toNat)
  case atStart => exact ⟨0, by omega, rfl, by simp, by simpa using HO1.out, HB1.out, hsz2⟩
  case round =>
    obtain ⟨r, hr, rfl, hnil, hown, hbel, hszr⟩ := hrel
    clear HO1 HB1 hsz2
    have HB := Lib.hid hbel
    have HO := Lib.hid hown
    have HNIL := Lib.hid hnil
    have HR := Lib.hid (H.out.kept hbel)
    have c0 := HR.out.box.cell 0
    simp at c0
    clear hbel hown hnil
    by_cases hlt : r < R
    · obtain ⟨L, cur, rfl, _, _, _⟩ := HAO.out (by omega)
      obtain ⟨ao2, vcap2, e2, _, hao2⟩ := HR.out.openG
      simp only [Value.slice.injEq] at e2
      obtain ⟨rfl, _, rfl⟩ := e2
      obtain ⟨L2, cur2, e3, _, hL2, hcur2⟩ := hao2 (by omega)
      simp only [Option.some.injEq, Addr.mk.injEq, and_true] at e3
      subst e3
      have cl := (hL2.cell r).trans (hcur2 r hlt)
      obtain ⟨curB, hCB, hcurB⟩ := HR.out.cells r hlt
      have HCELL : Hid (∀ j u, ((rowZ zs W r).map (Value.int .i64))[j]? = some u → wr.cell? ((⟨B r, 0, none⟩ : Addr).add j) = some u) := Lib.hid (by
        intro j u hu
        have hj : j < W := by
          have := (List.getElem?_eq_some_iff.1 hu).1
          simp [rowZ_len hlen.out hlt] at this
          exact this
        rw [List.getElem?_map, rowZ_get hj] at hu
        cases hz : zs[r * W + j]? with
        | none => rw [hz] at hu; simp at hu
        | some z =>
          rw [hz] at hu
          simp at hu
          subst hu
          have : ((⟨B r, 0, none⟩ : Addr).add j) = ⟨B r, j, none⟩ := by simp [Addr.add]; intro h; omega
          rw [this]
          exact (hCB.cell j).trans (hcurB j z hj hz))
      have hrl : Hid ((rowZ zs W r).length = W) := Lib.hid (rowZ_len hlen.out hlt)
      have HNX : Hid (zs.take ((r + 1) * W) = zs.take (r * W) ++ rowZ zs W r) := Lib.hid (rowZ_next zs W r)
      have hnx : (r + 1) * W = r * W + W := by rw [Nat.add_mul, Nat.one_mul]
      have HNX2 := Lib.hid hnx
      have hlm : (r + 1) * W ≤ R * W := Nat.mul_le_mul_right W hlt
      rw [hnx] at hlm
      have hmx : r * W + W ≤ maxLen := by unfold maxLen; omega
      clear hL2 hcur2 hCB hcurB hao2 hnx
      generalize rowZ zs W r = zr at *
      generalize B r = Br at *
      generalize K r = Kr at *
      have d1 : (0 : Int) ≤ (r : Int) := by omega
      have d2 : (r : Int) < (R : Int) := by omega
      go_wp2_with (at_builtin; refine wpList_append_own_at _ rfl _ _ 56 rfl w.heap.size 2 i0 (.int .i64 0) 1 8 Try.underlying56 hi hz0 hz1 hz2 rfl (by decide) _ (r * W) _ rfl HO.out ⟨Br, 0, none⟩ W Kr (zr.map (Value.int .i64)) rfl ?c1 HCELL.out ?c3 hmx ?c5 hszr ?_)
      case c1 => simp [hrl.out]
      case c3 =>
        intro u hu
        simp at hu
        obtain ⟨z, _, rfl⟩ := hu
        simp [Value.oneCell']
      case c5 => omega
      intro v' w3 hown' hgrow hnil' hq9
      have HNIL' : Hid (v' ≠ .slice none 0 0) := Lib.hid (fun h => HNIL.out (hnil'.1 h).1)
      have HO3 : Hid (w3.ownsRow w.heap.size 2 1 v' ((r + 1) * W) ((zs.take ((r + 1) * W)).map (Value.int .i64))) := Lib.hid (by rw [HNX.out, HNX2.out, List.map_append, List.map_take]; exact hown')
      have hMk := fun k hk => (HO.out.lt k hk).1
      have HB3 : Hid (Below w.heap.size w w3) := Lib.hid (HB.out.grown hgrow hszr (fun k e => hMk k e))
      have hsz3 : w.heap.size ≤ w3.heap.size := by have := hgrow.size; omega
      clear hown' hgrow hnil' hq9 hMk
      go_wp2
      go_roundw
      case rel => exact ⟨r + 1, by omega, by go_num, HNIL'.out, HO3.out, HB3.out, hsz3⟩
      case measure => simp [intOf]; omega
    · obtain rfl : r = R := by omega
      have hrow := HO.out
      rw [← hlen.out, List.take_length] at hrow
      have hi := IntsAt.of_own hrow rfl
      obtain ⟨g, cap, rfl, hg, hc, _⟩ := own_row hrow HNIL.out
      have HI := Lib.hid hi
      clear hi hrow
      go_wp2
      go_ret
      exact ⟨g, cap, rfl, hc, hg, HI.out, HB.out⟩

theorem clampMinMax (r : Int) (top : Nat) : (if (top : Int) < (if r < 0 then 0 else r) then (top : Int) else (if r < 0 then 0 else r)) = (clampN r top : Int) := by
  simp only [clampN]; split <;> split at * <;> omega
set_option maxRecDepth 100000 in
set_option maxHeartbeats 4000000 in
theorem GridPlays_main (rI cI : Int) (l : Value) (n : Nat) (pr pc pu : Nat → Int) (w : World) (hl : PutsAt w l n pr pc pu) :
    Calls Try.prog 9 #[.int .i64 rI, .int .i64 cI, l] w fun e w' => e = .returned (.bool true) ∧ Below w.heap.size w w' := by
  have N1 := Lib.hid (new_any rI cI)
  have N2 := Lib.hid (rnew_any rI cI)
  obtain ⟨mr, er⟩ : ∃ m, (if rI < 0 then 0 else rI) = m := ⟨_, rfl⟩
  obtain ⟨mc, ec⟩ : ∃ m, (if cI < 0 then 0 else cI) = m := ⟨_, rfl⟩
  have fr : (if 8 < mr then 8 else mr) = (clampN rI 8 : Int) := by simp only [clampN]; split at er <;> split <;> omega
  have fc : (if 128 < mc then 128 else mc) = (clampN cI 128 : Int) := by simp only [clampN]; split at ec <;> split <;> omega
  have b1 := clampN_le rI 8
  have b2 := clampN_le cI 128
  generalize clampN rI 8 = R at *
  generalize clampN cI 128 = W at *
  have hsmall : R * W ≤ 8 * 128 := Nat.mul_le_mul b1 b2
  have ER := Lib.hid er
  have EC := Lib.hid ec
  have FR := Lib.hid fr
  have FC := Lib.hid fc
  clear er ec fr fc
  obtain ⟨zs0, hZ0⟩ : ∃ zs0, zs0 = List.replicate (R * W) (0 : Int) := ⟨_, rfl⟩
  have N1 : Hid (∀ w, Calls Try.prog 31 #[.int .i64 rI, .int .i64 cI] w fun e w' => ∃ G C, e = .returned (.pointer (some ⟨G, 0, none⟩)) ∧ w.heap.size ≤ G ∧ w.heap.size ≤ C ∧ GridIs w' G C R W zs0 ∧ Below w.heap.size w w') := by rw [hZ0]; exact N1
  have N2 : Hid (∀ w, Calls Try.prog 32 #[.int .i64 rI, .int .i64 cI] w fun e w' => ∃ G v B K, e = .returned (.pointer (some ⟨G, 0, none⟩)) ∧ RefIs w' w.heap.size G v B K R W zs0 ∧ Below w.heap.size w w') := by rw [hZ0]; exact N2
  have HZ0 := Lib.hid hZ0
  clear hZ0
  obtain ⟨ao, cap, rfl, hm, hu, hcells⟩ := hl
  clear hm
  obtain ⟨m, hmm⟩ : ∃ m, m = min n 200 := ⟨_, rfl⟩
  have HM := Lib.hid hmm
  clear hmm
  have HU := Lib.hid hu
  have HCL := Lib.hid hcells
  clear hu hcells
  go_enter Try.func9, Try.ntmps9
  go_wp2_with fail
  refine (shown06 w).mono ?_; rintro e w0 ⟨rfl, hb⟩
  have HB0 := Lib.hid hb
  clear hb
  go_wp2_with fail
  refine (N1.out w0).mono ?_; rintro e w1 ⟨G, C, rfl, hG, hC, hg, hb⟩
  have G1 := Lib.hid hg
  have HB1 := Lib.hid (btr HB0.out hb)
  have hs0 := HB0.out.size
  have HGC : Hid (w.heap.size ≤ G ∧ w.heap.size ≤ C ∧ G < w1.heap.size ∧ C < w1.heap.size) := ⟨by omega, by omega, G1.out.ltG, G1.out.ltC⟩
  clear hG hC hg hb hs0
  go_wp2_with fail
  refine (N2.out w1).mono ?_; rintro e w2 ⟨H, v, B, K, rfl, hr, hb⟩
  have G2 := Lib.hid (G1.out.kept hb)
  have HR2 := Lib.hid hr
  have HB2 := Lib.hid (btr HB1.out hb)
  clear hr hb
  generalize hN : w1.heap.size = N at *
  have HN := Lib.hid hN
  clear hN
  go_wp2_with fail
  have em : ∀ j : Nat, (decide ((j : Int) < (n : Int)) = true ∧ decide ((j : Int) < 200) = true) ↔ j < m := by intro j; rw [HM.out]; simp only [decide_eq_true_eq]; omega
  have EM := Lib.hid em
  clear em
  go_loopw [10] (fun i wr => ∃ (j : Nat), j ≤ m ∧ i = .int .i64 (j : Int) ∧ GridIs wr G C R W (putsZ R W zs0 pr pc pu j) ∧ RefIs wr N H v B K R W (putsZ R W zs0 pr pc pu j) ∧ Below w.heap.size w wr) (fun i _ => m - (intOf i).toNat)
  case atStart => exact ⟨0, by omega, rfl, by rw [putsZ]; exact G2.out, by rw [putsZ]; exact HR2.out, HB2.out⟩
  case round =>
    obtain ⟨j, hj, rfl, hg, hr, hbel⟩ := hrel
    clear G2 HR2 HB2
    have HG := Lib.hid hg
    have HR := Lib.hid hr
    have HB := Lib.hid hbel
    clear hg hr hbel
    by_cases hlt : j < m
    · obtain ⟨d1, d2⟩ := (EM.out j).2 hlt
      have hjn : j < n := by have := HM.out; omega
      have hj2 : j < 200 := by have := HM.out; omega
      have d3 : (0 : Int) ≤ (j : Int) := by omega
      have d4 : (j : Int) < (n : Int) := by omega
      obtain ⟨b, off, rfl, hbl, hcs⟩ := HCL.out (by omega)
      obtain ⟨c1, c2, c3⟩ := hcs j hjn
      have c1 := (HB.out.cell (p := ⟨b, off + j * 3, none⟩) hbl).trans c1
      have c2 := (HB.out.cell (p := ⟨b, off + j * 3 + 1, none⟩) hbl).trans c2
      have c3 := (HB.out.cell (p := ⟨b, off + j * 3 + 2, none⟩) hbl).trans c3
      have hu := HU.out j hjn
      have HE : Hid (putsZ R W zs0 pr pc pu (j + 1) = putZ R W (putsZ R W zs0 pr pc pu j) (pr j) (pc j) (pu j)) := rfl
      have hC : b ≠ C := by have := HGC.out; omega
      have hszr := HB.out.size
      have hbN : b < N := by have := HN.out; have := HGC.out; omega
      clear hcs
      generalize pr j = x at *
      generalize pc j = y at *
      generalize pu j = z at *
      have D1 := Lib.hid c1
      have D2 := Lib.hid c2
      have D3 := Lib.hid c3
      clear c1 c2 c3
      go_wp2_with fail
      refine wp_region_held_drew (S := fun w' => w'.cell? ⟨b, off + j * 3, none⟩ = some (.int .i64 x) ∧ w'.cell? ⟨b, off + j * 3 + 1, none⟩ = some (.int .i64 y) ∧ w'.cell? ⟨b, off + j * 3 + 2, none⟩ = some (.int .i64 z)) (by kernel_rfl) (by exact ⟨D1.out, D2.out, D3.out⟩) (fun hHeld => ?_)
      refine wpAnyH_take (i := 0) (v := ?_) rfl (by kernel_rfl) (by kernel_rfl) (by kernel_rfl) (fun _ _ _ h => h) (Or.inl ⟨by rfl, ?_⟩) (by assumption) ?_
      rotate_left
      · intro w hSw
        try dsimp only at hSw
        go_simp
        try with_reducible rfl
      simp only [Act.put, List.setIfInBounds_toArray, List.set_cons_zero, List.set_cons_succ, List.getElem_toArray, List.getElem_cons_zero, List.getElem_cons_succ]
      refine wpAnyH_take (i := 1) (v := ?_) rfl (by kernel_rfl) (by kernel_rfl) (by kernel_rfl) (fun _ _ _ h => h) (Or.inl ⟨by rfl, ?_⟩) (by assumption) ?_
      rotate_left
      · intro w hSw
        try dsimp only at hSw
        go_simp
        try with_reducible rfl
      simp only [Act.put, List.setIfInBounds_toArray, List.set_cons_zero, List.set_cons_succ, List.getElem_toArray, List.getElem_cons_zero, List.getElem_cons_succ]
      refine wpAnyH_take (i := 2) (v := ?_) rfl (by kernel_rfl) (by kernel_rfl) (by kernel_rfl) (fun _ _ _ h => h) (Or.inl ⟨by rfl, ?_⟩) (by assumption) ?_
      rotate_left
      · intro w hSw
        try dsimp only at hSw
        go_simp
        try with_reducible rfl
      simp only [Act.put, List.setIfInBounds_toArray, List.set_cons_zero, List.set_cons_succ, List.getElem_toArray, List.getElem_cons_zero, List.getElem_cons_succ]
      refine wpAnyH_take (i := 3) (v := ?_) rfl (by kernel_rfl) (by kernel_rfl) (by kernel_rfl) (fun _ _ _ h => h) (Or.inl ⟨by rfl, ?_⟩) (by assumption) ?_
      rotate_left
      · intro w hSw
        try dsimp only at hSw
        go_simp
        try with_reducible rfl
      simp only [Act.put, List.setIfInBounds_toArray, List.set_cons_zero, List.set_cons_succ, List.getElem_toArray, List.getElem_cons_zero, List.getElem_cons_succ]
      refine wpAnyH_take (i := 4) (v := ?_) rfl (by kernel_rfl) (by kernel_rfl) (by kernel_rfl) (fun _ _ _ h => h) (Or.inl ⟨by rfl, ?_⟩) (by assumption) ?_
      rotate_left
      · intro w hSw
        try dsimp only at hSw
        go_simp
        try with_reducible rfl
      simp only [Act.put, List.setIfInBounds_toArray, List.set_cons_zero, List.set_cons_succ, List.getElem_toArray, List.getElem_cons_zero, List.getElem_cons_succ]
      refine wpAnyH_take (i := 5) (v := ?_) rfl (by kernel_rfl) (by kernel_rfl) (by kernel_rfl) (fun _ _ _ h => h) (Or.inl ⟨by rfl, ?_⟩) (by assumption) ?_
      rotate_left
      · intro w hSw
        obtain ⟨q1, q2, q3⟩ := hSw
        go_simp
        try with_reducible rfl
      simp only [Act.put, List.setIfInBounds_toArray, List.set_cons_zero, List.set_cons_succ, List.getElem_toArray, List.getElem_cons_zero, List.getElem_cons_succ]
      refine wpAnyH_take (i := 6) (v := ?_) rfl (by kernel_rfl) (by kernel_rfl) (by kernel_rfl) (fun _ _ _ h => h) (Or.inl ⟨by rfl, ?_⟩) (by assumption) ?_
      rotate_left
      · intro w hSw
        try dsimp only at hSw
        go_simp
        try with_reducible rfl
      simp only [Act.put, List.setIfInBounds_toArray, List.set_cons_zero, List.set_cons_succ, List.getElem_toArray, List.getElem_cons_zero, List.getElem_cons_succ]
      refine wpAnyH_take (i := 7) (v := ?_) rfl (by kernel_rfl) (by kernel_rfl) (by kernel_rfl) (fun _ _ _ h => h) (Or.inl ⟨by rfl, ?_⟩) (by assumption) ?_
      rotate_left
      · intro w hSw
        try dsimp only at hSw
        go_simp
        try with_reducible rfl
      simp only [Act.put, List.setIfInBounds_toArray, List.set_cons_zero, List.set_cons_succ, List.getElem_toArray, List.getElem_cons_zero, List.getElem_cons_succ]
      refine wpAnyH_take (i := 8) (v := ?_) rfl (by kernel_rfl) (by kernel_rfl) (by kernel_rfl) (fun _ _ _ h => h) (Or.inl ⟨by rfl, ?_⟩) (by assumption) ?_
      rotate_left
      · intro w hSw
        try dsimp only at hSw
        go_simp
        try with_reducible rfl
      simp only [Act.put, List.setIfInBounds_toArray, List.set_cons_zero, List.set_cons_succ, List.getElem_toArray, List.getElem_cons_zero, List.getElem_cons_succ]
      refine wpAnyH_take (i := 9) (v := ?_) rfl (by kernel_rfl) (by kernel_rfl) (by kernel_rfl) (fun _ _ _ h => h) (Or.inl ⟨by rfl, ?_⟩) (by assumption) ?_
      rotate_left
      · intro w hSw
        try dsimp only at hSw
        go_simp
        try with_reducible rfl
      simp only [Act.put, List.setIfInBounds_toArray, List.set_cons_zero, List.set_cons_succ, List.getElem_toArray, List.getElem_cons_zero, List.getElem_cons_succ]
      refine wpAnyH_take (i := 10) (v := ?_) rfl (by kernel_rfl) (by kernel_rfl) (by kernel_rfl) (fun _ _ _ h => h) (Or.inl ⟨by rfl, ?_⟩) (by assumption) ?_
      rotate_left
      · intro w hSw
        obtain ⟨q1, q2, q3⟩ := hSw
        go_simp
        try with_reducible rfl
      simp only [Act.put, List.setIfInBounds_toArray, List.set_cons_zero, List.set_cons_succ, List.getElem_toArray, List.getElem_cons_zero, List.getElem_cons_succ]
      refine wpAnyH_ready (rs := [11]) (by kernel_rfl) (by simp) ?_
      refine AllReadyH.cons rfl (fun Kc hKc => ?_) AllReadyH.nil
      go_simp
      go_wp2_with (go_at_call 33; refine (at_any _ G C R W _ x y (HG.out.drewN 1)).mono ?_; rintro e w' ⟨rfl, hw'⟩; subst hw')
      refine hKc.out _ _ ?_ (fun hHeld => ?_)
      · assumption
      clear hKc Kc
      refine wpAnyH_take (i := 12) (v := ?_) rfl (by kernel_rfl) (by kernel_rfl) (by kernel_rfl) (fun _ _ _ h => h) (Or.inl ⟨by rfl, ?_⟩) (by assumption) ?_
      rotate_left
      · intro w hSw
        try dsimp only at hSw
        go_simp
        try with_reducible rfl
      simp only [Act.put, List.setIfInBounds_toArray, List.set_cons_zero, List.set_cons_succ, List.getElem_toArray, List.getElem_cons_zero, List.getElem_cons_succ]
      refine wpAnyH_done (by kernel_rfl) ?_ _
      clear hHeld
      have HG := Lib.hid (HG.out.drewN 1)
      have HR := Lib.hid (HR.out.drewN 1)
      have HB := Lib.hid (below_drewN HB.out 1)
      have D1 : Hid ((wr.drewN 1).cell? ⟨b, off + j * 3, none⟩ = some (.int .i64 x)) := D1
      have D2 : Hid ((wr.drewN 1).cell? ⟨b, off + j * 3 + 1, none⟩ = some (.int .i64 y)) := D2
      have D3 : Hid ((wr.drewN 1).cell? ⟨b, off + j * 3 + 2, none⟩ = some (.int .i64 z)) := D3
      generalize wr.drewN 1 = wr at *
      go_wp2_with fail
      refine wp_region_held_drew (S := fun w' => w'.cell? ⟨b, off + j * 3, none⟩ = some (.int .i64 x) ∧ w'.cell? ⟨b, off + j * 3 + 1, none⟩ = some (.int .i64 y) ∧ w'.cell? ⟨b, off + j * 3 + 2, none⟩ = some (.int .i64 z)) (by kernel_rfl) (by exact ⟨D1.out, D2.out, D3.out⟩) (fun hHeld => ?_)
      refine wpAnyH_take (i := 0) (v := ?_) rfl (by kernel_rfl) (by kernel_rfl) (by kernel_rfl) (fun _ _ _ h => h) (Or.inl ⟨by rfl, ?_⟩) (by assumption) ?_
      rotate_left
      · intro w hSw
        try dsimp only at hSw
        go_simp
        try with_reducible rfl
      simp only [Act.put, List.setIfInBounds_toArray, List.set_cons_zero, List.set_cons_succ, List.getElem_toArray, List.getElem_cons_zero, List.getElem_cons_succ]
      refine wpAnyH_take (i := 1) (v := ?_) rfl (by kernel_rfl) (by kernel_rfl) (by kernel_rfl) (fun _ _ _ h => h) (Or.inl ⟨by rfl, ?_⟩) (by assumption) ?_
      rotate_left
      · intro w hSw
        try dsimp only at hSw
        go_simp
        try with_reducible rfl
      simp only [Act.put, List.setIfInBounds_toArray, List.set_cons_zero, List.set_cons_succ, List.getElem_toArray, List.getElem_cons_zero, List.getElem_cons_succ]
      refine wpAnyH_take (i := 2) (v := ?_) rfl (by kernel_rfl) (by kernel_rfl) (by kernel_rfl) (fun _ _ _ h => h) (Or.inl ⟨by rfl, ?_⟩) (by assumption) ?_
      rotate_left
      · intro w hSw
        try dsimp only at hSw
        go_simp
        try with_reducible rfl
      simp only [Act.put, List.setIfInBounds_toArray, List.set_cons_zero, List.set_cons_succ, List.getElem_toArray, List.getElem_cons_zero, List.getElem_cons_succ]
      refine wpAnyH_take (i := 3) (v := ?_) rfl (by kernel_rfl) (by kernel_rfl) (by kernel_rfl) (fun _ _ _ h => h) (Or.inl ⟨by rfl, ?_⟩) (by assumption) ?_
      rotate_left
      · intro w hSw
        try dsimp only at hSw
        go_simp
        try with_reducible rfl
      simp only [Act.put, List.setIfInBounds_toArray, List.set_cons_zero, List.set_cons_succ, List.getElem_toArray, List.getElem_cons_zero, List.getElem_cons_succ]
      refine wpAnyH_take (i := 4) (v := ?_) rfl (by kernel_rfl) (by kernel_rfl) (by kernel_rfl) (fun _ _ _ h => h) (Or.inl ⟨by rfl, ?_⟩) (by assumption) ?_
      rotate_left
      · intro w hSw
        try dsimp only at hSw
        go_simp
        try with_reducible rfl
      simp only [Act.put, List.setIfInBounds_toArray, List.set_cons_zero, List.set_cons_succ, List.getElem_toArray, List.getElem_cons_zero, List.getElem_cons_succ]
      refine wpAnyH_take (i := 5) (v := ?_) rfl (by kernel_rfl) (by kernel_rfl) (by kernel_rfl) (fun _ _ _ h => h) (Or.inl ⟨by rfl, ?_⟩) (by assumption) ?_
      rotate_left
      · intro w hSw
        obtain ⟨q1, q2, q3⟩ := hSw
        go_simp
        try with_reducible rfl
      simp only [Act.put, List.setIfInBounds_toArray, List.set_cons_zero, List.set_cons_succ, List.getElem_toArray, List.getElem_cons_zero, List.getElem_cons_succ]
      refine wpAnyH_take (i := 6) (v := ?_) rfl (by kernel_rfl) (by kernel_rfl) (by kernel_rfl) (fun _ _ _ h => h) (Or.inl ⟨by rfl, ?_⟩) (by assumption) ?_
      rotate_left
      · intro w hSw
        try dsimp only at hSw
        go_simp
        try with_reducible rfl
      simp only [Act.put, List.setIfInBounds_toArray, List.set_cons_zero, List.set_cons_succ, List.getElem_toArray, List.getElem_cons_zero, List.getElem_cons_succ]
      refine wpAnyH_take (i := 7) (v := ?_) rfl (by kernel_rfl) (by kernel_rfl) (by kernel_rfl) (fun _ _ _ h => h) (Or.inl ⟨by rfl, ?_⟩) (by assumption) ?_
      rotate_left
      · intro w hSw
        try dsimp only at hSw
        go_simp
        try with_reducible rfl
      simp only [Act.put, List.setIfInBounds_toArray, List.set_cons_zero, List.set_cons_succ, List.getElem_toArray, List.getElem_cons_zero, List.getElem_cons_succ]
      refine wpAnyH_take (i := 8) (v := ?_) rfl (by kernel_rfl) (by kernel_rfl) (by kernel_rfl) (fun _ _ _ h => h) (Or.inl ⟨by rfl, ?_⟩) (by assumption) ?_
      rotate_left
      · intro w hSw
        try dsimp only at hSw
        go_simp
        try with_reducible rfl
      simp only [Act.put, List.setIfInBounds_toArray, List.set_cons_zero, List.set_cons_succ, List.getElem_toArray, List.getElem_cons_zero, List.getElem_cons_succ]
      refine wpAnyH_take (i := 9) (v := ?_) rfl (by kernel_rfl) (by kernel_rfl) (by kernel_rfl) (fun _ _ _ h => h) (Or.inl ⟨by rfl, ?_⟩) (by assumption) ?_
      rotate_left
      · intro w hSw
        try dsimp only at hSw
        go_simp
        try with_reducible rfl
      simp only [Act.put, List.setIfInBounds_toArray, List.set_cons_zero, List.set_cons_succ, List.getElem_toArray, List.getElem_cons_zero, List.getElem_cons_succ]
      refine wpAnyH_take (i := 10) (v := ?_) rfl (by kernel_rfl) (by kernel_rfl) (by kernel_rfl) (fun _ _ _ h => h) (Or.inl ⟨by rfl, ?_⟩) (by assumption) ?_
      rotate_left
      · intro w hSw
        obtain ⟨q1, q2, q3⟩ := hSw
        go_simp
        try with_reducible rfl
      simp only [Act.put, List.setIfInBounds_toArray, List.set_cons_zero, List.set_cons_succ, List.getElem_toArray, List.getElem_cons_zero, List.getElem_cons_succ]
      refine wpAnyH_take (i := 11) (v := ?_) rfl (by kernel_rfl) (by kernel_rfl) (by kernel_rfl) (fun _ _ _ h => h) (Or.inl ⟨by rfl, ?_⟩) (by assumption) ?_
      rotate_left
      · intro w hSw
        try dsimp only at hSw
        go_simp
        try with_reducible rfl
      simp only [Act.put, List.setIfInBounds_toArray, List.set_cons_zero, List.set_cons_succ, List.getElem_toArray, List.getElem_cons_zero, List.getElem_cons_succ]
      refine wpAnyH_take (i := 12) (v := ?_) rfl (by kernel_rfl) (by kernel_rfl) (by kernel_rfl) (fun _ _ _ h => h) (Or.inl ⟨by rfl, ?_⟩) (by assumption) ?_
      rotate_left
      · intro w hSw
        try dsimp only at hSw
        go_simp
        try with_reducible rfl
      simp only [Act.put, List.setIfInBounds_toArray, List.set_cons_zero, List.set_cons_succ, List.getElem_toArray, List.getElem_cons_zero, List.getElem_cons_succ]
      refine wpAnyH_take (i := 13) (v := ?_) rfl (by kernel_rfl) (by kernel_rfl) (by kernel_rfl) (fun _ _ _ h => h) (Or.inl ⟨by rfl, ?_⟩) (by assumption) ?_
      rotate_left
      · intro w hSw
        try dsimp only at hSw
        go_simp
        try with_reducible rfl
      simp only [Act.put, List.setIfInBounds_toArray, List.set_cons_zero, List.set_cons_succ, List.getElem_toArray, List.getElem_cons_zero, List.getElem_cons_succ]
      refine wpAnyH_take (i := 14) (v := ?_) rfl (by kernel_rfl) (by kernel_rfl) (by kernel_rfl) (fun _ _ _ h => h) (Or.inl ⟨by rfl, ?_⟩) (by assumption) ?_
      rotate_left
      · intro w hSw
        try dsimp only at hSw
        go_simp
        try with_reducible rfl
      simp only [Act.put, List.setIfInBounds_toArray, List.set_cons_zero, List.set_cons_succ, List.getElem_toArray, List.getElem_cons_zero, List.getElem_cons_succ]
      refine wpAnyH_take (i := 15) (v := ?_) rfl (by kernel_rfl) (by kernel_rfl) (by kernel_rfl) (fun _ _ _ h => h) (Or.inl ⟨by rfl, ?_⟩) (by assumption) ?_
      rotate_left
      · intro w hSw
        obtain ⟨q1, q2, q3⟩ := hSw
        go_simp
        try with_reducible rfl
      simp only [Act.put, List.setIfInBounds_toArray, List.set_cons_zero, List.set_cons_succ, List.getElem_toArray, List.getElem_cons_zero, List.getElem_cons_succ]
      refine wpAnyH_ready (rs := [16]) (by kernel_rfl) (by simp) ?_
      refine AllReadyH.cons rfl (fun Kc hKc => ?_) AllReadyH.nil
      go_simp
      go_wp2_with (go_at_call 34; refine (put_any _ G C R W _ x y z (HG.out.drewN 1) hu.1 hu.2).mono ?_; rintro e w' ⟨rfl, hg', hgr⟩; have HG1 := Lib.hid hg'; have HGR := Lib.hid hgr; clear hg' hgr)
      refine hKc.out _ _ ?_ (fun hHeld => ?_)
      · first | assumption | exact ⟨HGR.out.cell hHeld.1 (by simpa using hC), HGR.out.cell hHeld.2.1 (by simpa using hC), HGR.out.cell hHeld.2.2 (by simpa using hC)⟩
      clear hKc Kc
      refine wpAnyH_take (i := 17) (v := ?_) rfl (by kernel_rfl) (by kernel_rfl) (by kernel_rfl) (fun _ _ _ h => h) (Or.inl ⟨by rfl, ?_⟩) (by assumption) ?_
      rotate_left
      · intro w hSw
        try dsimp only at hSw
        go_simp
        try with_reducible rfl
      simp only [Act.put, List.setIfInBounds_toArray, List.set_cons_zero, List.set_cons_succ, List.getElem_toArray, List.getElem_cons_zero, List.getElem_cons_succ]
      refine wpAnyH_done (by kernel_rfl) ?_ _
      have HR1 := Lib.hid (((HR.out.drewN 1)).grown HGR.out (fun k e => by cases e; exact HGC.out.2.2.2))
      have HB1 : Hid (Below w.heap.size w w') := Lib.hid (bgr (below_drewN HB.out 1) HGR.out HGC.out.2.1)
      obtain ⟨e1, e2, e3⟩ := hHeld
      have D1 := Lib.hid e1
      have D2 := Lib.hid e2
      have D3 := Lib.hid e3
      clear e1 e2 e3
      go_wp2_with fail
      refine wp_region_held_drew (S := fun w' => w'.cell? ⟨b, off + j * 3, none⟩ = some (.int .i64 x) ∧ w'.cell? ⟨b, off + j * 3 + 1, none⟩ = some (.int .i64 y) ∧ w'.cell? ⟨b, off + j * 3 + 2, none⟩ = some (.int .i64 z)) (by kernel_rfl) (by exact ⟨D1.out, D2.out, D3.out⟩) (fun hHeld => ?_)
      refine wpAnyH_take (i := 0) (v := ?_) rfl (by kernel_rfl) (by kernel_rfl) (by kernel_rfl) (fun _ _ _ h => h) (Or.inl ⟨by rfl, ?_⟩) (by assumption) ?_
      rotate_left
      · intro w hSw
        try dsimp only at hSw
        go_simp
        try with_reducible rfl
      simp only [Act.put, List.setIfInBounds_toArray, List.set_cons_zero, List.set_cons_succ, List.getElem_toArray, List.getElem_cons_zero, List.getElem_cons_succ]
      refine wpAnyH_take (i := 1) (v := ?_) rfl (by kernel_rfl) (by kernel_rfl) (by kernel_rfl) (fun _ _ _ h => h) (Or.inl ⟨by rfl, ?_⟩) (by assumption) ?_
      rotate_left
      · intro w hSw
        try dsimp only at hSw
        go_simp
        try with_reducible rfl
      simp only [Act.put, List.setIfInBounds_toArray, List.set_cons_zero, List.set_cons_succ, List.getElem_toArray, List.getElem_cons_zero, List.getElem_cons_succ]
      refine wpAnyH_take (i := 2) (v := ?_) rfl (by kernel_rfl) (by kernel_rfl) (by kernel_rfl) (fun _ _ _ h => h) (Or.inl ⟨by rfl, ?_⟩) (by assumption) ?_
      rotate_left
      · intro w hSw
        try dsimp only at hSw
        go_simp
        try with_reducible rfl
      simp only [Act.put, List.setIfInBounds_toArray, List.set_cons_zero, List.set_cons_succ, List.getElem_toArray, List.getElem_cons_zero, List.getElem_cons_succ]
      refine wpAnyH_take (i := 3) (v := ?_) rfl (by kernel_rfl) (by kernel_rfl) (by kernel_rfl) (fun _ _ _ h => h) (Or.inl ⟨by rfl, ?_⟩) (by assumption) ?_
      rotate_left
      · intro w hSw
        try dsimp only at hSw
        go_simp
        try with_reducible rfl
      simp only [Act.put, List.setIfInBounds_toArray, List.set_cons_zero, List.set_cons_succ, List.getElem_toArray, List.getElem_cons_zero, List.getElem_cons_succ]
      refine wpAnyH_take (i := 4) (v := ?_) rfl (by kernel_rfl) (by kernel_rfl) (by kernel_rfl) (fun _ _ _ h => h) (Or.inl ⟨by rfl, ?_⟩) (by assumption) ?_
      rotate_left
      · intro w hSw
        try dsimp only at hSw
        go_simp
        try with_reducible rfl
      simp only [Act.put, List.setIfInBounds_toArray, List.set_cons_zero, List.set_cons_succ, List.getElem_toArray, List.getElem_cons_zero, List.getElem_cons_succ]
      refine wpAnyH_take (i := 5) (v := ?_) rfl (by kernel_rfl) (by kernel_rfl) (by kernel_rfl) (fun _ _ _ h => h) (Or.inl ⟨by rfl, ?_⟩) (by assumption) ?_
      rotate_left
      · intro w hSw
        try dsimp only at hSw
        go_simp
        try with_reducible rfl
      simp only [Act.put, List.setIfInBounds_toArray, List.set_cons_zero, List.set_cons_succ, List.getElem_toArray, List.getElem_cons_zero, List.getElem_cons_succ]
      refine wpAnyH_take (i := 6) (v := ?_) rfl (by kernel_rfl) (by kernel_rfl) (by kernel_rfl) (fun _ _ _ h => h) (Or.inl ⟨by rfl, ?_⟩) (by assumption) ?_
      rotate_left
      · intro w hSw
        obtain ⟨q1, q2, q3⟩ := hSw
        go_simp
        try with_reducible rfl
      simp only [Act.put, List.setIfInBounds_toArray, List.set_cons_zero, List.set_cons_succ, List.getElem_toArray, List.getElem_cons_zero, List.getElem_cons_succ]
      refine wpAnyH_take (i := 7) (v := ?_) rfl (by kernel_rfl) (by kernel_rfl) (by kernel_rfl) (fun _ _ _ h => h) (Or.inl ⟨by rfl, ?_⟩) (by assumption) ?_
      rotate_left
      · intro w hSw
        try dsimp only at hSw
        go_simp
        try with_reducible rfl
      simp only [Act.put, List.setIfInBounds_toArray, List.set_cons_zero, List.set_cons_succ, List.getElem_toArray, List.getElem_cons_zero, List.getElem_cons_succ]
      refine wpAnyH_take (i := 8) (v := ?_) rfl (by kernel_rfl) (by kernel_rfl) (by kernel_rfl) (fun _ _ _ h => h) (Or.inl ⟨by rfl, ?_⟩) (by assumption) ?_
      rotate_left
      · intro w hSw
        try dsimp only at hSw
        go_simp
        try with_reducible rfl
      simp only [Act.put, List.setIfInBounds_toArray, List.set_cons_zero, List.set_cons_succ, List.getElem_toArray, List.getElem_cons_zero, List.getElem_cons_succ]
      refine wpAnyH_take (i := 9) (v := ?_) rfl (by kernel_rfl) (by kernel_rfl) (by kernel_rfl) (fun _ _ _ h => h) (Or.inl ⟨by rfl, ?_⟩) (by assumption) ?_
      rotate_left
      · intro w hSw
        try dsimp only at hSw
        go_simp
        try with_reducible rfl
      simp only [Act.put, List.setIfInBounds_toArray, List.set_cons_zero, List.set_cons_succ, List.getElem_toArray, List.getElem_cons_zero, List.getElem_cons_succ]
      refine wpAnyH_take (i := 10) (v := ?_) rfl (by kernel_rfl) (by kernel_rfl) (by kernel_rfl) (fun _ _ _ h => h) (Or.inl ⟨by rfl, ?_⟩) (by assumption) ?_
      rotate_left
      · intro w hSw
        try dsimp only at hSw
        go_simp
        try with_reducible rfl
      simp only [Act.put, List.setIfInBounds_toArray, List.set_cons_zero, List.set_cons_succ, List.getElem_toArray, List.getElem_cons_zero, List.getElem_cons_succ]
      refine wpAnyH_take (i := 11) (v := ?_) rfl (by kernel_rfl) (by kernel_rfl) (by kernel_rfl) (fun _ _ _ h => h) (Or.inl ⟨by rfl, ?_⟩) (by assumption) ?_
      rotate_left
      · intro w hSw
        obtain ⟨q1, q2, q3⟩ := hSw
        go_simp
        try with_reducible rfl
      simp only [Act.put, List.setIfInBounds_toArray, List.set_cons_zero, List.set_cons_succ, List.getElem_toArray, List.getElem_cons_zero, List.getElem_cons_succ]
      refine wpAnyH_ready (rs := [12]) (by kernel_rfl) (by simp) ?_
      refine AllReadyH.cons rfl (fun Kc hKc => ?_) AllReadyH.nil
      go_simp
      go_wp2_with (first | (go_at_call 35; refine (rat_any _ N H v B K R W _ x y (HR1.out.drewN 1)).mono ?_; rintro e wa ⟨rfl, hwa⟩; subst hwa) | (go_at_call 36; refine (rput_any _ N H v B K R W _ x y z (HR1.out.drewN 1)).mono ?_; rintro e w9 ⟨rfl, hr', hbN'⟩; have HR9 := Lib.hid hr'; have HB9 := Lib.hid hbN'; have HG9 : Hid (GridIs w9 G C R W _) := Lib.hid ((HG1.out.drewN 1).below hbN' HGC.out.2.2.1 HGC.out.2.2.2); clear hr' hbN') | (go_at_call 33; refine (at_any _ G C R W _ x y HG9.out).mono ?_; rintro e wa ⟨rfl, hwa⟩; subst hwa) | (go_at_call 35; refine (rat_any _ N H v B K R W _ x y HR9.out).mono ?_; rintro e wa ⟨rfl, hwa⟩; subst hwa))
      refine hKc.out _ _ ?_ (fun hHeld => ?_)
      · first | assumption | exact ⟨(HB9.out.cell (p := ⟨b, off + j * 3, none⟩) hbN).trans hHeld.1, (HB9.out.cell (p := ⟨b, off + j * 3 + 1, none⟩) hbN).trans hHeld.2.1, (HB9.out.cell (p := ⟨b, off + j * 3 + 2, none⟩) hbN).trans hHeld.2.2⟩
      clear hKc Kc
      refine wpAnyH_take (i := 13) (v := ?_) rfl (by kernel_rfl) (by kernel_rfl) (by kernel_rfl) (fun _ _ _ h => h) (Or.inl ⟨by rfl, ?_⟩) (by assumption) ?_
      rotate_left
      · intro w hSw
        try dsimp only at hSw
        go_simp
        try with_reducible rfl
      simp only [Act.put, List.setIfInBounds_toArray, List.set_cons_zero, List.set_cons_succ, List.getElem_toArray, List.getElem_cons_zero, List.getElem_cons_succ]
      refine wpAnyH_take (i := 14) (v := ?_) rfl (by kernel_rfl) (by kernel_rfl) (by kernel_rfl) (fun _ _ _ h => h) (Or.inl ⟨by rfl, ?_⟩) (by assumption) ?_
      rotate_left
      · intro w hSw
        try dsimp only at hSw
        go_simp
        try with_reducible rfl
      simp only [Act.put, List.setIfInBounds_toArray, List.set_cons_zero, List.set_cons_succ, List.getElem_toArray, List.getElem_cons_zero, List.getElem_cons_succ]
      refine wpAnyH_take (i := 15) (v := ?_) rfl (by kernel_rfl) (by kernel_rfl) (by kernel_rfl) (fun _ _ _ h => h) (Or.inl ⟨by rfl, ?_⟩) (by assumption) ?_
      rotate_left
      · intro w hSw
        try dsimp only at hSw
        go_simp
        try with_reducible rfl
      simp only [Act.put, List.setIfInBounds_toArray, List.set_cons_zero, List.set_cons_succ, List.getElem_toArray, List.getElem_cons_zero, List.getElem_cons_succ]
      refine wpAnyH_take (i := 16) (v := ?_) rfl (by kernel_rfl) (by kernel_rfl) (by kernel_rfl) (fun _ _ _ h => h) (Or.inl ⟨by rfl, ?_⟩) (by assumption) ?_
      rotate_left
      · intro w hSw
        try dsimp only at hSw
        go_simp
        try with_reducible rfl
      simp only [Act.put, List.setIfInBounds_toArray, List.set_cons_zero, List.set_cons_succ, List.getElem_toArray, List.getElem_cons_zero, List.getElem_cons_succ]
      refine wpAnyH_take (i := 17) (v := ?_) rfl (by kernel_rfl) (by kernel_rfl) (by kernel_rfl) (fun _ _ _ h => h) (Or.inl ⟨by rfl, ?_⟩) (by assumption) ?_
      rotate_left
      · intro w hSw
        try dsimp only at hSw
        go_simp
        try with_reducible rfl
      simp only [Act.put, List.setIfInBounds_toArray, List.set_cons_zero, List.set_cons_succ, List.getElem_toArray, List.getElem_cons_zero, List.getElem_cons_succ]
      refine wpAnyH_take (i := 18) (v := ?_) rfl (by kernel_rfl) (by kernel_rfl) (by kernel_rfl) (fun _ _ _ h => h) (Or.inl ⟨by rfl, ?_⟩) (by assumption) ?_
      rotate_left
      · intro w hSw
        try dsimp only at hSw
        go_simp
        try with_reducible rfl
      simp only [Act.put, List.setIfInBounds_toArray, List.set_cons_zero, List.set_cons_succ, List.getElem_toArray, List.getElem_cons_zero, List.getElem_cons_succ]
      refine wpAnyH_take (i := 19) (v := ?_) rfl (by kernel_rfl) (by kernel_rfl) (by kernel_rfl) (fun _ _ _ h => h) (Or.inl ⟨by rfl, ?_⟩) (by assumption) ?_
      rotate_left
      · intro w hSw
        try dsimp only at hSw
        go_simp
        try with_reducible rfl
      simp only [Act.put, List.setIfInBounds_toArray, List.set_cons_zero, List.set_cons_succ, List.getElem_toArray, List.getElem_cons_zero, List.getElem_cons_succ]
      refine wpAnyH_take (i := 20) (v := ?_) rfl (by kernel_rfl) (by kernel_rfl) (by kernel_rfl) (fun _ _ _ h => h) (Or.inl ⟨by rfl, ?_⟩) (by assumption) ?_
      rotate_left
      · intro w hSw
        try dsimp only at hSw
        go_simp
        try with_reducible rfl
      simp only [Act.put, List.setIfInBounds_toArray, List.set_cons_zero, List.set_cons_succ, List.getElem_toArray, List.getElem_cons_zero, List.getElem_cons_succ]
      refine wpAnyH_take (i := 21) (v := ?_) rfl (by kernel_rfl) (by kernel_rfl) (by kernel_rfl) (fun _ _ _ h => h) (Or.inl ⟨by rfl, ?_⟩) (by assumption) ?_
      rotate_left
      · intro w hSw
        obtain ⟨q1, q2, q3⟩ := hSw
        go_simp
        try with_reducible rfl
      simp only [Act.put, List.setIfInBounds_toArray, List.set_cons_zero, List.set_cons_succ, List.getElem_toArray, List.getElem_cons_zero, List.getElem_cons_succ]
      refine wpAnyH_take (i := 22) (v := ?_) rfl (by kernel_rfl) (by kernel_rfl) (by kernel_rfl) (fun _ _ _ h => h) (Or.inl ⟨by rfl, ?_⟩) (by assumption) ?_
      rotate_left
      · intro w hSw
        try dsimp only at hSw
        go_simp
        try with_reducible rfl
      simp only [Act.put, List.setIfInBounds_toArray, List.set_cons_zero, List.set_cons_succ, List.getElem_toArray, List.getElem_cons_zero, List.getElem_cons_succ]
      refine wpAnyH_take (i := 23) (v := ?_) rfl (by kernel_rfl) (by kernel_rfl) (by kernel_rfl) (fun _ _ _ h => h) (Or.inl ⟨by rfl, ?_⟩) (by assumption) ?_
      rotate_left
      · intro w hSw
        try dsimp only at hSw
        go_simp
        try with_reducible rfl
      simp only [Act.put, List.setIfInBounds_toArray, List.set_cons_zero, List.set_cons_succ, List.getElem_toArray, List.getElem_cons_zero, List.getElem_cons_succ]
      refine wpAnyH_take (i := 24) (v := ?_) rfl (by kernel_rfl) (by kernel_rfl) (by kernel_rfl) (fun _ _ _ h => h) (Or.inl ⟨by rfl, ?_⟩) (by assumption) ?_
      rotate_left
      · intro w hSw
        try dsimp only at hSw
        go_simp
        try with_reducible rfl
      simp only [Act.put, List.setIfInBounds_toArray, List.set_cons_zero, List.set_cons_succ, List.getElem_toArray, List.getElem_cons_zero, List.getElem_cons_succ]
      refine wpAnyH_take (i := 25) (v := ?_) rfl (by kernel_rfl) (by kernel_rfl) (by kernel_rfl) (fun _ _ _ h => h) (Or.inl ⟨by rfl, ?_⟩) (by assumption) ?_
      rotate_left
      · intro w hSw
        try dsimp only at hSw
        go_simp
        try with_reducible rfl
      simp only [Act.put, List.setIfInBounds_toArray, List.set_cons_zero, List.set_cons_succ, List.getElem_toArray, List.getElem_cons_zero, List.getElem_cons_succ]
      refine wpAnyH_take (i := 26) (v := ?_) rfl (by kernel_rfl) (by kernel_rfl) (by kernel_rfl) (fun _ _ _ h => h) (Or.inl ⟨by rfl, ?_⟩) (by assumption) ?_
      rotate_left
      · intro w hSw
        obtain ⟨q1, q2, q3⟩ := hSw
        go_simp
        try with_reducible rfl
      simp only [Act.put, List.setIfInBounds_toArray, List.set_cons_zero, List.set_cons_succ, List.getElem_toArray, List.getElem_cons_zero, List.getElem_cons_succ]
      refine wpAnyH_take (i := 27) (v := ?_) rfl (by kernel_rfl) (by kernel_rfl) (by kernel_rfl) (fun _ _ _ h => h) (Or.inl ⟨by rfl, ?_⟩) (by assumption) ?_
      rotate_left
      · intro w hSw
        try dsimp only at hSw
        go_simp
        try with_reducible rfl
      simp only [Act.put, List.setIfInBounds_toArray, List.set_cons_zero, List.set_cons_succ, List.getElem_toArray, List.getElem_cons_zero, List.getElem_cons_succ]
      refine wpAnyH_take (i := 28) (v := ?_) rfl (by kernel_rfl) (by kernel_rfl) (by kernel_rfl) (fun _ _ _ h => h) (Or.inl ⟨by rfl, ?_⟩) (by assumption) ?_
      rotate_left
      · intro w hSw
        try dsimp only at hSw
        go_simp
        try with_reducible rfl
      simp only [Act.put, List.setIfInBounds_toArray, List.set_cons_zero, List.set_cons_succ, List.getElem_toArray, List.getElem_cons_zero, List.getElem_cons_succ]
      refine wpAnyH_take (i := 29) (v := ?_) rfl (by kernel_rfl) (by kernel_rfl) (by kernel_rfl) (fun _ _ _ h => h) (Or.inl ⟨by rfl, ?_⟩) (by assumption) ?_
      rotate_left
      · intro w hSw
        try dsimp only at hSw
        go_simp
        try with_reducible rfl
      simp only [Act.put, List.setIfInBounds_toArray, List.set_cons_zero, List.set_cons_succ, List.getElem_toArray, List.getElem_cons_zero, List.getElem_cons_succ]
      refine wpAnyH_take (i := 30) (v := ?_) rfl (by kernel_rfl) (by kernel_rfl) (by kernel_rfl) (fun _ _ _ h => h) (Or.inl ⟨by rfl, ?_⟩) (by assumption) ?_
      rotate_left
      · intro w hSw
        try dsimp only at hSw
        go_simp
        try with_reducible rfl
      simp only [Act.put, List.setIfInBounds_toArray, List.set_cons_zero, List.set_cons_succ, List.getElem_toArray, List.getElem_cons_zero, List.getElem_cons_succ]
      refine wpAnyH_take (i := 31) (v := ?_) rfl (by kernel_rfl) (by kernel_rfl) (by kernel_rfl) (fun _ _ _ h => h) (Or.inl ⟨by rfl, ?_⟩) (by assumption) ?_
      rotate_left
      · intro w hSw
        obtain ⟨q1, q2, q3⟩ := hSw
        go_simp
        try with_reducible rfl
      simp only [Act.put, List.setIfInBounds_toArray, List.set_cons_zero, List.set_cons_succ, List.getElem_toArray, List.getElem_cons_zero, List.getElem_cons_succ]
      refine wpAnyH_ready (rs := [32]) (by kernel_rfl) (by simp) ?_
      refine AllReadyH.cons rfl (fun Kc hKc => ?_) AllReadyH.nil
      go_simp
      go_wp2_with (first | (go_at_call 35; refine (rat_any _ N H v B K R W _ x y (HR1.out.drewN 1)).mono ?_; rintro e wa ⟨rfl, hwa⟩; subst hwa) | (go_at_call 36; refine (rput_any _ N H v B K R W _ x y z (HR1.out.drewN 1)).mono ?_; rintro e w9 ⟨rfl, hr', hbN'⟩; have HR9 := Lib.hid hr'; have HB9 := Lib.hid hbN'; have HG9 : Hid (GridIs w9 G C R W _) := Lib.hid ((HG1.out.drewN 1).below hbN' HGC.out.2.2.1 HGC.out.2.2.2); clear hr' hbN') | (go_at_call 33; refine (at_any _ G C R W _ x y HG9.out).mono ?_; rintro e wa ⟨rfl, hwa⟩; subst hwa) | (go_at_call 35; refine (rat_any _ N H v B K R W _ x y HR9.out).mono ?_; rintro e wa ⟨rfl, hwa⟩; subst hwa))
      refine hKc.out _ _ ?_ (fun hHeld => ?_)
      · first | assumption | exact ⟨(HB9.out.cell (p := ⟨b, off + j * 3, none⟩) hbN).trans hHeld.1, (HB9.out.cell (p := ⟨b, off + j * 3 + 1, none⟩) hbN).trans hHeld.2.1, (HB9.out.cell (p := ⟨b, off + j * 3 + 2, none⟩) hbN).trans hHeld.2.2⟩
      clear hKc Kc
      refine wpAnyH_take (i := 33) (v := ?_) rfl (by kernel_rfl) (by kernel_rfl) (by kernel_rfl) (fun _ _ _ h => h) (Or.inl ⟨by rfl, ?_⟩) (by assumption) ?_
      rotate_left
      · intro w hSw
        try dsimp only at hSw
        go_simp
        try with_reducible rfl
      simp only [Act.put, List.setIfInBounds_toArray, List.set_cons_zero, List.set_cons_succ, List.getElem_toArray, List.getElem_cons_zero, List.getElem_cons_succ]
      refine wpAnyH_take (i := 34) (v := ?_) rfl (by kernel_rfl) (by kernel_rfl) (by kernel_rfl) (fun _ _ _ h => h) (Or.inl ⟨by rfl, ?_⟩) (by assumption) ?_
      rotate_left
      · intro w hSw
        try dsimp only at hSw
        go_simp
        try with_reducible rfl
      simp only [Act.put, List.setIfInBounds_toArray, List.set_cons_zero, List.set_cons_succ, List.getElem_toArray, List.getElem_cons_zero, List.getElem_cons_succ]
      refine wpAnyH_take (i := 35) (v := ?_) rfl (by kernel_rfl) (by kernel_rfl) (by kernel_rfl) (fun _ _ _ h => h) (Or.inl ⟨by rfl, ?_⟩) (by assumption) ?_
      rotate_left
      · intro w hSw
        try dsimp only at hSw
        go_simp
        try with_reducible rfl
      simp only [Act.put, List.setIfInBounds_toArray, List.set_cons_zero, List.set_cons_succ, List.getElem_toArray, List.getElem_cons_zero, List.getElem_cons_succ]
      refine wpAnyH_take (i := 36) (v := ?_) rfl (by kernel_rfl) (by kernel_rfl) (by kernel_rfl) (fun _ _ _ h => h) (Or.inl ⟨by rfl, ?_⟩) (by assumption) ?_
      rotate_left
      · intro w hSw
        try dsimp only at hSw
        go_simp
        try with_reducible rfl
      simp only [Act.put, List.setIfInBounds_toArray, List.set_cons_zero, List.set_cons_succ, List.getElem_toArray, List.getElem_cons_zero, List.getElem_cons_succ]
      refine wpAnyH_take (i := 37) (v := ?_) rfl (by kernel_rfl) (by kernel_rfl) (by kernel_rfl) (fun _ _ _ h => h) (Or.inl ⟨by rfl, ?_⟩) (by assumption) ?_
      rotate_left
      · intro w hSw
        try dsimp only at hSw
        go_simp
        try with_reducible rfl
      simp only [Act.put, List.setIfInBounds_toArray, List.set_cons_zero, List.set_cons_succ, List.getElem_toArray, List.getElem_cons_zero, List.getElem_cons_succ]
      refine wpAnyH_take (i := 38) (v := ?_) rfl (by kernel_rfl) (by kernel_rfl) (by kernel_rfl) (fun _ _ _ h => h) (Or.inl ⟨by rfl, ?_⟩) (by assumption) ?_
      rotate_left
      · intro w hSw
        try dsimp only at hSw
        go_simp
        try with_reducible rfl
      simp only [Act.put, List.setIfInBounds_toArray, List.set_cons_zero, List.set_cons_succ, List.getElem_toArray, List.getElem_cons_zero, List.getElem_cons_succ]
      refine wpAnyH_take (i := 39) (v := ?_) rfl (by kernel_rfl) (by kernel_rfl) (by kernel_rfl) (fun _ _ _ h => h) (Or.inl ⟨by rfl, ?_⟩) (by assumption) ?_
      rotate_left
      · intro w hSw
        try dsimp only at hSw
        go_simp
        try with_reducible rfl
      simp only [Act.put, List.setIfInBounds_toArray, List.set_cons_zero, List.set_cons_succ, List.getElem_toArray, List.getElem_cons_zero, List.getElem_cons_succ]
      refine wpAnyH_take (i := 40) (v := ?_) rfl (by kernel_rfl) (by kernel_rfl) (by kernel_rfl) (fun _ _ _ h => h) (Or.inl ⟨by rfl, ?_⟩) (by assumption) ?_
      rotate_left
      · intro w hSw
        try dsimp only at hSw
        go_simp
        try with_reducible rfl
      simp only [Act.put, List.setIfInBounds_toArray, List.set_cons_zero, List.set_cons_succ, List.getElem_toArray, List.getElem_cons_zero, List.getElem_cons_succ]
      refine wpAnyH_take (i := 41) (v := ?_) rfl (by kernel_rfl) (by kernel_rfl) (by kernel_rfl) (fun _ _ _ h => h) (Or.inl ⟨by rfl, ?_⟩) (by assumption) ?_
      rotate_left
      · intro w hSw
        obtain ⟨q1, q2, q3⟩ := hSw
        go_simp
        try with_reducible rfl
      simp only [Act.put, List.setIfInBounds_toArray, List.set_cons_zero, List.set_cons_succ, List.getElem_toArray, List.getElem_cons_zero, List.getElem_cons_succ]
      refine wpAnyH_take (i := 42) (v := ?_) rfl (by kernel_rfl) (by kernel_rfl) (by kernel_rfl) (fun _ _ _ h => h) (Or.inl ⟨by rfl, ?_⟩) (by assumption) ?_
      rotate_left
      · intro w hSw
        try dsimp only at hSw
        go_simp
        try with_reducible rfl
      simp only [Act.put, List.setIfInBounds_toArray, List.set_cons_zero, List.set_cons_succ, List.getElem_toArray, List.getElem_cons_zero, List.getElem_cons_succ]
      refine wpAnyH_take (i := 43) (v := ?_) rfl (by kernel_rfl) (by kernel_rfl) (by kernel_rfl) (fun _ _ _ h => h) (Or.inl ⟨by rfl, ?_⟩) (by assumption) ?_
      rotate_left
      · intro w hSw
        try dsimp only at hSw
        go_simp
        try with_reducible rfl
      simp only [Act.put, List.setIfInBounds_toArray, List.set_cons_zero, List.set_cons_succ, List.getElem_toArray, List.getElem_cons_zero, List.getElem_cons_succ]
      refine wpAnyH_take (i := 44) (v := ?_) rfl (by kernel_rfl) (by kernel_rfl) (by kernel_rfl) (fun _ _ _ h => h) (Or.inl ⟨by rfl, ?_⟩) (by assumption) ?_
      rotate_left
      · intro w hSw
        try dsimp only at hSw
        go_simp
        try with_reducible rfl
      simp only [Act.put, List.setIfInBounds_toArray, List.set_cons_zero, List.set_cons_succ, List.getElem_toArray, List.getElem_cons_zero, List.getElem_cons_succ]
      refine wpAnyH_take (i := 45) (v := ?_) rfl (by kernel_rfl) (by kernel_rfl) (by kernel_rfl) (fun _ _ _ h => h) (Or.inl ⟨by rfl, ?_⟩) (by assumption) ?_
      rotate_left
      · intro w hSw
        try dsimp only at hSw
        go_simp
        try with_reducible rfl
      simp only [Act.put, List.setIfInBounds_toArray, List.set_cons_zero, List.set_cons_succ, List.getElem_toArray, List.getElem_cons_zero, List.getElem_cons_succ]
      refine wpAnyH_take (i := 46) (v := ?_) rfl (by kernel_rfl) (by kernel_rfl) (by kernel_rfl) (fun _ _ _ h => h) (Or.inl ⟨by rfl, ?_⟩) (by assumption) ?_
      rotate_left
      · intro w hSw
        obtain ⟨q1, q2, q3⟩ := hSw
        go_simp
        try with_reducible rfl
      simp only [Act.put, List.setIfInBounds_toArray, List.set_cons_zero, List.set_cons_succ, List.getElem_toArray, List.getElem_cons_zero, List.getElem_cons_succ]
      refine wpAnyH_take (i := 48) (v := ?_) rfl (by kernel_rfl) (by kernel_rfl) (by kernel_rfl) (fun _ _ _ h => h) (Or.inl ⟨by rfl, ?_⟩) (by assumption) ?_
      rotate_left
      · intro w hSw
        try dsimp only at hSw
        go_simp
        try with_reducible rfl
      simp only [Act.put, List.setIfInBounds_toArray, List.set_cons_zero, List.set_cons_succ, List.getElem_toArray, List.getElem_cons_zero, List.getElem_cons_succ]
      refine wpAnyH_take (i := 49) (v := ?_) rfl (by kernel_rfl) (by kernel_rfl) (by kernel_rfl) (fun _ _ _ h => h) (Or.inl ⟨by rfl, ?_⟩) (by assumption) ?_
      rotate_left
      · intro w hSw
        try dsimp only at hSw
        go_simp
        try with_reducible rfl
      simp only [Act.put, List.setIfInBounds_toArray, List.set_cons_zero, List.set_cons_succ, List.getElem_toArray, List.getElem_cons_zero, List.getElem_cons_succ]
      refine wpAnyH_take (i := 50) (v := ?_) rfl (by kernel_rfl) (by kernel_rfl) (by kernel_rfl) (fun _ _ _ h => h) (Or.inl ⟨by rfl, ?_⟩) (by assumption) ?_
      rotate_left
      · intro w hSw
        try dsimp only at hSw
        go_simp
        try with_reducible rfl
      simp only [Act.put, List.setIfInBounds_toArray, List.set_cons_zero, List.set_cons_succ, List.getElem_toArray, List.getElem_cons_zero, List.getElem_cons_succ]
      refine wpAnyH_take (i := 51) (v := ?_) rfl (by kernel_rfl) (by kernel_rfl) (by kernel_rfl) (fun _ _ _ h => h) (Or.inl ⟨by rfl, ?_⟩) (by assumption) ?_
      rotate_left
      · intro w hSw
        try dsimp only at hSw
        go_simp
        try with_reducible rfl
      simp only [Act.put, List.setIfInBounds_toArray, List.set_cons_zero, List.set_cons_succ, List.getElem_toArray, List.getElem_cons_zero, List.getElem_cons_succ]
      refine wpAnyH_take (i := 52) (v := ?_) rfl (by kernel_rfl) (by kernel_rfl) (by kernel_rfl) (fun _ _ _ h => h) (Or.inl ⟨by rfl, ?_⟩) (by assumption) ?_
      rotate_left
      · intro w hSw
        try dsimp only at hSw
        go_simp
        try with_reducible rfl
      simp only [Act.put, List.setIfInBounds_toArray, List.set_cons_zero, List.set_cons_succ, List.getElem_toArray, List.getElem_cons_zero, List.getElem_cons_succ]
      refine wpAnyH_take (i := 53) (v := ?_) rfl (by kernel_rfl) (by kernel_rfl) (by kernel_rfl) (fun _ _ _ h => h) (Or.inl ⟨by rfl, ?_⟩) (by assumption) ?_
      rotate_left
      · intro w hSw
        obtain ⟨q1, q2, q3⟩ := hSw
        go_simp
        try with_reducible rfl
      simp only [Act.put, List.setIfInBounds_toArray, List.set_cons_zero, List.set_cons_succ, List.getElem_toArray, List.getElem_cons_zero, List.getElem_cons_succ]
      refine wpAnyH_take (i := 54) (v := ?_) rfl (by kernel_rfl) (by kernel_rfl) (by kernel_rfl) (fun _ _ _ h => h) (Or.inl ⟨by rfl, ?_⟩) (by assumption) ?_
      rotate_left
      · intro w hSw
        try dsimp only at hSw
        go_simp
        try with_reducible rfl
      simp only [Act.put, List.setIfInBounds_toArray, List.set_cons_zero, List.set_cons_succ, List.getElem_toArray, List.getElem_cons_zero, List.getElem_cons_succ]
      refine wpAnyH_take (i := 55) (v := ?_) rfl (by kernel_rfl) (by kernel_rfl) (by kernel_rfl) (fun _ _ _ h => h) (Or.inl ⟨by rfl, ?_⟩) (by assumption) ?_
      rotate_left
      · intro w hSw
        try dsimp only at hSw
        go_simp
        try with_reducible rfl
      simp only [Act.put, List.setIfInBounds_toArray, List.set_cons_zero, List.set_cons_succ, List.getElem_toArray, List.getElem_cons_zero, List.getElem_cons_succ]
      refine wpAnyH_take (i := 56) (v := ?_) rfl (by kernel_rfl) (by kernel_rfl) (by kernel_rfl) (fun _ _ _ h => h) (Or.inl ⟨by rfl, ?_⟩) (by assumption) ?_
      rotate_left
      · intro w hSw
        try dsimp only at hSw
        go_simp
        try with_reducible rfl
      simp only [Act.put, List.setIfInBounds_toArray, List.set_cons_zero, List.set_cons_succ, List.getElem_toArray, List.getElem_cons_zero, List.getElem_cons_succ]
      refine wpAnyH_take (i := 57) (v := ?_) rfl (by kernel_rfl) (by kernel_rfl) (by kernel_rfl) (fun _ _ _ h => h) (Or.inl ⟨by rfl, ?_⟩) (by assumption) ?_
      rotate_left
      · intro w hSw
        try dsimp only at hSw
        go_simp
        try with_reducible rfl
      simp only [Act.put, List.setIfInBounds_toArray, List.set_cons_zero, List.set_cons_succ, List.getElem_toArray, List.getElem_cons_zero, List.getElem_cons_succ]
      refine wpAnyH_take (i := 58) (v := ?_) rfl (by kernel_rfl) (by kernel_rfl) (by kernel_rfl) (fun _ _ _ h => h) (Or.inl ⟨by rfl, ?_⟩) (by assumption) ?_
      rotate_left
      · intro w hSw
        obtain ⟨q1, q2, q3⟩ := hSw
        go_simp
        try with_reducible rfl
      simp only [Act.put, List.setIfInBounds_toArray, List.set_cons_zero, List.set_cons_succ, List.getElem_toArray, List.getElem_cons_zero, List.getElem_cons_succ]
      refine wpAnyH_ready (rs := [47]) (by kernel_rfl) (by simp) ?_
      refine AllReadyH.cons rfl (fun Kc hKc => ?_) AllReadyH.nil
      go_simp
      go_wp2_with (first | (go_at_call 35; refine (rat_any _ N H v B K R W _ x y (HR1.out.drewN 1)).mono ?_; rintro e wa ⟨rfl, hwa⟩; subst hwa) | (go_at_call 36; refine (rput_any _ N H v B K R W _ x y z (HR1.out.drewN 1)).mono ?_; rintro e w9 ⟨rfl, hr', hbN'⟩; have HR9 := Lib.hid hr'; have HB9 := Lib.hid hbN'; have HG9 : Hid (GridIs w9 G C R W _) := Lib.hid ((HG1.out.drewN 1).below hbN' HGC.out.2.2.1 HGC.out.2.2.2); clear hr' hbN') | (go_at_call 33; refine (at_any _ G C R W _ x y HG9.out).mono ?_; rintro e wa ⟨rfl, hwa⟩; subst hwa) | (go_at_call 35; refine (rat_any _ N H v B K R W _ x y HR9.out).mono ?_; rintro e wa ⟨rfl, hwa⟩; subst hwa))
      refine hKc.out _ _ ?_ (fun hHeld => ?_)
      · first | assumption | exact ⟨(HB9.out.cell (p := ⟨b, off + j * 3, none⟩) hbN).trans hHeld.1, (HB9.out.cell (p := ⟨b, off + j * 3 + 1, none⟩) hbN).trans hHeld.2.1, (HB9.out.cell (p := ⟨b, off + j * 3 + 2, none⟩) hbN).trans hHeld.2.2⟩
      clear hKc Kc
      refine wpAnyH_ready (rs := [59]) (by kernel_rfl) (by simp) ?_
      refine AllReadyH.cons rfl (fun Kc hKc => ?_) AllReadyH.nil
      go_simp
      go_wp2_with (first | (go_at_call 35; refine (rat_any _ N H v B K R W _ x y (HR1.out.drewN 1)).mono ?_; rintro e wa ⟨rfl, hwa⟩; subst hwa) | (go_at_call 36; refine (rput_any _ N H v B K R W _ x y z (HR1.out.drewN 1)).mono ?_; rintro e w9 ⟨rfl, hr', hbN'⟩; have HR9 := Lib.hid hr'; have HB9 := Lib.hid hbN'; have HG9 : Hid (GridIs w9 G C R W _) := Lib.hid ((HG1.out.drewN 1).below hbN' HGC.out.2.2.1 HGC.out.2.2.2); clear hr' hbN') | (go_at_call 33; refine (at_any _ G C R W _ x y HG9.out).mono ?_; rintro e wa ⟨rfl, hwa⟩; subst hwa) | (go_at_call 35; refine (rat_any _ N H v B K R W _ x y HR9.out).mono ?_; rintro e wa ⟨rfl, hwa⟩; subst hwa))
      refine hKc.out _ _ ?_ (fun hHeld => ?_)
      · first | assumption | exact ⟨(HB9.out.cell (p := ⟨b, off + j * 3, none⟩) hbN).trans hHeld.1, (HB9.out.cell (p := ⟨b, off + j * 3 + 1, none⟩) hbN).trans hHeld.2.1, (HB9.out.cell (p := ⟨b, off + j * 3 + 2, none⟩) hbN).trans hHeld.2.2⟩
      clear hKc Kc
      refine wpAnyH_take (i := 60) (v := ?_) rfl (by kernel_rfl) (by kernel_rfl) (by kernel_rfl) (fun _ _ _ h => h) (Or.inl ⟨by rfl, ?_⟩) (by assumption) ?_
      rotate_left
      · intro w hSw
        try dsimp only at hSw
        go_simp
        try with_reducible rfl
      simp only [Act.put, List.setIfInBounds_toArray, List.set_cons_zero, List.set_cons_succ, List.getElem_toArray, List.getElem_cons_zero, List.getElem_cons_succ]
      refine wpAnyH_take (i := 61) (v := ?_) rfl (by kernel_rfl) (by kernel_rfl) (by kernel_rfl) (fun _ _ _ h => h) (Or.inl ⟨by rfl, ?_⟩) (by assumption) ?_
      rotate_left
      · intro w hSw
        try dsimp only at hSw
        go_simp
        try with_reducible rfl
      simp only [Act.put, List.setIfInBounds_toArray, List.set_cons_zero, List.set_cons_succ, List.getElem_toArray, List.getElem_cons_zero, List.getElem_cons_succ]
      refine wpAnyH_done (by kernel_rfl) ?_ _
      have HB8 : Hid (Below w.heap.size w w9) := Lib.hid ((below_drewN HB1.out 1).trans (HB9.out.mono (by have := HN.out; have := HGC.out; omega)))
      clear hHeld
      go_wp2
      go_roundw
      case rel => exact ⟨j + 1, by omega, by go_num, by rw [HE.out]; exact HG9.out, by rw [HE.out]; exact HR9.out, HB8.out⟩
      case measure => simp [intOf]; omega
    · obtain rfl : j = m := by omega
      have hd : (decide (j < n) = false ∧ decide ((j : Int) < (n : Int)) = false) ∨ ((decide (j < n) = true ∧ decide ((j : Int) < (n : Int)) = true) ∧ decide ((j : Int) < 200) = false ∧ decide (j < 200) = false) := by
        have := HM.out
        by_cases h1 : j < n
        · exact .inr ⟨⟨decide_eq_true h1, decide_eq_true (by omega)⟩, decide_eq_false (by omega), decide_eq_false (by omega)⟩
        · exact .inl ⟨decide_eq_false h1, decide_eq_false (by omega)⟩
      generalize putsZ R W zs0 pr pc pu j = zs at *
      have hzl : zs.length ≤ 1024 := by rw [HG.out.len]; omega
      have P1 := rows_any wr G C R W _ HG.out
      have P2 := width_any wr G C R W _ HG.out
      have P3 := cells_ints wr G C R W _ HG.out
      have er := ER.out
      have ec := EC.out
      have fr := FR.out
      have fc := FC.out
      rcases hd with ⟨d3, d5⟩ | ⟨⟨d3, d5⟩, d4, d6⟩
      all_goals
        go_wp2_with (first
          | (go_at_call 37; refine P1.mono ?_; clear P1; rintro e w' ⟨rfl, rfl⟩)
          | (go_at_call 38; refine P2.mono ?_; clear P2; rintro e w' ⟨rfl, rfl⟩)
          | (go_at_call 40; refine P3.mono ?_; clear P3; rintro e wa ⟨g, cp, rfl, hgc, hg0, hin, hb⟩; have HIa := Lib.hid hin; have HBa := Lib.hid (btr HB.out hb); have HRa := Lib.hid (HR.out.kept hb); clear hin hb)
          | (go_at_call 41; refine (rcells_any _ N H v B K R W _ HRa.out).mono ?_; rintro e wb ⟨g2, cp2, rfl, hgc2, hg02, hin, hb⟩; have HIb := Lib.hid hin; have HBb := Lib.hid (btr HBa.out hb); have HIa2 := Lib.hid (HIa.out.kept hb); clear hin hb)
          | (go_at_call 39; refine (same06_any _ _ _ _ _ HIa2.out HIb.out (by omega) (by omega)).mono ?_; rintro e wc ⟨rfl, hb⟩; have HBc := Lib.hid (btr HBb.out hb); clear hb))
        go_ret
        exact ⟨by simp, HBc.out⟩
theorem GridPlays_walk (v0 v1 v2 : Value) (w : World) (h0 : (Sh.int .i64).Val w v0) (h1 : (Sh.int .i64).Val w v1) (h2 : (Sh.slice shPut).Val w v2) :
    Calls Try.prog 9 #[v0, v1, v2] w fun e w' => e = .returned (.bool true) ∧ Below w.heap.size w w' := by
  obtain ⟨r, rfl, _⟩ := Sh.val_int h0
  obtain ⟨c, rfl, _⟩ := Sh.val_int h1
  obtain ⟨n, pr, pc, pu, h⟩ := puts_of_val h2
  exact GridPlays_main r c v2 n pr pc pu w h
end Go.Proofs.Ytfjhecgicemoeaa
