/-
  The walk of LinearOrder. Conditions: the arguments are of their types.
-/
import Derived.Test.YtcinlcbmjboaaaaLinE
import Derived.Test.YtcinlcbmjboaaaaLinS
import Derived.Test.YtcinlcbmjboaaaaGrdC
namespace Go.Proofs.Ytcinlcbmjboaaaa
open Go.RowKit
set_option linter.unusedVariables false
set_option linter.unusedSimpArgs false

theorem IntsAt.grown {w w' : World} {v : Value} {zs : List Int} {row : Option Nat} (h : IntsAt w v zs) (hb : w.grownBy w' row) (hne : v.ownBlock = none ∨ v.ownBlock ≠ row) : IntsAt w' v zs := by
  obtain ⟨ao, cap, rfl, hc, h⟩ := h
  refine ⟨ao, cap, rfl, hc, fun h0 => ?_⟩
  obtain ⟨g, rfl, hg, hc⟩ := h h0
  refine ⟨g, rfl, Nat.lt_of_lt_of_le hg hb.size, fun i u hu => hb.cell (hc i u hu) ?_⟩
  rcases hne with h | h
  · simp [Value.ownBlock] at h
  · simpa [Value.ownBlock] using h
/-- what Cells tells: a row of its own, new, that reads as zs -/
theorem cells_ints (w : World) (G C R W : Nat) (zs : List Int) (h : GridIs w G C R W zs) :
    Calls Try.prog 32 #[.pointer (some ⟨G, 0, none⟩)] w fun e w' => ∃ g cap, e = .returned (.slice (some ⟨g, 0, none⟩) zs.length cap) ∧ zs.length ≤ cap ∧ w.heap.size ≤ g ∧ IntsAt w' (.slice (some ⟨g, 0, none⟩) zs.length cap) zs ∧ Below w.heap.size w w' := by
  refine (cells_any w G C R W zs h).mono ?_
  rintro e w' ⟨v, rfl, hown, hne, hb⟩
  have hi := IntsAt.of_own hown rfl
  obtain ⟨g, cap, rfl, hg, hc, _⟩ := own_row hown hne
  exact ⟨g, cap, rfl, hc, hg, hi, hb⟩
theorem cellD_ext {xs ys : List Int} {R W : Nat} (hx : xs.length = R * W) (hy : ys.length = R * W) (h : ∀ r c, r < R → c < W → cellD xs (r * W + c) = cellD ys (r * W + c)) : xs = ys := by
  apply List.ext_getElem?
  intro i
  by_cases hi : i < R * W
  · have hW : 0 < W := by
      rcases Nat.eq_zero_or_pos W with h0 | h0
      · rw [h0] at hi; omega
      · exact h0
    have e : i = i / W * W + i % W := by rw [Nat.mul_comm]; exact (Nat.div_add_mod i W).symm
    have hr : i / W < R := Nat.div_lt_of_lt_mul (by rw [Nat.mul_comm]; exact hi)
    have := h (i / W) (i % W) hr (Nat.mod_lt i hW)
    rw [← e] at this
    have h1 : i < xs.length := by omega
    have h2 : i < ys.length := by omega
    simp only [cellD, List.getElem?_eq_getElem h1, List.getElem?_eq_getElem h2, Option.getD_some] at this ⊢
    rw [this]
  · rw [List.getElem?_eq_none (by omega), List.getElem?_eq_none (by omega)]
theorem same_yes {va vb : Value} {xs : List Int} {w : World} (ha : IntsAt w va xs) (hb : IntsAt w vb xs) (hx : xs.length ≤ 9223372036854775807) :
    Calls Try.prog 31 #[va, vb] w fun e w' => e = .returned (.bool true) ∧ Below w.heap.size w w' := by
  refine (same06_any va vb xs xs w ha hb hx hx).mono ?_
  rintro e w' ⟨rfl, h⟩
  exact ⟨by simp, h⟩

set_option maxRecDepth 100000 in
set_option maxHeartbeats 8000000 in
theorem LinearOrder_main (r c : Int) (l : Value) (n : Nat) (cs : Nat → List Int) (ds : Nat → Int) (w : World) (hl : StepsAt w l n cs ds) :
    Calls Try.prog 7 #[.agg #[.int .i64 r, .int .i64 c, l]] w fun e w' => e = .returned (.bool true) ∧ Below w.heap.size w w' := by
  have P1 := Lib.hid (fun w hl => done08 r c l n cs ds false false w hl)
  have P2 := Lib.hid (fun w hl => done08 r c l n cs ds true false w hl)
  obtain ⟨r1, r2, -⟩ := sizeR_bd r
  obtain ⟨c1, c2, -⟩ := sizeW_bd c
  generalize sizeR r = R at *
  generalize sizeW c = W at *
  have HL := Lib.hid hl
  obtain ⟨ao, cap, rfl, hmx, hd64, hcells⟩ := hl
  clear hcells hd64
  obtain ⟨m, hm⟩ : ∃ m, m = min n 60 := ⟨_, rfl⟩
  rw [← hm] at P1 P2
  clear hm
  go_enter Try.func7, Try.ntmps7
  go_wp2_with fail
  obtain ⟨g1, hb1, hsz1⟩ := news1 w (.cells #[.int .i64 r, .int .i64 c, .slice ao n cap] 24)
  have hx1 : Blk (w.alloc (.cells #[.int .i64 r, .int .i64 c, .slice ao n cap] 24)) w.heap.size 24 #[.int .i64 r, .int .i64 c, .slice ao n cap] := g1
  have HL1 := Lib.hid (HL.out.kept hb1)
  have HB1 := Lib.hid hb1
  have HX1 := Lib.hid hx1
  clear g1 hb1 hx1
  generalize (w.alloc (.cells #[.int .i64 r, .int .i64 c, .slice ao n cap] 24)) = wz at *
  refine (shown08 wz).mono ?_; rintro e w1 ⟨rfl, hb⟩
  have hx1 := HX1.out.kept hb
  have HX2 := Lib.hid hx1
  have HB2 := Lib.hid (btr HB1.out hb)
  have HL2 := Lib.hid (HL1.out.kept hb)
  clear hb
  go_wp2_with (refine wpList_load_row rfl 24 _ rfl w.heap.size rfl 24 _ (0, 0) _ hx1 Try.underlying24 rfl (by kernel_rfl) ?_)
  refine (P1.out w1 HL2.out).mono ?_; rintro e w2 ⟨G, C, va, vs, zs, rfl, -, -, hg, hsum, hall, hb⟩
  have hx1 := HX2.out.kept hb
  have HL3 := Lib.hid (HL2.out.kept hb)
  have HB3 := Lib.hid (btr HB2.out hb)
  have HG := Lib.hid hg
  have HSUM := Lib.hid hsum
  clear hb hg hsum hall
  go_wp2_with (refine wpList_load_row rfl 24 _ rfl w.heap.size rfl 24 _ (0, 0) _ hx1 Try.underlying24 rfl (by kernel_rfl) ?_)
  refine (P2.out w2 HL3.out).mono ?_; rintro e w3 ⟨H, D, vb, vs2, hs, rfl, -, -, hh, hsum2, -, hb⟩
  have heq : hs = zs := cellD_ext hh.len HG.out.len (fun rr cc hr hc => by
    rw [HSUM.out rr cc hr hc, hsum2 rr cc hr hc, ← sumTo_rev m]
    exact sumTo_congr (fun i hi => by
      have e1 : stepK false m i = i := rfl
      have e2 : stepK true m (m - 1 - i) = i := by simp only [stepK, if_pos]; omega
      simp only [stepIf, e1, e2]))
  subst heq
  have HG3 := Lib.hid (HG.out.kept hb)
  have HH3 := Lib.hid hh
  have HB4 := Lib.hid (btr HB3.out hb)
  have hzl : hs.length ≤ 1024 := by rw [hh.len]; exact Nat.mul_le_mul hh.rows hh.width
  clear hb hh hsum2
  have PC1 := cells_ints w3 G C R W _ HG3.out
  go_wp2_with fail
  refine PC1.mono ?_; clear PC1; rintro e w4 ⟨g, cp, rfl, hgc, -, hin, hb⟩
  have HI4 := Lib.hid hin
  have HH4 := Lib.hid (HH3.out.kept hb)
  have HB5 := Lib.hid (btr HB4.out hb)
  clear hin hb
  have PC2 := cells_ints w4 H D R W _ HH4.out
  go_wp2_with fail
  refine PC2.mono ?_; clear PC2; rintro e w5 ⟨g2, cp2, rfl, hgc2, -, hin, hb⟩
  have HJ5 := Lib.hid hin
  have HI5 := Lib.hid (HI4.out.kept hb)
  have HB6 := Lib.hid (btr HB5.out hb)
  clear hin hb
  have PS := same_yes HI5.out HJ5.out (by omega)
  go_wp2_with fail
  refine PS.mono ?_; clear PS; rintro e w6 ⟨rfl, hb⟩
  have HB7 := Lib.hid (btr HB6.out hb)
  clear hb
  go_wp2
  go_ret
  exact ⟨rfl, HB7.out⟩
theorem LinearOrder_walk (v0 : Value) (w : World) (h0 : shPlay.Val w v0) :
    Calls Try.prog 7 #[v0] w fun e w' => e = .returned (.bool true) ∧ Below w.heap.size w w' := by
  obtain ⟨r, c, l, n, cs, ds, rfl, h⟩ := val_play h0
  exact LinearOrder_main r c l n cs ds w h
end Go.Proofs.Ytcinlcbmjboaaaa
