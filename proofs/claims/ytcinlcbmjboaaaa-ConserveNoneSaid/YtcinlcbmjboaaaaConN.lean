/-
  The walk of ConserveNone. Conditions: the arguments are of their types.
-/
import Derived.Test.YtcinlcbmjboaaaaConD
namespace Go.Proofs.Ytcinlcbmjboaaaa
open Go.RowKit
set_option linter.unusedVariables false
set_option linter.unusedSimpArgs false

def shColsN : Sh := .slice (.int .i64)
theorem raise_zero {R W : Nat} {zs cs : List Int} {u : Int} (hl : zs.length = R * W) (hm : meetB R W cs = true) (hu : IsKth (readZ W zs cs) 0 u) : raiseZ W zs cs u = zs := by
  obtain ⟨-, hle⟩ := least_cells hm hu
  refine cellD_ext (R := R) (W := W) (by rw [raise_len, hl]) hl (fun r c hr hc => ?_)
  rw [raise_get hl hm r c hr hc]
  by_cases e : c = colN cs r
  · have := hle r hr
    rw [if_pos e, e, if_neg (by omega)]
  · rw [if_neg e]
set_option maxRecDepth 100000 in
set_option maxHeartbeats 8000000 in
theorem ConserveNone_main (r c : Int) (l : Value) (n : Nat) (cs : Nat → List Int) (ds : Nat → Int) (v1 : Value) (c1s : List Int) (w : World) (hl : StepsAt w l n cs ds) (hv1 : ColsAt w v1 c1s) :
    Calls Try.prog 12 #[.agg #[.int .i64 r, .int .i64 c, l], v1] w fun e w' => e = .returned (.bool true) ∧ Below w.heap.size w w' := by
  have P0 := Lib.hid (fun w => sized09 0 c l w)
  have P1 := Lib.hid (fun w hl => both09 0 c l n cs ds 0 60 w hl)
  have eR : sizeR 0 = 1 := by decide
  rw [eR] at P0 P1
  obtain ⟨c1, c2, -⟩ := sizeW_bd c
  generalize sizeW c = W at *
  have HL := Lib.hid hl
  have HV := Lib.hid hv1
  have PCUT := Lib.hid (fun w1 (h : ColsAt w1 v1 c1s) => cut_any v1 c1s 1 W (by omega) (by omega) (by omega) w1 h)
  have HCM := Lib.hid (cut_meet (cs := c1s) (R := 1) (W := W) (by omega) (by omega))
  obtain ⟨ao, cap, rfl, hmx, hd64, hcells⟩ := hl
  clear hcells hd64 eR
  obtain ⟨vo, vcap, rfl, hj1, hj2, hj3⟩ := hv1
  clear hj1 hj2 hj3
  generalize c1s.length = n1 at *
  unfold BothPost at P1
  generalize min n 60 = m at *
  go_enter Try.func12, Try.ntmps12
  go_wp2_with fail
  obtain ⟨g1, hb1, hsz1⟩ := news1 w (.cells #[.int .i64 r, .int .i64 c, .slice ao n cap] 63)
  have hx1 : Blk _ w.heap.size 63 #[.int .i64 r, .int .i64 c, .slice ao n cap] := g1
  have HL1 := Lib.hid (HL.out.kept hb1)
  have HV1 := Lib.hid (HV.out.kept hb1)
  have HB1 := Lib.hid hb1
  have HX1 := Lib.hid hx1
  clear g1 hb1 hx1
  generalize (w.alloc (.cells #[.int .i64 r, .int .i64 c, .slice ao n cap] 63)) = wz at *
  generalize hA : w.heap.size = A at *
  have HA := Lib.hid hA
  clear hA
  refine (shown09 wz).mono ?_; rintro e w1 ⟨rfl, hb⟩
  have hx1 := HX1.out.kept hb
  have q0 := hx1.cell 0
  have f0 := hx1.frozen 0
  simp at q0
  have hx2 : Blk (w1.setCell ⟨A, 0, none⟩ (.int .i64 0)) A 63 #[.int .i64 0, .int .i64 c, .slice ao n cap] := by simpa using hx1.set_ 0 (.int .i64 0)
  have HX2 := Lib.hid hx2
  have HB2 : Hid (Below A w (w1.setCell ⟨A, 0, none⟩ (.int .i64 0))) := Lib.hid ((HB1.out.trans (hb.mono (by omega))).setCell (Nat.le_refl _) _)
  have hs1 : A + 1 ≤ (w1.setCell ⟨A, 0, none⟩ (.int .i64 0)).heap.size := by have := hb.size; simp [World.setCell]; omega
  have HL2 := Lib.hid (HL.out.kept (w' := w1.setCell ⟨A, 0, none⟩ (.int .i64 0)) (by rw [HA.out]; exact HB2.out))
  have HV2 := Lib.hid (HV.out.kept (w' := w1.setCell ⟨A, 0, none⟩ (.int .i64 0)) (by rw [HA.out]; exact HB2.out))
  clear hb hx1 HX1
  go_wp2_with (refine wpList_load_row rfl 63 _ rfl A rfl 63 _ (0, 0) _ hx2 Try.underlying63 rfl (by kernel_rfl) ?_)
  generalize (w1.setCell ⟨A, 0, none⟩ (.int .i64 0)) = w1s at *
  with_reducible refine (P0.out w1s).mono ?_
  rintro e w2 ⟨rfl, hb⟩
  have hx1 := HX2.out.kept hb
  have HX3 := Lib.hid hx1
  have HB3 := Lib.hid (HB2.out.trans (hb.mono (by omega)))
  have HL3 := Lib.hid (HL2.out.kept hb)
  have HV3 := Lib.hid (HV2.out.kept hb)
  have hs2 : A + 1 ≤ w2.heap.size := by have := hb.size; omega
  clear hb hx2 q0 f0
  go_wp2_with (refine wpList_load_row rfl 63 _ rfl A rfl 63 _ (0, 0) _ hx1 Try.underlying63 rfl (by kernel_rfl) ?_)
  with_reducible refine (P1.out w2 HL3.out).mono ?_
  rintro e w3 ⟨G, C, H, D, va, vs, zg, zh, rfl, hfr, -, hg, hh, hinv, -, hb⟩
  obtain rfl := hinv.one rfl
  have HG3 := Lib.hid hg
  have HH3 := Lib.hid hh
  have HB4 := Lib.hid (HB3.out.trans (hb.mono (by omega)))
  have HV4 := Lib.hid (HV3.out.kept hb)
  have hs3 : A + 1 ≤ w3.heap.size := by have := hb.size; omega
  have hCA : A + 1 ≤ C := by omega
  have HLEN := Lib.hid hg.len
  have hzl : Hid (zg.length ≤ 1024) := by have h1 := hg.len; show zg.length ≤ 1024; rw [h1]; exact Nat.mul_le_mul hg.rows hg.width
  clear hb hg hh hinv hfr hx1
  go_wp2_with fail
  with_reducible refine (cells_ints w3 G C 1 W zg HG3.out).mono ?_
  rintro e w4 ⟨g4, k4, rfl, hk4, -, hin, hb⟩
  have I4 := Lib.hid hin
  have G4 := Lib.hid (HG3.out.kept hb)
  have H4 := Lib.hid (HH3.out.kept hb)
  have V4 := Lib.hid (HV4.out.kept hb)
  have B4 := Lib.hid (HB4.out.trans (hb.mono (by omega)))
  have s4 : A + 1 ≤ w4.heap.size := by have := hb.size; omega
  clear hin hb
  go_wp2_with fail
  with_reducible refine (cells_ints w4 H D 1 W zg H4.out).mono ?_
  rintro e w5 ⟨g5, k5, rfl, hk5, -, hin, hb⟩
  have J5 := Lib.hid hin
  have I5 := Lib.hid (I4.out.kept hb)
  have G5 := Lib.hid (G4.out.kept hb)
  have V5 := Lib.hid (V4.out.kept hb)
  have B5 := Lib.hid (B4.out.trans (hb.mono (by omega)))
  have s5 : A + 1 ≤ w5.heap.size := by have := hb.size; omega
  clear hin hb
  have PS := same_yes I5.out J5.out (by have := hzl.out; omega)
  go_wp2_with fail
  with_reducible refine PS.mono ?_
  clear PS; rintro e w6 ⟨rfl, hb⟩
  have G6 := Lib.hid (G5.out.kept hb)
  have V6 := Lib.hid (V5.out.kept hb)
  have B6 := Lib.hid (B5.out.trans (hb.mono (by omega)))
  have s6 : A + 1 ≤ w6.heap.size := by have := hb.size; omega
  clear hb
  go_wp2_with fail
  with_reducible refine (cells_ints w6 G C 1 W zg G6.out).mono ?_
  rintro e w7 ⟨g7, k7, rfl, hk7, hg7, hin, hb⟩
  have hg7C : g7 ≠ C := by have := G6.out.ltC; omega
  have I7 := Lib.hid hin
  have G7 := Lib.hid (G6.out.kept hb)
  have V7 := Lib.hid (V6.out.kept hb)
  have B7 := Lib.hid (B6.out.trans (hb.mono (by omega)))
  have s7 : A + 1 ≤ w7.heap.size := by have := hb.size; omega
  clear hin hb hg7
  go_wp2_with fail
  refine (PCUT.out w7 V7.out).mono ?_
  rintro e w8 ⟨v2, rfl, hr2, -, hb⟩
  have R8 := Lib.hid hr2
  have I8 := Lib.hid (I7.out.kept hb)
  have G8 := Lib.hid (G7.out.kept hb)
  have B8 := Lib.hid (B7.out.trans (hb.mono (by omega)))
  have s8 : A + 1 ≤ w8.heap.size := by have := hb.size; omega
  clear hr2 hb
  obtain ⟨curC, hCb, -⟩ := G8.out.cells
  have PR := Lib.hid (raise_yes w8 G C 1 W zg (cutZ c1s 1 W) 0 v2 G8.out R8.out.ints HCM.out ⟨by decide, by decide⟩ (R8.out.neC hCb (by decide)))
  clear hCb
  go_wp2_with fail
  with_reducible refine PR.out.mono ?_
  rintro e w9 ⟨u, hu, ⟨hn, -⟩ | ⟨-, hno, -⟩ | ⟨-, -, rfl, hg9, hgr⟩⟩
  · omega
  · exfalso
    refine hno ?_
    have := (kth_zero hu).1
    simp only [readZ, List.mem_map] at this
    obtain ⟨rr, _, rfl⟩ := this
    rw [Int.add_zero]
    exact cell_fit G8.out.fit _
  · rw [Int.add_zero, raise_zero G8.out.len HCM.out hu] at hg9
    have G9 := Lib.hid hg9
    have I9 := Lib.hid (I8.out.grown hgr (.inr (by simpa [Value.ownBlock] using hg7C)))
    have B9 := Lib.hid (B8.out.grown hgr (by omega) (fun k e => by have := Option.some.inj e; omega))
    have s9 : A + 1 ≤ w9.heap.size := by have := hgr.size; omega
    clear hu hg9 hgr
    go_wp2_with fail
    with_reducible refine (cells_ints w9 G C 1 W zg G9.out).mono ?_
    rintro e wa ⟨ga, ka, rfl, hka, -, hin, hb⟩
    have Ja := Lib.hid hin
    have Ia := Lib.hid (I9.out.kept hb)
    have Ba := Lib.hid (B9.out.trans (hb.mono (by omega)))
    have sa : A + 1 ≤ wa.heap.size := by have := hb.size; omega
    clear hin hb
    have PS := same_yes Ja.out Ia.out (by have := hzl.out; omega)
    go_wp2_with fail
    with_reducible refine PS.mono ?_
    clear PS; rintro e wb ⟨rfl, hb⟩
    have Bb := Lib.hid (Ba.out.trans (hb.mono (by omega)))
    have hlw : zg.length = W := by have := HLEN.out; omega
    have hlw2 : ((zg.length : Int) == (W : Int)) = true := by simp [hlw]
    clear hb
    go_wp2
    go_ret
    exact ⟨rfl, by rw [HA.out]; exact Bb.out⟩
theorem ConserveNone_walk (v0 v1 : Value) (w : World) (h0 : shPlay.Val w v0) (h1 : (Sh.slice (.int .i64)).Val w v1) :
    Calls Try.prog 12 #[v0, v1] w fun e w' => e = .returned (.bool true) ∧ Below w.heap.size w w' := by
  obtain ⟨r, c, l, n, cs, ds, rfl, h⟩ := val_play h0
  obtain ⟨c1s, hc⟩ := cols_of_val h1
  exact ConserveNone_main r c l n cs ds v1 c1s w h hc
end Go.Proofs.Ytcinlcbmjboaaaa
