import Derived.Test.YtbghchgmoiniiaaGreatQae
import Derived.Test.YtbghchgmoiniiaaGreatQab
import Derived.Test.YtbghchgmoiniiaaGreatQac
import Derived.Test.YtbghchgmoiniiaaGreatQad
/-
  The walk of gaugerlaw23.shown. Conditions: none.
-/
namespace Go.Proofs.YtbghchgmoiniiaaGreat
open Go.RowKit
set_option linter.unusedVariables false
set_option linter.unusedSimpArgs false

def body17 : List Int := [71, 65, 1, 1, 2, 1, 0, 0, 0, 0, 0, 0, 0, 0, 0, 0, 0]
theorem zeroZ_two : (zeroZ 1 1 2 1 0 = [0, 0]) ∧ zeroZ 1 1 2 1 1 = [0] := by
  constructor
  · have : cellsN 1 1 2 1 ((0 : Nat) : Int) = 2 := by decide
    unfold zeroZ; rw [this]; rfl
  · have : cellsN 1 1 2 1 ((1 : Nat) : Int) = 1 := by decide
    unfold zeroZ; rw [this]; rfl
theorem body_eq : headB 1 1 2 1 0 ++ rowsB (zeroZ 1 1 2 1) ((1 : Int).toNat + 1) = body17 := by
  have h : rowsB (zeroZ 1 1 2 1) ((1 : Int).toNat + 1) = rowB [0, 0] ++ rowB [0] := by
    rw [show (1 : Int).toNat + 1 = 2 from rfl, rowsB, rowsB, rowsB, zeroZ_two.1, zeroZ_two.2, List.nil_append]
  have z0 : putN (zigI 0) = [0] := by
    have : zigI 0 = 0 := by decide
    rw [this, putN_lt (by decide)]; rfl
  rw [h]
  unfold headB
  rw [show (1 : Int).toNat = 1 from rfl, show (2 : Int).toNat = 2 from rfl, putN_lt (by decide), putN_lt (by decide)]
  simp only [rowB_cons, rowB_nil, z0]
  decide
theorem enc_shown : encB 1 1 2 1 0 (zeroZ 1 1 2 1) = body17 ++ leB (sumI 0 body17) 4 := by rw [encB, body_eq]; rfl
theorem dec_shown : DecS (encB 1 1 2 1 0 (zeroZ 1 1 2 1)) 1 1 2 1 0 (zeroZ 1 1 2 1) := by
  refine ⟨by decide, by decide, by decide, fun n hn => ⟨by simp [zeroZ], fun u hu => ?_⟩, rfl⟩
  have := List.eq_of_mem_replicate hu
  omega
theorem size_shown : sizeN 1 1 2 1 = 3 := by decide
/-- a constant's bytes, as the conversion leaves them -/
theorem lit_bytes (w : World) (a b : Int) (g : Nat) (hg : g = w.heap.size) : BytesAt (w.alloc (.cells #[.int .u8 a, .int .u8 b] 5 (2, 3))) (.slice (some ⟨g, 0, none⟩) 2 2) [a, b] := by
  refine ⟨_, 2, rfl, by simp, by unfold maxLen; omega, .inr ⟨g, 0, rfl, by simp; omega, fun i u hu => ?_⟩⟩
  have hc := Joins.cell_alloc_mark_at w #[.int .u8 a, .int .u8 b] 5 (2, 3) g i hg
  rw [Nat.zero_add, hc]
  match i, hu with
  | 0, h => simpa using h
  | 1, h => simpa using h
theorem dec_ga (w : World) : DecNo [71, 65] ∧ errOf [71, 65] = 8 := ⟨dec_short (by decide), by decide⟩
theorem str17 : ((strB body17).toList == [71, 65, 1, 1, 2, 1, 0, 0, 0, 0, 0, 0, 0, 0, 0, 0, 0]) = true := by
  rw [strB_list]; decide
set_option maxRecDepth 100000 in
set_option maxHeartbeats 8000000 in
theorem shown23 (w : World) : Calls Tryz.prog 6 #[] w fun e w' => e = .returned (.bool true) ∧ Below w.heap.size w w' := by
  have hgd : Tryz.prog.eqGuardType Tryz.prog.depth 24 = false := by kernel_rfl
  have EQ := eqCfg 1 1 2 1 0 1 1 2 1 0
  have hq : cfgEq 1 1 2 1 0 1 1 2 1 0 = true := by decide
  rw [hq] at EQ
  clear hq
  have PN := Lib.hid (fun w => stnew_yes 1 1 2 1 0 (by decide) w)
  have PZ := fun w => wsize_any 1 1 2 1 0 w
  rw [size_shown] at PZ
  have PZ := Lib.hid PZ
  obtain ⟨g1, hb1, hsz1⟩ := news1 w (.cells #[.int .i64 1, .int .i64 1, .int .i64 2, .int .i64 1, .int .u64 0] 24)
  have hx1 : Blk _ w.heap.size 24 #[.int .i64 1, .int .i64 1, .int .i64 2, .int .i64 1, .int .u64 0] := g1
  have HX1 := Lib.hid hx1
  have HB1 := Lib.hid hb1
  clear g1 hb1 hsz1
  go_enter Tryz.func6, Tryz.ntmps6
  go_wp2_with (refine wpList_load_row rfl 24 _ rfl w.heap.size rfl 24 _ (0, 0) _ hx1 Tryz.underlying24 rfl (by kernel_rfl) ?_)
  with_reducible refine (PN.out _).mono ?_
  rintro e w2 ⟨S, L, X, A, G, C, rfl, hS, hst, hb⟩
  have HST2 := Lib.hid hst
  have HX2 := Lib.hid (HX1.out.kept hb)
  have HB2 := Lib.hid (btr HB1.out hb)
  clear hst hb hx1 hS
  have PE := Lib.hid (encode_any w2 _ S L 1 1 2 1 0 X A G C _ HST2.out (by decide) (by decide) (by rw [body_eq]; decide))
  go_wp2_with fail
  with_reducible refine PE.out.mono ?_
  rintro e w3 ⟨v3, rfl, ho3, hb3⟩
  have HX3 := Lib.hid (HX2.out.kept hb3)
  have HB3 := Lib.hid (btr HB2.out hb3)
  have hat := ho3.at
  have HAT := Lib.hid hat
  have hby : Byts (encB 1 1 2 1 0 (zeroZ 1 1 2 1)) := signB_byts ((headB_byts _ _ _ _ _).append (rowsB_byts _ _))
  have hlen : (encB 1 1 2 1 0 (zeroZ 1 1 2 1)).length = 21 := by rw [enc_shown, List.length_append, leB_len]; rfl
  have HLEN := Lib.hid hlen
  have PD := Lib.hid (decode_any w3 v3 _ hat hby (by rw [hlen]; decide))
  obtain ⟨ao, cap, rfl, hcap, hmx, hc⟩ := hat
  rcases hc with ⟨hnil, -⟩ | ⟨bg, boff, rfl, hbg, -⟩
  · rw [hnil] at hlen; simp at hlen
  rw [hlen] at PD HAT hcap ⊢
  clear ho3 hb3 hlen hby PE
  go_wp2_with fail
  with_reducible refine PD.out.mono ?_
  rintro e w4 ⟨⟨b, r, d, m, s, Z, S4, L4, X4, A4, G4, C4, hds, rfl, hS4, hst4⟩ | ⟨hno, -⟩, hb4⟩
  rotate_left
  · exact absurd dec_shown (hno _ _ _ _ _ _)
  obtain ⟨rfl, rfl, rfl, rfl, rfl, -⟩ := dec_shown.unique hds
  have HST4 := Lib.hid hst4
  have HX4 := Lib.hid (HX3.out.kept hb4)
  have HB4 := Lib.hid (btr HB3.out hb4)
  have HAT4 := Lib.hid (HAT.out.kept hb4)
  clear hds hS4 hst4 hb4 PD
  have kc := Joins.run_convert_bytes_const_at (P := Tryz.prog) w4 33 5 #[.int .u8 71, .int .u8 65] 2 2 w4.heap.size rfl Tryz.underlying33 Tryz.underlying5
  have PF := Lib.hid (dec_few (w4.alloc (.cells #[.int .u8 71, .int .u8 65] 5 (2, 3))) (.slice (some ⟨w4.heap.size, 0, none⟩) 2 2) [71, 65] (lit_bytes w4 71 65 _ rfl) (by decide))
  have HAL : Hid (Below w4.heap.size w4 (w4.alloc (.cells #[.int .u8 71, .int .u8 65] 5 (2, 3)))) := Lib.hid ((Below.refl _ _).alloc (Nat.le_refl _) _)
  go_wp2_with fail
  with_reducible refine PF.out.mono ?_
  rintro e w5 ⟨⟨b, r, d, m, s, Z, S5, L5, X5, A5, G5, C5, hds, -⟩ | ⟨-, rfl⟩, hb5⟩
  · exact absurd hds ((dec_ga w).1 _ _ _ _ _ _)
  rw [(dec_ga w).2]
  have HB45 := Lib.hid (btr HAL.out hb5)
  have HST5 := Lib.hid (HST4.out.kept HB45.out)
  have HX5 := Lib.hid (HX4.out.kept HB45.out)
  have HB5 := Lib.hid (btr HB4.out HB45.out)
  have HAT5 := Lib.hid (HAT4.out.kept HB45.out)
  clear hb5 PF HAL kc HST4 HX4 HB4 HAT4 HB45 HST2 HX2 HX3 HB3 HAT
  have HT17 : Hid ((encB 1 1 2 1 0 (zeroZ 1 1 2 1)).take 17 = body17) := Lib.hid (by rw [enc_shown]; rfl)
  have HCV : Hid (∀ wq, BytesAt wq (.slice (some ⟨bg, boff, none⟩) 21 cap) (encB 1 1 2 1 0 (zeroZ 1 1 2 1)) → Sem.run Tryz.prog (convert 33 9 (.slice (some ⟨bg, boff, none⟩) 17 cap)) wq = .ok (.string (strB body17)) wq) := Lib.hid (fun wq hq => by
    rw [← HT17.out]
    exact strB_conv (hq.upto2 17 (by decide)) 33 5 9 Tryz.underlying33 Tryz.underlying5 Tryz.underlying9)
  have hs17 := str17
  have hcap17 : 17 ≤ cap := by omega
  have hcap17i : (17 : Int) ≤ (cap : Int) := by omega
  go_wp2_with fail
  refine wp_region_held_drew (S := fun w' => Blk w' w.heap.size 24 #[.int .i64 1, .int .i64 1, .int .i64 2, .int .i64 1, .int .u64 0] ∧ BytesAt w' (.slice (some ⟨bg, boff, none⟩) 21 cap) (encB 1 1 2 1 0 (zeroZ 1 1 2 1)) ∧ Sem.run Tryz.prog (convert 33 9 (.slice (some ⟨bg, boff, none⟩) 17 cap)) w' = .ok (.string (strB body17)) w' ∧ StIs w' w3.heap.size S4 L4 1 1 2 1 0 X4 A4 G4 C4 Z ∧ Below w.heap.size w w') (by kernel_rfl) (by exact ⟨HX5.out.drewN 1, HAT5.out.kept (below_drewN (Below.refl _ _) 1), HCV.out _ (HAT5.out.kept (below_drewN (Below.refl _ _) 1)), HST5.out.kept (below_drewN (Below.refl _ _) 1), below_drewN HB5.out 1⟩) (fun hHeld => ?_)
  refine wpAnyH_take (i := 0) (v := ?_) rfl (by kernel_rfl) (by kernel_rfl) (by kernel_rfl) (fun _ _ _ h => h) (Or.inl ⟨by rfl, ?_⟩) (by assumption) ?_
  rotate_left
  · intro w hSw
    try dsimp only at hSw
    go_simp
    try with_reducible rfl
  simp only [Act.put, List.setIfInBounds_toArray, List.set_cons_zero, List.set_cons_succ, List.getElem_toArray, List.getElem_cons_zero, List.getElem_cons_succ]
  refine wpAnyH_take (i := 1) (v := ?_) rfl (by kernel_rfl) (by kernel_rfl) (by kernel_rfl) (fun _ _ _ h => h) (Or.inl ⟨by rfl, ?_⟩) (by assumption) ?_
  rotate_left
  · intro w hSw
    try dsimp only at hSw
    go_simp
    try with_reducible rfl
  simp only [Act.put, List.setIfInBounds_toArray, List.set_cons_zero, List.set_cons_succ, List.getElem_toArray, List.getElem_cons_zero, List.getElem_cons_succ]
  refine wpAnyH_take (i := 2) (v := ?_) rfl (by kernel_rfl) (by kernel_rfl) (by kernel_rfl) (fun _ _ _ h => h) (Or.inl ⟨by rfl, ?_⟩) (by assumption) ?_
  rotate_left
  · intro w hSw
    try dsimp only at hSw
    go_simp
    try with_reducible rfl
  simp only [Act.put, List.setIfInBounds_toArray, List.set_cons_zero, List.set_cons_succ, List.getElem_toArray, List.getElem_cons_zero, List.getElem_cons_succ]
  refine wpAnyH_take (i := 3) (v := ?_) rfl (by kernel_rfl) (by kernel_rfl) (by kernel_rfl) (fun _ _ _ h => h) (Or.inl ⟨by rfl, ?_⟩) (by assumption) ?_
  rotate_left
  · intro w hSw
    try dsimp only at hSw
    go_simp
    try with_reducible rfl
  simp only [Act.put, List.setIfInBounds_toArray, List.set_cons_zero, List.set_cons_succ, List.getElem_toArray, List.getElem_cons_zero, List.getElem_cons_succ]
  refine wpAnyH_take (i := 4) (v := ?_) rfl (by kernel_rfl) (by kernel_rfl) (by kernel_rfl) (fun _ _ _ h => h) (Or.inl ⟨by rfl, ?_⟩) (by assumption) ?_
  rotate_left
  · intro w hSw
    try dsimp only at hSw
    go_simp
    try with_reducible rfl
  simp only [Act.put, List.setIfInBounds_toArray, List.set_cons_zero, List.set_cons_succ, List.getElem_toArray, List.getElem_cons_zero, List.getElem_cons_succ]
  refine wpAnyH_take (i := 5) (v := ?_) rfl (by kernel_rfl) (by kernel_rfl) (by kernel_rfl) (fun _ _ _ h => h) (Or.inl ⟨by rfl, ?_⟩) (by assumption) ?_
  rotate_left
  · intro w hSw
    try dsimp only at hSw
    go_simp
    try with_reducible rfl
  simp only [Act.put, List.setIfInBounds_toArray, List.set_cons_zero, List.set_cons_succ, List.getElem_toArray, List.getElem_cons_zero, List.getElem_cons_succ]
  refine wpAnyH_take (i := 6) (v := ?_) rfl (by kernel_rfl) (by kernel_rfl) (by kernel_rfl) (fun _ _ _ h => h) (Or.inl ⟨by rfl, ?_⟩) (by assumption) ?_
  rotate_left
  · intro w hSw
    try dsimp only at hSw
    go_simp
    try with_reducible rfl
  simp only [Act.put, List.setIfInBounds_toArray, List.set_cons_zero, List.set_cons_succ, List.getElem_toArray, List.getElem_cons_zero, List.getElem_cons_succ]
  refine wpAnyH_take (i := 7) (v := ?_) rfl (by kernel_rfl) (by kernel_rfl) (by kernel_rfl) (fun _ _ _ h => h) (Or.inl ⟨by rfl, ?_⟩) (by assumption) ?_
  rotate_left
  · intro w hSw
    try dsimp only at hSw
    go_simp
    try with_reducible rfl
  simp only [Act.put, List.setIfInBounds_toArray, List.set_cons_zero, List.set_cons_succ, List.getElem_toArray, List.getElem_cons_zero, List.getElem_cons_succ]
  refine wpAnyH_take (i := 8) (v := ?_) rfl (by kernel_rfl) (by kernel_rfl) (by kernel_rfl) (fun _ _ _ h => h) (Or.inl ⟨by rfl, ?_⟩) (by assumption) ?_
  rotate_left
  · intro w hSw
    try dsimp only at hSw
    go_simp
    try with_reducible rfl
  simp only [Act.put, List.setIfInBounds_toArray, List.set_cons_zero, List.set_cons_succ, List.getElem_toArray, List.getElem_cons_zero, List.getElem_cons_succ]
  refine wpAnyH_take (i := 9) (v := ?_) rfl (by kernel_rfl) (by kernel_rfl) (by kernel_rfl) (fun _ _ _ h => h) (Or.inl ⟨by rfl, ?_⟩) (by assumption) ?_
  rotate_left
  · intro w hSw
    try dsimp only at hSw
    go_simp
    try with_reducible rfl
  simp only [Act.put, List.setIfInBounds_toArray, List.set_cons_zero, List.set_cons_succ, List.getElem_toArray, List.getElem_cons_zero, List.getElem_cons_succ]
  refine wpAnyH_take (i := 10) (v := ?_) rfl (by kernel_rfl) (by kernel_rfl) (by kernel_rfl) (fun _ _ _ h => h) (Or.inl ⟨by rfl, ?_⟩) (by assumption) ?_
  rotate_left
  · intro w hSw
    try dsimp only at hSw
    go_simp
    try with_reducible rfl
  simp only [Act.put, List.setIfInBounds_toArray, List.set_cons_zero, List.set_cons_succ, List.getElem_toArray, List.getElem_cons_zero, List.getElem_cons_succ]
  refine wpAnyH_take (i := 11) (v := ?_) rfl (by kernel_rfl) (by kernel_rfl) (by kernel_rfl) (fun _ _ _ h => h) (Or.inl ⟨by rfl, ?_⟩) (by assumption) ?_
  rotate_left
  · intro w hSw
    try dsimp only at hSw
    go_simp
    try with_reducible rfl
  simp only [Act.put, List.setIfInBounds_toArray, List.set_cons_zero, List.set_cons_succ, List.getElem_toArray, List.getElem_cons_zero, List.getElem_cons_succ]
  refine wpAnyH_take (i := 12) (v := ?_) rfl (by kernel_rfl) (by kernel_rfl) (by kernel_rfl) (fun _ _ _ h => h) (Or.inl ⟨by rfl, ?_⟩) (by assumption) ?_
  rotate_left
  · intro w hSw
    try dsimp only at hSw
    go_simp
    try with_reducible rfl
  simp only [Act.put, List.setIfInBounds_toArray, List.set_cons_zero, List.set_cons_succ, List.getElem_toArray, List.getElem_cons_zero, List.getElem_cons_succ]
  refine wpAnyH_take (i := 13) (v := ?_) rfl (by kernel_rfl) (by kernel_rfl) (by kernel_rfl) (fun _ _ _ h => h) (Or.inl ⟨by rfl, ?_⟩) (by assumption) ?_
  rotate_left
  · intro w hSw
    try dsimp only at hSw
    go_simp
    try with_reducible rfl
  simp only [Act.put, List.setIfInBounds_toArray, List.set_cons_zero, List.set_cons_succ, List.getElem_toArray, List.getElem_cons_zero, List.getElem_cons_succ]
  refine wpAnyH_take (i := 15) (v := ?_) rfl (by kernel_rfl) (by kernel_rfl) (by kernel_rfl) (fun _ _ _ h => h) (Or.inl ⟨by rfl, ?_⟩) (by assumption) ?_
  rotate_left
  · intro w hSw
    try refine (exec_load_row 24 _ rfl _ rfl 24 _ (0, 0) _ hSw.1 Tryz.underlying24 rfl (by kernel_rfl)).trans ?_
    go_simp
    try with_reducible rfl
  simp only [Act.put, List.setIfInBounds_toArray, List.set_cons_zero, List.set_cons_succ, List.getElem_toArray, List.getElem_cons_zero, List.getElem_cons_succ]
  refine wpAnyH_ready (rs := [14]) (by kernel_rfl) (by simp) ?_
  refine AllReadyH.cons rfl (fun Kc hKc => ?_) AllReadyH.nil
  go_simp
  go_wp2_with (first | (go_at_call 11; refine (stconfig _ _ S4 L4 1 1 2 1 0 X4 A4 G4 C4 Z hHeld.2.2.2.1).mono ?_; rintro e w6 ⟨rfl, hb'⟩) | (go_at_call 10; refine (PZ.out _).mono ?_; rintro e w7 ⟨rfl, hb'⟩))
  refine hKc.out _ _ ?_ (fun hHeld => ?_)
  · exact ⟨hHeld.1.kept hb', hHeld.2.1.kept hb', HCV.out _ (hHeld.2.1.kept hb'), hHeld.2.2.2.1.kept hb', btr hHeld.2.2.2.2 hb'⟩
  clear hKc Kc
  refine wpAnyH_take (i := 16) (v := ?_) rfl (by kernel_rfl) (by kernel_rfl) (by kernel_rfl) (fun _ _ _ h => h) (Or.inl ⟨by rfl, ?_⟩) (by assumption) ?_
  rotate_left
  · intro w hSw
    try dsimp only at hSw
    go_simp
    try with_reducible rfl
  simp only [Act.put, List.setIfInBounds_toArray, List.set_cons_zero, List.set_cons_succ, List.getElem_toArray, List.getElem_cons_zero, List.getElem_cons_succ]
  refine wpAnyH_take (i := 17) (v := ?_) rfl (by kernel_rfl) (by kernel_rfl) (by kernel_rfl) (fun _ _ _ h => h) (Or.inl ⟨by rfl, ?_⟩) (by assumption) ?_
  rotate_left
  · intro w hSw
    try dsimp only at hSw
    go_simp
    try with_reducible rfl
  simp only [Act.put, List.setIfInBounds_toArray, List.set_cons_zero, List.set_cons_succ, List.getElem_toArray, List.getElem_cons_zero, List.getElem_cons_succ]
  refine wpAnyH_take (i := 18) (v := ?_) rfl (by kernel_rfl) (by kernel_rfl) (by kernel_rfl) (fun _ _ _ h => h) (Or.inl ⟨by rfl, ?_⟩) (by assumption) ?_
  rotate_left
  · intro w hSw
    try dsimp only at hSw
    go_simp
    try with_reducible rfl
  simp only [Act.put, List.setIfInBounds_toArray, List.set_cons_zero, List.set_cons_succ, List.getElem_toArray, List.getElem_cons_zero, List.getElem_cons_succ]
  refine wpAnyH_take (i := 19) (v := ?_) rfl (by kernel_rfl) (by kernel_rfl) (by kernel_rfl) (fun _ _ _ h => h) (Or.inl ⟨by rfl, ?_⟩) (by assumption) ?_
  rotate_left
  · intro w hSw
    try refine (exec_load_row 24 _ rfl _ rfl 24 _ (0, 0) _ hSw.1 Tryz.underlying24 rfl (by kernel_rfl)).trans ?_
    go_simp
    try with_reducible rfl
  simp only [Act.put, List.setIfInBounds_toArray, List.set_cons_zero, List.set_cons_succ, List.getElem_toArray, List.getElem_cons_zero, List.getElem_cons_succ]
  refine wpAnyH_ready (rs := [20]) (by kernel_rfl) (by simp) ?_
  refine AllReadyH.cons rfl (fun Kc hKc => ?_) AllReadyH.nil
  go_simp
  go_wp2_with (first | (go_at_call 11; refine (stconfig _ _ S4 L4 1 1 2 1 0 X4 A4 G4 C4 Z hHeld.2.2.2.1).mono ?_; rintro e w6 ⟨rfl, hb'⟩) | (go_at_call 10; refine (PZ.out _).mono ?_; rintro e w7 ⟨rfl, hb'⟩))
  refine hKc.out _ _ ?_ (fun hHeld => ?_)
  · exact ⟨hHeld.1.kept hb', hHeld.2.1.kept hb', HCV.out _ (hHeld.2.1.kept hb'), hHeld.2.2.2.1.kept hb', btr hHeld.2.2.2.2 hb'⟩
  clear hKc Kc
  refine wpAnyH_take (i := 21) (v := ?_) rfl (by kernel_rfl) (by kernel_rfl) (by kernel_rfl) (fun _ _ _ h => h) (Or.inl ⟨by rfl, ?_⟩) (by assumption) ?_
  rotate_left
  · intro w hSw
    try dsimp only at hSw
    go_simp
    try with_reducible rfl
  simp only [Act.put, List.setIfInBounds_toArray, List.set_cons_zero, List.set_cons_succ, List.getElem_toArray, List.getElem_cons_zero, List.getElem_cons_succ]
  refine wpAnyH_take (i := 22) (v := ?_) rfl (by kernel_rfl) (by kernel_rfl) (by kernel_rfl) (fun _ _ _ h => h) (Or.inl ⟨by rfl, ?_⟩) (by assumption) ?_
  rotate_left
  · intro w hSw
    try dsimp only at hSw
    go_simp
    try with_reducible rfl
  simp only [Act.put, List.setIfInBounds_toArray, List.set_cons_zero, List.set_cons_succ, List.getElem_toArray, List.getElem_cons_zero, List.getElem_cons_succ]
  refine wpAnyH_take (i := 23) (v := ?_) rfl (by kernel_rfl) (by kernel_rfl) (by kernel_rfl) (fun _ _ _ h => h) (Or.inl ⟨by rfl, ?_⟩) (by assumption) ?_
  rotate_left
  · intro w hSw
    try dsimp only at hSw
    go_simp
    try with_reducible rfl
  simp only [Act.put, List.setIfInBounds_toArray, List.set_cons_zero, List.set_cons_succ, List.getElem_toArray, List.getElem_cons_zero, List.getElem_cons_succ]
  refine wpAnyH_done (by kernel_rfl) ?_ _
  go_wp2
  go_ret
  exact ⟨rfl, hHeld.2.2.2.2⟩
end Go.Proofs.YtbghchgmoiniiaaGreat

/-
  The walks of the reference's Size and of WireSize. Conditions: none beyond those stated at each theorem.
-/
namespace Go.Proofs.YtbghchgmoiniiaaGreat
open Go.RowKit
set_option linter.unusedVariables false
set_option linter.unusedSimpArgs false

set_option maxRecDepth 100000 in
set_option maxHeartbeats 4000000 in
theorem rsize_any (b r d m s : Int) (w : World) :
    Calls Tryz.prog 12 #[.agg #[.int .i64 b, .int .i64 r, .int .i64 d, .int .i64 m, .int .u64 s]] w fun e w' => e = .returned (.int .i64 (sizeN b r d m : Int)) ∧ Below w.heap.size w w' := by
  have PR := fun w => rright_any b r d m s w
  obtain ⟨g1, hb1, hsz1⟩ := news1 w (.cells #[.int .i64 b, .int .i64 r, .int .i64 d, .int .i64 m, .int .u64 s] 24)
  have hx1 : Blk _ w.heap.size 24 #[.int .i64 b, .int .i64 r, .int .i64 d, .int .i64 m, .int .u64 s] := g1
  have HB1 := Lib.hid hb1
  have HX1 := Lib.hid hx1
  clear g1 hb1 hsz1
  cases hr : rightB b r d m
  · rw [hr] at PR
    have PR := Lib.hid PR
    have HN : Hid (sizeN b r d m = 0) := Lib.hid (by unfold sizeN; rw [hr]; rfl)
    rw [HN.out]
    clear hr
    go_enter Tryz.func12, Tryz.ntmps12
    go_wp2_with (refine wpList_load_row rfl 24 _ rfl w.heap.size rfl 24 _ (0, 0) _ hx1 Tryz.underlying24 rfl (by kernel_rfl) ?_)
    with_reducible refine (PR.out _).mono ?_
    rintro e w2 ⟨rfl, hb⟩
    have HB2 := Lib.hid (btr HB1.out hb)
    clear hb
    go_wp2
    go_ret
    exact ⟨rfl, HB2.out⟩
  · rw [hr] at PR
    have PR := Lib.hid PR
    have PX := Lib.hid (fun (j : Nat) w => rexact_any b r d m s (j : Int) w)
    have PK := Lib.hid (fun (j : Nat) w => rkeys_any b r d m s (j : Int) w)
    have hR := right_of hr
    obtain ⟨n, hn⟩ : ∃ n : Nat, b = (n : Int) := ⟨b.toNat, by omega⟩
    subst hn
    have HN : Hid (sizeN (n : Int) r d m = sizeUp (n : Int) r d m (n + 1)) := Lib.hid (by unfold sizeN; rw [if_pos hr]; rfl)
    have HLE := Lib.hid (fun j => sizeUp_le hr j)
    have HCL := Lib.hid (fun (j : Nat) => cellsN_le (l := (j : Int)) hr)
    have HRR := Lib.hid hR
    rw [HN.out]
    have hn59 : n ≤ 59 := by omega
    clear hr hR
    go_enter Tryz.func12, Tryz.ntmps12
    go_wp2_with (refine wpList_load_row rfl 24 _ rfl w.heap.size rfl 24 _ (0, 0) _ hx1 Tryz.underlying24 rfl (by kernel_rfl) ?_)
    with_reducible refine (PR.out _).mono ?_
    rintro e w2 ⟨rfl, hb⟩
    have HB2 := Lib.hid (btr HB1.out hb)
    have HX2 := Lib.hid (HX1.out.kept hb)
    clear hb hx1
    go_wp2_with fail
    go_loopw [3, 4] (fun y i wr => ∃ j : Nat, j ≤ n + 1 ∧ i = .int .i64 (j : Int) ∧ y = .int .i64 (sizeUp (n : Int) r d m j : Int) ∧ Blk wr w.heap.size 24 #[.int .i64 (n : Int), .int .i64 r, .int .i64 d, .int .i64 m, .int .u64 s] ∧ Below w.heap.size w wr) (fun _ i _ => n + 1 - (intOf i).toNat)
    case atStart => exact ⟨0, by omega, rfl, rfl, HX2.out, HB2.out⟩
    case round =>
      obtain ⟨j, hj, rfl, rfl, hx, hbel⟩ := hrel
      have HX := Lib.hid hx
      have HBL := Lib.hid hbel
      have q0 := hx.cell 0
      simp at q0
      clear hx hbel HX2 HB2
      by_cases hlt : j < n + 1
      · have PX2 := PX.out j
        have PK2 := Lib.hid (PK.out j)
        have HSU : Hid (sizeUp (n : Int) r d m (j + 1) = sizeUp (n : Int) r d m j + cellsN (n : Int) r d m (j : Int)) := Lib.hid rfl
        have hc := HCL.out j
        have hz := HLE.out j
        have i1 : (j : Int) ≤ (n : Int) := by omega
        have i2 : decide ((j : Int) ≤ (n : Int)) = true := decide_eq_true i1
        have i3 : decide (j ≤ n) = true := decide_eq_true (by omega)
        cases hex : exactB (n : Int) r d m (j : Int)
        · rw [hex] at PX2
          have PX2 := Lib.hid PX2
          have hR := HRR.out
          obtain ⟨cn, hcn⟩ : ∃ cn, cn = cellsN (n : Int) r d m (j : Int) := ⟨_, rfl⟩
          have HCN : Hid (cn = r.toNat * d.toNat) := Lib.hid (by rw [hcn]; unfold cellsN; rw [hex]; simp)
          have hp : (r.toNat : Int) * (d.toNat : Int) = (cn : Int) := by rw [HCN.out]; exact (Int.natCast_mul ..).symm
          rw [show (r.toNat : Int) = r by omega, show (d.toNat : Int) = d by omega] at hp
          rw [← hcn] at HSU hc
          generalize sizeUp (n : Int) r d m j = su at *
          clear hR hex hcn
          go_wp2_with (refine wpList_load_row rfl 24 _ rfl w.heap.size rfl 24 _ (0, 0) _ HX.out Tryz.underlying24 rfl (by kernel_rfl) ?_)
          with_reducible refine (PX2.out _).mono ?_
          rintro e w3 ⟨rfl, hb⟩
          have HX3 := Lib.hid (HX.out.kept hb)
          have HB3 := Lib.hid (btr HBL.out hb)
          have q1 := HX3.out.cell 1
          have q2 := HX3.out.cell 2
          simp at q1 q2
          clear hb q0
          go_wp2
          go_roundw
          case rel => exact ⟨j + 1, by omega, by go_num, by rw [HSU.out]; go_num, HX3.out, HB3.out⟩
          case measure => simp [intOf]; omega
        · rw [hex] at PX2
          have PX2 := Lib.hid PX2
          have hkd := of_decide_eq_true hex
          obtain ⟨cn, hcn⟩ : ∃ cn, cn = cellsN (n : Int) r d m (j : Int) := ⟨_, rfl⟩
          have HCN : Hid (keysI (n : Int) r d m (j : Int) = (cn : Int)) := Lib.hid (by rw [hcn]; unfold cellsN; rw [hex]; simp; omega)
          rw [HCN.out] at PK2
          have hw : IntKind.i64.wrap (cn : Int) = (cn : Int) := by rw [wrapI_eq64]; unfold wrap64; omega
          rw [← hcn] at HSU hc
          generalize sizeUp (n : Int) r d m j = su at *
          clear hex hcn hkd
          go_wp2_with (refine wpList_load_row rfl 24 _ rfl w.heap.size rfl 24 _ (0, 0) _ HX.out Tryz.underlying24 rfl (by kernel_rfl) ?_)
          with_reducible refine (PX2.out _).mono ?_
          rintro e w3 ⟨rfl, hb⟩
          have HX3 := Lib.hid (HX.out.kept hb)
          have HB3 := Lib.hid (btr HBL.out hb)
          clear hb q0
          go_wp2_with (refine wpList_load_row rfl 24 _ rfl w.heap.size rfl 24 _ (0, 0) _ HX3.out Tryz.underlying24 rfl (by kernel_rfl) ?_)
          with_reducible refine (PK2.out _).mono ?_
          rintro e w4 ⟨rfl, hb⟩
          have HX4 := Lib.hid (HX3.out.kept hb)
          have HB4 := Lib.hid (btr HB3.out hb)
          clear hb
          go_wp2
          go_roundw
          case rel => exact ⟨j + 1, by omega, by go_num, by rw [HSU.out]; go_num, HX4.out, HB4.out⟩
          case measure => simp [intOf]; omega
      · obtain rfl : j = n + 1 := by omega
        have i1 : ¬ (((n + 1 : Nat) : Int) ≤ (n : Int)) := by omega
        have i3 : decide (n + 1 ≤ n) = false := decide_eq_false (by omega)
        clear hlt
        go_wp2
        go_ret
        exact ⟨rfl, HBL.out⟩
end Go.Proofs.YtbghchgmoiniiaaGreat

/-
  The walks of the document's writer: Head, Encode. Conditions: none beyond those stated at each theorem.
-/
namespace Go.Proofs.YtbghchgmoiniiaaGreat
open Go.RowKit
set_option linter.unusedVariables false
set_option linter.unusedSimpArgs false

set_option maxRecDepth 100000 in
set_option maxHeartbeats 8000000 in
theorem rhead_any (nb nr nd nm : Nat) (s : Int) (hb59 : nb ≤ 59) (hr8 : nr ≤ 8) (hd128 : nd ≤ 128) (hm3 : nm ≤ 3) (s0 : 0 ≤ s) (s1 : s ≤ 18446744073709551615) (w : World) :
    Calls Tryz.prog 26 #[.agg #[.int .i64 (nb : Int), .int .i64 (nr : Int), .int .i64 (nd : Int), .int .i64 (nm : Int), .int .u64 s]] w (NewB w (headB nb nr nd nm s)) := by
  obtain ⟨i0', hi, hz0, hz1, hz2⟩ := info_parts Tryz.info8
  have PB := Lib.hid (fun (u : Nat) (hu : u ≤ 128) w => rput_b w u (by omega))
  have PL : Hid (∀ w, Calls Tryz.prog 43 #[.int .u64 s, .int .i64 8] w (NewB w (leB s 8))) := Lib.hid (fun w => rbytes_any w s 8 s0 s1 (by decide))
  have HLE : Hid ((leB s 8).length = 8) := Lib.hid (leB_len _ _)
  have HPN := Lib.hid (fun (u : Nat) (hu : u ≤ 128) => putN_len10 (u := u) (by omega))
  have HPP := Lib.hid putN_pos
  have kc := Joins.run_convert_bytes_const_at (P := Tryz.prog) (w.alloc (.cells #[.int .i64 (nb : Int), .int .i64 (nr : Int), .int .i64 (nd : Int), .int .i64 (nm : Int), .int .u64 s] 24)) 33 5 #[.int .u8 71, .int .u8 65] 2 2 (w.heap.size + 1) (by simp) Tryz.underlying33 Tryz.underlying5
  obtain ⟨g1, g2, hb3, hsz3⟩ := news2 w (.cells #[.int .i64 (nb : Int), .int .i64 (nr : Int), .int .i64 (nd : Int), .int .i64 (nm : Int), .int .u64 s] 24) (.cells #[.int .u8 71, .int .u8 65] 5 (2, 3))
  have HC3 : Hid (Blk _ w.heap.size 24 #[.int .i64 (nb : Int), .int .i64 (nr : Int), .int .i64 (nd : Int), .int .i64 (nm : Int), .int .u64 s]) := Lib.hid g1
  have HB3 := Lib.hid hb3
  have HMK : Hid (∀ j u, ([.int .u8 71, .int .u8 65] : List Value)[j]? = some u → ((w.alloc (.cells #[.int .i64 (nb : Int), .int .i64 (nr : Int), .int .i64 (nd : Int), .int .i64 (nm : Int), .int .u64 s] 24)).alloc (.cells #[.int .u8 71, .int .u8 65] 5 (2, 3))).cell? ⟨w.heap.size + 1, 0 + j, none⟩ = some u) := Lib.hid (fun j u hu => by
    have hc := Joins.cell_alloc_mark_at (w.alloc (.cells #[.int .i64 (nb : Int), .int .i64 (nr : Int), .int .i64 (nd : Int), .int .i64 (nm : Int), .int .u64 s] 24)) #[.int .u8 71, .int .u8 65] 5 (2, 3) (w.heap.size + 1) j (by simp)
    rw [Nat.zero_add, hc]
    match j, hu with
    | 0, h => simpa using h
    | 1, h => simpa using h)
  clear g1 g2 hb3 hsz3
  go_enter Tryz.func26, Tryz.ntmps26
  go_upto_region 2 with fail
  clear kc
  generalize (w.alloc (.cells #[.int .i64 (nb : Int), .int .i64 (nr : Int), .int .i64 (nd : Int), .int .i64 (nm : Int), .int .u64 s] 24)).alloc (.cells #[.int .u8 71, .int .u8 65] 5 (2, 3)) = w3 at *
  have k0 := HC3.out.cell 0
  simp at k0
  go_wp2_with fail
  with_reducible refine (PB.out nb (by omega) _).mono ?_
  rintro e w4 ⟨v4, rfl, ho4, hn4, hb4⟩
  have HB4 := Lib.hid (btr HB3.out hb4)
  have HC4 := Lib.hid (HC3.out.kept hb4)
  have HAT4 := Lib.hid ho4.at
  have HMK4 : Hid (∀ j u, ([.int .u8 71, .int .u8 65] : List Value)[j]? = some u → w4.cell? ⟨w.heap.size + 1, 0 + j, none⟩ = some u) := Lib.hid (fun j u hu => by
    have h1 := HMK.out j u hu
    have h2 : w.heap.size + 1 < w3.heap.size := World.block_lt_of_cell? w3 _ h1
    exact (hb4.cell (p := ⟨w.heap.size + 1, 0 + j, none⟩) h2).trans h1)
  obtain ⟨ao4, c4, e4, hc4, hm4, -⟩ := ho4.at
  subst e4
  obtain ⟨ad4, e4, hnw4⟩ := BytesAt.news (n := (putN nb).length) HAT4.out rfl w4 (Below.refl _ _) (by have := HPP.out nb; omega)
  subst e4
  have HNW4 := Lib.hid hnw4
  have hl4 : (putN nb).length ≤ 10 := HPN.out nb (by omega)
  clear k0 ho4 hn4 hb4 hc4 hm4 hnw4
  go_wp2_with (at_builtin; refine wpList_append_arg _ rfl _ _ 33 rfl 5 i0' (.int .u8 0) 1 1 Tryz.underlying33 hi hz0 hz1 hz2 rfl (by decide) (w.heap.size + 1) 0 2 2 [.int .u8 71, .int .u8 65] rfl rfl HMK4.out ad4 (putN nb).length c4 ((putN nb).map (Value.int .u8)) rfl (by simp) HNW4.out (fun u hu => by obtain ⟨z, -, rfl⟩ := List.mem_map.1 hu; rfl) (fun h => by have := HPP.out nb; omega) (by unfold maxLen; omega) (by omega) (fun h => by have := HPP.out nb; omega) (fun _ => ?_))
  intro v5 w5 o5 g5
  have HO5 : Hid (OwnB w5 w.heap.size v5 ([71, 65] ++ putN nb)) := Lib.hid (by
    unfold OwnB
    have h1 := Joins.ownsRow_le o5 HB4.out.size
    rw [List.length_append, List.map_append]
    exact h1)
  have HB5 : Hid (Below w.heap.size w w5) := Lib.hid (HB4.out.grown g5 HB4.out.size (fun k e => by cases e))
  have HC5 := Lib.hid (HC4.out.grown g5 (by simp))
  have HL5 : Hid (([71, 65] ++ putN nb).length ≤ 100) := Lib.hid (by rw [List.length_append]; simp only [List.length_cons, List.length_nil]; omega)
  clear o5 g5 hl4
  have k1 := HC5.out.cell 1
  simp at k1
  go_wp2_with fail
  with_reducible refine (PB.out nr (by omega) _).mono ?_
  rintro e w6 ⟨v6, rfl, ho6, hn6, hb6⟩
  have HB6 := Lib.hid (btr HB5.out hb6)
  have HC6 := Lib.hid (HC5.out.kept hb6)
  have HO6 := Lib.hid (HO5.out.kept hb6)
  have HAT6 := Lib.hid ho6.at
  obtain ⟨ao6, cp6, cq6, rfl⟩ := ho6.open2
  clear k1 ho6 hn6 hb6
  go_wp2_with (at_builtin; refine wpList_app_b rfl _ _ rfl w.heap.size _ _ _ _ rfl rfl HO6.out HAT6.out (by have := HPP.out nr; omega) (by have := HL5.out; have := HPN.out nr (by omega); omega) HB6.out.size ?_)
  intro v7 w7 o7 g7 nn7 q7
  have HO7 : Hid (OwnB w7 w.heap.size v7 ([71, 65] ++ putN nb ++ putN nr)) := Lib.hid (by have h := o7; simp only [List.append_assoc, List.cons_append, List.nil_append] at h ⊢; exact h)
  have HB7 : Hid (Below w.heap.size w w7) := Lib.hid (HB6.out.grown g7 HB6.out.size (fun k e => (HO6.out.lt k e).1))
  have HC7 := Lib.hid (HC6.out.grown g7 (HO6.out.far HC6.out (by decide)))
  have HL7 : Hid (([71, 65] ++ putN nb ++ putN nr).length ≤ 200) := Lib.hid (by rw [List.length_append]; have := HL5.out; have := HPN.out nr (by omega); omega)
  clear o7 g7 nn7 q7
  have k2 := HC7.out.cell 2
  simp at k2
  go_wp2_with fail
  with_reducible refine (PB.out nd (by omega) _).mono ?_
  rintro e w8 ⟨v8, rfl, ho8, hn8, hb8⟩
  have HB8 := Lib.hid (btr HB7.out hb8)
  have HC8 := Lib.hid (HC7.out.kept hb8)
  have HO8 := Lib.hid (HO7.out.kept hb8)
  have HAT8 := Lib.hid ho8.at
  obtain ⟨ao8, cp8, cq8, rfl⟩ := ho8.open2
  clear k2 ho8 hn8 hb8
  go_wp2_with (at_builtin; refine wpList_app_b rfl _ _ rfl w.heap.size _ _ _ _ rfl rfl HO8.out HAT8.out (by have := HPP.out nd; omega) (by have := HL7.out; have := HPN.out nd (by omega); omega) HB8.out.size ?_)
  intro v9 w9 o9 g9 nn9 q9
  have HO9 : Hid (OwnB w9 w.heap.size v9 ([71, 65] ++ putN nb ++ putN nr ++ putN nd)) := Lib.hid (by have h := o9; simp only [List.append_assoc, List.cons_append, List.nil_append] at h ⊢; exact h)
  have HB9 : Hid (Below w.heap.size w w9) := Lib.hid (HB8.out.grown g9 HB8.out.size (fun k e => (HO8.out.lt k e).1))
  have HC9 := Lib.hid (HC8.out.grown g9 (HO8.out.far HC8.out (by decide)))
  have HL9 : Hid (([71, 65] ++ putN nb ++ putN nr ++ putN nd).length ≤ 300) := Lib.hid (by rw [List.length_append]; have := HL7.out; have := HPN.out nd (by omega); omega)
  clear o9 g9 nn9 q9
  have k3 := HC9.out.cell 3
  simp at k3
  go_wp2_with fail
  with_reducible refine (PB.out nm (by omega) _).mono ?_
  rintro e w10 ⟨v10, rfl, ho10, hn10, hb10⟩
  have HB10 := Lib.hid (btr HB9.out hb10)
  have HC10 := Lib.hid (HC9.out.kept hb10)
  have HO10 := Lib.hid (HO9.out.kept hb10)
  have HAT10 := Lib.hid ho10.at
  obtain ⟨ao10, cp10, cq10, rfl⟩ := ho10.open2
  clear k3 ho10 hn10 hb10
  go_wp2_with (at_builtin; refine wpList_app_b rfl _ _ rfl w.heap.size _ _ _ _ rfl rfl HO10.out HAT10.out (by have := HPP.out nm; omega) (by have := HL9.out; have := HPN.out nm (by omega); omega) HB10.out.size ?_)
  intro v11 w11 o11 g11 nn11 q11
  have HO11 : Hid (OwnB w11 w.heap.size v11 ([71, 65] ++ putN nb ++ putN nr ++ putN nd ++ putN nm)) := Lib.hid (by have h := o11; simp only [List.append_assoc, List.cons_append, List.nil_append] at h ⊢; exact h)
  have HB11 : Hid (Below w.heap.size w w11) := Lib.hid (HB10.out.grown g11 HB10.out.size (fun k e => (HO10.out.lt k e).1))
  have HC11 := Lib.hid (HC10.out.grown g11 (HO10.out.far HC10.out (by decide)))
  have HL11 : Hid (([71, 65] ++ putN nb ++ putN nr ++ putN nd ++ putN nm).length ≤ 400) := Lib.hid (by rw [List.length_append]; have := HL9.out; have := HPN.out nm (by omega); omega)
  clear o11 g11 nn11 q11
  have k4 := HC11.out.cell 4
  simp at k4
  go_wp2_with fail
  with_reducible refine (PL.out _).mono ?_
  rintro e w12 ⟨v12, rfl, ho12, hn12, hb12⟩
  have HB12 := Lib.hid (btr HB11.out hb12)
  have HO12 := Lib.hid (HO11.out.kept hb12)
  have HAT12 := Lib.hid ho12.at
  obtain ⟨ao12, cp12, cq12, rfl⟩ := ho12.open2
  clear k4 ho12 hn12 hb12
  go_wp2_with (at_builtin; refine wpList_app_b rfl _ _ rfl w.heap.size _ _ _ _ rfl rfl HO12.out HAT12.out (by rw [HLE.out]; decide) (by have := HL11.out; rw [HLE.out]; omega) HB12.out.size ?_)
  intro v13 w13 o13 g13 nn13 q13
  have HHD : Hid ([71, 65] ++ putN nb ++ putN nr ++ putN nd ++ putN nm ++ leB s 8 = headB (nb : Int) nr nd nm s) := Lib.hid (by simp [headB])
  have HO13 : Hid (OwnB w13 w.heap.size v13 (headB (nb : Int) nr nd nm s)) := Lib.hid (by rw [← HHD.out]; have h := o13; simp only [List.append_assoc, List.cons_append, List.nil_append] at h ⊢; exact h)
  have HB13 : Hid (Below w.heap.size w w13) := Lib.hid (HB12.out.grown g13 HB12.out.size (fun k e => (HO12.out.lt k e).1))
  have HN13 := Lib.hid nn13
  clear o13 g13 nn13 q13
  go_wp2
  go_ret
  exact ⟨_, rfl, HO13.out, HN13.out, HB13.out⟩
set_option maxRecDepth 100000 in
set_option maxHeartbeats 8000000 in
theorem rencode_any (w : World) (base RS RL : Nat) (b r d m s : Int) (P : Nat → Nat) (F : Nat → Nat → Prop) (Z : Nat → List Int) (h : RStIs w base RS RL b r d m s P F Z) (hfit : ∀ n, n ≤ b.toNat → Fit (Z n) ∧ (Z n).length = cellsN b r d m n) (s0 : 0 ≤ s) (s1 : s ≤ 18446744073709551615) (hl : (headB b r d m s ++ rowsB Z (b.toNat + 1)).length ≤ 100000) :
    Calls Tryz.prog 9 #[.pointer (some ⟨RS, 0, none⟩)] w (NewB w (encB b r d m s Z)) := by
  have H := Lib.hid h
  have HL := Lib.hid hl
  have HFIT := Lib.hid hfit
  have hR := right_of h.right
  have HRT := Lib.hid h.right
  obtain ⟨nb, nr, nd, nm, rfl, rfl, rfl, rfl⟩ : ∃ nb nr nd nm : Nat, b = (nb : Int) ∧ r = (nr : Int) ∧ d = (nd : Int) ∧ m = (nm : Int) := ⟨b.toNat, r.toNat, d.toNat, m.toNat, by omega, by omega, by omega, by omega⟩
  have hb59 : nb ≤ 59 := by omega
  have PH := Lib.hid (fun w => rhead_any nb nr nd nm s hb59 (by omega) (by omega) (by omega) s0 s1 w)
  obtain ⟨cap, hbx, hcap⟩ := h.box
  rw [Int.toNat_natCast] at hbx hcap
  have HBX := Lib.hid hbx
  have q0 := hbx.cell 0
  have q1 := hbx.cell 1
  have q2 := hbx.cell 2
  have q3 := hbx.cell 3
  have q4 := hbx.cell 4
  simp at q0 q1 q2 q3 q4
  have HLT : Hid (∀ j, j ≤ nb + 1 → (headB (nb : Int) nr nd nm s ++ rowsB Z j).length ≤ 100000) := Lib.hid (fun j hj => by
    have h1 := HL.out
    have h2 : ∀ i, (rowsB Z j).length ≤ (rowsB Z (j + i)).length := fun i => by
      induction i with
      | zero => exact Nat.le_refl _
      | succ i ih => rw [← Nat.add_assoc, rowsB, List.length_append]; omega
    have h3 := h2 (nb + 1 - j)
    rw [show j + (nb + 1 - j) = nb + 1 by omega] at h3
    rw [List.length_append] at h1 ⊢
    simp only [Int.toNat_natCast] at h1
    omega)
  clear h hl hfit hR hbx hcap
  go_enter Tryz.func9, Tryz.ntmps9
  go_wp2_with fail
  with_reducible refine (PH.out _).mono ?_
  rintro e w2 ⟨v2, rfl, ho2, hn2, hb2⟩
  have HO2 := Lib.hid ho2
  have HN2 := Lib.hid hn2
  have HB2 := Lib.hid hb2
  clear q0 q1 q2 q3 q4 ho2 hn2 hb2
  go_wp2_with fail
  go_loopw [3, 4] (fun x i wr => ∃ j : Nat, j ≤ nb + 1 ∧ i = .int .i64 (j : Int) ∧ OwnB wr w.heap.size x (headB (nb : Int) nr nd nm s ++ rowsB Z j) ∧ x ≠ .slice none 0 0 ∧ Below w.heap.size w wr) (fun _ i _ => nb + 1 - (intOf i).toNat)
  case atStart => exact ⟨0, by omega, rfl, by simpa [rowsB] using HO2.out, HN2.out, HB2.out⟩
  case round =>
    obtain ⟨j, hj, rfl, hown, hnil, hbel⟩ := hrel
    have HO := Lib.hid hown
    have HB := Lib.hid hbel
    have HNIL := Lib.hid hnil
    have q5 := (HBX.out.kept hbel).cell 5
    simp at q5
    clear hown hnil HO2 HN2 HB2
    by_cases hlt : j < nb + 1
    · have hjn : j ≤ (nb : Int).toNat := by rw [Int.toNat_natCast]; omega
      have i0 : (0 : Int) ≤ (j : Int) := by omega
      have i1 : (j : Int) < (nb : Int) + 1 := by omega
      have hst := H.out.kept hbel
      obtain ⟨cur, hrow, hcur⟩ := hst.row
      have cj := (hrow.cell j).trans (hcur j hjn)
      obtain ⟨hf, hln⟩ := HFIT.out j hjn
      have hle : (Z j).length ≤ 1024 := by rw [hln]; exact cellsN_le HRT.out
      have hpos : 0 < (Z j).length := by rw [hln]; exact cellsN_pos HRT.out (by omega) (by omega)
      have PCE := Lib.hid (rlcells wr (F j) (P j) nb nr nd nm s j (Z j) (hst.lev j hjn) hle)
      have HRP : Hid (0 < (rowB (Z j)).length) := Lib.hid (by have := rowB_ge (Z j); omega)
      have HRL : Hid ((rowB (Z j)).length ≤ 10240) := Lib.hid (by have := rowB_le (Z j) hf; omega)
      have HLJ := Lib.hid (HLT.out j (by omega))
      have HF := Lib.hid hf
      clear hst hrow hcur hf hln hpos hbel
      go_wp2_with fail
      with_reducible refine PCE.out.mono ?_
      rintro e w3 ⟨g, cp, rfl, hcp, hg, hints, hb⟩
      have HB3 := Lib.hid (btr HB.out hb)
      have HO3 := Lib.hid (HO.out.kept hb)
      have PRW := Lib.hid (rrow_any w3 _ (Z j) hints HF.out (by omega))
      clear hcp hg hints hb cj q5
      go_wp2_with fail
      with_reducible refine PRW.out.mono ?_
      rintro e w6 ⟨v6, rfl, ho6, hn6, hb6⟩
      have HB6 := Lib.hid (btr HB3.out hb6)
      have HO6 := Lib.hid (HO3.out.kept hb6)
      have HAT := Lib.hid ho6.at
      obtain ⟨vo, vl, vc, rfl⟩ := ho6.open2
      clear ho6 hn6 hb6
      go_wp2_with (at_builtin; refine wpList_app_b rfl _ _ rfl w.heap.size _ _ _ _ rfl rfl HO6.out HAT.out HRP.out (by have := HRL.out; have := HLJ.out; omega) HB6.out.size ?_)
      intro v8 w8 h8 g8 n8 q8
      have HO8 : Hid (OwnB w8 w.heap.size v8 (headB (nb : Int) nr nd nm s ++ rowsB Z (j + 1))) := Lib.hid (by rw [rowsB, ← List.append_assoc]; have h := h8; simp only [List.append_assoc] at h ⊢; exact h)
      have HB8 : Hid (Below w.heap.size w w8) := Lib.hid (HB6.out.grown g8 HB6.out.size (fun k e => (HO6.out.lt k e).1))
      have HN8 := Lib.hid n8
      clear h8 g8 n8 q8
      go_wp2
      go_roundw
      case rel => exact ⟨j + 1, by omega, by go_num, HO8.out, HN8.out, HB8.out⟩
      case measure => simp [intOf]; omega
    · obtain rfl : j = nb + 1 := by omega
      have PS := Lib.hid (signed_any wr _ _ HO.out.at ((headB_byts nb nr nd nm s).append (rowsB_byts Z (nb + 1))) (HLT.out (nb + 1) (Nat.le_refl _)))
      clear hbel
      go_wp2_with fail
      with_reducible refine PS.out.mono ?_
      rintro e w6 ⟨v6, rfl, ho6, hn6, hb6⟩
      have HB6 := Lib.hid (btr HB.out hb6)
      have HO6 : Hid (OwnB w6 w.heap.size v6 (encB nb nr nd nm s Z)) := Lib.hid (Joins.ownsRow_le (by unfold encB; rw [Int.toNat_natCast]; exact ho6) HB.out.size)
      have HN6 := Lib.hid hn6
      clear ho6 hn6 hb6 q5
      go_wp2
      go_ret
      exact ⟨v6, rfl, HO6.out, HN6.out, HB6.out⟩
end Go.Proofs.YtbghchgmoiniiaaGreat

/-
  The statement WireTells, walked. Conditions: none beyond those stated at each theorem.
-/
namespace Go.Proofs.YtbghchgmoiniiaaGreat
open Go.RowKit
set_option linter.unusedVariables false
set_option linter.unusedSimpArgs false

theorem headB_le {b r d m s : Int} (hr : rightB b r d m = true) : (headB b r d m s).length ≤ 60 := by
  have h := right_of hr
  unfold headB
  have l1 := putN_len10 (u := b.toNat) (by omega)
  have l2 := putN_len10 (u := r.toNat) (by omega)
  have l3 := putN_len10 (u := d.toNat) (by omega)
  have l4 := putN_len10 (u := m.toNat) (by omega)
  simp only [List.length_append, List.length_cons, List.length_nil, leB_len]
  omega
theorem Two.shaped {w : World} {n0 S RS : Nat} {b r d m s : Int} {Z : Nat → List Int} (h : Two w n0 S RS b r d m s Z) : Shaped b r d m Z (b.toNat + 1) := fun n hn => by
  obtain ⟨h1, h2⟩ := h.fit n (by omega)
  exact ⟨h2, h1⟩
theorem enc_le {b r d m s : Int} {Z : Nat → List Int} (hr : rightB b r d m = true) (hz : Shaped b r d m Z (b.toNat + 1)) (hb : b ≤ 8) : (headB b r d m s ++ rowsB Z (b.toNat + 1)).length ≤ 100000 - 4 := by
  have h1 := headB_le (s := s) hr
  have h2 := (rowsB_le hz).2
  have h3 := sizeUp_le hr (b.toNat + 1)
  have := right_of hr
  rw [List.length_append]
  omega
theorem Two.rbox {w : World} {n0 S RS : Nat} {b r d m s : Int} {Z : Nat → List Int} (h : Two w n0 S RS b r d m s Z) : ∃ v, Blk w RS 40 #[.int .i64 b, .int .i64 r, .int .i64 d, .int .i64 m, .int .u64 s, v] := by
  obtain ⟨L, X, A, G, C, RL, P, F, h1, hs, hr, -⟩ := h
  obtain ⟨cap, hx, -⟩ := hr.box
  exact ⟨_, hx⟩
/-- a stack beside the document's, encoded -/
theorem Two.encode {w : World} {n0 S RS : Nat} {b r d m s : Int} {Z : Nat → List Int} (h : Two w n0 S RS b r d m s Z) (s0 : 0 ≤ s) (s1 : s ≤ 18446744073709551615) (hb : b ≤ 8) : Calls Tryz.prog 8 #[.pointer (some ⟨S, 0, none⟩)] w (PostC w (encB b r d m s Z)) := by
  have hl := enc_le (s := s) h.right h.shaped hb
  obtain ⟨L, X, A, G, C, RL, P, F, h1, hs, hr, -⟩ := h
  exact encode_any w n0 S L b r d m s X A G C Z hs s0 (by omega) (by omega)
theorem Two.config {w : World} {n0 S RS : Nat} {b r d m s : Int} {Z : Nat → List Int} (h : Two w n0 S RS b r d m s Z) : Calls Tryz.prog 11 #[.pointer (some ⟨S, 0, none⟩)] w fun e w' => e = .returned (.agg #[.int .i64 b, .int .i64 r, .int .i64 d, .int .i64 m, .int .u64 s]) ∧ Below w.heap.size w w' := by
  obtain ⟨L, X, A, G, C, RL, P, F, h1, hs, hr, -⟩ := h
  exact stconfig w n0 S L b r d m s X A G C Z hs
theorem Two.rencode {w : World} {n0 S RS : Nat} {b r d m s : Int} {Z : Nat → List Int} (h : Two w n0 S RS b r d m s Z) (s0 : 0 ≤ s) (s1 : s ≤ 18446744073709551615) (hb : b ≤ 8) : Calls Tryz.prog 9 #[.pointer (some ⟨RS, 0, none⟩)] w (NewB w (encB b r d m s Z)) := by
  have hl := enc_le (s := s) h.right h.shaped hb
  have hf := h.fit
  obtain ⟨L, X, A, G, C, RL, P, F, h1, hs, hr, -⟩ := h
  exact rencode_any w h1 RS RL b r d m s P F Z hr hf s0 s1 (by omega)
set_option maxRecDepth 100000 in
set_option maxHeartbeats 8000000 in
theorem WireTells_walk (v0 : Value) (w : World) (h0 : shPlay.Val w v0) :
    Calls Tryz.prog 3 #[v0] w fun e w' => e = .returned (.bool true) ∧ Below w.heap.size w w' := by
  obtain ⟨xb, xr, xd, xm, s, l, n, ks, ds, rfl, hl, -, -, -, -, s0, s1⟩ := valPlay h0
  clear h0
  have HL := Lib.hid hl
  obtain ⟨ao, cap, rfl, hmx, -, -⟩ := hl
  have PS := Lib.hid shown23
  have PM := Lib.hid (fun w hl => made_any xb xr xd xm s (.slice ao n cap) n ks ds 6 (by decide) (by decide) s0 s1 w hl)
  have hb6 := anyI_bd xb 6 (by decide)
  obtain ⟨b, hb⟩ : ∃ b, b = anyI xb 6 := ⟨_, rfl⟩
  obtain ⟨r, hr⟩ : ∃ r, r = anyI xr 4 := ⟨_, rfl⟩
  obtain ⟨d, hd⟩ : ∃ d, d = anyI xd 9 := ⟨_, rfl⟩
  obtain ⟨m, hm⟩ : ∃ m, m = anyI xm 3 := ⟨_, rfl⟩
  rw [← hb, ← hr, ← hd, ← hm] at PM
  rw [← hb] at hb6
  clear hb hr hd hm
  obtain ⟨g1, hb1, hsz1⟩ := news1 w (.cells #[.int .i64 xb, .int .i64 xr, .int .i64 xd, .int .i64 xm, .int .u64 s, .slice ao n cap] 27)
  have hx1 : Blk _ w.heap.size 27 #[.int .i64 xb, .int .i64 xr, .int .i64 xd, .int .i64 xm, .int .u64 s, .slice ao n cap] := g1
  have HX1 := Lib.hid hx1
  have HB1 := Lib.hid hb1
  clear g1 hx1 hb1 hsz1
  go_enter Tryz.func3, Tryz.ntmps3
  go_wp2_with fail
  generalize (w.alloc (.cells #[.int .i64 xb, .int .i64 xr, .int .i64 xd, .int .i64 xm, .int .u64 s, .slice ao n cap] 27)) = w1 at *
  with_reducible refine (PS.out _).mono ?_
  rintro e w2 ⟨rfl, hb⟩
  have HB2 := Lib.hid (btr HB1.out hb)
  have hx2 := HX1.out.kept hb
  have HL2 := Lib.hid (HL.out.kept (btr HB1.out hb))
  clear hb
  go_wp2_with (refine wpList_load_row rfl 27 _ rfl w.heap.size rfl 27 _ (0, 0) _ hx2 Tryz.underlying27 rfl (by kernel_rfl) ?_)
  with_reducible refine (PM.out _ HL2.out).mono ?_
  rintro e w3 ⟨S, RS, Z, rfl, htw, hb⟩
  have HT3 := Lib.hid htw
  have HB3 := Lib.hid (btr HB2.out hb)
  obtain ⟨n0, hn0⟩ : ∃ n0, n0 = w2.heap.size := ⟨_, rfl⟩
  rw [← hn0] at HT3
  have HSH := Lib.hid htw.shaped
  clear hb htw hx2 hn0
  have PE := Lib.hid (fun wq (hq : Two wq n0 S RS b r d m s Z) => hq.encode s0 s1 (by omega))
  have PR := Lib.hid (fun wq (hq : Two wq n0 S RS b r d m s Z) => hq.rencode s0 s1 (by omega))
  have PC := Lib.hid (fun wq (hq : Two wq n0 S RS b r d m s Z) => hq.config)
  have PZ := Lib.hid (fun wq => wsize_any b r d m s wq)
  have PZR := Lib.hid (fun wq => rsize_any b r d m s wq)
  generalize encB b r d m s Z = lb at *
  have HCV := Lib.hid (fun (wq : World) (v : Value) (hq : BytesAt wq v lb) => strB_conv (P := Tryz.prog) hq 33 5 9 Tryz.underlying33 Tryz.underlying5 Tryz.underlying9)
  go_wp2_with fail
  refine wp_region_held_drew (S := fun w' => Two w' n0 S RS b r d m s Z ∧ Below w.heap.size w w') (by kernel_rfl) (by exact ⟨HT3.out.kept (below_drewN (Below.refl _ _) 1), below_drewN HB3.out 1⟩) (fun hHeld => ?_)
  refine wpAnyH_take (i := 0) (v := ?_) rfl (by kernel_rfl) (by kernel_rfl) (by kernel_rfl) (fun _ _ _ h => h) (Or.inl ⟨by rfl, ?_⟩) (by assumption) ?_
  rotate_left
  · intro w hSw
    try dsimp only at hSw
    go_simp
    try with_reducible rfl
  simp only [Act.put, List.setIfInBounds_toArray, List.set_cons_zero, List.set_cons_succ, List.getElem_toArray, List.getElem_cons_zero, List.getElem_cons_succ]
  refine wpAnyH_take (i := 1) (v := ?_) rfl (by kernel_rfl) (by kernel_rfl) (by kernel_rfl) (fun _ _ _ h => h) (Or.inl ⟨by rfl, ?_⟩) (by assumption) ?_
  rotate_left
  · intro w hSw
    try dsimp only at hSw
    go_simp
    try with_reducible rfl
  simp only [Act.put, List.setIfInBounds_toArray, List.set_cons_zero, List.set_cons_succ, List.getElem_toArray, List.getElem_cons_zero, List.getElem_cons_succ]
  refine wpAnyH_take (i := 2) (v := ?_) rfl (by kernel_rfl) (by kernel_rfl) (by kernel_rfl) (fun _ _ _ h => h) (Or.inl ⟨by rfl, ?_⟩) (by assumption) ?_
  rotate_left
  · intro w hSw
    try dsimp only at hSw
    go_simp
    try with_reducible rfl
  simp only [Act.put, List.setIfInBounds_toArray, List.set_cons_zero, List.set_cons_succ, List.getElem_toArray, List.getElem_cons_zero, List.getElem_cons_succ]
  refine wpAnyH_take (i := 5) (v := ?_) rfl (by kernel_rfl) (by kernel_rfl) (by kernel_rfl) (fun _ _ _ h => h) (Or.inl ⟨by rfl, ?_⟩) (by assumption) ?_
  rotate_left
  · intro w hSw
    try dsimp only at hSw
    go_simp
    try with_reducible rfl
  simp only [Act.put, List.setIfInBounds_toArray, List.set_cons_zero, List.set_cons_succ, List.getElem_toArray, List.getElem_cons_zero, List.getElem_cons_succ]
  refine wpAnyH_ready (rs := [3]) (by kernel_rfl) (by simp) ?_
  refine AllReadyH.cons rfl (fun Kc hKc => ?_) AllReadyH.nil
  go_simp
  go_wp2_with (first | (go_at_call 8; refine (PE.out _ hHeld.1).mono ?_; rintro e w8 ⟨v8, rfl, ho8, hb'⟩; have HO8 := Lib.hid ho8; have cv8 := HCV.out _ _ ho8.at; clear ho8) | (go_at_call 9; refine (PR.out _ hHeld.1).mono ?_; rintro e w9 ⟨v9, rfl, ho9, -, hb'⟩; have cv9 := HCV.out _ _ ho9.at; have cv8 := HCV.out _ _ (HO8.out.kept hb').at; clear ho9) | (go_at_call 11; refine (PC.out _ hHeld.1).mono ?_; rintro e w10 ⟨rfl, hb'⟩) | (go_at_call 10; refine (PZ.out _).mono ?_; rintro e w11 ⟨rfl, hb'⟩) | (go_at_call 12; refine (PZR.out _).mono ?_; rintro e w12 ⟨rfl, hb'⟩))
  refine hKc.out _ _ ?_ (fun hHeld => ?_)
  · first | assumption | exact ⟨hHeld.1.kept hb', btr hHeld.2 hb'⟩
  clear hKc Kc
  refine wpAnyH_ready (rs := [4, 6]) (by kernel_rfl) (by simp) ?_
  refine AllReadyH.cons rfl (fun Kc hKc => ?_) (AllReadyH.cons rfl (fun Kc hKc => ?_) AllReadyH.nil)
  · go_simp
    refine hKc.out _ _ ?_ (fun hHeld => ?_)
    · first | assumption | exact ⟨hHeld.1.kept hb', btr hHeld.2 hb'⟩
    clear hKc Kc
    refine wpAnyH_ready (rs := [6]) (by kernel_rfl) (by simp) ?_
    refine AllReadyH.cons rfl (fun Kc hKc => ?_) AllReadyH.nil
    go_simp
    go_wp2_with (first | (go_at_call 8; refine (PE.out _ hHeld.1).mono ?_; rintro e w8 ⟨v8, rfl, ho8, hb'⟩; have HO8 := Lib.hid ho8; have cv8 := HCV.out _ _ ho8.at; clear ho8) | (go_at_call 9; refine (PR.out _ hHeld.1).mono ?_; rintro e w9 ⟨v9, rfl, ho9, -, hb'⟩; have cv9 := HCV.out _ _ ho9.at; have cv8 := HCV.out _ _ (HO8.out.kept hb').at; clear ho9) | (go_at_call 11; refine (PC.out _ hHeld.1).mono ?_; rintro e w10 ⟨rfl, hb'⟩) | (go_at_call 10; refine (PZ.out _).mono ?_; rintro e w11 ⟨rfl, hb'⟩) | (go_at_call 12; refine (PZR.out _).mono ?_; rintro e w12 ⟨rfl, hb'⟩))
    refine hKc.out _ _ ?_ (fun hHeld => ?_)
    · first | assumption | exact ⟨hHeld.1.kept hb', btr hHeld.2 hb'⟩
    clear hKc Kc
    refine wpAnyH_ready (rs := [7]) (by kernel_rfl) (by simp) ?_
    refine AllReadyH.cons rfl (fun Kc hKc => ?_) AllReadyH.nil
    go_simp
    refine hKc.out _ _ ?_ (fun hHeld => ?_)
    · first | assumption | exact ⟨hHeld.1.kept hb', btr hHeld.2 hb'⟩
    clear hKc Kc
    refine wpAnyH_take (i := 8) (v := ?_) rfl (by kernel_rfl) (by kernel_rfl) (by kernel_rfl) (fun _ _ _ h => h) (Or.inl ⟨by rfl, ?_⟩) (by assumption) ?_
    rotate_left
    · intro w hSw
      try dsimp only at hSw
      go_simp
      try with_reducible rfl
    simp only [Act.put, List.setIfInBounds_toArray, List.set_cons_zero, List.set_cons_succ, List.getElem_toArray, List.getElem_cons_zero, List.getElem_cons_succ]
    refine wpAnyH_take (i := 9) (v := ?_) rfl (by kernel_rfl) (by kernel_rfl) (by kernel_rfl) (fun _ _ _ h => h) (Or.inl ⟨by rfl, ?_⟩) (by assumption) ?_
    rotate_left
    · intro w hSw
      try dsimp only at hSw
      go_simp
      try with_reducible rfl
    simp only [Act.put, List.setIfInBounds_toArray, List.set_cons_zero, List.set_cons_succ, List.getElem_toArray, List.getElem_cons_zero, List.getElem_cons_succ]
    refine wpAnyH_take (i := 10) (v := ?_) rfl (by kernel_rfl) (by kernel_rfl) (by kernel_rfl) (fun _ _ _ h => h) (Or.inl ⟨by rfl, ?_⟩) (by assumption) ?_
    rotate_left
    · intro w hSw
      try dsimp only at hSw
      go_simp
      try with_reducible rfl
    simp only [Act.put, List.setIfInBounds_toArray, List.set_cons_zero, List.set_cons_succ, List.getElem_toArray, List.getElem_cons_zero, List.getElem_cons_succ]
    refine wpAnyH_take (i := 11) (v := ?_) rfl (by kernel_rfl) (by kernel_rfl) (by kernel_rfl) (fun _ _ _ h => h) (Or.inl ⟨by rfl, ?_⟩) (by assumption) ?_
    rotate_left
    · intro w hSw
      try dsimp only at hSw
      go_simp
      try with_reducible rfl
    simp only [Act.put, List.setIfInBounds_toArray, List.set_cons_zero, List.set_cons_succ, List.getElem_toArray, List.getElem_cons_zero, List.getElem_cons_succ]
    refine wpAnyH_take (i := 14) (v := ?_) rfl (by kernel_rfl) (by kernel_rfl) (by kernel_rfl) (fun _ _ _ h => h) (Or.inl ⟨by rfl, ?_⟩) (by assumption) ?_
    rotate_left
    · intro w hSw
      try dsimp only at hSw
      go_simp
      try with_reducible rfl
    simp only [Act.put, List.setIfInBounds_toArray, List.set_cons_zero, List.set_cons_succ, List.getElem_toArray, List.getElem_cons_zero, List.getElem_cons_succ]
    refine wpAnyH_take (i := 15) (v := ?_) rfl (by kernel_rfl) (by kernel_rfl) (by kernel_rfl) (fun _ _ _ h => h) (Or.inl ⟨by rfl, ?_⟩) (by assumption) ?_
    rotate_left
    · intro w hSw
      try dsimp only at hSw
      go_simp
      try with_reducible rfl
    simp only [Act.put, List.setIfInBounds_toArray, List.set_cons_zero, List.set_cons_succ, List.getElem_toArray, List.getElem_cons_zero, List.getElem_cons_succ]
    refine wpAnyH_take (i := 16) (v := ?_) rfl (by kernel_rfl) (by kernel_rfl) (by kernel_rfl) (fun _ _ _ h => h) (Or.inl ⟨by rfl, ?_⟩) (by assumption) ?_
    rotate_left
    · intro w hSw
      try dsimp only at hSw
      go_simp
      try with_reducible rfl
    simp only [Act.put, List.setIfInBounds_toArray, List.set_cons_zero, List.set_cons_succ, List.getElem_toArray, List.getElem_cons_zero, List.getElem_cons_succ]
    refine wpAnyH_take (i := 17) (v := ?_) rfl (by kernel_rfl) (by kernel_rfl) (by kernel_rfl) (fun _ _ _ h => h) (Or.inl ⟨by rfl, ?_⟩) (by assumption) ?_
    rotate_left
    · intro w hSw
      obtain ⟨vq, hbq⟩ := hSw.1.rbox
      have q0 := hbq.cell 0
      have q1 := hbq.cell 1
      have q2 := hbq.cell 2
      have q3 := hbq.cell 3
      have q4 := hbq.cell 4
      simp at q0 q1 q2 q3 q4
      go_simp
      try with_reducible rfl
    simp only [Act.put, List.setIfInBounds_toArray, List.set_cons_zero, List.set_cons_succ, List.getElem_toArray, List.getElem_cons_zero, List.getElem_cons_succ]
    refine wpAnyH_ready (rs := [12]) (by kernel_rfl) (by simp) ?_
    refine AllReadyH.cons rfl (fun Kc hKc => ?_) AllReadyH.nil
    go_simp
    go_wp2_with (first | (go_at_call 8; refine (PE.out _ hHeld.1).mono ?_; rintro e w8 ⟨v8, rfl, ho8, hb'⟩; have HO8 := Lib.hid ho8; have cv8 := HCV.out _ _ ho8.at; clear ho8) | (go_at_call 9; refine (PR.out _ hHeld.1).mono ?_; rintro e w9 ⟨v9, rfl, ho9, -, hb'⟩; have cv9 := HCV.out _ _ ho9.at; have cv8 := HCV.out _ _ (HO8.out.kept hb').at; clear ho9) | (go_at_call 11; refine (PC.out _ hHeld.1).mono ?_; rintro e w10 ⟨rfl, hb'⟩) | (go_at_call 10; refine (PZ.out _).mono ?_; rintro e w11 ⟨rfl, hb'⟩) | (go_at_call 12; refine (PZR.out _).mono ?_; rintro e w12 ⟨rfl, hb'⟩))
    refine hKc.out _ _ ?_ (fun hHeld => ?_)
    · first | assumption | exact ⟨hHeld.1.kept hb', btr hHeld.2 hb'⟩
    clear hKc Kc
    refine wpAnyH_ready (rs := [13]) (by kernel_rfl) (by simp) ?_
    refine AllReadyH.cons rfl (fun Kc hKc => ?_) AllReadyH.nil
    go_simp
    go_wp2_with (first | (go_at_call 8; refine (PE.out _ hHeld.1).mono ?_; rintro e w8 ⟨v8, rfl, ho8, hb'⟩; have HO8 := Lib.hid ho8; have cv8 := HCV.out _ _ ho8.at; clear ho8) | (go_at_call 9; refine (PR.out _ hHeld.1).mono ?_; rintro e w9 ⟨v9, rfl, ho9, -, hb'⟩; have cv9 := HCV.out _ _ ho9.at; have cv8 := HCV.out _ _ (HO8.out.kept hb').at; clear ho9) | (go_at_call 11; refine (PC.out _ hHeld.1).mono ?_; rintro e w10 ⟨rfl, hb'⟩) | (go_at_call 10; refine (PZ.out _).mono ?_; rintro e w11 ⟨rfl, hb'⟩) | (go_at_call 12; refine (PZR.out _).mono ?_; rintro e w12 ⟨rfl, hb'⟩))
    refine hKc.out _ _ ?_ (fun hHeld => ?_)
    · first | assumption | exact ⟨hHeld.1.kept hb', btr hHeld.2 hb'⟩
    clear hKc Kc
    refine wpAnyH_ready (rs := [18]) (by kernel_rfl) (by simp) ?_
    refine AllReadyH.cons rfl (fun Kc hKc => ?_) AllReadyH.nil
    go_simp
    go_wp2_with (first | (go_at_call 8; refine (PE.out _ hHeld.1).mono ?_; rintro e w8 ⟨v8, rfl, ho8, hb'⟩; have HO8 := Lib.hid ho8; have cv8 := HCV.out _ _ ho8.at; clear ho8) | (go_at_call 9; refine (PR.out _ hHeld.1).mono ?_; rintro e w9 ⟨v9, rfl, ho9, -, hb'⟩; have cv9 := HCV.out _ _ ho9.at; have cv8 := HCV.out _ _ (HO8.out.kept hb').at; clear ho9) | (go_at_call 11; refine (PC.out _ hHeld.1).mono ?_; rintro e w10 ⟨rfl, hb'⟩) | (go_at_call 10; refine (PZ.out _).mono ?_; rintro e w11 ⟨rfl, hb'⟩) | (go_at_call 12; refine (PZR.out _).mono ?_; rintro e w12 ⟨rfl, hb'⟩))
    refine hKc.out _ _ ?_ (fun hHeld => ?_)
    · first | assumption | exact ⟨hHeld.1.kept hb', btr hHeld.2 hb'⟩
    clear hKc Kc
    refine wpAnyH_take (i := 19) (v := ?_) rfl (by kernel_rfl) (by kernel_rfl) (by kernel_rfl) (fun _ _ _ h => h) (Or.inl ⟨by rfl, ?_⟩) (by assumption) ?_
    rotate_left
    · intro w hSw
      try dsimp only at hSw
      go_simp
      try with_reducible rfl
    simp only [Act.put, List.setIfInBounds_toArray, List.set_cons_zero, List.set_cons_succ, List.getElem_toArray, List.getElem_cons_zero, List.getElem_cons_succ]
    refine wpAnyH_take (i := 20) (v := ?_) rfl (by kernel_rfl) (by kernel_rfl) (by kernel_rfl) (fun _ _ _ h => h) (Or.inl ⟨by rfl, ?_⟩) (by assumption) ?_
    rotate_left
    · intro w hSw
      try dsimp only at hSw
      go_simp
      try with_reducible rfl
    simp only [Act.put, List.setIfInBounds_toArray, List.set_cons_zero, List.set_cons_succ, List.getElem_toArray, List.getElem_cons_zero, List.getElem_cons_succ]
    refine wpAnyH_take (i := 21) (v := ?_) rfl (by kernel_rfl) (by kernel_rfl) (by kernel_rfl) (fun _ _ _ h => h) (Or.inl ⟨by rfl, ?_⟩) (by assumption) ?_
    rotate_left
    · intro w hSw
      try dsimp only at hSw
      go_simp
      try with_reducible rfl
    simp only [Act.put, List.setIfInBounds_toArray, List.set_cons_zero, List.set_cons_succ, List.getElem_toArray, List.getElem_cons_zero, List.getElem_cons_succ]
    refine wpAnyH_done (by kernel_rfl) ?_ _
    go_wp2
    go_ret
    exact ⟨rfl, hHeld.2⟩
  · go_simp
    go_wp2_with (first | (go_at_call 8; refine (PE.out _ hHeld.1).mono ?_; rintro e w8 ⟨v8, rfl, ho8, hb'⟩; have HO8 := Lib.hid ho8; have cv8 := HCV.out _ _ ho8.at; clear ho8) | (go_at_call 9; refine (PR.out _ hHeld.1).mono ?_; rintro e w9 ⟨v9, rfl, ho9, -, hb'⟩; have cv9 := HCV.out _ _ ho9.at; have cv8 := HCV.out _ _ (HO8.out.kept hb').at; clear ho9) | (go_at_call 11; refine (PC.out _ hHeld.1).mono ?_; rintro e w10 ⟨rfl, hb'⟩) | (go_at_call 10; refine (PZ.out _).mono ?_; rintro e w11 ⟨rfl, hb'⟩) | (go_at_call 12; refine (PZR.out _).mono ?_; rintro e w12 ⟨rfl, hb'⟩))
    refine hKc.out _ _ ?_ (fun hHeld => ?_)
    · first | assumption | exact ⟨hHeld.1.kept hb', btr hHeld.2 hb'⟩
    clear hKc Kc
    refine wpAnyH_ready (rs := [4, 7]) (by kernel_rfl) (by simp) ?_
    refine AllReadyH.cons rfl (fun Kc hKc => ?_) (AllReadyH.cons rfl (fun Kc hKc => ?_) AllReadyH.nil)
    · go_simp
      refine hKc.out _ _ ?_ (fun hHeld => ?_)
      · first | assumption | exact ⟨hHeld.1.kept hb', btr hHeld.2 hb'⟩
      clear hKc Kc
      refine wpAnyH_ready (rs := [7]) (by kernel_rfl) (by simp) ?_
      refine AllReadyH.cons rfl (fun Kc hKc => ?_) AllReadyH.nil
      go_simp
      refine hKc.out _ _ ?_ (fun hHeld => ?_)
      · first | assumption | exact ⟨hHeld.1.kept hb', btr hHeld.2 hb'⟩
      clear hKc Kc
      refine wpAnyH_take (i := 8) (v := ?_) rfl (by kernel_rfl) (by kernel_rfl) (by kernel_rfl) (fun _ _ _ h => h) (Or.inl ⟨by rfl, ?_⟩) (by assumption) ?_
      rotate_left
      · intro w hSw
        try dsimp only at hSw
        go_simp
        try with_reducible rfl
      simp only [Act.put, List.setIfInBounds_toArray, List.set_cons_zero, List.set_cons_succ, List.getElem_toArray, List.getElem_cons_zero, List.getElem_cons_succ]
      refine wpAnyH_take (i := 9) (v := ?_) rfl (by kernel_rfl) (by kernel_rfl) (by kernel_rfl) (fun _ _ _ h => h) (Or.inl ⟨by rfl, ?_⟩) (by assumption) ?_
      rotate_left
      · intro w hSw
        try dsimp only at hSw
        go_simp
        try with_reducible rfl
      simp only [Act.put, List.setIfInBounds_toArray, List.set_cons_zero, List.set_cons_succ, List.getElem_toArray, List.getElem_cons_zero, List.getElem_cons_succ]
      refine wpAnyH_take (i := 10) (v := ?_) rfl (by kernel_rfl) (by kernel_rfl) (by kernel_rfl) (fun _ _ _ h => h) (Or.inl ⟨by rfl, ?_⟩) (by assumption) ?_
      rotate_left
      · intro w hSw
        try dsimp only at hSw
        go_simp
        try with_reducible rfl
      simp only [Act.put, List.setIfInBounds_toArray, List.set_cons_zero, List.set_cons_succ, List.getElem_toArray, List.getElem_cons_zero, List.getElem_cons_succ]
      refine wpAnyH_take (i := 11) (v := ?_) rfl (by kernel_rfl) (by kernel_rfl) (by kernel_rfl) (fun _ _ _ h => h) (Or.inl ⟨by rfl, ?_⟩) (by assumption) ?_
      rotate_left
      · intro w hSw
        try dsimp only at hSw
        go_simp
        try with_reducible rfl
      simp only [Act.put, List.setIfInBounds_toArray, List.set_cons_zero, List.set_cons_succ, List.getElem_toArray, List.getElem_cons_zero, List.getElem_cons_succ]
      refine wpAnyH_take (i := 14) (v := ?_) rfl (by kernel_rfl) (by kernel_rfl) (by kernel_rfl) (fun _ _ _ h => h) (Or.inl ⟨by rfl, ?_⟩) (by assumption) ?_
      rotate_left
      · intro w hSw
        try dsimp only at hSw
        go_simp
        try with_reducible rfl
      simp only [Act.put, List.setIfInBounds_toArray, List.set_cons_zero, List.set_cons_succ, List.getElem_toArray, List.getElem_cons_zero, List.getElem_cons_succ]
      refine wpAnyH_take (i := 15) (v := ?_) rfl (by kernel_rfl) (by kernel_rfl) (by kernel_rfl) (fun _ _ _ h => h) (Or.inl ⟨by rfl, ?_⟩) (by assumption) ?_
      rotate_left
      · intro w hSw
        try dsimp only at hSw
        go_simp
        try with_reducible rfl
      simp only [Act.put, List.setIfInBounds_toArray, List.set_cons_zero, List.set_cons_succ, List.getElem_toArray, List.getElem_cons_zero, List.getElem_cons_succ]
      refine wpAnyH_take (i := 16) (v := ?_) rfl (by kernel_rfl) (by kernel_rfl) (by kernel_rfl) (fun _ _ _ h => h) (Or.inl ⟨by rfl, ?_⟩) (by assumption) ?_
      rotate_left
      · intro w hSw
        try dsimp only at hSw
        go_simp
        try with_reducible rfl
      simp only [Act.put, List.setIfInBounds_toArray, List.set_cons_zero, List.set_cons_succ, List.getElem_toArray, List.getElem_cons_zero, List.getElem_cons_succ]
      refine wpAnyH_take (i := 17) (v := ?_) rfl (by kernel_rfl) (by kernel_rfl) (by kernel_rfl) (fun _ _ _ h => h) (Or.inl ⟨by rfl, ?_⟩) (by assumption) ?_
      rotate_left
      · intro w hSw
        obtain ⟨vq, hbq⟩ := hSw.1.rbox
        have q0 := hbq.cell 0
        have q1 := hbq.cell 1
        have q2 := hbq.cell 2
        have q3 := hbq.cell 3
        have q4 := hbq.cell 4
        simp at q0 q1 q2 q3 q4
        go_simp
        try with_reducible rfl
      simp only [Act.put, List.setIfInBounds_toArray, List.set_cons_zero, List.set_cons_succ, List.getElem_toArray, List.getElem_cons_zero, List.getElem_cons_succ]
      refine wpAnyH_ready (rs := [12]) (by kernel_rfl) (by simp) ?_
      refine AllReadyH.cons rfl (fun Kc hKc => ?_) AllReadyH.nil
      go_simp
      go_wp2_with (first | (go_at_call 8; refine (PE.out _ hHeld.1).mono ?_; rintro e w8 ⟨v8, rfl, ho8, hb'⟩; have HO8 := Lib.hid ho8; have cv8 := HCV.out _ _ ho8.at; clear ho8) | (go_at_call 9; refine (PR.out _ hHeld.1).mono ?_; rintro e w9 ⟨v9, rfl, ho9, -, hb'⟩; have cv9 := HCV.out _ _ ho9.at; have cv8 := HCV.out _ _ (HO8.out.kept hb').at; clear ho9) | (go_at_call 11; refine (PC.out _ hHeld.1).mono ?_; rintro e w10 ⟨rfl, hb'⟩) | (go_at_call 10; refine (PZ.out _).mono ?_; rintro e w11 ⟨rfl, hb'⟩) | (go_at_call 12; refine (PZR.out _).mono ?_; rintro e w12 ⟨rfl, hb'⟩))
      refine hKc.out _ _ ?_ (fun hHeld => ?_)
      · first | assumption | exact ⟨hHeld.1.kept hb', btr hHeld.2 hb'⟩
      clear hKc Kc
      refine wpAnyH_ready (rs := [13]) (by kernel_rfl) (by simp) ?_
      refine AllReadyH.cons rfl (fun Kc hKc => ?_) AllReadyH.nil
      go_simp
      go_wp2_with (first | (go_at_call 8; refine (PE.out _ hHeld.1).mono ?_; rintro e w8 ⟨v8, rfl, ho8, hb'⟩; have HO8 := Lib.hid ho8; have cv8 := HCV.out _ _ ho8.at; clear ho8) | (go_at_call 9; refine (PR.out _ hHeld.1).mono ?_; rintro e w9 ⟨v9, rfl, ho9, -, hb'⟩; have cv9 := HCV.out _ _ ho9.at; have cv8 := HCV.out _ _ (HO8.out.kept hb').at; clear ho9) | (go_at_call 11; refine (PC.out _ hHeld.1).mono ?_; rintro e w10 ⟨rfl, hb'⟩) | (go_at_call 10; refine (PZ.out _).mono ?_; rintro e w11 ⟨rfl, hb'⟩) | (go_at_call 12; refine (PZR.out _).mono ?_; rintro e w12 ⟨rfl, hb'⟩))
      refine hKc.out _ _ ?_ (fun hHeld => ?_)
      · first | assumption | exact ⟨hHeld.1.kept hb', btr hHeld.2 hb'⟩
      clear hKc Kc
      refine wpAnyH_ready (rs := [18]) (by kernel_rfl) (by simp) ?_
      refine AllReadyH.cons rfl (fun Kc hKc => ?_) AllReadyH.nil
      go_simp
      go_wp2_with (first | (go_at_call 8; refine (PE.out _ hHeld.1).mono ?_; rintro e w8 ⟨v8, rfl, ho8, hb'⟩; have HO8 := Lib.hid ho8; have cv8 := HCV.out _ _ ho8.at; clear ho8) | (go_at_call 9; refine (PR.out _ hHeld.1).mono ?_; rintro e w9 ⟨v9, rfl, ho9, -, hb'⟩; have cv9 := HCV.out _ _ ho9.at; have cv8 := HCV.out _ _ (HO8.out.kept hb').at; clear ho9) | (go_at_call 11; refine (PC.out _ hHeld.1).mono ?_; rintro e w10 ⟨rfl, hb'⟩) | (go_at_call 10; refine (PZ.out _).mono ?_; rintro e w11 ⟨rfl, hb'⟩) | (go_at_call 12; refine (PZR.out _).mono ?_; rintro e w12 ⟨rfl, hb'⟩))
      refine hKc.out _ _ ?_ (fun hHeld => ?_)
      · first | assumption | exact ⟨hHeld.1.kept hb', btr hHeld.2 hb'⟩
      clear hKc Kc
      refine wpAnyH_take (i := 19) (v := ?_) rfl (by kernel_rfl) (by kernel_rfl) (by kernel_rfl) (fun _ _ _ h => h) (Or.inl ⟨by rfl, ?_⟩) (by assumption) ?_
      rotate_left
      · intro w hSw
        try dsimp only at hSw
        go_simp
        try with_reducible rfl
      simp only [Act.put, List.setIfInBounds_toArray, List.set_cons_zero, List.set_cons_succ, List.getElem_toArray, List.getElem_cons_zero, List.getElem_cons_succ]
      refine wpAnyH_take (i := 20) (v := ?_) rfl (by kernel_rfl) (by kernel_rfl) (by kernel_rfl) (fun _ _ _ h => h) (Or.inl ⟨by rfl, ?_⟩) (by assumption) ?_
      rotate_left
      · intro w hSw
        try dsimp only at hSw
        go_simp
        try with_reducible rfl
      simp only [Act.put, List.setIfInBounds_toArray, List.set_cons_zero, List.set_cons_succ, List.getElem_toArray, List.getElem_cons_zero, List.getElem_cons_succ]
      refine wpAnyH_take (i := 21) (v := ?_) rfl (by kernel_rfl) (by kernel_rfl) (by kernel_rfl) (fun _ _ _ h => h) (Or.inl ⟨by rfl, ?_⟩) (by assumption) ?_
      rotate_left
      · intro w hSw
        try dsimp only at hSw
        go_simp
        try with_reducible rfl
      simp only [Act.put, List.setIfInBounds_toArray, List.set_cons_zero, List.set_cons_succ, List.getElem_toArray, List.getElem_cons_zero, List.getElem_cons_succ]
      refine wpAnyH_done (by kernel_rfl) ?_ _
      go_wp2
      go_ret
      exact ⟨rfl, hHeld.2⟩
    · go_simp
      refine hKc.out _ _ ?_ (fun hHeld => ?_)
      · first | assumption | exact ⟨hHeld.1.kept hb', btr hHeld.2 hb'⟩
      clear hKc Kc
      refine wpAnyH_ready (rs := [4]) (by kernel_rfl) (by simp) ?_
      refine AllReadyH.cons rfl (fun Kc hKc => ?_) AllReadyH.nil
      go_simp
      refine hKc.out _ _ ?_ (fun hHeld => ?_)
      · first | assumption | exact ⟨hHeld.1.kept hb', btr hHeld.2 hb'⟩
      clear hKc Kc
      refine wpAnyH_take (i := 8) (v := ?_) rfl (by kernel_rfl) (by kernel_rfl) (by kernel_rfl) (fun _ _ _ h => h) (Or.inl ⟨by rfl, ?_⟩) (by assumption) ?_
      rotate_left
      · intro w hSw
        try dsimp only at hSw
        go_simp
        try with_reducible rfl
      simp only [Act.put, List.setIfInBounds_toArray, List.set_cons_zero, List.set_cons_succ, List.getElem_toArray, List.getElem_cons_zero, List.getElem_cons_succ]
      refine wpAnyH_take (i := 9) (v := ?_) rfl (by kernel_rfl) (by kernel_rfl) (by kernel_rfl) (fun _ _ _ h => h) (Or.inl ⟨by rfl, ?_⟩) (by assumption) ?_
      rotate_left
      · intro w hSw
        try dsimp only at hSw
        go_simp
        try with_reducible rfl
      simp only [Act.put, List.setIfInBounds_toArray, List.set_cons_zero, List.set_cons_succ, List.getElem_toArray, List.getElem_cons_zero, List.getElem_cons_succ]
      refine wpAnyH_take (i := 10) (v := ?_) rfl (by kernel_rfl) (by kernel_rfl) (by kernel_rfl) (fun _ _ _ h => h) (Or.inl ⟨by rfl, ?_⟩) (by assumption) ?_
      rotate_left
      · intro w hSw
        try dsimp only at hSw
        go_simp
        try with_reducible rfl
      simp only [Act.put, List.setIfInBounds_toArray, List.set_cons_zero, List.set_cons_succ, List.getElem_toArray, List.getElem_cons_zero, List.getElem_cons_succ]
      refine wpAnyH_take (i := 11) (v := ?_) rfl (by kernel_rfl) (by kernel_rfl) (by kernel_rfl) (fun _ _ _ h => h) (Or.inl ⟨by rfl, ?_⟩) (by assumption) ?_
      rotate_left
      · intro w hSw
        try dsimp only at hSw
        go_simp
        try with_reducible rfl
      simp only [Act.put, List.setIfInBounds_toArray, List.set_cons_zero, List.set_cons_succ, List.getElem_toArray, List.getElem_cons_zero, List.getElem_cons_succ]
      refine wpAnyH_take (i := 14) (v := ?_) rfl (by kernel_rfl) (by kernel_rfl) (by kernel_rfl) (fun _ _ _ h => h) (Or.inl ⟨by rfl, ?_⟩) (by assumption) ?_
      rotate_left
      · intro w hSw
        try dsimp only at hSw
        go_simp
        try with_reducible rfl
      simp only [Act.put, List.setIfInBounds_toArray, List.set_cons_zero, List.set_cons_succ, List.getElem_toArray, List.getElem_cons_zero, List.getElem_cons_succ]
      refine wpAnyH_take (i := 15) (v := ?_) rfl (by kernel_rfl) (by kernel_rfl) (by kernel_rfl) (fun _ _ _ h => h) (Or.inl ⟨by rfl, ?_⟩) (by assumption) ?_
      rotate_left
      · intro w hSw
        try dsimp only at hSw
        go_simp
        try with_reducible rfl
      simp only [Act.put, List.setIfInBounds_toArray, List.set_cons_zero, List.set_cons_succ, List.getElem_toArray, List.getElem_cons_zero, List.getElem_cons_succ]
      refine wpAnyH_take (i := 16) (v := ?_) rfl (by kernel_rfl) (by kernel_rfl) (by kernel_rfl) (fun _ _ _ h => h) (Or.inl ⟨by rfl, ?_⟩) (by assumption) ?_
      rotate_left
      · intro w hSw
        try dsimp only at hSw
        go_simp
        try with_reducible rfl
      simp only [Act.put, List.setIfInBounds_toArray, List.set_cons_zero, List.set_cons_succ, List.getElem_toArray, List.getElem_cons_zero, List.getElem_cons_succ]
      refine wpAnyH_take (i := 17) (v := ?_) rfl (by kernel_rfl) (by kernel_rfl) (by kernel_rfl) (fun _ _ _ h => h) (Or.inl ⟨by rfl, ?_⟩) (by assumption) ?_
      rotate_left
      · intro w hSw
        obtain ⟨vq, hbq⟩ := hSw.1.rbox
        have q0 := hbq.cell 0
        have q1 := hbq.cell 1
        have q2 := hbq.cell 2
        have q3 := hbq.cell 3
        have q4 := hbq.cell 4
        simp at q0 q1 q2 q3 q4
        go_simp
        try with_reducible rfl
      simp only [Act.put, List.setIfInBounds_toArray, List.set_cons_zero, List.set_cons_succ, List.getElem_toArray, List.getElem_cons_zero, List.getElem_cons_succ]
      refine wpAnyH_ready (rs := [12]) (by kernel_rfl) (by simp) ?_
      refine AllReadyH.cons rfl (fun Kc hKc => ?_) AllReadyH.nil
      go_simp
      go_wp2_with (first | (go_at_call 8; refine (PE.out _ hHeld.1).mono ?_; rintro e w8 ⟨v8, rfl, ho8, hb'⟩; have HO8 := Lib.hid ho8; have cv8 := HCV.out _ _ ho8.at; clear ho8) | (go_at_call 9; refine (PR.out _ hHeld.1).mono ?_; rintro e w9 ⟨v9, rfl, ho9, -, hb'⟩; have cv9 := HCV.out _ _ ho9.at; have cv8 := HCV.out _ _ (HO8.out.kept hb').at; clear ho9) | (go_at_call 11; refine (PC.out _ hHeld.1).mono ?_; rintro e w10 ⟨rfl, hb'⟩) | (go_at_call 10; refine (PZ.out _).mono ?_; rintro e w11 ⟨rfl, hb'⟩) | (go_at_call 12; refine (PZR.out _).mono ?_; rintro e w12 ⟨rfl, hb'⟩))
      refine hKc.out _ _ ?_ (fun hHeld => ?_)
      · first | assumption | exact ⟨hHeld.1.kept hb', btr hHeld.2 hb'⟩
      clear hKc Kc
      refine wpAnyH_ready (rs := [13]) (by kernel_rfl) (by simp) ?_
      refine AllReadyH.cons rfl (fun Kc hKc => ?_) AllReadyH.nil
      go_simp
      go_wp2_with (first | (go_at_call 8; refine (PE.out _ hHeld.1).mono ?_; rintro e w8 ⟨v8, rfl, ho8, hb'⟩; have HO8 := Lib.hid ho8; have cv8 := HCV.out _ _ ho8.at; clear ho8) | (go_at_call 9; refine (PR.out _ hHeld.1).mono ?_; rintro e w9 ⟨v9, rfl, ho9, -, hb'⟩; have cv9 := HCV.out _ _ ho9.at; have cv8 := HCV.out _ _ (HO8.out.kept hb').at; clear ho9) | (go_at_call 11; refine (PC.out _ hHeld.1).mono ?_; rintro e w10 ⟨rfl, hb'⟩) | (go_at_call 10; refine (PZ.out _).mono ?_; rintro e w11 ⟨rfl, hb'⟩) | (go_at_call 12; refine (PZR.out _).mono ?_; rintro e w12 ⟨rfl, hb'⟩))
      refine hKc.out _ _ ?_ (fun hHeld => ?_)
      · first | assumption | exact ⟨hHeld.1.kept hb', btr hHeld.2 hb'⟩
      clear hKc Kc
      refine wpAnyH_ready (rs := [18]) (by kernel_rfl) (by simp) ?_
      refine AllReadyH.cons rfl (fun Kc hKc => ?_) AllReadyH.nil
      go_simp
      go_wp2_with (first | (go_at_call 8; refine (PE.out _ hHeld.1).mono ?_; rintro e w8 ⟨v8, rfl, ho8, hb'⟩; have HO8 := Lib.hid ho8; have cv8 := HCV.out _ _ ho8.at; clear ho8) | (go_at_call 9; refine (PR.out _ hHeld.1).mono ?_; rintro e w9 ⟨v9, rfl, ho9, -, hb'⟩; have cv9 := HCV.out _ _ ho9.at; have cv8 := HCV.out _ _ (HO8.out.kept hb').at; clear ho9) | (go_at_call 11; refine (PC.out _ hHeld.1).mono ?_; rintro e w10 ⟨rfl, hb'⟩) | (go_at_call 10; refine (PZ.out _).mono ?_; rintro e w11 ⟨rfl, hb'⟩) | (go_at_call 12; refine (PZR.out _).mono ?_; rintro e w12 ⟨rfl, hb'⟩))
      refine hKc.out _ _ ?_ (fun hHeld => ?_)
      · first | assumption | exact ⟨hHeld.1.kept hb', btr hHeld.2 hb'⟩
      clear hKc Kc
      refine wpAnyH_take (i := 19) (v := ?_) rfl (by kernel_rfl) (by kernel_rfl) (by kernel_rfl) (fun _ _ _ h => h) (Or.inl ⟨by rfl, ?_⟩) (by assumption) ?_
      rotate_left
      · intro w hSw
        try dsimp only at hSw
        go_simp
        try with_reducible rfl
      simp only [Act.put, List.setIfInBounds_toArray, List.set_cons_zero, List.set_cons_succ, List.getElem_toArray, List.getElem_cons_zero, List.getElem_cons_succ]
      refine wpAnyH_take (i := 20) (v := ?_) rfl (by kernel_rfl) (by kernel_rfl) (by kernel_rfl) (fun _ _ _ h => h) (Or.inl ⟨by rfl, ?_⟩) (by assumption) ?_
      rotate_left
      · intro w hSw
        try dsimp only at hSw
        go_simp
        try with_reducible rfl
      simp only [Act.put, List.setIfInBounds_toArray, List.set_cons_zero, List.set_cons_succ, List.getElem_toArray, List.getElem_cons_zero, List.getElem_cons_succ]
      refine wpAnyH_take (i := 21) (v := ?_) rfl (by kernel_rfl) (by kernel_rfl) (by kernel_rfl) (fun _ _ _ h => h) (Or.inl ⟨by rfl, ?_⟩) (by assumption) ?_
      rotate_left
      · intro w hSw
        try dsimp only at hSw
        go_simp
        try with_reducible rfl
      simp only [Act.put, List.setIfInBounds_toArray, List.set_cons_zero, List.set_cons_succ, List.getElem_toArray, List.getElem_cons_zero, List.getElem_cons_succ]
      refine wpAnyH_done (by kernel_rfl) ?_ _
      go_wp2
      go_ret
      exact ⟨rfl, hHeld.2⟩
end Go.Proofs.YtbghchgmoiniiaaGreat
