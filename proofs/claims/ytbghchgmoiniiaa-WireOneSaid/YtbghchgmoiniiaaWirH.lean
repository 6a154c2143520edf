/-
  The walk of gaugerlaw23.shown. Conditions: none.
-/
import Derived.Test.YtbghchgmoiniiaaWirG
import Derived.Test.YtbghchgmoiniiaaEqc
namespace Go.Proofs.Ytbghchgmoiniiaa
open Go.RowKit
set_option linter.unusedVariables false
set_option linter.unusedSimpArgs false

def body17 : List Int := [71, 65, 1, 1, 2, 1, 0, 0, 0, 0, 0, 0, 0, 0, 0, 0, 0]
theorem zeroZ_two : (zeroZ 1 1 2 1 0 = [0, 0]) ∧ zeroZ 1 1 2 1 1 = [0] := by
  constructor
  · have : cellsN 1 1 2 1 ((0 : Nat) : Int) = 2 := by decide
    unfold zeroZ; rw [this]; rfl
  · have : cellsN 1 1 2 1 ((1 : Nat) : Int) = 1 := by decide
    unfold zeroZ; rw [this]; rfl
theorem body_eq : headB 1 1 2 1 0 ++ rowsB (zeroZ 1 1 2 1) ((1 : Int).toNat + 1) = body17 := by
  have h : rowsB (zeroZ 1 1 2 1) ((1 : Int).toNat + 1) = rowB [0, 0] ++ rowB [0] := by
    rw [show (1 : Int).toNat + 1 = 2 from rfl, rowsB, rowsB, rowsB, zeroZ_two.1, zeroZ_two.2, List.nil_append]
  have z0 : putN (zigI 0) = [0] := by
    have : zigI 0 = 0 := by decide
    rw [this, putN_lt (by decide)]; rfl
  rw [h]
  unfold headB
  rw [show (1 : Int).toNat = 1 from rfl, show (2 : Int).toNat = 2 from rfl, putN_lt (by decide), putN_lt (by decide)]
  simp only [rowB_cons, rowB_nil, z0]
  decide
theorem enc_shown : encB 1 1 2 1 0 (zeroZ 1 1 2 1) = body17 ++ leB (sumI 0 body17) 4 := by rw [encB, body_eq]; rfl
theorem dec_shown : DecS (encB 1 1 2 1 0 (zeroZ 1 1 2 1)) 1 1 2 1 0 (zeroZ 1 1 2 1) := by
  refine ⟨by decide, by decide, by decide, fun n hn => ⟨by simp [zeroZ], fun u hu => ?_⟩, rfl⟩
  have := List.eq_of_mem_replicate hu
  omega
theorem size_shown : sizeN 1 1 2 1 = 3 := by decide
/-- a constant's bytes, as the conversion leaves them -/
theorem lit_bytes (w : World) (a b : Int) (g : Nat) (hg : g = w.heap.size) : BytesAt (w.alloc (.cells #[.int .u8 a, .int .u8 b] 5 (2, 3))) (.slice (some ⟨g, 0, none⟩) 2 2) [a, b] := by
  refine ⟨_, 2, rfl, by simp, by unfold maxLen; omega, .inr ⟨g, 0, rfl, by simp; omega, fun i u hu => ?_⟩⟩
  have hc := Joins.cell_alloc_mark_at w #[.int .u8 a, .int .u8 b] 5 (2, 3) g i hg
  rw [Nat.zero_add, hc]
  match i, hu with
  | 0, h => simpa using h
  | 1, h => simpa using h
theorem dec_ga (w : World) : DecNo [71, 65] ∧ errOf [71, 65] = 8 := ⟨dec_short (by decide), by decide⟩
theorem str17 : ((strB body17).toList == [71, 65, 1, 1, 2, 1, 0, 0, 0, 0, 0, 0, 0, 0, 0, 0, 0]) = true := by
  rw [strB_list]; decide
set_option maxRecDepth 100000 in
set_option maxHeartbeats 8000000 in
theorem shown23 (w : World) : Calls Try.prog 6 #[] w fun e w' => e = .returned (.bool true) ∧ Below w.heap.size w w' := by
  have hgd : Try.prog.eqGuardType Try.prog.depth 36 = false := by kernel_rfl
  have EQ := eqCfg 1 1 2 1 0 1 1 2 1 0
  have hq : cfgEq 1 1 2 1 0 1 1 2 1 0 = true := by decide
  rw [hq] at EQ
  clear hq
  have PN := Lib.hid (fun w => stnew_yes 1 1 2 1 0 (by decide) w)
  have PZ := fun w => wsize_any 1 1 2 1 0 w
  rw [size_shown] at PZ
  have PZ := Lib.hid PZ
  obtain ⟨g1, hb1, hsz1⟩ := news1 w (.cells #[.int .i64 1, .int .i64 1, .int .i64 2, .int .i64 1, .int .u64 0] 36)
  have hx1 : Blk _ w.heap.size 36 #[.int .i64 1, .int .i64 1, .int .i64 2, .int .i64 1, .int .u64 0] := g1
  have HX1 := Lib.hid hx1
  have HB1 := Lib.hid hb1
  clear g1 hb1 hsz1
  go_enter Try.func6, Try.ntmps6
  go_wp2_with (refine wpList_load_row rfl 36 _ rfl w.heap.size rfl 36 _ (0, 0) _ hx1 Try.underlying36 rfl (by kernel_rfl) ?_)
  with_reducible refine (PN.out _).mono ?_
  rintro e w2 ⟨S, L, X, A, G, C, rfl, hS, hst, hb⟩
  have HST2 := Lib.hid hst
  have HX2 := Lib.hid (HX1.out.kept hb)
  have HB2 := Lib.hid (btr HB1.out hb)
  clear hst hb hx1 hS
  have PE := Lib.hid (encode_any w2 _ S L 1 1 2 1 0 X A G C _ HST2.out (by decide) (by decide) (by rw [body_eq]; decide))
  go_wp2_with fail
  with_reducible refine PE.out.mono ?_
  rintro e w3 ⟨v3, rfl, ho3, hb3⟩
  have HX3 := Lib.hid (HX2.out.kept hb3)
  have HB3 := Lib.hid (btr HB2.out hb3)
  have hat := ho3.at
  have HAT := Lib.hid hat
  have hby : Byts (encB 1 1 2 1 0 (zeroZ 1 1 2 1)) := signB_byts ((headB_byts _ _ _ _ _).append (rowsB_byts _ _))
  have hlen : (encB 1 1 2 1 0 (zeroZ 1 1 2 1)).length = 21 := by rw [enc_shown, List.length_append, leB_len]; rfl
  have HLEN := Lib.hid hlen
  have PD := Lib.hid (decode_any w3 v3 _ hat hby (by rw [hlen]; decide))
  obtain ⟨ao, cap, rfl, hcap, hmx, hc⟩ := hat
  rcases hc with ⟨hnil, -⟩ | ⟨bg, boff, rfl, hbg, -⟩
  · rw [hnil] at hlen; simp at hlen
  rw [hlen] at PD HAT hcap ⊢
  clear ho3 hb3 hlen hby PE
  go_wp2_with fail
  with_reducible refine PD.out.mono ?_
  rintro e w4 ⟨⟨b, r, d, m, s, Z, S4, L4, X4, A4, G4, C4, hds, rfl, hS4, hst4⟩ | ⟨hno, -⟩, hb4⟩
  rotate_left
  · exact absurd dec_shown (hno _ _ _ _ _ _)
  obtain ⟨rfl, rfl, rfl, rfl, rfl, -⟩ := dec_shown.unique hds
  have HST4 := Lib.hid hst4
  have HX4 := Lib.hid (HX3.out.kept hb4)
  have HB4 := Lib.hid (btr HB3.out hb4)
  have HAT4 := Lib.hid (HAT.out.kept hb4)
  clear hds hS4 hst4 hb4 PD
  have kc := Joins.run_convert_bytes_const_at (P := Try.prog) w4 22 5 #[.int .u8 71, .int .u8 65] 2 2 w4.heap.size rfl Try.underlying22 Try.underlying5
  have PF := Lib.hid (dec_few (w4.alloc (.cells #[.int .u8 71, .int .u8 65] 5 (2, 3))) (.slice (some ⟨w4.heap.size, 0, none⟩) 2 2) [71, 65] (lit_bytes w4 71 65 _ rfl) (by decide))
  have HAL : Hid (Below w4.heap.size w4 (w4.alloc (.cells #[.int .u8 71, .int .u8 65] 5 (2, 3)))) := Lib.hid ((Below.refl _ _).alloc (Nat.le_refl _) _)
  go_wp2_with fail
  with_reducible refine PF.out.mono ?_
  rintro e w5 ⟨⟨b, r, d, m, s, Z, S5, L5, X5, A5, G5, C5, hds, -⟩ | ⟨-, rfl⟩, hb5⟩
  · exact absurd hds ((dec_ga w).1 _ _ _ _ _ _)
  rw [(dec_ga w).2]
  have HB45 := Lib.hid (btr HAL.out hb5)
  have HST5 := Lib.hid (HST4.out.kept HB45.out)
  have HX5 := Lib.hid (HX4.out.kept HB45.out)
  have HB5 := Lib.hid (btr HB4.out HB45.out)
  have HAT5 := Lib.hid (HAT4.out.kept HB45.out)
  clear hb5 PF HAL kc HST4 HX4 HB4 HAT4 HB45 HST2 HX2 HX3 HB3 HAT
  have HT17 : Hid ((encB 1 1 2 1 0 (zeroZ 1 1 2 1)).take 17 = body17) := Lib.hid (by rw [enc_shown]; rfl)
  have HCV : Hid (∀ wq, BytesAt wq (.slice (some ⟨bg, boff, none⟩) 21 cap) (encB 1 1 2 1 0 (zeroZ 1 1 2 1)) → Sem.run Try.prog (convert 22 9 (.slice (some ⟨bg, boff, none⟩) 17 cap)) wq = .ok (.string (strB body17)) wq) := Lib.hid (fun wq hq => by
    rw [← HT17.out]
    exact strB_conv (hq.upto2 17 (by decide)) 22 5 9 Try.underlying22 Try.underlying5 Try.underlying9)
  have hs17 := str17
  have hcap17 : 17 ≤ cap := by omega
  have hcap17i : (17 : Int) ≤ (cap : Int) := by omega
  go_wp2_with fail
  refine wp_region_held_drew (S := fun w' => Blk w' w.heap.size 36 #[.int .i64 1, .int .i64 1, .int .i64 2, .int .i64 1, .int .u64 0] ∧ BytesAt w' (.slice (some ⟨bg, boff, none⟩) 21 cap) (encB 1 1 2 1 0 (zeroZ 1 1 2 1)) ∧ Sem.run Try.prog (convert 22 9 (.slice (some ⟨bg, boff, none⟩) 17 cap)) w' = .ok (.string (strB body17)) w' ∧ StIs w' w3.heap.size S4 L4 1 1 2 1 0 X4 A4 G4 C4 Z ∧ Below w.heap.size w w') (by kernel_rfl) (by exact ⟨HX5.out.drewN 1, HAT5.out.kept (below_drewN (Below.refl _ _) 1), HCV.out _ (HAT5.out.kept (below_drewN (Below.refl _ _) 1)), HST5.out.kept (below_drewN (Below.refl _ _) 1), below_drewN HB5.out 1⟩) (fun hHeld => ?_)
  refine wpAnyH_take (i := 0) (v := ?_) rfl (by kernel_rfl) (by kernel_rfl) (by kernel_rfl) (fun _ _ _ h => h) (Or.inl ⟨by rfl, ?_⟩) (by assumption) ?_
  rotate_left
  · intro w hSw
    try dsimp only at hSw
    go_simp
    try with_reducible rfl
  simp only [Act.put, List.setIfInBounds_toArray, List.set_cons_zero, List.set_cons_succ, List.getElem_toArray, List.getElem_cons_zero, List.getElem_cons_succ]
  refine wpAnyH_take (i := 1) (v := ?_) rfl (by kernel_rfl) (by kernel_rfl) (by kernel_rfl) (fun _ _ _ h => h) (Or.inl ⟨by rfl, ?_⟩) (by assumption) ?_
  rotate_left
  · intro w hSw
    try dsimp only at hSw
    go_simp
    try with_reducible rfl
  simp only [Act.put, List.setIfInBounds_toArray, List.set_cons_zero, List.set_cons_succ, List.getElem_toArray, List.getElem_cons_zero, List.getElem_cons_succ]
  refine wpAnyH_take (i := 2) (v := ?_) rfl (by kernel_rfl) (by kernel_rfl) (by kernel_rfl) (fun _ _ _ h => h) (Or.inl ⟨by rfl, ?_⟩) (by assumption) ?_
  rotate_left
  · intro w hSw
    try dsimp only at hSw
    go_simp
    try with_reducible rfl
  simp only [Act.put, List.setIfInBounds_toArray, List.set_cons_zero, List.set_cons_succ, List.getElem_toArray, List.getElem_cons_zero, List.getElem_cons_succ]
  refine wpAnyH_take (i := 3) (v := ?_) rfl (by kernel_rfl) (by kernel_rfl) (by kernel_rfl) (fun _ _ _ h => h) (Or.inl ⟨by rfl, ?_⟩) (by assumption) ?_
  rotate_left
  · intro w hSw
    try dsimp only at hSw
    go_simp
    try with_reducible rfl
  simp only [Act.put, List.setIfInBounds_toArray, List.set_cons_zero, List.set_cons_succ, List.getElem_toArray, List.getElem_cons_zero, List.getElem_cons_succ]
  refine wpAnyH_take (i := 4) (v := ?_) rfl (by kernel_rfl) (by kernel_rfl) (by kernel_rfl) (fun _ _ _ h => h) (Or.inl ⟨by rfl, ?_⟩) (by assumption) ?_
  rotate_left
  · intro w hSw
    try dsimp only at hSw
    go_simp
    try with_reducible rfl
  simp only [Act.put, List.setIfInBounds_toArray, List.set_cons_zero, List.set_cons_succ, List.getElem_toArray, List.getElem_cons_zero, List.getElem_cons_succ]
  refine wpAnyH_take (i := 5) (v := ?_) rfl (by kernel_rfl) (by kernel_rfl) (by kernel_rfl) (fun _ _ _ h => h) (Or.inl ⟨by rfl, ?_⟩) (by assumption) ?_
  rotate_left
  · intro w hSw
    try dsimp only at hSw
    go_simp
    try with_reducible rfl
  simp only [Act.put, List.setIfInBounds_toArray, List.set_cons_zero, List.set_cons_succ, List.getElem_toArray, List.getElem_cons_zero, List.getElem_cons_succ]
  refine wpAnyH_take (i := 6) (v := ?_) rfl (by kernel_rfl) (by kernel_rfl) (by kernel_rfl) (fun _ _ _ h => h) (Or.inl ⟨by rfl, ?_⟩) (by assumption) ?_
  rotate_left
  · intro w hSw
    try dsimp only at hSw
    go_simp
    try with_reducible rfl
  simp only [Act.put, List.setIfInBounds_toArray, List.set_cons_zero, List.set_cons_succ, List.getElem_toArray, List.getElem_cons_zero, List.getElem_cons_succ]
  refine wpAnyH_take (i := 7) (v := ?_) rfl (by kernel_rfl) (by kernel_rfl) (by kernel_rfl) (fun _ _ _ h => h) (Or.inl ⟨by rfl, ?_⟩) (by assumption) ?_
  rotate_left
  · intro w hSw
    try dsimp only at hSw
    go_simp
    try with_reducible rfl
  simp only [Act.put, List.setIfInBounds_toArray, List.set_cons_zero, List.set_cons_succ, List.getElem_toArray, List.getElem_cons_zero, List.getElem_cons_succ]
  refine wpAnyH_take (i := 8) (v := ?_) rfl (by kernel_rfl) (by kernel_rfl) (by kernel_rfl) (fun _ _ _ h => h) (Or.inl ⟨by rfl, ?_⟩) (by assumption) ?_
  rotate_left
  · intro w hSw
    try dsimp only at hSw
    go_simp
    try with_reducible rfl
  simp only [Act.put, List.setIfInBounds_toArray, List.set_cons_zero, List.set_cons_succ, List.getElem_toArray, List.getElem_cons_zero, List.getElem_cons_succ]
  refine wpAnyH_take (i := 9) (v := ?_) rfl (by kernel_rfl) (by kernel_rfl) (by kernel_rfl) (fun _ _ _ h => h) (Or.inl ⟨by rfl, ?_⟩) (by assumption) ?_
  rotate_left
  · intro w hSw
    try dsimp only at hSw
    go_simp
    try with_reducible rfl
  simp only [Act.put, List.setIfInBounds_toArray, List.set_cons_zero, List.set_cons_succ, List.getElem_toArray, List.getElem_cons_zero, List.getElem_cons_succ]
  refine wpAnyH_take (i := 10) (v := ?_) rfl (by kernel_rfl) (by kernel_rfl) (by kernel_rfl) (fun _ _ _ h => h) (Or.inl ⟨by rfl, ?_⟩) (by assumption) ?_
  rotate_left
  · intro w hSw
    try dsimp only at hSw
    go_simp
    try with_reducible rfl
  simp only [Act.put, List.setIfInBounds_toArray, List.set_cons_zero, List.set_cons_succ, List.getElem_toArray, List.getElem_cons_zero, List.getElem_cons_succ]
  refine wpAnyH_take (i := 11) (v := ?_) rfl (by kernel_rfl) (by kernel_rfl) (by kernel_rfl) (fun _ _ _ h => h) (Or.inl ⟨by rfl, ?_⟩) (by assumption) ?_
  rotate_left
  · intro w hSw
    try dsimp only at hSw
    go_simp
    try with_reducible rfl
  simp only [Act.put, List.setIfInBounds_toArray, List.set_cons_zero, List.set_cons_succ, List.getElem_toArray, List.getElem_cons_zero, List.getElem_cons_succ]
  refine wpAnyH_take (i := 12) (v := ?_) rfl (by kernel_rfl) (by kernel_rfl) (by kernel_rfl) (fun _ _ _ h => h) (Or.inl ⟨by rfl, ?_⟩) (by assumption) ?_
  rotate_left
  · intro w hSw
    try dsimp only at hSw
    go_simp
    try with_reducible rfl
  simp only [Act.put, List.setIfInBounds_toArray, List.set_cons_zero, List.set_cons_succ, List.getElem_toArray, List.getElem_cons_zero, List.getElem_cons_succ]
  refine wpAnyH_take (i := 13) (v := ?_) rfl (by kernel_rfl) (by kernel_rfl) (by kernel_rfl) (fun _ _ _ h => h) (Or.inl ⟨by rfl, ?_⟩) (by assumption) ?_
  rotate_left
  · intro w hSw
    try dsimp only at hSw
    go_simp
    try with_reducible rfl
  simp only [Act.put, List.setIfInBounds_toArray, List.set_cons_zero, List.set_cons_succ, List.getElem_toArray, List.getElem_cons_zero, List.getElem_cons_succ]
  refine wpAnyH_take (i := 15) (v := ?_) rfl (by kernel_rfl) (by kernel_rfl) (by kernel_rfl) (fun _ _ _ h => h) (Or.inl ⟨by rfl, ?_⟩) (by assumption) ?_
  rotate_left
  · intro w hSw
    try refine (exec_load_row 36 _ rfl _ rfl 36 _ (0, 0) _ hSw.1 Try.underlying36 rfl (by kernel_rfl)).trans ?_
    go_simp
    try with_reducible rfl
  simp only [Act.put, List.setIfInBounds_toArray, List.set_cons_zero, List.set_cons_succ, List.getElem_toArray, List.getElem_cons_zero, List.getElem_cons_succ]
  refine wpAnyH_ready (rs := [14]) (by kernel_rfl) (by simp) ?_
  refine AllReadyH.cons rfl (fun Kc hKc => ?_) AllReadyH.nil
  go_simp
  go_wp2_with (first | (go_at_call 15; refine (stconfig _ _ S4 L4 1 1 2 1 0 X4 A4 G4 C4 Z hHeld.2.2.2.1).mono ?_; rintro e w6 ⟨rfl, hb'⟩) | (go_at_call 11; refine (PZ.out _).mono ?_; rintro e w7 ⟨rfl, hb'⟩))
  refine hKc.out _ _ ?_ (fun hHeld => ?_)
  · exact ⟨hHeld.1.kept hb', hHeld.2.1.kept hb', HCV.out _ (hHeld.2.1.kept hb'), hHeld.2.2.2.1.kept hb', btr hHeld.2.2.2.2 hb'⟩
  clear hKc Kc
  refine wpAnyH_take (i := 16) (v := ?_) rfl (by kernel_rfl) (by kernel_rfl) (by kernel_rfl) (fun _ _ _ h => h) (Or.inl ⟨by rfl, ?_⟩) (by assumption) ?_
  rotate_left
  · intro w hSw
    try dsimp only at hSw
    go_simp
    try with_reducible rfl
  simp only [Act.put, List.setIfInBounds_toArray, List.set_cons_zero, List.set_cons_succ, List.getElem_toArray, List.getElem_cons_zero, List.getElem_cons_succ]
  refine wpAnyH_take (i := 17) (v := ?_) rfl (by kernel_rfl) (by kernel_rfl) (by kernel_rfl) (fun _ _ _ h => h) (Or.inl ⟨by rfl, ?_⟩) (by assumption) ?_
  rotate_left
  · intro w hSw
    try dsimp only at hSw
    go_simp
    try with_reducible rfl
  simp only [Act.put, List.setIfInBounds_toArray, List.set_cons_zero, List.set_cons_succ, List.getElem_toArray, List.getElem_cons_zero, List.getElem_cons_succ]
  refine wpAnyH_take (i := 18) (v := ?_) rfl (by kernel_rfl) (by kernel_rfl) (by kernel_rfl) (fun _ _ _ h => h) (Or.inl ⟨by rfl, ?_⟩) (by assumption) ?_
  rotate_left
  · intro w hSw
    try dsimp only at hSw
    go_simp
    try with_reducible rfl
  simp only [Act.put, List.setIfInBounds_toArray, List.set_cons_zero, List.set_cons_succ, List.getElem_toArray, List.getElem_cons_zero, List.getElem_cons_succ]
  refine wpAnyH_take (i := 19) (v := ?_) rfl (by kernel_rfl) (by kernel_rfl) (by kernel_rfl) (fun _ _ _ h => h) (Or.inl ⟨by rfl, ?_⟩) (by assumption) ?_
  rotate_left
  · intro w hSw
    try refine (exec_load_row 36 _ rfl _ rfl 36 _ (0, 0) _ hSw.1 Try.underlying36 rfl (by kernel_rfl)).trans ?_
    go_simp
    try with_reducible rfl
  simp only [Act.put, List.setIfInBounds_toArray, List.set_cons_zero, List.set_cons_succ, List.getElem_toArray, List.getElem_cons_zero, List.getElem_cons_succ]
  refine wpAnyH_ready (rs := [20]) (by kernel_rfl) (by simp) ?_
  refine AllReadyH.cons rfl (fun Kc hKc => ?_) AllReadyH.nil
  go_simp
  go_wp2_with (first | (go_at_call 15; refine (stconfig _ _ S4 L4 1 1 2 1 0 X4 A4 G4 C4 Z hHeld.2.2.2.1).mono ?_; rintro e w6 ⟨rfl, hb'⟩) | (go_at_call 11; refine (PZ.out _).mono ?_; rintro e w7 ⟨rfl, hb'⟩))
  refine hKc.out _ _ ?_ (fun hHeld => ?_)
  · exact ⟨hHeld.1.kept hb', hHeld.2.1.kept hb', HCV.out _ (hHeld.2.1.kept hb'), hHeld.2.2.2.1.kept hb', btr hHeld.2.2.2.2 hb'⟩
  clear hKc Kc
  refine wpAnyH_take (i := 21) (v := ?_) rfl (by kernel_rfl) (by kernel_rfl) (by kernel_rfl) (fun _ _ _ h => h) (Or.inl ⟨by rfl, ?_⟩) (by assumption) ?_
  rotate_left
  · intro w hSw
    try dsimp only at hSw
    go_simp
    try with_reducible rfl
  simp only [Act.put, List.setIfInBounds_toArray, List.set_cons_zero, List.set_cons_succ, List.getElem_toArray, List.getElem_cons_zero, List.getElem_cons_succ]
  refine wpAnyH_take (i := 22) (v := ?_) rfl (by kernel_rfl) (by kernel_rfl) (by kernel_rfl) (fun _ _ _ h => h) (Or.inl ⟨by rfl, ?_⟩) (by assumption) ?_
  rotate_left
  · intro w hSw
    try dsimp only at hSw
    go_simp
    try with_reducible rfl
  simp only [Act.put, List.setIfInBounds_toArray, List.set_cons_zero, List.set_cons_succ, List.getElem_toArray, List.getElem_cons_zero, List.getElem_cons_succ]
  refine wpAnyH_take (i := 23) (v := ?_) rfl (by kernel_rfl) (by kernel_rfl) (by kernel_rfl) (fun _ _ _ h => h) (Or.inl ⟨by rfl, ?_⟩) (by assumption) ?_
  rotate_left
  · intro w hSw
    try dsimp only at hSw
    go_simp
    try with_reducible rfl
  simp only [Act.put, List.setIfInBounds_toArray, List.set_cons_zero, List.set_cons_succ, List.getElem_toArray, List.getElem_cons_zero, List.getElem_cons_succ]
  refine wpAnyH_done (by kernel_rfl) ?_ _
  go_wp2
  go_ret
  exact ⟨rfl, hHeld.2.2.2.2⟩
end Go.Proofs.Ytbghchgmoiniiaa
