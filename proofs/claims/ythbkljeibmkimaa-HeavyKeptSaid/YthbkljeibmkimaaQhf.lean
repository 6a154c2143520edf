import Derived.Test.YthbkljeibmkimaaQhe
import Derived.BigRegion
import Derived.BigQuiet
/-
  The walk of HeavyBudget. Conditions: none beyond those stated at each theorem.
-/
namespace Go.Proofs.Ythbkljeibmkimaa
open Go.RowKit
set_option linter.unusedVariables false
set_option linter.unusedSimpArgs false

theorem and40 (n : Int) : bits BinOp.and IntKind.i64 n 1099511627775 = n % 1099511627776 := by
  have h16 : (BitVec.ofInt 64 1099511627775).toNat = 2 ^ 40 - 1 := by decide
  have key : (BitVec.ofInt 64 n &&& BitVec.ofInt 64 1099511627775).toNat = (n % ((2 ^ 64 : Nat) : Int)).toNat % 2 ^ 40 := by
    rw [BitVec.toNat_and, BitVec.toNat_ofInt, h16, Nat.and_two_pow_sub_one_eq_mod]
  show IntKind.i64.wrap ((BitVec.ofInt 64 n &&& BitVec.ofInt 64 1099511627775).toNat : Nat) = n % 1099511627776
  rw [key, IntKind.wrap_i64]
  omega
def leastI (x : Int) : Int := 1 + x % 1099511627776
theorem leastI_bd (x : Int) : 1 ≤ leastI x ∧ leastI x ≤ 1099511627776 := by unfold leastI; omega
theorem rowAt_len (pt : Nat → Nat → Int) (least : Int) (b : Nat) : ∀ j, (rowAt pt least b j).length ≤ 2 ^ j
  | 0 => Nat.le_refl _
  | j + 1 => by
    rw [rowAt, kids_len, Nat.pow_succ]
    have h1 := toldR_le pt least (b - j) (rowAt pt least b j)
    have h2 := rowAt_len pt least b j
    omega
theorem asked_le (pt : Nat → Nat → Int) (least : Int) (b : Nat) : ∀ j, askedUp pt least b j + 1 ≤ 2 ^ j
  | 0 => Nat.le_refl _
  | j + 1 => by
    rw [askedUp, Nat.pow_succ]
    have h1 := asked_le pt least b j
    have h2 := rowAt_len pt least b j
    omega
theorem whole_budget {b : Nat} (hb : b ≤ 6) : wrap64 (wrap64 (2 * 2 ^ min (IntKind.u64.wrap (b : Int)).toNat 64) - 1) = ((2 ^ (b + 1) - 1 : Nat) : Int) ∧ 2 ^ (b + 1) ≤ 128 := by
  have e1 : (IntKind.u64.wrap (b : Int)).toNat = b := by rw [wrapU_mod]; omega
  have h1 : (2 : Nat) ^ b ≤ 2 ^ 6 := Nat.pow_le_pow_right (by decide) hb
  have h2 : 0 < (2 : Nat) ^ b := Nat.two_pow_pos b
  have e2 : (2 : Int) ^ b = ((2 ^ b : Nat) : Int) := by simp
  have e3 : (2 : Nat) ^ (b + 1) = 2 * 2 ^ b := by rw [Nat.pow_succ, Nat.mul_comm]
  rw [e1, Nat.min_eq_left (by omega), e2, e3]
  generalize (2 : Nat) ^ b = P at *
  refine ⟨?_, by omega⟩
  unfold wrap64
  omega
set_option maxRecDepth 100000 in
set_option maxHeartbeats 8000000 in
theorem budget_walk (xb xr xd xm s : Int) (l : Value) (n : Nat) (ks : Nat → Nat) (ds : Nat → Int) (s0 : 0 ≤ s) (s1 : s ≤ 18446744073709551615) (least b0 b1 : Int) (h0 : In64 b0) (h1 : In64 b1) (hl64 : In64 least) (w : World) (hl : UpdsAt w l n ks ds) :
    Calls Try.prog 5 #[.agg #[.int .i64 xb, .int .i64 xr, .int .i64 xd, .int .i64 xm, .int .u64 s, l], .int .i64 least, .agg #[.int .i64 b0, .int .i64 b1]] w fun e w' => e = .returned (.bool true) ∧ Below w.heap.size w w' := by
  have PS := Lib.hid (fun w => shown18 w)
  have PF := Lib.hid (fun w hl => fed_any xb xr xd xm s l n ks ds 6 0 (by decide) (by decide) (.inl rfl) s0 s1 w hl)
  have hbb := anyI_bd xb 6 (by decide)
  have HL := Lib.hid hl
  obtain ⟨b, hb⟩ : ∃ b, b = (anyI xb 6).toNat := ⟨_, rfl⟩
  obtain ⟨r, hr⟩ : ∃ r, r = anyI xr 4 := ⟨_, rfl⟩
  obtain ⟨d, hd⟩ : ∃ d, d = anyI xd 9 := ⟨_, rfl⟩
  obtain ⟨m, hm⟩ : ∃ m, m = fedM xm 0 := ⟨_, rfl⟩
  rw [← hb, ← hr, ← hd, ← hm] at PF
  have hb6 : 1 ≤ b ∧ b ≤ 6 := by omega
  obtain ⟨Z, hZ⟩ : ∃ Z, Z = fedZ (b : Int) r d m s (fedKK (b : Int) r d m ks) (fedXX m ds) (min n 60) := ⟨_, rfl⟩
  obtain ⟨pt, hpt⟩ : ∃ pt, pt = ptOf b r d m s Z := ⟨_, rfl⟩
  obtain ⟨q, hq⟩ : ∃ q, q = leastI least := ⟨_, rfl⟩
  have hqb := leastI_bd least
  rw [← hq] at hqb
  have PV : Hid (∀ (w : World) (base S L : Nat) (X : Nat → Value) (A G C : Nat → Nat), StIs w base S L (b : Int) r d m s X A G C Z → ∀ budget, In64 budget → Calls Try.prog 9 #[.pointer (some ⟨S, 0, none⟩), .int .i64 q, .int .i64 budget] w (HvPost w pt q budget b)) := Lib.hid (fun w base S L X A G C h budget h2 => by
    rw [hpt]
    exact hvheavy w S b r d m s _ (ptis_of h s0 s1) (by omega) (by omega) q budget (by unfold In64; omega) h2)
  have HZ := Lib.hid hZ
  have HQ := Lib.hid hq
  have HB6 := Lib.hid hb6
  have e40 := and40 least
  have HASK := Lib.hid (asked_le pt q b (b + 1))
  obtain ⟨a, ha⟩ : ∃ a, a = (b0 % 65536) % 201 := ⟨_, rfl⟩
  obtain ⟨c2, hc2⟩ : ∃ c2, c2 = (b1 % 65536) % 201 := ⟨_, rfl⟩
  obtain ⟨c, hc⟩ : ∃ c, c = a + c2 := ⟨_, rfl⟩
  have hab : 0 ≤ a ∧ a ≤ 200 := by omega
  have hcb : a ≤ c ∧ c ≤ 400 := by omega
  have f0 := and16 b0
  have f1 := and16 b1
  have t0 : (b0 % 65536).tmod 201 = a := by rw [ha]; exact Int.tmod_eq_emod_of_nonneg (by omega)
  have t1 : (b1 % 65536).tmod 201 = c2 := by rw [hc2, Int.tmod_eq_emod_of_nonneg (by omega)]
  have hac : a + c2 = c := hc.symm
  have hcw : wrap64 c = c := by unfold wrap64; omega
  obtain ⟨g1, g2, hb1, hsz1⟩ := news2 w (.cells #[.int .i64 xb, .int .i64 xr, .int .i64 xd, .int .i64 xm, .int .u64 s, l] 27) (.cells #[.int .i64 b0, .int .i64 b1] 50)
  have HX1 : Hid (Blk _ w.heap.size 27 #[.int .i64 xb, .int .i64 xr, .int .i64 xd, .int .i64 xm, .int .u64 s, l]) := Lib.hid g1
  have HX2 : Hid (Blk _ (w.heap.size + 1) 50 #[.int .i64 b0, .int .i64 b1]) := Lib.hid g2
  have HB1 := Lib.hid hb1
  have hlq : 1 + least % 1099511627776 = q := by rw [hq]; rfl
  have HAC := Lib.hid (And.intro hab hcb)
  clear g1 g2 hb1 hsz1 hl hb hr hd hm hZ hpt hq hb6 hbb ha hc hc2 hab hcb h0 h1 hl64
  go_enter Try.func5, Try.ntmps5
  go_wp2_with fail
  generalize ((w.alloc (.cells #[.int .i64 xb, .int .i64 xr, .int .i64 xd, .int .i64 xm, .int .u64 s, l] 27)).alloc (.cells #[.int .i64 b0, .int .i64 b1] 50)) = w1 at *
  with_reducible refine (PS.out _).mono ?_
  rintro e w2 ⟨rfl, hb⟩
  have HX3 := Lib.hid (HX1.out.kept hb)
  have HX4 := Lib.hid (HX2.out.kept hb)
  have HB2 := Lib.hid (btr HB1.out hb)
  clear hb HX1 HX2 HB1
  have hx3 := HX3.out
  go_wp2_with (refine wpList_load_row rfl 27 _ rfl w.heap.size rfl 27 _ (0, 0) _ hx3 Try.underlying27 rfl (by kernel_rfl) ?_)
  with_reducible refine (PF.out _ (HL.out.kept HB2.out)).mono ?_
  rintro e w3 ⟨S, L, X, A, G, C, rfl, hS, hst, hb⟩
  obtain ⟨g3, hb3, hsz3⟩ := news1 w3 (.cells #[.int .i64 (b : Int), .int .i64 r, .int .i64 d, .int .i64 m, .int .u64 s] 24)
  have HCC : Hid (Blk _ w3.heap.size 24 #[.int .i64 (b : Int), .int .i64 r, .int .i64 d, .int .i64 m, .int .u64 s]) := Lib.hid g3
  have HST := Lib.hid (hst.kept hb3)
  rw [← HZ.out] at HST
  have HX5 := Lib.hid ((HX4.out.kept hb).kept hb3)
  have HB3 := Lib.hid (btr (btr HB2.out hb) hb3)
  clear g3 hb3 hsz3 hst hb hS HX3 HX4 HB2 hx3
  have u0 := HX5.out.cell 0
  have u1 := HX5.out.cell 1
  simp at u0 u1
  go_wp2_with fail
  have HERR : Hid (∀ x : Int, x ≤ 4096 → hvErr pt q x b = if x < (askedUp pt q b (b + 1) : Int) then 7 else 0) := Lib.hid (fun x hx => by unfold hvErr; rw [if_neg (by omega)])
  generalize (w3.alloc (.cells #[.int .i64 (b : Int), .int .i64 r, .int .i64 d, .int .i64 m, .int .u64 s] 24)) = w4 at *
  generalize w3.heap.size = D at *
  with_reducible refine (PV.out _ _ _ _ _ _ _ _ HST.out a (by have := HAC.out.1; unfold In64; omega)).mono ?_
  rintro e w5 ⟨v1, rfl, hv1, hn1, hb⟩
  have HV1 := Lib.hid hv1
  have HN1 := Lib.hid hn1
  have HST2 := Lib.hid (HST.out.kept hb)
  have HCC2 := Lib.hid (HCC.out.kept hb)
  have HB4 := Lib.hid (btr HB3.out hb)
  have HE1 := Lib.hid (HERR.out a (by have := HAC.out.1; omega))
  obtain ⟨e1, he1⟩ : ∃ e1, e1 = hvErr pt q a b := ⟨_, rfl⟩
  rw [← he1] at HV1 HN1 HE1 ⊢
  clear hb hv1 hn1 he1 HST HCC HB3 u0 u1 HX5
  go_wp2_with fail
  with_reducible refine (PV.out _ _ _ _ _ _ _ _ HST2.out c (by have := HAC.out; unfold In64; omega)).mono ?_
  rintro e w6 ⟨v2, rfl, hv2, hn2, hb⟩
  have HV2 := Lib.hid hv2
  have HN2 := Lib.hid hn2
  have HV1 : Hid (e1 = 0 → FdOwn w6 w4.heap.size v1 pt (hvOut pt q b (b + 1))) := Lib.hid (fun h => (HV1.out h).kept hb)
  have HST3 := Lib.hid (HST2.out.kept hb)
  have HCC3 := Lib.hid (HCC2.out.kept hb)
  have HB5 := Lib.hid (btr HB4.out hb)
  have HE2 := Lib.hid (HERR.out c (by have := HAC.out.2; omega))
  obtain ⟨e2, he2⟩ : ∃ e2, e2 = hvErr pt q c b := ⟨_, rfl⟩
  rw [← he2] at HV2 HN2 HE2 ⊢
  have q0 := HCC3.out.cell 0
  simp at q0
  clear hb hv2 hn2 he2 HST2 HCC2 HB4
  go_wp2_with fail
  obtain ⟨hT, hT2⟩ := whole_budget (b := b) HB6.out.2
  rw [hT]
  have HE3 : Hid (hvErr pt q ((2 ^ (b + 1) - 1 : Nat) : Int) b = 0) := Lib.hid (by
    rw [HERR.out _ (by omega), if_neg]
    have := HASK.out
    omega)
  obtain ⟨T, hT3⟩ : ∃ T, T = 2 ^ (b + 1) - 1 := ⟨_, rfl⟩
  rw [← hT3] at HE3 ⊢
  have hT4 : T ≤ 128 := by omega
  clear hT hT2 hT3
  with_reducible refine (PV.out _ _ _ _ _ _ _ _ HST3.out (T : Int) (by unfold In64; omega)).mono ?_
  rintro e w7 ⟨v3, rfl, hv3, -, hb⟩
  have HV3 := Lib.hid (hv3 HE3.out)
  rw [HE3.out]
  have HV2 : Hid (e2 = 0 → FdOwn w7 w5.heap.size v2 pt (hvOut pt q b (b + 1))) := Lib.hid (fun h => (HV2.out h).kept hb)
  have HV1 : Hid (e1 = 0 → FdOwn w7 w4.heap.size v1 pt (hvOut pt q b (b + 1))) := Lib.hid (fun h => (HV1.out h).kept hb)
  have HB6' := Lib.hid (btr HB5.out hb)
  have HEE : Hid (e1 = 0 ∧ e2 = 0 ∨ e1 = 7 ∧ e2 = 0 ∨ e1 = 7 ∧ e2 = 7) := Lib.hid (by
    have h1 := HE1.out
    have h2 := HE2.out
    have h3 := HAC.out.2.1
    rw [h1, h2]
    split <;> split <;> simp <;> omega)
  have HO : Hid ((hvOut pt q b (b + 1)).length ≤ 128) := Lib.hid (by
    have h1 := hvOut_len pt q b (b + 1)
    have h2 := HASK.out
    have h3 : (2 : Nat) ^ (b + 1) ≤ 2 ^ 7 := Nat.pow_le_pow_right (by decide) (by have := HB6.out; omega)
    have h4 : (2 : Nat) ^ 7 = 128 := by decide
    omega)
  clear hb hv3 q0 HST3 HCC3 HB5 HERR HE1 HE2 PV HB6 HAC HASK HZ HQ PF PS
  obtain ⟨lo, hlo⟩ : ∃ lo, lo = hvOut pt q b (b + 1) := ⟨_, rfl⟩
  rw [← hlo] at HV1 HV2 HV3 HO
  obtain ⟨N, hN⟩ : ∃ N, N = lo.length := ⟨_, rfl⟩
  have HN := Lib.hid hN
  have hNs : N ≤ 128 := by rw [hN]; exact HO.out
  obtain ⟨ao3, cap3, h3, -, -⟩ := own_open HV3.out
  rw [← hN] at h3
  subst h3
  clear hlo hN
  rcases HEE.out with ⟨h1, h2⟩ | ⟨h1, h2⟩ | ⟨h1, h2⟩
  · subst h1 h2
    have HW1 := Lib.hid (HV1.out rfl)
    have HW2 := Lib.hid (HV2.out rfl)
    obtain ⟨ao1, cap1, h3, -, -⟩ := own_open HW1.out
    rw [← HN.out] at h3
    subst h3
    obtain ⟨ao2, cap2, h3, -, -⟩ := own_open HW2.out
    rw [← HN.out] at h3
    subst h3
    clear HV1 HV2 HN1 HN2 HEE
    go_wp2_with fail
    go_loopw [18] (fun i wr => ∃ t : Nat, i = .int .i64 (t : Int) ∧ t ≤ N ∧ Below w7.heap.size w7 wr) (fun i _ => N - (intOf i).toNat)
    case atStart => exact ⟨0, rfl, Nat.zero_le _, Below.refl _ _⟩
    case round =>
      obtain ⟨t, rfl, htN, hbw⟩ := hrel
      have HBW := Lib.hid hbw
      clear hbw
      by_cases hlt : t < N
      · have hlz : (t : Int) < (N : Int) := by omega
        obtain ⟨p, hp⟩ : ∃ p, lo[t]? = some p := ⟨_, List.getElem?_eq_getElem (by rw [← HN.out]; exact hlt)⟩
        obtain ⟨x1, x2⟩ := p
        obtain ⟨y, hy⟩ : ∃ y, y = pt x1 x2 := ⟨_, rfl⟩
        obtain ⟨g3, c3', he, -, hl3, -, -, r3⟩ := HV3.out.range hp
        simp only [Value.slice.injEq] at he
        obtain ⟨rfl, -, rfl⟩ := he
        have HR3 := Lib.hid (show w7.rangeAt g3 (t * 3) [.int .i64 (x1 : Int), .int .u64 (x2 : Int), .int .i64 y] by rw [hy]; exact r3)
        have HL3 := Lib.hid hl3
        clear r3 hl3
        obtain ⟨g1, c1', he, -, hl1, -, -, r1⟩ := HW1.out.range hp
        simp only [Value.slice.injEq] at he
        obtain ⟨rfl, -, rfl⟩ := he
        have HR1 := Lib.hid (show w7.rangeAt g1 (t * 3) [.int .i64 (x1 : Int), .int .u64 (x2 : Int), .int .i64 y] by rw [hy]; exact r1)
        have HL1 := Lib.hid hl1
        clear r1 hl1
        obtain ⟨g2, c2', he, -, hl2, -, -, r2⟩ := HW2.out.range hp
        simp only [Value.slice.injEq] at he
        obtain ⟨rfl, -, rfl⟩ := he
        have HR2 := Lib.hid (show w7.rangeAt g2 (t * 3) [.int .i64 (x1 : Int), .int .u64 (x2 : Int), .int .i64 y] by rw [hy]; exact r2)
        have HL2 := Lib.hid hl2
        clear r2 hl2
        generalize wr = w8 at *
        clear hp hy
        go_wp2_with fail
        refine wp_region_held_drew (S := fun w' => Below w7.heap.size w7 w') (by kernel_rfl) (by exact HBW.out.trans (below_drewN (Below.refl _ _) 1)) (fun hHeld => ?_)
        refine wpAnyH_take (i := 0) (v := ?_) rfl (by kernel_rfl) (by kernel_rfl) (by kernel_rfl) (fun _ _ _ h => h) (Or.inl ⟨by rfl, ?_⟩) (by assumption) ?_
        rotate_left
        · intro w hSw
          try dsimp only at hSw
          go_simp
          try with_reducible rfl
        simp only [Act.put, List.setIfInBounds_toArray, List.set_cons_zero, List.set_cons_succ, List.getElem_toArray, List.getElem_cons_zero, List.getElem_cons_succ]
        refine wpAnyH_take (i := 1) (v := ?_) rfl (by kernel_rfl) (by kernel_rfl) (by kernel_rfl) (fun _ _ _ h => h) (Or.inl ⟨by rfl, ?_⟩) (by assumption) ?_
        rotate_left
        · intro w hSw
          try dsimp only at hSw
          go_simp
          try with_reducible rfl
        simp only [Act.put, List.setIfInBounds_toArray, List.set_cons_zero, List.set_cons_succ, List.getElem_toArray, List.getElem_cons_zero, List.getElem_cons_succ]
        refine wpAnyH_take (i := 2) (v := ?_) rfl (by kernel_rfl) (by kernel_rfl) (by kernel_rfl) (fun _ _ _ h => h) (Or.inl ⟨by rfl, ?_⟩) (by assumption) ?_
        rotate_left
        · intro w hSw
          try dsimp only at hSw
          go_simp
          try with_reducible rfl
        simp only [Act.put, List.setIfInBounds_toArray, List.set_cons_zero, List.set_cons_succ, List.getElem_toArray, List.getElem_cons_zero, List.getElem_cons_succ]
        refine wpAnyH_take (i := 3) (v := ?_) rfl (by kernel_rfl) (by kernel_rfl) (by kernel_rfl) (fun _ _ _ h => h) (Or.inl ⟨by rfl, ?_⟩) (by assumption) ?_
        rotate_left
        · intro w hSw
          try dsimp only at hSw
          go_simp
          try with_reducible rfl
        simp only [Act.put, List.setIfInBounds_toArray, List.set_cons_zero, List.set_cons_succ, List.getElem_toArray, List.getElem_cons_zero, List.getElem_cons_succ]
        refine wpAnyH_take (i := 4) (v := ?_) rfl (by kernel_rfl) (by kernel_rfl) (by kernel_rfl) (fun _ _ _ h => h) (Or.inl ⟨by rfl, ?_⟩) (by assumption) ?_
        rotate_left
        · intro w hSw
          try dsimp only at hSw
          go_simp
          try with_reducible rfl
        simp only [Act.put, List.setIfInBounds_toArray, List.set_cons_zero, List.set_cons_succ, List.getElem_toArray, List.getElem_cons_zero, List.getElem_cons_succ]
        refine wpAnyH_take (i := 5) (v := ?_) rfl (by kernel_rfl) (by kernel_rfl) (by kernel_rfl) (fun _ _ _ h => h) (Or.inl ⟨by rfl, ?_⟩) (by assumption) ?_
        rotate_left
        · intro w hSw
          try dsimp only at hSw
          go_simp
          try with_reducible rfl
        simp only [Act.put, List.setIfInBounds_toArray, List.set_cons_zero, List.set_cons_succ, List.getElem_toArray, List.getElem_cons_zero, List.getElem_cons_succ]
        refine wpAnyH_take (i := 6) (v := ?_) rfl (by kernel_rfl) (by kernel_rfl) (by kernel_rfl) (fun _ _ _ h => h) (Or.inl ⟨by rfl, ?_⟩) (by assumption) ?_
        rotate_left
        · intro w hSw
          have q3 := range_block HR3.out (hSw.block _ HL3.out)
          have q1 := range_block HR1.out (hSw.block _ HL1.out)
          have q2 := range_block HR2.out (hSw.block _ HL2.out)
          try (first | refine (exec_load_mid 44 _ rfl g3 (t * 3) rfl [.int .i64 (x1 : Int), .int .u64 (x2 : Int), .int .i64 y] _ q3 Try.underlying44 rfl (by kernel_rfl)).trans ?_ | refine (exec_load_mid 44 _ rfl g1 (t * 3) rfl [.int .i64 (x1 : Int), .int .u64 (x2 : Int), .int .i64 y] _ q1 Try.underlying44 rfl (by kernel_rfl)).trans ?_ | refine (exec_load_mid 44 _ rfl g2 (t * 3) rfl [.int .i64 (x1 : Int), .int .u64 (x2 : Int), .int .i64 y] _ q2 Try.underlying44 rfl (by kernel_rfl)).trans ?_)
          go_simp
          try with_reducible rfl
        simp only [Act.put, List.setIfInBounds_toArray, List.set_cons_zero, List.set_cons_succ, List.getElem_toArray, List.getElem_cons_zero, List.getElem_cons_succ]
        refine wpAnyH_take (i := 7) (v := ?_) rfl (by kernel_rfl) (by kernel_rfl) (by kernel_rfl) (fun _ _ _ h => h) (Or.inl ⟨by rfl, ?_⟩) (by assumption) ?_
        rotate_left
        · intro w hSw
          try dsimp only at hSw
          go_simp
          try with_reducible rfl
        simp only [Act.put, List.setIfInBounds_toArray, List.set_cons_zero, List.set_cons_succ, List.getElem_toArray, List.getElem_cons_zero, List.getElem_cons_succ]
        refine wpAnyH_take (i := 8) (v := ?_) rfl (by kernel_rfl) (by kernel_rfl) (by kernel_rfl) (fun _ _ _ h => h) (Or.inl ⟨by rfl, ?_⟩) (by assumption) ?_
        rotate_left
        · intro w hSw
          try dsimp only at hSw
          go_simp
          try with_reducible rfl
        simp only [Act.put, List.setIfInBounds_toArray, List.set_cons_zero, List.set_cons_succ, List.getElem_toArray, List.getElem_cons_zero, List.getElem_cons_succ]
        refine wpAnyH_take (i := 9) (v := ?_) rfl (by kernel_rfl) (by kernel_rfl) (by kernel_rfl) (fun _ _ _ h => h) (Or.inl ⟨by rfl, ?_⟩) (by assumption) ?_
        rotate_left
        · intro w hSw
          try dsimp only at hSw
          go_simp
          try with_reducible rfl
        simp only [Act.put, List.setIfInBounds_toArray, List.set_cons_zero, List.set_cons_succ, List.getElem_toArray, List.getElem_cons_zero, List.getElem_cons_succ]
        refine wpAnyH_take (i := 10) (v := ?_) rfl (by kernel_rfl) (by kernel_rfl) (by kernel_rfl) (fun _ _ _ h => h) (Or.inl ⟨by rfl, ?_⟩) (by assumption) ?_
        rotate_left
        · intro w hSw
          have q3 := range_block HR3.out (hSw.block _ HL3.out)
          have q1 := range_block HR1.out (hSw.block _ HL1.out)
          have q2 := range_block HR2.out (hSw.block _ HL2.out)
          try (first | refine (exec_load_mid 44 _ rfl g3 (t * 3) rfl [.int .i64 (x1 : Int), .int .u64 (x2 : Int), .int .i64 y] _ q3 Try.underlying44 rfl (by kernel_rfl)).trans ?_ | refine (exec_load_mid 44 _ rfl g1 (t * 3) rfl [.int .i64 (x1 : Int), .int .u64 (x2 : Int), .int .i64 y] _ q1 Try.underlying44 rfl (by kernel_rfl)).trans ?_ | refine (exec_load_mid 44 _ rfl g2 (t * 3) rfl [.int .i64 (x1 : Int), .int .u64 (x2 : Int), .int .i64 y] _ q2 Try.underlying44 rfl (by kernel_rfl)).trans ?_)
          go_simp
          try with_reducible rfl
        simp only [Act.put, List.setIfInBounds_toArray, List.set_cons_zero, List.set_cons_succ, List.getElem_toArray, List.getElem_cons_zero, List.getElem_cons_succ]
        refine wpAnyH_take (i := 11) (v := ?_) rfl (by kernel_rfl) (by kernel_rfl) (by kernel_rfl) (fun _ _ _ h => h) (Or.inl ⟨by rfl, ?_⟩) (by assumption) ?_
        rotate_left
        · intro w hSw
          try dsimp only at hSw
          go_simp
          try with_reducible rfl
        simp only [Act.put, List.setIfInBounds_toArray, List.set_cons_zero, List.set_cons_succ, List.getElem_toArray, List.getElem_cons_zero, List.getElem_cons_succ]
        refine wpAnyH_take (i := 12) (v := ?_) rfl (by kernel_rfl) (by kernel_rfl) (by kernel_rfl) (fun _ _ _ h => h) (Or.inl ⟨by rfl, ?_⟩) (by assumption) ?_
        rotate_left
        · intro w hSw
          try dsimp only at hSw
          go_simp
          try with_reducible rfl
        simp only [Act.put, List.setIfInBounds_toArray, List.set_cons_zero, List.set_cons_succ, List.getElem_toArray, List.getElem_cons_zero, List.getElem_cons_succ]
        refine wpAnyH_take (i := 13) (v := ?_) rfl (by kernel_rfl) (by kernel_rfl) (by kernel_rfl) (fun _ _ _ h => h) (Or.inl ⟨by rfl, ?_⟩) (by assumption) ?_
        rotate_left
        · intro w hSw
          try dsimp only at hSw
          go_simp
          try with_reducible rfl
        simp only [Act.put, List.setIfInBounds_toArray, List.set_cons_zero, List.set_cons_succ, List.getElem_toArray, List.getElem_cons_zero, List.getElem_cons_succ]
        refine wpAnyH_take (i := 14) (v := ?_) rfl (by kernel_rfl) (by kernel_rfl) (by kernel_rfl) (fun _ _ _ h => h) (Or.inl ⟨by rfl, ?_⟩) (by assumption) ?_
        rotate_left
        · intro w hSw
          try dsimp only at hSw
          go_simp
          try with_reducible rfl
        simp only [Act.put, List.setIfInBounds_toArray, List.set_cons_zero, List.set_cons_succ, List.getElem_toArray, List.getElem_cons_zero, List.getElem_cons_succ]
        refine wpAnyH_take (i := 15) (v := ?_) rfl (by kernel_rfl) (by kernel_rfl) (by kernel_rfl) (fun _ _ _ h => h) (Or.inl ⟨by rfl, ?_⟩) (by assumption) ?_
        rotate_left
        · intro w hSw
          try dsimp only at hSw
          go_simp
          try with_reducible rfl
        simp only [Act.put, List.setIfInBounds_toArray, List.set_cons_zero, List.set_cons_succ, List.getElem_toArray, List.getElem_cons_zero, List.getElem_cons_succ]
        refine wpAnyH_take (i := 16) (v := ?_) rfl (by kernel_rfl) (by kernel_rfl) (by kernel_rfl) (fun _ _ _ h => h) (Or.inl ⟨by rfl, ?_⟩) (by assumption) ?_
        rotate_left
        · intro w hSw
          try dsimp only at hSw
          go_simp
          try with_reducible rfl
        simp only [Act.put, List.setIfInBounds_toArray, List.set_cons_zero, List.set_cons_succ, List.getElem_toArray, List.getElem_cons_zero, List.getElem_cons_succ]
        refine wpAnyH_take (i := 17) (v := ?_) rfl (by kernel_rfl) (by kernel_rfl) (by kernel_rfl) (fun _ _ _ h => h) (Or.inl ⟨by rfl, ?_⟩) (by assumption) ?_
        rotate_left
        · intro w hSw
          try dsimp only at hSw
          go_simp
          try with_reducible rfl
        simp only [Act.put, List.setIfInBounds_toArray, List.set_cons_zero, List.set_cons_succ, List.getElem_toArray, List.getElem_cons_zero, List.getElem_cons_succ]
        refine wpAnyH_take (i := 18) (v := ?_) rfl (by kernel_rfl) (by kernel_rfl) (by kernel_rfl) (fun _ _ _ h => h) (Or.inl ⟨by rfl, ?_⟩) (by assumption) ?_
        rotate_left
        · intro w hSw
          try dsimp only at hSw
          go_simp
          try with_reducible rfl
        simp only [Act.put, List.setIfInBounds_toArray, List.set_cons_zero, List.set_cons_succ, List.getElem_toArray, List.getElem_cons_zero, List.getElem_cons_succ]
        refine wpAnyH_take (i := 19) (v := ?_) rfl (by kernel_rfl) (by kernel_rfl) (by kernel_rfl) (fun _ _ _ h => h) (Or.inl ⟨by rfl, ?_⟩) (by assumption) ?_
        rotate_left
        · intro w hSw
          try dsimp only at hSw
          go_simp
          try with_reducible rfl
        simp only [Act.put, List.setIfInBounds_toArray, List.set_cons_zero, List.set_cons_succ, List.getElem_toArray, List.getElem_cons_zero, List.getElem_cons_succ]
        refine wpAnyH_take (i := 20) (v := ?_) rfl (by kernel_rfl) (by kernel_rfl) (by kernel_rfl) (fun _ _ _ h => h) (Or.inl ⟨by rfl, ?_⟩) (by assumption) ?_
        rotate_left
        · intro w hSw
          have q3 := range_block HR3.out (hSw.block _ HL3.out)
          have q1 := range_block HR1.out (hSw.block _ HL1.out)
          have q2 := range_block HR2.out (hSw.block _ HL2.out)
          try (first | refine (exec_load_mid 44 _ rfl g3 (t * 3) rfl [.int .i64 (x1 : Int), .int .u64 (x2 : Int), .int .i64 y] _ q3 Try.underlying44 rfl (by kernel_rfl)).trans ?_ | refine (exec_load_mid 44 _ rfl g1 (t * 3) rfl [.int .i64 (x1 : Int), .int .u64 (x2 : Int), .int .i64 y] _ q1 Try.underlying44 rfl (by kernel_rfl)).trans ?_ | refine (exec_load_mid 44 _ rfl g2 (t * 3) rfl [.int .i64 (x1 : Int), .int .u64 (x2 : Int), .int .i64 y] _ q2 Try.underlying44 rfl (by kernel_rfl)).trans ?_)
          go_simp
          try with_reducible rfl
        simp only [Act.put, List.setIfInBounds_toArray, List.set_cons_zero, List.set_cons_succ, List.getElem_toArray, List.getElem_cons_zero, List.getElem_cons_succ]
        refine wpAnyH_take (i := 21) (v := ?_) rfl (by kernel_rfl) (by kernel_rfl) (by kernel_rfl) (fun _ _ _ h => h) (Or.inl ⟨by rfl, ?_⟩) (by assumption) ?_
        rotate_left
        · intro w hSw
          try dsimp only at hSw
          go_simp
          try with_reducible rfl
        simp only [Act.put, List.setIfInBounds_toArray, List.set_cons_zero, List.set_cons_succ, List.getElem_toArray, List.getElem_cons_zero, List.getElem_cons_succ]
        refine wpAnyH_take (i := 22) (v := ?_) rfl (by kernel_rfl) (by kernel_rfl) (by kernel_rfl) (fun _ _ _ h => h) (Or.inl ⟨by rfl, ?_⟩) (by assumption) ?_
        rotate_left
        · intro w hSw
          try dsimp only at hSw
          go_simp
          try with_reducible rfl
        simp only [Act.put, List.setIfInBounds_toArray, List.set_cons_zero, List.set_cons_succ, List.getElem_toArray, List.getElem_cons_zero, List.getElem_cons_succ]
        refine wpAnyH_take (i := 23) (v := ?_) rfl (by kernel_rfl) (by kernel_rfl) (by kernel_rfl) (fun _ _ _ h => h) (Or.inl ⟨by rfl, ?_⟩) (by assumption) ?_
        rotate_left
        · intro w hSw
          try dsimp only at hSw
          go_simp
          try with_reducible rfl
        simp only [Act.put, List.setIfInBounds_toArray, List.set_cons_zero, List.set_cons_succ, List.getElem_toArray, List.getElem_cons_zero, List.getElem_cons_succ]
        refine wpAnyH_take (i := 24) (v := ?_) rfl (by kernel_rfl) (by kernel_rfl) (by kernel_rfl) (fun _ _ _ h => h) (Or.inl ⟨by rfl, ?_⟩) (by assumption) ?_
        rotate_left
        · intro w hSw
          have q3 := range_block HR3.out (hSw.block _ HL3.out)
          have q1 := range_block HR1.out (hSw.block _ HL1.out)
          have q2 := range_block HR2.out (hSw.block _ HL2.out)
          try (first | refine (exec_load_mid 44 _ rfl g3 (t * 3) rfl [.int .i64 (x1 : Int), .int .u64 (x2 : Int), .int .i64 y] _ q3 Try.underlying44 rfl (by kernel_rfl)).trans ?_ | refine (exec_load_mid 44 _ rfl g1 (t * 3) rfl [.int .i64 (x1 : Int), .int .u64 (x2 : Int), .int .i64 y] _ q1 Try.underlying44 rfl (by kernel_rfl)).trans ?_ | refine (exec_load_mid 44 _ rfl g2 (t * 3) rfl [.int .i64 (x1 : Int), .int .u64 (x2 : Int), .int .i64 y] _ q2 Try.underlying44 rfl (by kernel_rfl)).trans ?_)
          go_simp
          try with_reducible rfl
        simp only [Act.put, List.setIfInBounds_toArray, List.set_cons_zero, List.set_cons_succ, List.getElem_toArray, List.getElem_cons_zero, List.getElem_cons_succ]
        refine wpAnyH_take (i := 25) (v := ?_) rfl (by kernel_rfl) (by kernel_rfl) (by kernel_rfl) (fun _ _ _ h => h) (Or.inl ⟨by rfl, ?_⟩) (by assumption) ?_
        rotate_left
        · intro w hSw
          try dsimp only at hSw
          go_simp
          try with_reducible rfl
        simp only [Act.put, List.setIfInBounds_toArray, List.set_cons_zero, List.set_cons_succ, List.getElem_toArray, List.getElem_cons_zero, List.getElem_cons_succ]
        refine wpAnyH_take (i := 26) (v := ?_) rfl (by kernel_rfl) (by kernel_rfl) (by kernel_rfl) (fun _ _ _ h => h) (Or.inl ⟨by rfl, ?_⟩) (by assumption) ?_
        rotate_left
        · intro w hSw
          try dsimp only at hSw
          go_simp
          try with_reducible rfl
        simp only [Act.put, List.setIfInBounds_toArray, List.set_cons_zero, List.set_cons_succ, List.getElem_toArray, List.getElem_cons_zero, List.getElem_cons_succ]
        refine wpAnyH_take (i := 27) (v := ?_) rfl (by kernel_rfl) (by kernel_rfl) (by kernel_rfl) (fun _ _ _ h => h) (Or.inl ⟨by rfl, ?_⟩) (by assumption) ?_
        rotate_left
        · intro w hSw
          try dsimp only at hSw
          go_simp
          try with_reducible rfl
        simp only [Act.put, List.setIfInBounds_toArray, List.set_cons_zero, List.set_cons_succ, List.getElem_toArray, List.getElem_cons_zero, List.getElem_cons_succ]
        refine wpAnyH_done (by kernel_rfl) ?_ _
        have HBX := Lib.hid hHeld
        clear hHeld
        go_wp2_with fail
        go_roundw
        case rel => exact ⟨t + 1, by go_num, by omega, HBX.out⟩
        case measure => simp [intOf]; omega
      · have hlz : ¬ (t : Int) < (N : Int) := by omega
        have HB8 := Lib.hid (btr HB6'.out HBW.out)
        go_wp2
        go_ret
        exact ⟨rfl, HB8.out⟩
  · subst h1 h2
    have HW2 := Lib.hid (HV2.out rfl)
    have hv1 := HN1.out (by decide)
    subst hv1
    obtain ⟨ao2, cap2, h3, -, -⟩ := own_open HW2.out
    rw [← HN.out] at h3
    subst h3
    clear HV1 HV2 HN1 HN2 HEE
    go_wp2_with fail
    go_loopw [18] (fun i wr => ∃ t : Nat, i = .int .i64 (t : Int) ∧ t ≤ N ∧ Below w7.heap.size w7 wr) (fun i _ => N - (intOf i).toNat)
    case atStart => exact ⟨0, rfl, Nat.zero_le _, Below.refl _ _⟩
    case round =>
      obtain ⟨t, rfl, htN, hbw⟩ := hrel
      have HBW := Lib.hid hbw
      clear hbw
      by_cases hlt : t < N
      · have hlz : (t : Int) < (N : Int) := by omega
        obtain ⟨p, hp⟩ : ∃ p, lo[t]? = some p := ⟨_, List.getElem?_eq_getElem (by rw [← HN.out]; exact hlt)⟩
        obtain ⟨x1, x2⟩ := p
        obtain ⟨y, hy⟩ : ∃ y, y = pt x1 x2 := ⟨_, rfl⟩
        obtain ⟨g3, c3', he, -, hl3, -, -, r3⟩ := HV3.out.range hp
        simp only [Value.slice.injEq] at he
        obtain ⟨rfl, -, rfl⟩ := he
        have HR3 := Lib.hid (show w7.rangeAt g3 (t * 3) [.int .i64 (x1 : Int), .int .u64 (x2 : Int), .int .i64 y] by rw [hy]; exact r3)
        have HL3 := Lib.hid hl3
        clear r3 hl3
        obtain ⟨g2, c2', he, -, hl2, -, -, r2⟩ := HW2.out.range hp
        simp only [Value.slice.injEq] at he
        obtain ⟨rfl, -, rfl⟩ := he
        have HR2 := Lib.hid (show w7.rangeAt g2 (t * 3) [.int .i64 (x1 : Int), .int .u64 (x2 : Int), .int .i64 y] by rw [hy]; exact r2)
        have HL2 := Lib.hid hl2
        clear r2 hl2
        generalize wr = w8 at *
        clear hp hy
        go_wp2_with fail
        refine wp_region_held_drew (S := fun w' => Below w7.heap.size w7 w') (by kernel_rfl) (by exact HBW.out.trans (below_drewN (Below.refl _ _) 1)) (fun hHeld => ?_)
        refine wpAnyH_take (i := 0) (v := ?_) rfl (by kernel_rfl) (by kernel_rfl) (by kernel_rfl) (fun _ _ _ h => h) (Or.inl ⟨by rfl, ?_⟩) (by assumption) ?_
        rotate_left
        · intro w hSw
          try dsimp only at hSw
          go_simp
          try with_reducible rfl
        simp only [Act.put, List.setIfInBounds_toArray, List.set_cons_zero, List.set_cons_succ, List.getElem_toArray, List.getElem_cons_zero, List.getElem_cons_succ]
        refine wpAnyH_take (i := 1) (v := ?_) rfl (by kernel_rfl) (by kernel_rfl) (by kernel_rfl) (fun _ _ _ h => h) (Or.inl ⟨by rfl, ?_⟩) (by assumption) ?_
        rotate_left
        · intro w hSw
          try dsimp only at hSw
          go_simp
          try with_reducible rfl
        simp only [Act.put, List.setIfInBounds_toArray, List.set_cons_zero, List.set_cons_succ, List.getElem_toArray, List.getElem_cons_zero, List.getElem_cons_succ]
        refine wpAnyH_take (i := 2) (v := ?_) rfl (by kernel_rfl) (by kernel_rfl) (by kernel_rfl) (fun _ _ _ h => h) (Or.inl ⟨by rfl, ?_⟩) (by assumption) ?_
        rotate_left
        · intro w hSw
          try dsimp only at hSw
          go_simp
          try with_reducible rfl
        simp only [Act.put, List.setIfInBounds_toArray, List.set_cons_zero, List.set_cons_succ, List.getElem_toArray, List.getElem_cons_zero, List.getElem_cons_succ]
        refine wpAnyH_take (i := 3) (v := undef) rfl (by kernel_rfl) (by kernel_rfl) (by kernel_rfl) (fun _ _ _ h => h) (Or.inr ⟨by rfl, rfl⟩) (by assumption) ?_
        simp only [Act.put, List.setIfInBounds_toArray, List.set_cons_zero, List.set_cons_succ, List.getElem_toArray, List.getElem_cons_zero, List.getElem_cons_succ]
        refine wpAnyH_take (i := 4) (v := undef) rfl (by kernel_rfl) (by kernel_rfl) (by kernel_rfl) (fun _ _ _ h => h) (Or.inr ⟨by rfl, rfl⟩) (by assumption) ?_
        simp only [Act.put, List.setIfInBounds_toArray, List.set_cons_zero, List.set_cons_succ, List.getElem_toArray, List.getElem_cons_zero, List.getElem_cons_succ]
        refine wpAnyH_take (i := 5) (v := undef) rfl (by kernel_rfl) (by kernel_rfl) (by kernel_rfl) (fun _ _ _ h => h) (Or.inr ⟨by rfl, rfl⟩) (by assumption) ?_
        simp only [Act.put, List.setIfInBounds_toArray, List.set_cons_zero, List.set_cons_succ, List.getElem_toArray, List.getElem_cons_zero, List.getElem_cons_succ]
        refine wpAnyH_take (i := 6) (v := undef) rfl (by kernel_rfl) (by kernel_rfl) (by kernel_rfl) (fun _ _ _ h => h) (Or.inr ⟨by rfl, rfl⟩) (by assumption) ?_
        simp only [Act.put, List.setIfInBounds_toArray, List.set_cons_zero, List.set_cons_succ, List.getElem_toArray, List.getElem_cons_zero, List.getElem_cons_succ]
        refine wpAnyH_take (i := 7) (v := undef) rfl (by kernel_rfl) (by kernel_rfl) (by kernel_rfl) (fun _ _ _ h => h) (Or.inr ⟨by rfl, rfl⟩) (by assumption) ?_
        simp only [Act.put, List.setIfInBounds_toArray, List.set_cons_zero, List.set_cons_succ, List.getElem_toArray, List.getElem_cons_zero, List.getElem_cons_succ]
        refine wpAnyH_take (i := 8) (v := undef) rfl (by kernel_rfl) (by kernel_rfl) (by kernel_rfl) (fun _ _ _ h => h) (Or.inr ⟨by rfl, rfl⟩) (by assumption) ?_
        simp only [Act.put, List.setIfInBounds_toArray, List.set_cons_zero, List.set_cons_succ, List.getElem_toArray, List.getElem_cons_zero, List.getElem_cons_succ]
        refine wpAnyH_take (i := 9) (v := undef) rfl (by kernel_rfl) (by kernel_rfl) (by kernel_rfl) (fun _ _ _ h => h) (Or.inr ⟨by rfl, rfl⟩) (by assumption) ?_
        simp only [Act.put, List.setIfInBounds_toArray, List.set_cons_zero, List.set_cons_succ, List.getElem_toArray, List.getElem_cons_zero, List.getElem_cons_succ]
        refine wpAnyH_take (i := 10) (v := undef) rfl (by kernel_rfl) (by kernel_rfl) (by kernel_rfl) (fun _ _ _ h => h) (Or.inr ⟨by rfl, rfl⟩) (by assumption) ?_
        simp only [Act.put, List.setIfInBounds_toArray, List.set_cons_zero, List.set_cons_succ, List.getElem_toArray, List.getElem_cons_zero, List.getElem_cons_succ]
        refine wpAnyH_take (i := 11) (v := undef) rfl (by kernel_rfl) (by kernel_rfl) (by kernel_rfl) (fun _ _ _ h => h) (Or.inr ⟨by rfl, rfl⟩) (by assumption) ?_
        simp only [Act.put, List.setIfInBounds_toArray, List.set_cons_zero, List.set_cons_succ, List.getElem_toArray, List.getElem_cons_zero, List.getElem_cons_succ]
        refine wpAnyH_take (i := 12) (v := ?_) rfl (by kernel_rfl) (by kernel_rfl) (by kernel_rfl) (fun _ _ _ h => h) (Or.inl ⟨by rfl, ?_⟩) (by assumption) ?_
        rotate_left
        · intro w hSw
          try dsimp only at hSw
          go_simp
          try with_reducible rfl
        simp only [Act.put, List.setIfInBounds_toArray, List.set_cons_zero, List.set_cons_succ, List.getElem_toArray, List.getElem_cons_zero, List.getElem_cons_succ]
        refine wpAnyH_take (i := 13) (v := ?_) rfl (by kernel_rfl) (by kernel_rfl) (by kernel_rfl) (fun _ _ _ h => h) (Or.inl ⟨by rfl, ?_⟩) (by assumption) ?_
        rotate_left
        · intro w hSw
          try dsimp only at hSw
          go_simp
          try with_reducible rfl
        simp only [Act.put, List.setIfInBounds_toArray, List.set_cons_zero, List.set_cons_succ, List.getElem_toArray, List.getElem_cons_zero, List.getElem_cons_succ]
        refine wpAnyH_take (i := 14) (v := ?_) rfl (by kernel_rfl) (by kernel_rfl) (by kernel_rfl) (fun _ _ _ h => h) (Or.inl ⟨by rfl, ?_⟩) (by assumption) ?_
        rotate_left
        · intro w hSw
          try dsimp only at hSw
          go_simp
          try with_reducible rfl
        simp only [Act.put, List.setIfInBounds_toArray, List.set_cons_zero, List.set_cons_succ, List.getElem_toArray, List.getElem_cons_zero, List.getElem_cons_succ]
        refine wpAnyH_take (i := 15) (v := ?_) rfl (by kernel_rfl) (by kernel_rfl) (by kernel_rfl) (fun _ _ _ h => h) (Or.inl ⟨by rfl, ?_⟩) (by assumption) ?_
        rotate_left
        · intro w hSw
          try dsimp only at hSw
          go_simp
          try with_reducible rfl
        simp only [Act.put, List.setIfInBounds_toArray, List.set_cons_zero, List.set_cons_succ, List.getElem_toArray, List.getElem_cons_zero, List.getElem_cons_succ]
        refine wpAnyH_take (i := 16) (v := ?_) rfl (by kernel_rfl) (by kernel_rfl) (by kernel_rfl) (fun _ _ _ h => h) (Or.inl ⟨by rfl, ?_⟩) (by assumption) ?_
        rotate_left
        · intro w hSw
          try dsimp only at hSw
          go_simp
          try with_reducible rfl
        simp only [Act.put, List.setIfInBounds_toArray, List.set_cons_zero, List.set_cons_succ, List.getElem_toArray, List.getElem_cons_zero, List.getElem_cons_succ]
        refine wpAnyH_take (i := 17) (v := ?_) rfl (by kernel_rfl) (by kernel_rfl) (by kernel_rfl) (fun _ _ _ h => h) (Or.inl ⟨by rfl, ?_⟩) (by assumption) ?_
        rotate_left
        · intro w hSw
          try dsimp only at hSw
          go_simp
          try with_reducible rfl
        simp only [Act.put, List.setIfInBounds_toArray, List.set_cons_zero, List.set_cons_succ, List.getElem_toArray, List.getElem_cons_zero, List.getElem_cons_succ]
        refine wpAnyH_take (i := 18) (v := ?_) rfl (by kernel_rfl) (by kernel_rfl) (by kernel_rfl) (fun _ _ _ h => h) (Or.inl ⟨by rfl, ?_⟩) (by assumption) ?_
        rotate_left
        · intro w hSw
          try dsimp only at hSw
          go_simp
          try with_reducible rfl
        simp only [Act.put, List.setIfInBounds_toArray, List.set_cons_zero, List.set_cons_succ, List.getElem_toArray, List.getElem_cons_zero, List.getElem_cons_succ]
        refine wpAnyH_take (i := 19) (v := ?_) rfl (by kernel_rfl) (by kernel_rfl) (by kernel_rfl) (fun _ _ _ h => h) (Or.inl ⟨by rfl, ?_⟩) (by assumption) ?_
        rotate_left
        · intro w hSw
          try dsimp only at hSw
          go_simp
          try with_reducible rfl
        simp only [Act.put, List.setIfInBounds_toArray, List.set_cons_zero, List.set_cons_succ, List.getElem_toArray, List.getElem_cons_zero, List.getElem_cons_succ]
        refine wpAnyH_take (i := 20) (v := ?_) rfl (by kernel_rfl) (by kernel_rfl) (by kernel_rfl) (fun _ _ _ h => h) (Or.inl ⟨by rfl, ?_⟩) (by assumption) ?_
        rotate_left
        · intro w hSw
          have q3 := range_block HR3.out (hSw.block _ HL3.out)
          have q2 := range_block HR2.out (hSw.block _ HL2.out)
          try (first | refine (exec_load_mid 44 _ rfl g3 (t * 3) rfl [.int .i64 (x1 : Int), .int .u64 (x2 : Int), .int .i64 y] _ q3 Try.underlying44 rfl (by kernel_rfl)).trans ?_ | refine (exec_load_mid 44 _ rfl g2 (t * 3) rfl [.int .i64 (x1 : Int), .int .u64 (x2 : Int), .int .i64 y] _ q2 Try.underlying44 rfl (by kernel_rfl)).trans ?_)
          go_simp
          try with_reducible rfl
        simp only [Act.put, List.setIfInBounds_toArray, List.set_cons_zero, List.set_cons_succ, List.getElem_toArray, List.getElem_cons_zero, List.getElem_cons_succ]
        refine wpAnyH_take (i := 21) (v := ?_) rfl (by kernel_rfl) (by kernel_rfl) (by kernel_rfl) (fun _ _ _ h => h) (Or.inl ⟨by rfl, ?_⟩) (by assumption) ?_
        rotate_left
        · intro w hSw
          try dsimp only at hSw
          go_simp
          try with_reducible rfl
        simp only [Act.put, List.setIfInBounds_toArray, List.set_cons_zero, List.set_cons_succ, List.getElem_toArray, List.getElem_cons_zero, List.getElem_cons_succ]
        refine wpAnyH_take (i := 22) (v := ?_) rfl (by kernel_rfl) (by kernel_rfl) (by kernel_rfl) (fun _ _ _ h => h) (Or.inl ⟨by rfl, ?_⟩) (by assumption) ?_
        rotate_left
        · intro w hSw
          try dsimp only at hSw
          go_simp
          try with_reducible rfl
        simp only [Act.put, List.setIfInBounds_toArray, List.set_cons_zero, List.set_cons_succ, List.getElem_toArray, List.getElem_cons_zero, List.getElem_cons_succ]
        refine wpAnyH_take (i := 23) (v := ?_) rfl (by kernel_rfl) (by kernel_rfl) (by kernel_rfl) (fun _ _ _ h => h) (Or.inl ⟨by rfl, ?_⟩) (by assumption) ?_
        rotate_left
        · intro w hSw
          try dsimp only at hSw
          go_simp
          try with_reducible rfl
        simp only [Act.put, List.setIfInBounds_toArray, List.set_cons_zero, List.set_cons_succ, List.getElem_toArray, List.getElem_cons_zero, List.getElem_cons_succ]
        refine wpAnyH_take (i := 24) (v := ?_) rfl (by kernel_rfl) (by kernel_rfl) (by kernel_rfl) (fun _ _ _ h => h) (Or.inl ⟨by rfl, ?_⟩) (by assumption) ?_
        rotate_left
        · intro w hSw
          have q3 := range_block HR3.out (hSw.block _ HL3.out)
          have q2 := range_block HR2.out (hSw.block _ HL2.out)
          try (first | refine (exec_load_mid 44 _ rfl g3 (t * 3) rfl [.int .i64 (x1 : Int), .int .u64 (x2 : Int), .int .i64 y] _ q3 Try.underlying44 rfl (by kernel_rfl)).trans ?_ | refine (exec_load_mid 44 _ rfl g2 (t * 3) rfl [.int .i64 (x1 : Int), .int .u64 (x2 : Int), .int .i64 y] _ q2 Try.underlying44 rfl (by kernel_rfl)).trans ?_)
          go_simp
          try with_reducible rfl
        simp only [Act.put, List.setIfInBounds_toArray, List.set_cons_zero, List.set_cons_succ, List.getElem_toArray, List.getElem_cons_zero, List.getElem_cons_succ]
        refine wpAnyH_take (i := 25) (v := ?_) rfl (by kernel_rfl) (by kernel_rfl) (by kernel_rfl) (fun _ _ _ h => h) (Or.inl ⟨by rfl, ?_⟩) (by assumption) ?_
        rotate_left
        · intro w hSw
          try dsimp only at hSw
          go_simp
          try with_reducible rfl
        simp only [Act.put, List.setIfInBounds_toArray, List.set_cons_zero, List.set_cons_succ, List.getElem_toArray, List.getElem_cons_zero, List.getElem_cons_succ]
        refine wpAnyH_take (i := 26) (v := ?_) rfl (by kernel_rfl) (by kernel_rfl) (by kernel_rfl) (fun _ _ _ h => h) (Or.inl ⟨by rfl, ?_⟩) (by assumption) ?_
        rotate_left
        · intro w hSw
          try dsimp only at hSw
          go_simp
          try with_reducible rfl
        simp only [Act.put, List.setIfInBounds_toArray, List.set_cons_zero, List.set_cons_succ, List.getElem_toArray, List.getElem_cons_zero, List.getElem_cons_succ]
        refine wpAnyH_take (i := 27) (v := ?_) rfl (by kernel_rfl) (by kernel_rfl) (by kernel_rfl) (fun _ _ _ h => h) (Or.inl ⟨by rfl, ?_⟩) (by assumption) ?_
        rotate_left
        · intro w hSw
          try dsimp only at hSw
          go_simp
          try with_reducible rfl
        simp only [Act.put, List.setIfInBounds_toArray, List.set_cons_zero, List.set_cons_succ, List.getElem_toArray, List.getElem_cons_zero, List.getElem_cons_succ]
        refine wpAnyH_done (by kernel_rfl) ?_ _
        have HBX := Lib.hid hHeld
        clear hHeld
        go_wp2_with fail
        go_roundw
        case rel => exact ⟨t + 1, by go_num, by omega, HBX.out⟩
        case measure => simp [intOf]; omega
      · have hlz : ¬ (t : Int) < (N : Int) := by omega
        have HB8 := Lib.hid (btr HB6'.out HBW.out)
        go_wp2
        go_ret
        exact ⟨rfl, HB8.out⟩
  · subst h1 h2
    have hv1 := HN1.out (by decide)
    have hv2 := HN2.out (by decide)
    subst hv1 hv2
    clear HV1 HV2 HN1 HN2 HEE
    go_wp2_with fail
    go_loopw [18] (fun i wr => ∃ t : Nat, i = .int .i64 (t : Int) ∧ t ≤ N ∧ Below w7.heap.size w7 wr) (fun i _ => N - (intOf i).toNat)
    case atStart => exact ⟨0, rfl, Nat.zero_le _, Below.refl _ _⟩
    case round =>
      obtain ⟨t, rfl, htN, hbw⟩ := hrel
      have HBW := Lib.hid hbw
      clear hbw
      by_cases hlt : t < N
      · have hlz : (t : Int) < (N : Int) := by omega
        obtain ⟨p, hp⟩ : ∃ p, lo[t]? = some p := ⟨_, List.getElem?_eq_getElem (by rw [← HN.out]; exact hlt)⟩
        obtain ⟨x1, x2⟩ := p
        obtain ⟨y, hy⟩ : ∃ y, y = pt x1 x2 := ⟨_, rfl⟩
        obtain ⟨g3, c3', he, -, hl3, -, -, r3⟩ := HV3.out.range hp
        simp only [Value.slice.injEq] at he
        obtain ⟨rfl, -, rfl⟩ := he
        have HR3 := Lib.hid (show w7.rangeAt g3 (t * 3) [.int .i64 (x1 : Int), .int .u64 (x2 : Int), .int .i64 y] by rw [hy]; exact r3)
        have HL3 := Lib.hid hl3
        clear r3 hl3
        generalize wr = w8 at *
        clear hp hy
        go_wp2_with fail
        refine wp_region_held_drew (S := fun w' => Below w7.heap.size w7 w') (by kernel_rfl) (by exact HBW.out.trans (below_drewN (Below.refl _ _) 1)) (fun hHeld => ?_)
        refine wpAnyH_take (i := 0) (v := ?_) rfl (by kernel_rfl) (by kernel_rfl) (by kernel_rfl) (fun _ _ _ h => h) (Or.inl ⟨by rfl, ?_⟩) (by assumption) ?_
        rotate_left
        · intro w hSw
          try dsimp only at hSw
          go_simp
          try with_reducible rfl
        simp only [Act.put, List.setIfInBounds_toArray, List.set_cons_zero, List.set_cons_succ, List.getElem_toArray, List.getElem_cons_zero, List.getElem_cons_succ]
        refine wpAnyH_take (i := 1) (v := ?_) rfl (by kernel_rfl) (by kernel_rfl) (by kernel_rfl) (fun _ _ _ h => h) (Or.inl ⟨by rfl, ?_⟩) (by assumption) ?_
        rotate_left
        · intro w hSw
          try dsimp only at hSw
          go_simp
          try with_reducible rfl
        simp only [Act.put, List.setIfInBounds_toArray, List.set_cons_zero, List.set_cons_succ, List.getElem_toArray, List.getElem_cons_zero, List.getElem_cons_succ]
        refine wpAnyH_take (i := 2) (v := ?_) rfl (by kernel_rfl) (by kernel_rfl) (by kernel_rfl) (fun _ _ _ h => h) (Or.inl ⟨by rfl, ?_⟩) (by assumption) ?_
        rotate_left
        · intro w hSw
          try dsimp only at hSw
          go_simp
          try with_reducible rfl
        simp only [Act.put, List.setIfInBounds_toArray, List.set_cons_zero, List.set_cons_succ, List.getElem_toArray, List.getElem_cons_zero, List.getElem_cons_succ]
        refine wpAnyH_take (i := 3) (v := undef) rfl (by kernel_rfl) (by kernel_rfl) (by kernel_rfl) (fun _ _ _ h => h) (Or.inr ⟨by rfl, rfl⟩) (by assumption) ?_
        simp only [Act.put, List.setIfInBounds_toArray, List.set_cons_zero, List.set_cons_succ, List.getElem_toArray, List.getElem_cons_zero, List.getElem_cons_succ]
        refine wpAnyH_take (i := 4) (v := undef) rfl (by kernel_rfl) (by kernel_rfl) (by kernel_rfl) (fun _ _ _ h => h) (Or.inr ⟨by rfl, rfl⟩) (by assumption) ?_
        simp only [Act.put, List.setIfInBounds_toArray, List.set_cons_zero, List.set_cons_succ, List.getElem_toArray, List.getElem_cons_zero, List.getElem_cons_succ]
        refine wpAnyH_take (i := 5) (v := undef) rfl (by kernel_rfl) (by kernel_rfl) (by kernel_rfl) (fun _ _ _ h => h) (Or.inr ⟨by rfl, rfl⟩) (by assumption) ?_
        simp only [Act.put, List.setIfInBounds_toArray, List.set_cons_zero, List.set_cons_succ, List.getElem_toArray, List.getElem_cons_zero, List.getElem_cons_succ]
        refine wpAnyH_take (i := 6) (v := undef) rfl (by kernel_rfl) (by kernel_rfl) (by kernel_rfl) (fun _ _ _ h => h) (Or.inr ⟨by rfl, rfl⟩) (by assumption) ?_
        simp only [Act.put, List.setIfInBounds_toArray, List.set_cons_zero, List.set_cons_succ, List.getElem_toArray, List.getElem_cons_zero, List.getElem_cons_succ]
        refine wpAnyH_take (i := 7) (v := undef) rfl (by kernel_rfl) (by kernel_rfl) (by kernel_rfl) (fun _ _ _ h => h) (Or.inr ⟨by rfl, rfl⟩) (by assumption) ?_
        simp only [Act.put, List.setIfInBounds_toArray, List.set_cons_zero, List.set_cons_succ, List.getElem_toArray, List.getElem_cons_zero, List.getElem_cons_succ]
        refine wpAnyH_take (i := 8) (v := undef) rfl (by kernel_rfl) (by kernel_rfl) (by kernel_rfl) (fun _ _ _ h => h) (Or.inr ⟨by rfl, rfl⟩) (by assumption) ?_
        simp only [Act.put, List.setIfInBounds_toArray, List.set_cons_zero, List.set_cons_succ, List.getElem_toArray, List.getElem_cons_zero, List.getElem_cons_succ]
        refine wpAnyH_take (i := 9) (v := undef) rfl (by kernel_rfl) (by kernel_rfl) (by kernel_rfl) (fun _ _ _ h => h) (Or.inr ⟨by rfl, rfl⟩) (by assumption) ?_
        simp only [Act.put, List.setIfInBounds_toArray, List.set_cons_zero, List.set_cons_succ, List.getElem_toArray, List.getElem_cons_zero, List.getElem_cons_succ]
        refine wpAnyH_take (i := 10) (v := undef) rfl (by kernel_rfl) (by kernel_rfl) (by kernel_rfl) (fun _ _ _ h => h) (Or.inr ⟨by rfl, rfl⟩) (by assumption) ?_
        simp only [Act.put, List.setIfInBounds_toArray, List.set_cons_zero, List.set_cons_succ, List.getElem_toArray, List.getElem_cons_zero, List.getElem_cons_succ]
        refine wpAnyH_take (i := 11) (v := undef) rfl (by kernel_rfl) (by kernel_rfl) (by kernel_rfl) (fun _ _ _ h => h) (Or.inr ⟨by rfl, rfl⟩) (by assumption) ?_
        simp only [Act.put, List.setIfInBounds_toArray, List.set_cons_zero, List.set_cons_succ, List.getElem_toArray, List.getElem_cons_zero, List.getElem_cons_succ]
        refine wpAnyH_take (i := 12) (v := ?_) rfl (by kernel_rfl) (by kernel_rfl) (by kernel_rfl) (fun _ _ _ h => h) (Or.inl ⟨by rfl, ?_⟩) (by assumption) ?_
        rotate_left
        · intro w hSw
          try dsimp only at hSw
          go_simp
          try with_reducible rfl
        simp only [Act.put, List.setIfInBounds_toArray, List.set_cons_zero, List.set_cons_succ, List.getElem_toArray, List.getElem_cons_zero, List.getElem_cons_succ]
        refine wpAnyH_take (i := 13) (v := ?_) rfl (by kernel_rfl) (by kernel_rfl) (by kernel_rfl) (fun _ _ _ h => h) (Or.inl ⟨by rfl, ?_⟩) (by assumption) ?_
        rotate_left
        · intro w hSw
          try dsimp only at hSw
          go_simp
          try with_reducible rfl
        simp only [Act.put, List.setIfInBounds_toArray, List.set_cons_zero, List.set_cons_succ, List.getElem_toArray, List.getElem_cons_zero, List.getElem_cons_succ]
        refine wpAnyH_take (i := 14) (v := ?_) rfl (by kernel_rfl) (by kernel_rfl) (by kernel_rfl) (fun _ _ _ h => h) (Or.inl ⟨by rfl, ?_⟩) (by assumption) ?_
        rotate_left
        · intro w hSw
          try dsimp only at hSw
          go_simp
          try with_reducible rfl
        simp only [Act.put, List.setIfInBounds_toArray, List.set_cons_zero, List.set_cons_succ, List.getElem_toArray, List.getElem_cons_zero, List.getElem_cons_succ]
        refine wpAnyH_take (i := 15) (v := ?_) rfl (by kernel_rfl) (by kernel_rfl) (by kernel_rfl) (fun _ _ _ h => h) (Or.inl ⟨by rfl, ?_⟩) (by assumption) ?_
        rotate_left
        · intro w hSw
          try dsimp only at hSw
          go_simp
          try with_reducible rfl
        simp only [Act.put, List.setIfInBounds_toArray, List.set_cons_zero, List.set_cons_succ, List.getElem_toArray, List.getElem_cons_zero, List.getElem_cons_succ]
        refine wpAnyH_take (i := 16) (v := ?_) rfl (by kernel_rfl) (by kernel_rfl) (by kernel_rfl) (fun _ _ _ h => h) (Or.inl ⟨by rfl, ?_⟩) (by assumption) ?_
        rotate_left
        · intro w hSw
          try dsimp only at hSw
          go_simp
          try with_reducible rfl
        simp only [Act.put, List.setIfInBounds_toArray, List.set_cons_zero, List.set_cons_succ, List.getElem_toArray, List.getElem_cons_zero, List.getElem_cons_succ]
        refine wpAnyH_take (i := 17) (v := undef) rfl (by kernel_rfl) (by kernel_rfl) (by kernel_rfl) (fun _ _ _ h => h) (Or.inr ⟨by rfl, rfl⟩) (by assumption) ?_
        simp only [Act.put, List.setIfInBounds_toArray, List.set_cons_zero, List.set_cons_succ, List.getElem_toArray, List.getElem_cons_zero, List.getElem_cons_succ]
        refine wpAnyH_take (i := 18) (v := undef) rfl (by kernel_rfl) (by kernel_rfl) (by kernel_rfl) (fun _ _ _ h => h) (Or.inr ⟨by rfl, rfl⟩) (by assumption) ?_
        simp only [Act.put, List.setIfInBounds_toArray, List.set_cons_zero, List.set_cons_succ, List.getElem_toArray, List.getElem_cons_zero, List.getElem_cons_succ]
        refine wpAnyH_take (i := 19) (v := undef) rfl (by kernel_rfl) (by kernel_rfl) (by kernel_rfl) (fun _ _ _ h => h) (Or.inr ⟨by rfl, rfl⟩) (by assumption) ?_
        simp only [Act.put, List.setIfInBounds_toArray, List.set_cons_zero, List.set_cons_succ, List.getElem_toArray, List.getElem_cons_zero, List.getElem_cons_succ]
        refine wpAnyH_take (i := 20) (v := undef) rfl (by kernel_rfl) (by kernel_rfl) (by kernel_rfl) (fun _ _ _ h => h) (Or.inr ⟨by rfl, rfl⟩) (by assumption) ?_
        simp only [Act.put, List.setIfInBounds_toArray, List.set_cons_zero, List.set_cons_succ, List.getElem_toArray, List.getElem_cons_zero, List.getElem_cons_succ]
        refine wpAnyH_take (i := 21) (v := undef) rfl (by kernel_rfl) (by kernel_rfl) (by kernel_rfl) (fun _ _ _ h => h) (Or.inr ⟨by rfl, rfl⟩) (by assumption) ?_
        simp only [Act.put, List.setIfInBounds_toArray, List.set_cons_zero, List.set_cons_succ, List.getElem_toArray, List.getElem_cons_zero, List.getElem_cons_succ]
        refine wpAnyH_take (i := 22) (v := undef) rfl (by kernel_rfl) (by kernel_rfl) (by kernel_rfl) (fun _ _ _ h => h) (Or.inr ⟨by rfl, rfl⟩) (by assumption) ?_
        simp only [Act.put, List.setIfInBounds_toArray, List.set_cons_zero, List.set_cons_succ, List.getElem_toArray, List.getElem_cons_zero, List.getElem_cons_succ]
        refine wpAnyH_take (i := 23) (v := undef) rfl (by kernel_rfl) (by kernel_rfl) (by kernel_rfl) (fun _ _ _ h => h) (Or.inr ⟨by rfl, rfl⟩) (by assumption) ?_
        simp only [Act.put, List.setIfInBounds_toArray, List.set_cons_zero, List.set_cons_succ, List.getElem_toArray, List.getElem_cons_zero, List.getElem_cons_succ]
        refine wpAnyH_take (i := 24) (v := undef) rfl (by kernel_rfl) (by kernel_rfl) (by kernel_rfl) (fun _ _ _ h => h) (Or.inr ⟨by rfl, rfl⟩) (by assumption) ?_
        simp only [Act.put, List.setIfInBounds_toArray, List.set_cons_zero, List.set_cons_succ, List.getElem_toArray, List.getElem_cons_zero, List.getElem_cons_succ]
        refine wpAnyH_take (i := 25) (v := undef) rfl (by kernel_rfl) (by kernel_rfl) (by kernel_rfl) (fun _ _ _ h => h) (Or.inr ⟨by rfl, rfl⟩) (by assumption) ?_
        simp only [Act.put, List.setIfInBounds_toArray, List.set_cons_zero, List.set_cons_succ, List.getElem_toArray, List.getElem_cons_zero, List.getElem_cons_succ]
        refine wpAnyH_take (i := 26) (v := ?_) rfl (by kernel_rfl) (by kernel_rfl) (by kernel_rfl) (fun _ _ _ h => h) (Or.inl ⟨by rfl, ?_⟩) (by assumption) ?_
        rotate_left
        · intro w hSw
          try dsimp only at hSw
          go_simp
          try with_reducible rfl
        simp only [Act.put, List.setIfInBounds_toArray, List.set_cons_zero, List.set_cons_succ, List.getElem_toArray, List.getElem_cons_zero, List.getElem_cons_succ]
        refine wpAnyH_take (i := 27) (v := ?_) rfl (by kernel_rfl) (by kernel_rfl) (by kernel_rfl) (fun _ _ _ h => h) (Or.inl ⟨by rfl, ?_⟩) (by assumption) ?_
        rotate_left
        · intro w hSw
          try dsimp only at hSw
          go_simp
          try with_reducible rfl
        simp only [Act.put, List.setIfInBounds_toArray, List.set_cons_zero, List.set_cons_succ, List.getElem_toArray, List.getElem_cons_zero, List.getElem_cons_succ]
        refine wpAnyH_done (by kernel_rfl) ?_ _
        have HBX := Lib.hid hHeld
        clear hHeld
        go_wp2_with fail
        go_roundw
        case rel => exact ⟨t + 1, by go_num, by omega, HBX.out⟩
        case measure => simp [intOf]; omega
      · have hlz : ¬ (t : Int) < (N : Int) := by omega
        have HB8 := Lib.hid (btr HB6'.out HBW.out)
        go_wp2
        go_ret
        exact ⟨rfl, HB8.out⟩
end Go.Proofs.Ythbkljeibmkimaa

/-
  The law HeavyBudget, of any arguments. Conditions: none beyond those stated at each theorem.
-/
namespace Go.Proofs.Ythbkljeibmkimaa
open Go.RowKit
set_option linter.unusedVariables false
set_option linter.unusedSimpArgs false

def shInts2 : Sh := .agg (.cons (.int .i64) (.cons (.int .i64) .unit))
theorem valInts2 {w : World} {v : Value} (h : shInts2.Val w v) : ∃ a b : Int, v = .agg #[.int .i64 a, .int .i64 b] ∧ In64 a ∧ In64 b := by
  obtain ⟨cs, rfl, h⟩ := h
  obtain ⟨a, q1, e, ha, h⟩ := Sh.reads_int h
  obtain ⟨b, q2, rfl, hb, h⟩ := Sh.reads_int h
  obtain rfl := Sh.reads_unit h
  simp [Lit.wf, IntKind.min, IntKind.max, IntKind.signed, IntKind.bits] at ha hb
  exact ⟨a, b, by rw [agg_of_list e], ⟨by omega, by omega⟩, ⟨by omega, by omega⟩⟩
theorem valI64 {w : World} {v : Value} (h : (Sh.int .i64).Val w v) : ∃ a : Int, v = .int .i64 a ∧ In64 a := by
  obtain ⟨a, e, ha⟩ := h
  simp at e
  subst e
  simp [Lit.wf, IntKind.min, IntKind.max, IntKind.signed, IntKind.bits] at ha
  exact ⟨a, rfl, by omega, by omega⟩
theorem HeavyBudget_walk (v0 v1 v2 : Value) (w : World) (h0 : shPlay.Val w v0) (h1 : (Sh.int .i64).Val w v1) (h2 : shInts2.Val w v2) :
    Calls Try.prog 5 #[v0, v1, v2] w fun e w' => e = .returned (.bool true) ∧ Below w.heap.size w w' := by
  obtain ⟨xb, xr, xd, xm, s, l, n, ks, ds, rfl, hl, -, -, -, -, s0, s1⟩ := valPlay h0
  obtain ⟨a, rfl, ha⟩ := valI64 h1
  obtain ⟨b, c, rfl, hb, hc⟩ := valInts2 h2
  exact budget_walk xb xr xd xm s l n ks ds s0 s1 a b c hb hc ha w hl
end Go.Proofs.Ythbkljeibmkimaa
