/-
  The walk of wire.Decode: bytes that have a sum. Conditions: none beyond those stated at each theorem.
-/
import Derived.Test.YtbghchgmoiniiaaWirE
namespace Go.Proofs.Ytbghchgmoiniiaa
open Go.RowKit
set_option linter.unusedVariables false
set_option linter.unusedSimpArgs false

set_option maxRecDepth 100000 in
set_option maxHeartbeats 8000000 in
theorem dec_many (w : World) (g off cap : Nat) (bs : List Int) (hv : BytesAt w (.slice (some ⟨g, off, none⟩) bs.length cap) bs) (hb : Byts bs) (h4 : 4 ≤ bs.length) (hl : bs.length ≤ 100000) :
    Calls Try.prog 8 #[.slice (some ⟨g, off, none⟩) bs.length cap] w (DecRes w bs) := by
  have HV := Lib.hid hv
  have HBY := Lib.hid hb
  have hcap : bs.length ≤ cap := by
    obtain ⟨ao2, cap2, e, e1, e2, -⟩ := hv
    simp only [Value.slice.injEq] at e
    obtain ⟨-, -, rfl⟩ := e
    omega
  have hgl : g < w.heap.size := by
    obtain ⟨ao2, cap2, e, e1, e2, e3⟩ := hv
    simp only [Value.slice.injEq] at e
    obtain ⟨rfl, -, rfl⟩ := e
    rcases e3 with ⟨rfl, e3⟩ | ⟨g2, off2, e4, hg, -⟩
    · cases e3
    · cases e4; exact hg
  obtain ⟨at_, hat⟩ : ∃ a, bs.length = a + 4 := ⟨bs.length - 4, by omega⟩
  have HN := Lib.hid hat
  rw [hat] at hcap hl HV ⊢
  clear h4 hv hb hat
  obtain ⟨g1, g2, hb1, hsz1⟩ := news2 w (.cells #[.pointer none] 25) (.cells #[.int .i64 0] 26)
  have HS1 : Hid (Blk _ w.heap.size 25 #[.pointer none]) := Lib.hid g1
  have HE1 : Hid (Blk _ (w.heap.size + 1) 26 #[.int .i64 0]) := Lib.hid g2
  have HB1 := Lib.hid hb1
  have d1 : decide ((at_ : Int) + 4 < 4) = false := decide_eq_false (by omega)
  have d2 : decide (at_ + 4 < 4) = false := decide_eq_false (by omega)
  have hatc : at_ < cap := by omega
  have a0 : (0 : Int) ≤ (at_ : Int) := by omega
  have a2 : at_ ≤ cap := by omega
  have a3 : ¬ cap = at_ := by omega
  have a4 : ¬ at_ = cap := by omega
  have a1 : (at_ : Int) ≤ (at_ : Int) + 4 := by omega
  have hV1 := HV.out.kept HB1.out
  have hmf : ∀ (fn : Fn) (first cap : Array Value) (w : World), (Instr.makeFunc fn first cap).run Try.prog w = .ok (.func fn first cap) w := fun _ _ _ _ => rfl
  clear g1 g2 hb1 hsz1
  go_enter_defers Try.func8, Try.ntmps8
  go_wp2_with fail
  generalize (w.alloc (.cells #[.pointer none] 25)).alloc (.cells #[.int .i64 0] 26) = w1 at *
  have HV1 := Lib.hid hV1
  have HTL : Hid ((bs.take at_).length = at_) := Lib.hid (by simp; have := HN.out; omega)
  have PS := Lib.hid (fun wq (hq : BytesAt wq (.slice (some ⟨g, off, none⟩) (at_ + 4) cap) bs) => sum_any (.slice (some ⟨g, off, none⟩) at_ cap) (bs.take at_) wq (hq.upto2 at_ (by omega)) (HBY.out.take _) (by rw [HTL.out]; omega))
  have hsb := sumI_bd 0 (bs.take at_)
  obtain ⟨sm, hsm⟩ : ∃ sm, sm = sumI 0 (bs.take at_) := ⟨_, rfl⟩
  have HSM := Lib.hid hsm
  rw [← hsm] at PS hsb
  have s1 : IntKind.u64.wrap sm = sm := u32_u64 sm hsb.1 hsb.2
  have PLW : Hid (∀ wq, Calls Try.prog 18 #[.slice none 0 0, .int .u64 sm, .int .i64 4] wq (OwnPost wq wq.heap.size (.slice none 0 0) (leB sm 4))) := Lib.hid (fun wq => by simpa using low_any wq wq.heap.size (.slice none 0 0) [] sm 4 (World.ownsRow_nil _ _ _ _) (Nat.le_refl _) hsb.1 (by omega) (by decide) (by simp))
  have HCV := Lib.hid (fun (wq : World) (hq : BytesAt wq (.slice (some ⟨g, off, none⟩) (at_ + 4) cap) bs) => strB_conv (P := Try.prog) (hq.from_ at_ (by omega) (off + at_) (fun _ => rfl) (fun e => by omega)) 22 5 9 Try.underlying22 Try.underlying5 Try.underlying9)
  have HCL := Lib.hid (fun (wq : World) (v : Value) (l : List Int) (hq : BytesAt wq v l) => strB_conv (P := Try.prog) hq 22 5 9 Try.underlying22 Try.underlying5 Try.underlying9)
  have e4 : at_ + 4 - at_ = 4 := by omega
  rw [e4] at HCV
  clear hV1 hsm
  refine wp_region_held_drew (S := fun w' => BytesAt w' (.slice (some ⟨g, off, none⟩) (at_ + 4) cap) bs ∧ Sem.run Try.prog (convert 22 9 (.slice (some ⟨g, off + at_, none⟩) 4 (cap - at_))) w' = .ok (.string (strB (bs.drop at_))) w' ∧ Below w1.heap.size w1 w') (by kernel_rfl) (by exact ⟨HV1.out.kept (below_drewN (Below.refl _ _) 1), HCV.out _ (HV1.out.kept (below_drewN (Below.refl _ _) 1)), below_drewN (Below.refl _ _) 1⟩) (fun hHeld => ?_)
  refine wpAnyH_take (i := 0) (v := ?_) rfl (by kernel_rfl) (by kernel_rfl) (by kernel_rfl) (fun _ _ _ h => dec_put (by decide) h) (Or.inl ⟨by rfl, ?_⟩) (by assumption) ?_
  rotate_left
  · intro w hSw
    try dsimp only at hSw
    go_simp
    try with_reducible rfl
  simp only [Act.put, List.setIfInBounds_toArray, List.set_cons_zero, List.set_cons_succ, List.getElem_toArray, List.getElem_cons_zero, List.getElem_cons_succ]
  refine wpAnyH_take (i := 1) (v := ?_) rfl (by kernel_rfl) (by kernel_rfl) (by kernel_rfl) (fun _ _ _ h => dec_put (by decide) h) (Or.inl ⟨by rfl, ?_⟩) (by assumption) ?_
  rotate_left
  · intro w hSw
    try dsimp only at hSw
    go_simp
    try with_reducible rfl
  simp only [Act.put, List.setIfInBounds_toArray, List.set_cons_zero, List.set_cons_succ, List.getElem_toArray, List.getElem_cons_zero, List.getElem_cons_succ]
  refine wpAnyH_take (i := 2) (v := ?_) rfl (by kernel_rfl) (by kernel_rfl) (by kernel_rfl) (fun _ _ _ h => dec_put (by decide) h) (Or.inl ⟨by rfl, ?_⟩) (by assumption) ?_
  rotate_left
  · intro w hSw
    try dsimp only at hSw
    go_simp
    try with_reducible rfl
  simp only [Act.put, List.setIfInBounds_toArray, List.set_cons_zero, List.set_cons_succ, List.getElem_toArray, List.getElem_cons_zero, List.getElem_cons_succ]
  refine wpAnyH_take (i := 7) (v := ?_) rfl (by kernel_rfl) (by kernel_rfl) (by kernel_rfl) (fun _ _ _ h => dec_put (by decide) h) (Or.inl ⟨by rfl, ?_⟩) (by assumption) ?_
  rotate_left
  · intro w hSw
    try dsimp only at hSw
    go_simp
    try with_reducible rfl
  simp only [Act.put, List.setIfInBounds_toArray, List.set_cons_zero, List.set_cons_succ, List.getElem_toArray, List.getElem_cons_zero, List.getElem_cons_succ]
  refine wpAnyH_take (i := 8) (v := ?_) rfl (by kernel_rfl) (by kernel_rfl) (by kernel_rfl) (fun _ _ _ h => dec_put (by decide) h) (Or.inl ⟨by rfl, ?_⟩) (by assumption) ?_
  rotate_left
  · intro w hSw
    try dsimp only at hSw
    go_simp
    try with_reducible rfl
  simp only [Act.put, List.setIfInBounds_toArray, List.set_cons_zero, List.set_cons_succ, List.getElem_toArray, List.getElem_cons_zero, List.getElem_cons_succ]
  refine wpAnyH_take (i := 9) (v := ?_) rfl (by kernel_rfl) (by kernel_rfl) (by kernel_rfl) (fun _ _ _ h => dec_put (by decide) h) (Or.inl ⟨by rfl, ?_⟩) (by assumption) ?_
  rotate_left
  · intro w hSw
    try dsimp only at hSw
    go_simp
    try with_reducible rfl
  simp only [Act.put, List.setIfInBounds_toArray, List.set_cons_zero, List.set_cons_succ, List.getElem_toArray, List.getElem_cons_zero, List.getElem_cons_succ]
  refine wpAnyH_take (i := 10) (v := ?_) rfl (by kernel_rfl) (by kernel_rfl) (by kernel_rfl) (fun _ _ _ h => dec_put (by decide) h) (Or.inl ⟨by rfl, ?_⟩) (by assumption) ?_
  rotate_left
  · intro w hSw
    try dsimp only at hSw
    go_simp
    try with_reducible rfl
  simp only [Act.put, List.setIfInBounds_toArray, List.set_cons_zero, List.set_cons_succ, List.getElem_toArray, List.getElem_cons_zero, List.getElem_cons_succ]
  refine wpAnyH_ready (rs := [3]) (by kernel_rfl) (by simp) ?_
  refine AllReadyH.cons rfl (fun Kc hKc => ?_) AllReadyH.nil
  go_simp
  go_wp2_with (first | (go_at_call 19; refine (PS.out _ hHeld.1).mono ?_; rintro e w3 ⟨rfl, hb'⟩) | (go_at_call 18; refine (PLW.out _).mono ?_; rintro e w4 ⟨v4, rfl, ho4, hg4, -⟩; have cv4 := HCL.out _ _ _ ho4.at; have hb' := (Below.refl w3.heap.size w3).grown hg4 (Nat.le_refl _) (fun k e => by simp [Value.ownBlock] at e); clear hg4))
  refine hKc.out _ _ ?_ (fun hHeld => ?_)
  · first | assumption | exact ⟨hHeld.1.kept hb', HCV.out _ (hHeld.1.kept hb'), btr hHeld.2.2 hb'⟩
  clear hKc Kc
  refine wpAnyH_take (i := 4) (v := ?_) rfl (by kernel_rfl) (by kernel_rfl) (by kernel_rfl) (fun _ _ _ h => dec_put (by decide) h) (Or.inl ⟨by rfl, ?_⟩) (by assumption) ?_
  rotate_left
  · intro w hSw
    try dsimp only at hSw
    go_simp
    try with_reducible rfl
  simp only [Act.put, List.setIfInBounds_toArray, List.set_cons_zero, List.set_cons_succ, List.getElem_toArray, List.getElem_cons_zero, List.getElem_cons_succ]
  refine wpAnyH_ready (rs := [5]) (by kernel_rfl) (by simp) ?_
  refine AllReadyH.cons rfl (fun Kc hKc => ?_) AllReadyH.nil
  go_simp
  go_wp2_with (first | (go_at_call 19; refine (PS.out _ hHeld.1).mono ?_; rintro e w3 ⟨rfl, hb'⟩) | (go_at_call 18; refine (PLW.out _).mono ?_; rintro e w4 ⟨v4, rfl, ho4, hg4, -⟩; have cv4 := HCL.out _ _ _ ho4.at; have hb' := (Below.refl w3.heap.size w3).grown hg4 (Nat.le_refl _) (fun k e => by simp [Value.ownBlock] at e); clear hg4))
  refine hKc.out _ _ ?_ (fun hHeld => ?_)
  · first | assumption | exact ⟨hHeld.1.kept hb', HCV.out _ (hHeld.1.kept hb'), btr hHeld.2.2 hb'⟩
  clear hKc Kc
  refine wpAnyH_ready (rs := [6]) (by kernel_rfl) (by simp) ?_
  refine AllReadyH.cons rfl (fun Kc hKc => ?_) AllReadyH.nil
  go_simp
  refine hKc.out _ _ ?_ (fun hHeld => ?_)
  · first | assumption | exact ⟨hHeld.1.kept hb', HCV.out _ (hHeld.1.kept hb'), btr hHeld.2.2 hb'⟩
  clear hKc Kc
  refine wpAnyH_take (i := 11) (v := ?_) rfl (by kernel_rfl) (by kernel_rfl) (by kernel_rfl) (fun _ _ _ h => dec_put (by decide) h) (Or.inl ⟨by rfl, ?_⟩) (by assumption) ?_
  rotate_left
  · intro w hSw
    try dsimp only at hSw
    go_simp
    try with_reducible rfl
  simp only [Act.put, List.setIfInBounds_toArray, List.set_cons_zero, List.set_cons_succ, List.getElem_toArray, List.getElem_cons_zero, List.getElem_cons_succ]
  refine wpAnyH_done (by kernel_rfl) ?_ _
  have HO4 := Lib.hid ho4
  have HB4 := Lib.hid (btr HB1.out hHeld.2.2)
  have HS4 := Lib.hid (HS1.out.kept hHeld.2.2)
  have HE4 := Lib.hid (HE1.out.kept hHeld.2.2)
  have HV4 := Lib.hid hHeld.1
  have HSQ := Lib.hid (strB_inj (leB_byts sm 4) (HBY.out.drop at_))
  have HS4L := HB4.out.size
  have HOWN : Hid (bs.take (bs.length - 4) = bs.take at_) := Lib.hid (by rw [HN.out]; rfl)
  have HSIG : Hid (leB sm 4 = bs.drop at_ ↔ signB (bs.take (bs.length - 4)) = bs) := Lib.hid (by
    rw [HSM.out]; exact sign_iff HN.out)
  clear hHeld ho4 hb' cv4
  by_cases hsum : leB sm 4 = bs.drop at_
  · have HSQ2 : (!((strB (leB sm 4)).toList == (strB (bs.drop at_)).toList)) = false := by rw [HSQ.out, decide_eq_true hsum]; rfl
    have HSG := Lib.hid (HSIG.out.1 hsum)
    have HER : Hid (errOf bs = 8) := Lib.hid (by unfold errOf; rw [if_neg (by rw [HN.out]; omega), if_pos HSG.out])
    rw [HSQ2]
    have HR5 : Hid (RdIs (w4.alloc (.cells #[.slice (some ⟨g, off, none⟩) at_ at_] 49)) w.heap.size w4.heap.size (bs.take at_)) := Lib.hid ⟨g, off, at_, by rw [HTL.out]; exact Blk.new _ _ _, by rw [HTL.out]; exact (HV4.out.upto at_ (by omega)).kept ((Below.refl _ _).alloc (Nat.le_refl _) _), hgl, HS4L⟩
    have HB5 := Lib.hid (HB4.out.alloc HB4.out.size (.cells #[.slice (some ⟨g, off, none⟩) at_ at_] 49))
    have HS5 := Lib.hid (HS4.out.alloc (.cells #[.slice (some ⟨g, off, none⟩) at_ at_] 49))
    have HE5 := Lib.hid (HE4.out.alloc (.cells #[.slice (some ⟨g, off, none⟩) at_ at_] 49))
    have HS4L2 : w.heap.size + 1 < w4.heap.size := HE4.out.lt
    have HBO := Lib.hid (HBY.out.take at_)
    clear hsum HSQ2 HSIG HSQ PS PLW HCV HV HV4 HB4 HS4 HE4 HO4 s1 hsb
    go_wp2_with fail
    generalize w4.alloc (.cells #[.slice (some ⟨g, off, none⟩) at_ at_] 49) = w5 at *
    generalize w4.heap.size = RB at *
    generalize bs.take at_ = own at *
    by_cases h2 : at_ < 2
    · have PN : Hid (Calls Try.prog 21 #[.pointer (some ⟨RB, 0, none⟩), .int .i64 2] w5 fun e w' => BadP e ∧ w5 = w') := Lib.hid (some_no w5 w.heap.size RB own 2 HR5.out (by rw [HTL.out]; exact h2))
      have HNO : Hid (DecNo bs) := Lib.hid (dec_mark (fun q e => by rw [HOWN.out] at e; have := congrArg List.length e; rw [HTL.out] at this; simp at this; omega))
      with_reducible refine PN.out.mono ?_
      rintro e w6 ⟨hbad, hw⟩
      have hbad2 : e = .panicked [{ v := .iface 80 (.agg #[]), recovered := false }] := hbad
      subst hbad2
      subst hw
      exact door_panic rfl rfl HS5.out HE5.out (by omega) (Nat.le_refl _) (by omega) HB5.out HNO.out HER.out
    · have PN : Hid (Calls Try.prog 21 #[.pointer (some ⟨RB, 0, none⟩), .int .i64 2] w5 (SomePost w5 w.heap.size RB own 2)) := Lib.hid (some_yes w5 w.heap.size RB own 2 HR5.out (by rw [HTL.out]; omega) (by rw [HTL.out]; omega))
      with_reducible refine PN.out.mono ?_
      rintro e w6 ⟨v6, rfl, -, hv6, hrd, hg⟩
      have cv6 := HCL.out w6 v6 _ hv6
      have HR6 := Lib.hid hrd
      have HS6 := Lib.hid (HS5.out.grown hg (by simp; omega))
      have HE6 := Lib.hid (HE5.out.grown hg (by simp; omega))
      have HB6 : Hid (Below w.heap.size w w6) := Lib.hid (HB5.out.grown hg HB5.out.size (fun k e => by have := Option.some.inj e; omega))
      have HBD := Lib.hid (HBO.out.drop 2)
      obtain ⟨vo, vc, rfl, hv6c, -⟩ := hv6
      have hl2 : (own.take 2).length = 2 := by have := HTL.out; simp; omega
      rw [hl2] at cv6 ⊢
      have HGA : Hid (((strB (own.take 2)).toList == [71, 65]) = decide (own.take 2 = [71, 65])) := Lib.hid (by
        have := strB_inj (HBO.out.take 2) (show Byts [71, 65] from fun u hu => by simp at hu; omega)
        rw [← this, strB_list [71, 65]]
        rfl)
      clear hrd hg PN HCL HR5 HS5 HE5 HB5 hl2
      by_cases hga : own.take 2 = [71, 65]
      rotate_left
      · have q1 : ((strB (own.take 2)).toList == [71, 65]) = false := by rw [HGA.out]; exact decide_eq_false hga
        have q2 : (!((strB (own.take 2)).toList == [71, 65])) = true := by rw [q1]; rfl
        have HNO : Hid (DecNo bs) := Lib.hid (dec_mark (fun q e => hga (by rw [HOWN.out] at e; rw [e]; rfl)))
        clear hga
        have f3 := HE6.out.frozen 0
        have f2 := HS6.out.frozen 0
        have c3 := HE6.out.cell 0
        have c2 := HS6.out.cell 0
        simp at c2 c3
        go_wp2_with fail
        have HS9 := Lib.hid ((HS6.out.set_ 0 (.pointer none)).far (p := ⟨w.heap.size + 1, 0, none⟩) (by simp) (.int .i64 8))
        have HE9 := Lib.hid ((HE6.out.far (p := ⟨w.heap.size, 0, none⟩) (by simp) (.pointer none)).set_ 0 (.int .i64 8))
        have HB9 := Lib.hid ((HB6.out.setCell (p := ⟨w.heap.size, 0, none⟩) (by simp) (.pointer none)).setCell (p := ⟨w.heap.size + 1, 0, none⟩) (by simp) (.int .i64 8))
        exact door_ret rfl rfl HS9.out HE9.out (And.intro (Or.inr ⟨HNO.out, by rw [HER.out]⟩) HB9.out)
      have q1 : ((strB (own.take 2)).toList == [71, 65]) = true := by rw [HGA.out]; exact decide_eq_true hga
      have q2 : (!((strB (own.take 2)).toList == [71, 65])) = false := by rw [q1]; rfl
      have HG2 := Lib.hid hga
      clear hga
      go_wp2_with fail
      have HMK : Hid (bs.take (bs.length - 4) = [71, 65] ++ own.drop 2) := Lib.hid (by rw [HOWN.out, ← HG2.out, List.take_append_drop])
      have PC := Lib.hid (config_any w6 w.heap.size RB (own.drop 2) HR6.out HBD.out (by rw [List.length_drop, HTL.out]; omega))
      clear q1 q2 cv6 HGA HG2
      generalize own.drop 2 = q at *
      with_reducible refine PC.out.mono ?_
      rintro e w7 (⟨b, r, d, m, s, rest, hcs, hsz, rfl, hrd, hg⟩ | ⟨hno, hbad, hg⟩)
      rotate_left
      · have hbad2 : e = .panicked [{ v := .iface 80 (.agg #[]), recovered := false }] := hbad
        subst hbad2
        exact door_panic rfl rfl (HS6.out.grown hg (by simp; omega)) (HE6.out.grown hg (by simp; omega)) (by omega) (Nat.le_refl _) (by omega) (HB6.out.grown hg HB6.out.size (fun k e => by have := Option.some.inj e; omega)) (dec_cfg HMK.out hno) HER.out
      have HCS := Lib.hid hcs
      have HR7 := Lib.hid hrd
      have HS7 := Lib.hid (HS6.out.grown hg (by simp; omega))
      have HE7 := Lib.hid (HE6.out.grown hg (by simp; omega))
      have HB7 : Hid (Below w.heap.size w w7) := Lib.hid (HB6.out.grown hg HB6.out.size (fun k e => by have := Option.some.inj e; omega))
      have HRT := Lib.hid hcs.1
      have hR := right_of hcs.1
      have HRLE : Hid (rest.length ≤ 100000) := Lib.hid (by
        have e := hcs.2.2.2
        have h := HMK.out
        rw [e] at h
        have := congrArg List.length h
        rw [HOWN.out, HTL.out] at this
        simp only [List.length_append] at this
        omega)
      clear hcs hsz hrd hg PC HR6 HS6 HE6 HB6
      obtain ⟨n, hn⟩ : ∃ n : Nat, b = (n : Int) := ⟨b.toNat, by omega⟩
      subst hn
      have hn59 : n ≤ 59 := by omega
      have HCB8 := Lib.hid (Blk.new w7 36 #[.int .i64 (n : Int), .int .i64 r, .int .i64 d, .int .i64 m, .int .u64 s])
      have HAL : Hid (Below w7.heap.size w7 (w7.alloc (.cells #[.int .i64 (n : Int), .int .i64 r, .int .i64 d, .int .i64 m, .int .u64 s] 36))) := Lib.hid ((Below.refl _ _).alloc (Nat.le_refl _) _)
      have HR8 := Lib.hid (HR7.out.kept HAL.out)
      have HS8 := Lib.hid (HS7.out.kept HAL.out)
      have HE8 := Lib.hid (HE7.out.kept HAL.out)
      have HB8 := Lib.hid (btr HB7.out HAL.out)
      have HCBL : Hid (w.heap.size + 1 < w7.heap.size) := Lib.hid HE7.out.lt
      have HRB7 : Hid (RB < w7.heap.size) := Lib.hid HR7.out.lt
      clear HR7 HS7 HE7 HB7 HAL
      go_upto_region 11 with fail
      generalize w7.alloc (.cells #[.int .i64 (n : Int), .int .i64 r, .int .i64 d, .int .i64 m, .int .u64 s] 36) = w8 at *
      generalize w7.heap.size = CB at *
      have PN8 := Lib.hid (stnew_yes (n : Int) r d m s HRT.out w8)
      go_wp2_with (refine wpList_load_row rfl 36 _ rfl CB rfl 36 _ (0, 0) _ HCB8.out Try.underlying36 rfl (by kernel_rfl) ?_)
      with_reducible refine PN8.out.mono ?_
      rintro e w9 ⟨SB, L, X, A, G, C, rfl, hSB, hst, hb9⟩
      have HSB := Lib.hid (Nat.le_trans HB8.out.size hSB)
      have HST9 := Lib.hid (hst.low_ HB8.out.size)
      have HCB9 := Lib.hid (HCB8.out.kept hb9)
      have HR9 := Lib.hid (HR8.out.kept hb9)
      have HS9 := Lib.hid (HS8.out.kept hb9)
      have HE9 := Lib.hid (HE8.out.kept hb9)
      have HB9 := Lib.hid (btr HB8.out hb9)
      clear hst hb9 hSB HCB8 HR8 HS8 HE8 HB8 PN8
      have c2 := HS9.out.cell 0
      have f2 := HS9.out.frozen 0
      simp at c2
      go_upto_region 12 with fail
      have HGS := Lib.hid (grown_set w9 w.heap.size 0 (.pointer (some ⟨SB, 0, none⟩)))
      have HSA : Hid (Blk (w9.setCell ⟨w.heap.size, 0, none⟩ (.pointer (some ⟨SB, 0, none⟩))) w.heap.size 25 #[.pointer (some ⟨SB, 0, none⟩)]) := Lib.hid (by simpa using HS9.out.set_ 0 (.pointer (some ⟨SB, 0, none⟩)))
      have HEA := Lib.hid (HE9.out.grown HGS.out (by simp))
      have HCBA := Lib.hid (HCB9.out.grown HGS.out (by simp; have := HCBL.out; omega))
      have HRA := Lib.hid (HR9.out.gr HGS.out (Nat.le_refl _) (by omega))
      have HSTA := Lib.hid (HST9.out.far HS9.out (by decide) (by decide) HGS.out)
      have HBA := Lib.hid (HB9.out.setCell (p := ⟨w.heap.size, 0, none⟩) (Nat.le_refl _) (.pointer (some ⟨SB, 0, none⟩)))
      have HBR : Hid (Byts rest) := Lib.hid (by
        have e := HCS.out.2.2.2
        have h := HBD.out
        rw [e] at h
        exact h.tail.tail.tail.tail.tail)
      clear HGS HS9 HE9 HCB9 HR9 HST9 HB9 c2 f2
      generalize w9.setCell ⟨w.heap.size, 0, none⟩ (.pointer (some ⟨SB, 0, none⟩)) = wA at *
      have k0 := HCBA.out.cell 0
      simp at k0
      go_wp2_with fail
      clear k0
      go_loopw [50] (fun i wr => ∃ (j : Nat) (Z : Nat → List Int) (t : List Int), j ≤ n + 1 ∧ i = .int .i64 (j : Int) ∧ Shaped (n : Int) r d m Z j ∧ rest = rowsB Z j ++ t ∧ RdIs wr w.heap.size RB t ∧ StIs wr w.heap.size SB L (n : Int) r d m s X A G C Z ∧ Blk wr CB 36 #[.int .i64 (n : Int), .int .i64 r, .int .i64 d, .int .i64 m, .int .u64 s] ∧ Blk wr w.heap.size 25 #[.pointer (some ⟨SB, 0, none⟩)] ∧ Blk wr (w.heap.size + 1) 26 #[.int .i64 0] ∧ Below w.heap.size w wr) (fun i _ => n + 1 - (intOf i).toNat)
      case atStart => exact ⟨0, _, rest, by omega, rfl, fun k hk => by omega, rfl, HRA.out, HSTA.out, HCBA.out, HSA.out, HEA.out, HBA.out⟩
      case round =>
        obtain ⟨j, Z, t, hj, rfl, hsh, hrest, hrd, hst, hcb, hs, he, hbel⟩ := hrel
        have HSH := Lib.hid hsh
        have HRS := Lib.hid hrest
        have HRD := Lib.hid hrd
        have HST := Lib.hid hst
        have HCB := Lib.hid hcb
        have HS := Lib.hid hs
        have HE := Lib.hid he
        have HBL := Lib.hid hbel
        have HBT : Hid (Byts t) := Lib.hid (by have := HBR.out; rw [hrest] at this; exact this.tail)
        have HTLL : Hid (t.length ≤ 100000) := Lib.hid (by have := HRLE.out; rw [hrest, List.length_append] at this; omega)
        obtain ⟨rg, roff, rcap, hrb, hrv, -, -⟩ := hrd
        obtain ⟨tl, htl⟩ : ∃ tl, tl = t.length := ⟨_, rfl⟩
        have HTL2 := Lib.hid htl
        rw [← htl] at hrb hrv
        have HRB := Lib.hid hrb
        have HRV := Lib.hid hrv
        clear hsh hrest hst hcb hs he hbel hrb hrv htl HRA HSTA HCBA HSA HEA HBA
        by_cases hlt : j < n + 1
        · have i0 : (0 : Int) ≤ (j : Int) := by omega
          have i1 : (j : Int) < (n : Int) + 1 := by omega
          have PCL := Lib.hid (fun wq => wcells_any (n : Int) r d m s (j : Int) HRT.out wq)
          have hcn := cellsN_le (l := (j : Int)) HRT.out
          by_cases hrow : ∃ zs a, TRow t (cellsN (n : Int) r d m (j : Int)) zs a
          · obtain ⟨zs, a, hrow⟩ := hrow
            have HROW := Lib.hid hrow
            have PTR := Lib.hid (fun wq hq => takerow_yes wq (.slice (some ⟨rg, roff, none⟩) tl rcap) t _ hq HBT.out HTLL.out (by omega) hrow)
            have ha := hrow.rest.2
            have hal : a ≤ 100000 := by have := HTLL.out; omega
            clear hrow
            generalize hcd : cellsN (n : Int) r d m (j : Int) = cd at *
            have HCD := Lib.hid hcd
            clear hcd
            go_wp2_with fail
            refine wp_region_held_drew (S := fun w' => Blk w' CB 36 #[.int .i64 (n : Int), .int .i64 r, .int .i64 d, .int .i64 m, .int .u64 s] ∧ Blk w' RB 49 #[.slice (some ⟨rg, roff, none⟩) tl rcap] ∧ BytesAt w' (.slice (some ⟨rg, roff, none⟩) tl rcap) t ∧ Below wr.heap.size wr w') (by kernel_rfl) (by exact ⟨HCB.out.drewN 1, HRB.out.drewN 1, HRV.out.kept (below_drewN (Below.refl _ _) 1), below_drewN (Below.refl _ _) 1⟩) (fun hHeld => ?_)
            refine wpAnyH_take (i := 0) (v := ?_) rfl (by kernel_rfl) (by kernel_rfl) (by kernel_rfl) (fun _ _ _ h => dec_put (by decide) h) (Or.inl ⟨by rfl, ?_⟩) (by assumption) ?_
            rotate_left
            · intro w hSw
              try dsimp only at hSw
              go_simp
              try with_reducible rfl
            simp only [Act.put, List.setIfInBounds_toArray, List.set_cons_zero, List.set_cons_succ, List.getElem_toArray, List.getElem_cons_zero, List.getElem_cons_succ]
            refine wpAnyH_take (i := 1) (v := ?_) rfl (by kernel_rfl) (by kernel_rfl) (by kernel_rfl) (fun _ _ _ h => dec_put (by decide) h) (Or.inl ⟨by rfl, ?_⟩) (by assumption) ?_
            rotate_left
            · intro w hSw
              try dsimp only at hSw
              go_simp
              try with_reducible rfl
            simp only [Act.put, List.setIfInBounds_toArray, List.set_cons_zero, List.set_cons_succ, List.getElem_toArray, List.getElem_cons_zero, List.getElem_cons_succ]
            refine wpAnyH_take (i := 2) (v := ?_) rfl (by kernel_rfl) (by kernel_rfl) (by kernel_rfl) (fun _ _ _ h => dec_put (by decide) h) (Or.inl ⟨by rfl, ?_⟩) (by assumption) ?_
            rotate_left
            · intro w hSw
              try dsimp only at hSw
              go_simp
              try with_reducible rfl
            simp only [Act.put, List.setIfInBounds_toArray, List.set_cons_zero, List.set_cons_succ, List.getElem_toArray, List.getElem_cons_zero, List.getElem_cons_succ]
            refine wpAnyH_take (i := 3) (v := ?_) rfl (by kernel_rfl) (by kernel_rfl) (by kernel_rfl) (fun _ _ _ h => dec_put (by decide) h) (Or.inl ⟨by rfl, ?_⟩) (by assumption) ?_
            rotate_left
            · intro w hSw
              have q0 := hSw.2.1.cell 0
              simp at q0
              try refine (exec_load_row 36 _ rfl _ rfl 36 _ (0, 0) _ hSw.1 Try.underlying36 rfl (by kernel_rfl)).trans ?_
              go_simp
              try with_reducible rfl
            simp only [Act.put, List.setIfInBounds_toArray, List.set_cons_zero, List.set_cons_succ, List.getElem_toArray, List.getElem_cons_zero, List.getElem_cons_succ]
            refine wpAnyH_take (i := 4) (v := ?_) rfl (by kernel_rfl) (by kernel_rfl) (by kernel_rfl) (fun _ _ _ h => dec_put (by decide) h) (Or.inl ⟨by rfl, ?_⟩) (by assumption) ?_
            rotate_left
            · intro w hSw
              have q0 := hSw.2.1.cell 0
              simp at q0
              try refine (exec_load_row 36 _ rfl _ rfl 36 _ (0, 0) _ hSw.1 Try.underlying36 rfl (by kernel_rfl)).trans ?_
              go_simp
              try with_reducible rfl
            simp only [Act.put, List.setIfInBounds_toArray, List.set_cons_zero, List.set_cons_succ, List.getElem_toArray, List.getElem_cons_zero, List.getElem_cons_succ]
            refine wpAnyH_take (i := 5) (v := ?_) rfl (by kernel_rfl) (by kernel_rfl) (by kernel_rfl) (fun _ _ _ h => dec_put (by decide) h) (Or.inl ⟨by rfl, ?_⟩) (by assumption) ?_
            rotate_left
            · intro w hSw
              try dsimp only at hSw
              go_simp
              try with_reducible rfl
            simp only [Act.put, List.setIfInBounds_toArray, List.set_cons_zero, List.set_cons_succ, List.getElem_toArray, List.getElem_cons_zero, List.getElem_cons_succ]
            refine wpAnyH_ready (rs := [6]) (by kernel_rfl) (by simp) ?_
            refine AllReadyH.cons rfl (fun Kc hKc => ?_) AllReadyH.nil
            go_simp
            go_wp2_with (first | (go_at_call 24; refine (PCL.out _).mono ?_; rintro e w3 ⟨rfl, hb'⟩; have hs3 : wr.heap.size ≤ w3.heap.size := (btr hHeld.2.2.2 hb').size) | (go_at_call 23; refine (PTR.out _ hHeld.2.2.1).mono ?_; rintro e w4 ⟨x4, rfl, ho4, hb'⟩; have HO4 := Lib.hid ho4; clear ho4))
            refine hKc.out _ _ ?_ (fun hHeld => ?_)
            · first | assumption | exact ⟨hHeld.1.kept hb', hHeld.2.1.kept hb', hHeld.2.2.1.kept hb', btr hHeld.2.2.2 hb'⟩
            clear hKc Kc
            refine wpAnyH_ready (rs := [7]) (by kernel_rfl) (by simp) ?_
            refine AllReadyH.cons rfl (fun Kc hKc => ?_) AllReadyH.nil
            go_simp
            go_wp2_with (first | (go_at_call 24; refine (PCL.out _).mono ?_; rintro e w3 ⟨rfl, hb'⟩; have hs3 : wr.heap.size ≤ w3.heap.size := (btr hHeld.2.2.2 hb').size) | (go_at_call 23; refine (PTR.out _ hHeld.2.2.1).mono ?_; rintro e w4 ⟨x4, rfl, ho4, hb'⟩; have HO4 := Lib.hid ho4; clear ho4))
            refine hKc.out _ _ ?_ (fun hHeld => ?_)
            · first | assumption | exact ⟨hHeld.1.kept hb', hHeld.2.1.kept hb', hHeld.2.2.1.kept hb', btr hHeld.2.2.2 hb'⟩
            clear hKc Kc
            refine wpAnyH_take (i := 8) (v := ?_) rfl (by kernel_rfl) (by kernel_rfl) (by kernel_rfl) (fun _ _ _ h => dec_put (by decide) h) (Or.inl ⟨by rfl, ?_⟩) (by assumption) ?_
            rotate_left
            · intro w hSw
              try dsimp only at hSw
              go_simp
              try with_reducible rfl
            simp only [Act.put, List.setIfInBounds_toArray, List.set_cons_zero, List.set_cons_succ, List.getElem_toArray, List.getElem_cons_zero, List.getElem_cons_succ]
            refine wpAnyH_take (i := 9) (v := ?_) rfl (by kernel_rfl) (by kernel_rfl) (by kernel_rfl) (fun _ _ _ h => dec_put (by decide) h) (Or.inl ⟨by rfl, ?_⟩) (by assumption) ?_
            rotate_left
            · intro w hSw
              try dsimp only at hSw
              go_simp
              try with_reducible rfl
            simp only [Act.put, List.setIfInBounds_toArray, List.set_cons_zero, List.set_cons_succ, List.getElem_toArray, List.getElem_cons_zero, List.getElem_cons_succ]
            refine wpAnyH_take (i := 10) (v := ?_) rfl (by kernel_rfl) (by kernel_rfl) (by kernel_rfl) (fun _ _ _ h => dec_put (by decide) h) (Or.inl ⟨by rfl, ?_⟩) (by assumption) ?_
            rotate_left
            · intro w hSw
              try dsimp only at hSw
              go_simp
              try with_reducible rfl
            simp only [Act.put, List.setIfInBounds_toArray, List.set_cons_zero, List.set_cons_succ, List.getElem_toArray, List.getElem_cons_zero, List.getElem_cons_succ]
            refine wpAnyH_take (i := 11) (v := ?_) rfl (by kernel_rfl) (by kernel_rfl) (by kernel_rfl) (fun _ _ _ h => dec_put (by decide) h) (Or.inl ⟨by rfl, ?_⟩) (by assumption) ?_
            rotate_left
            · intro w hSw
              try dsimp only at hSw
              go_simp
              try with_reducible rfl
            simp only [Act.put, List.setIfInBounds_toArray, List.set_cons_zero, List.set_cons_succ, List.getElem_toArray, List.getElem_cons_zero, List.getElem_cons_succ]
            refine wpAnyH_take (i := 12) (v := ?_) rfl (by kernel_rfl) (by kernel_rfl) (by kernel_rfl) (fun _ _ _ h => dec_put (by decide) h) (Or.inl ⟨by rfl, ?_⟩) (by assumption) ?_
            rotate_left
            · intro w hSw
              try dsimp only at hSw
              go_simp
              try with_reducible rfl
            simp only [Act.put, List.setIfInBounds_toArray, List.set_cons_zero, List.set_cons_succ, List.getElem_toArray, List.getElem_cons_zero, List.getElem_cons_succ]
            refine wpAnyH_take (i := 13) (v := ?_) rfl (by kernel_rfl) (by kernel_rfl) (by kernel_rfl) (fun _ _ _ h => dec_put (by decide) h) (Or.inl ⟨by rfl, ?_⟩) (by assumption) ?_
            rotate_left
            · intro w hSw
              try dsimp only at hSw
              go_simp
              try with_reducible rfl
            simp only [Act.put, List.setIfInBounds_toArray, List.set_cons_zero, List.set_cons_succ, List.getElem_toArray, List.getElem_cons_zero, List.getElem_cons_succ]
            refine wpAnyH_take (i := 14) (v := ?_) rfl (by kernel_rfl) (by kernel_rfl) (by kernel_rfl) (fun _ _ _ h => dec_put (by decide) h) (Or.inl ⟨by rfl, ?_⟩) (by assumption) ?_
            rotate_left
            · intro w hSw
              try dsimp only at hSw
              go_simp
              try with_reducible rfl
            simp only [Act.put, List.setIfInBounds_toArray, List.set_cons_zero, List.set_cons_succ, List.getElem_toArray, List.getElem_cons_zero, List.getElem_cons_succ]
            refine wpAnyH_done (by kernel_rfl) ?_ _
            have HB4 := Lib.hid (btr HBL.out hHeld.2.2.2)
            have HRD4 := Lib.hid (HRD.out.kept hHeld.2.2.2)
            have HST4 := Lib.hid (HST.out.kept hHeld.2.2.2)
            have HS4 := Lib.hid (HS.out.kept hHeld.2.2.2)
            have HE4 := Lib.hid (HE.out.kept hHeld.2.2.2)
            have HCB4 := Lib.hid hHeld.1
            have HCJ : Hid (C j < wr.heap.size) := Lib.hid (HST.out.lev j (by simp; omega)).ltC
            obtain ⟨xo, xl, xc, rfl⟩ : ∃ xo xl xc, x4 = .slice xo xl xc := by obtain ⟨xo, xc, e, -⟩ := HO4.out.ints; exact ⟨xo, _, xc, e⟩
            have PSM := Lib.hid (some_yes w4 w.heap.size RB t a HRD4.out ha HTLL.out)
            clear hHeld HCB HRB HRV HRD HST HS HE HBL
            go_wp2_with fail
            with_reducible refine PSM.out.mono ?_
            rintro e w5 ⟨v5, rfl, -, -, hrd, hg⟩
            obtain ⟨cs5, hbk⟩ := HRD4.out.blk
            have HRD5 := Lib.hid hrd
            have HST5 := Lib.hid (HST4.out.far hbk (by decide) (by decide) hg)
            have HO5 : Hid (OwnZ w5 w3.heap.size (.slice xo xl xc) zs) := Lib.hid (World.ownsRow.kept HO4.out hg (.inr (own_ne HO4.out hbk (by decide))))
            have HS5 := Lib.hid (HS4.out.grown hg (by simp; omega))
            have HE5 := Lib.hid (HE4.out.grown hg (by simp; omega))
            have HCB5 := Lib.hid (HCB4.out.grown hg (by simp; have := HRB7.out; omega))
            have HB5 : Hid (Below w.heap.size w w5) := Lib.hid (HB4.out.grown hg HB4.out.size (fun k e => by have := Option.some.inj e; omega))
            have c2 := HS5.out.cell 0
            simp at c2
            have PLD := Lib.hid (stload w5 w.heap.size SB L (n : Int) r d m s X A G C Z HST5.out j (by simp; omega) (.slice xo xl xc) zs HO5.out.ints (by rw [HCD.out]; exact HROW.out.1) HROW.out.2.1 (fun e => by have := (HO5.out.lt _ e).1; have := HCJ.out; omega))
            clear hrd hg hbk HRD4 HST4 HO4 HS4 HE4 HCB4 HB4 PSM
            go_wp2_with fail
            with_reducible refine PLD.out.mono ?_
            rintro e w6 ⟨rfl, hst, hg⟩
            obtain ⟨cj, hcj⟩ := (HST5.out.lev j (by simp; omega)).cells
            have hlowj := HST5.out.low j (by simp; omega)
            obtain ⟨cs6, hbk⟩ := HRD5.out.blk
            have HST6 := Lib.hid hst
            have HRD6 := Lib.hid (HRD5.out.gr hg hlowj (hbk.ne_ hcj (by decide)))
            have HS6 := Lib.hid (HS5.out.grown hg (by simpa using HS5.out.ne_ hcj (by decide)))
            have HE6 := Lib.hid (HE5.out.grown hg (by simpa using HE5.out.ne_ hcj (by decide)))
            have HCB6 := Lib.hid (HCB5.out.grown hg (by simpa using HCB5.out.ne_ hcj (by decide)))
            have HB6 : Hid (Below w.heap.size w w6) := Lib.hid (HB5.out.grown hg HB5.out.size (fun k e => by have := Option.some.inj e; omega))
            have HSH6 := Lib.hid (HSH.out.up (by rw [HCD.out]; exact HROW.out.1) HROW.out.2.1)
            have HRS6 : Hid (rest = rowsB (upN Z j zs) (j + 1) ++ t.drop a) := Lib.hid (by
              rw [rowsB_up, List.append_assoc, ← HROW.out.rest.1]; exact HRS.out)
            clear hst hg hcj hbk PLD HO5 HRD5 HS5 HE5 HCB5 HB5 HST5 c2
            go_wp2
            go_roundw
            case rel => exact ⟨j + 1, upN Z j zs, t.drop a, by omega, by go_num, HSH6.out, HRS6.out, HRD6.out, HST6.out, HCB6.out, HS6.out, HE6.out, HB6.out⟩
            case measure => simp [intOf]; omega
          · have hno : TRowNo t (cellsN (n : Int) r d m (j : Int)) := fun zs a h => hrow ⟨zs, a, h⟩
            have PTR := Lib.hid (fun wq hq => takerow_no wq (.slice (some ⟨rg, roff, none⟩) tl rcap) t _ hq HBT.out HTLL.out (by omega) hno)
            have HNO := Lib.hid (dec_row HMK.out HCS.out (by simp; omega) HSH.out HRS.out hno)
            clear hrow hno
            generalize hcd : cellsN (n : Int) r d m (j : Int) = cd at *
            clear hcd
            go_wp2_with fail
            refine wp_region_held_drew (S := fun w' => Blk w' CB 36 #[.int .i64 (n : Int), .int .i64 r, .int .i64 d, .int .i64 m, .int .u64 s] ∧ Blk w' RB 49 #[.slice (some ⟨rg, roff, none⟩) tl rcap] ∧ BytesAt w' (.slice (some ⟨rg, roff, none⟩) tl rcap) t ∧ Below wr.heap.size wr w') (by kernel_rfl) (by exact ⟨HCB.out.drewN 1, HRB.out.drewN 1, HRV.out.kept (below_drewN (Below.refl _ _) 1), below_drewN (Below.refl _ _) 1⟩) (fun hHeld => ?_)
            refine wpAnyH_take (i := 0) (v := ?_) rfl (by kernel_rfl) (by kernel_rfl) (by kernel_rfl) (fun _ _ _ h => dec_put (by decide) h) (Or.inl ⟨by rfl, ?_⟩) (by assumption) ?_
            rotate_left
            · intro w hSw
              try dsimp only at hSw
              go_simp
              try with_reducible rfl
            simp only [Act.put, List.setIfInBounds_toArray, List.set_cons_zero, List.set_cons_succ, List.getElem_toArray, List.getElem_cons_zero, List.getElem_cons_succ]
            refine wpAnyH_take (i := 1) (v := ?_) rfl (by kernel_rfl) (by kernel_rfl) (by kernel_rfl) (fun _ _ _ h => dec_put (by decide) h) (Or.inl ⟨by rfl, ?_⟩) (by assumption) ?_
            rotate_left
            · intro w hSw
              try dsimp only at hSw
              go_simp
              try with_reducible rfl
            simp only [Act.put, List.setIfInBounds_toArray, List.set_cons_zero, List.set_cons_succ, List.getElem_toArray, List.getElem_cons_zero, List.getElem_cons_succ]
            refine wpAnyH_take (i := 2) (v := ?_) rfl (by kernel_rfl) (by kernel_rfl) (by kernel_rfl) (fun _ _ _ h => dec_put (by decide) h) (Or.inl ⟨by rfl, ?_⟩) (by assumption) ?_
            rotate_left
            · intro w hSw
              try dsimp only at hSw
              go_simp
              try with_reducible rfl
            simp only [Act.put, List.setIfInBounds_toArray, List.set_cons_zero, List.set_cons_succ, List.getElem_toArray, List.getElem_cons_zero, List.getElem_cons_succ]
            refine wpAnyH_take (i := 3) (v := ?_) rfl (by kernel_rfl) (by kernel_rfl) (by kernel_rfl) (fun _ _ _ h => dec_put (by decide) h) (Or.inl ⟨by rfl, ?_⟩) (by assumption) ?_
            rotate_left
            · intro w hSw
              have q0 := hSw.2.1.cell 0
              simp at q0
              try refine (exec_load_row 36 _ rfl _ rfl 36 _ (0, 0) _ hSw.1 Try.underlying36 rfl (by kernel_rfl)).trans ?_
              go_simp
              try with_reducible rfl
            simp only [Act.put, List.setIfInBounds_toArray, List.set_cons_zero, List.set_cons_succ, List.getElem_toArray, List.getElem_cons_zero, List.getElem_cons_succ]
            refine wpAnyH_take (i := 4) (v := ?_) rfl (by kernel_rfl) (by kernel_rfl) (by kernel_rfl) (fun _ _ _ h => dec_put (by decide) h) (Or.inl ⟨by rfl, ?_⟩) (by assumption) ?_
            rotate_left
            · intro w hSw
              have q0 := hSw.2.1.cell 0
              simp at q0
              try refine (exec_load_row 36 _ rfl _ rfl 36 _ (0, 0) _ hSw.1 Try.underlying36 rfl (by kernel_rfl)).trans ?_
              go_simp
              try with_reducible rfl
            simp only [Act.put, List.setIfInBounds_toArray, List.set_cons_zero, List.set_cons_succ, List.getElem_toArray, List.getElem_cons_zero, List.getElem_cons_succ]
            refine wpAnyH_take (i := 5) (v := ?_) rfl (by kernel_rfl) (by kernel_rfl) (by kernel_rfl) (fun _ _ _ h => dec_put (by decide) h) (Or.inl ⟨by rfl, ?_⟩) (by assumption) ?_
            rotate_left
            · intro w hSw
              try dsimp only at hSw
              go_simp
              try with_reducible rfl
            simp only [Act.put, List.setIfInBounds_toArray, List.set_cons_zero, List.set_cons_succ, List.getElem_toArray, List.getElem_cons_zero, List.getElem_cons_succ]
            refine wpAnyH_ready (rs := [6]) (by kernel_rfl) (by simp) ?_
            refine AllReadyH.cons rfl (fun Kc hKc => ?_) AllReadyH.nil
            go_simp
            go_wp2_with (first | (go_at_call 24; refine (PCL.out _).mono ?_; rintro e w3 ⟨rfl, hb'⟩) | (go_at_call 23; refine (PTR.out _ hHeld.2.2.1).mono ?_; rintro e w4 ⟨rfl, hb'⟩))
            refine hKc.out _ _ ?_ (fun hHeld => ?_)
            · first | assumption | exact ⟨hHeld.1.kept hb', hHeld.2.1.kept hb', hHeld.2.2.1.kept hb', btr hHeld.2.2.2 hb'⟩
            clear hKc Kc
            refine wpAnyH_ready (rs := [7]) (by kernel_rfl) (by simp) ?_
            refine AllReadyH.cons rfl (fun Kc hKc => ?_) AllReadyH.nil
            go_simp
            go_wp2_with (first | (go_at_call 24; refine (PCL.out _).mono ?_; rintro e w3 ⟨rfl, hb'⟩) | (go_at_call 23; refine (PTR.out _ hHeld.2.2.1).mono ?_; rintro e w4 ⟨rfl, hb'⟩))
            refine hKc.out _ _ ?_ (fun hHeld => ?_)
            · first | assumption | exact ⟨hHeld.1.kept hb', hHeld.2.1.kept hb', hHeld.2.2.1.kept hb', btr hHeld.2.2.2 hb'⟩
            clear hKc Kc
            refine wpAnyH_take (i := 8) (v := ?_) rfl (by kernel_rfl) (by kernel_rfl) (by kernel_rfl) (fun _ _ _ h => dec_put (by decide) h) (Or.inl ⟨by rfl, ?_⟩) (by assumption) ?_
            rotate_left
            · intro w hSw
              try dsimp only at hSw
              go_simp
              try with_reducible rfl
            simp only [Act.put, List.setIfInBounds_toArray, List.set_cons_zero, List.set_cons_succ, List.getElem_toArray, List.getElem_cons_zero, List.getElem_cons_succ]
            refine wpAnyH_take (i := 9) (v := ?_) rfl (by kernel_rfl) (by kernel_rfl) (by kernel_rfl) (fun _ _ _ h => dec_put (by decide) h) (Or.inl ⟨by rfl, ?_⟩) (by assumption) ?_
            rotate_left
            · intro w hSw
              try dsimp only at hSw
              go_simp
              try with_reducible rfl
            simp only [Act.put, List.setIfInBounds_toArray, List.set_cons_zero, List.set_cons_succ, List.getElem_toArray, List.getElem_cons_zero, List.getElem_cons_succ]
            refine wpAnyH_take (i := 10) (v := ?_) rfl (by kernel_rfl) (by kernel_rfl) (by kernel_rfl) (fun _ _ _ h => dec_put (by decide) h) (Or.inl ⟨by rfl, ?_⟩) (by assumption) ?_
            rotate_left
            · intro w hSw
              try dsimp only at hSw
              go_simp
              try with_reducible rfl
            simp only [Act.put, List.setIfInBounds_toArray, List.set_cons_zero, List.set_cons_succ, List.getElem_toArray, List.getElem_cons_zero, List.getElem_cons_succ]
            refine wpAnyH_take (i := 11) (v := ?_) rfl (by kernel_rfl) (by kernel_rfl) (by kernel_rfl) (fun _ _ _ h => dec_put (by decide) h) (Or.inl ⟨by rfl, ?_⟩) (by assumption) ?_
            rotate_left
            · intro w hSw
              try dsimp only at hSw
              go_simp
              try with_reducible rfl
            simp only [Act.put, List.setIfInBounds_toArray, List.set_cons_zero, List.set_cons_succ, List.getElem_toArray, List.getElem_cons_zero, List.getElem_cons_succ]
            refine wpAnyH_take (i := 12) (v := ?_) rfl (by kernel_rfl) (by kernel_rfl) (by kernel_rfl) (fun _ _ _ h => dec_put (by decide) h) (Or.inl ⟨by rfl, ?_⟩) (by assumption) ?_
            rotate_left
            · intro w hSw
              try dsimp only at hSw
              go_simp
              try with_reducible rfl
            simp only [Act.put, List.setIfInBounds_toArray, List.set_cons_zero, List.set_cons_succ, List.getElem_toArray, List.getElem_cons_zero, List.getElem_cons_succ]
            refine wpAnyH_take (i := 13) (v := ?_) rfl (by kernel_rfl) (by kernel_rfl) (by kernel_rfl) (fun _ _ _ h => dec_put (by decide) h) (Or.inl ⟨by rfl, ?_⟩) (by assumption) ?_
            rotate_left
            · intro w hSw
              try dsimp only at hSw
              go_simp
              try with_reducible rfl
            simp only [Act.put, List.setIfInBounds_toArray, List.set_cons_zero, List.set_cons_succ, List.getElem_toArray, List.getElem_cons_zero, List.getElem_cons_succ]
            refine wpAnyH_take (i := 14) (v := ?_) rfl (by kernel_rfl) (by kernel_rfl) (by kernel_rfl) (fun _ _ _ h => dec_put (by decide) h) (Or.inl ⟨by rfl, ?_⟩) (by assumption) ?_
            rotate_left
            · intro w hSw
              try dsimp only at hSw
              go_simp
              try with_reducible rfl
            simp only [Act.put, List.setIfInBounds_toArray, List.set_cons_zero, List.set_cons_succ, List.getElem_toArray, List.getElem_cons_zero, List.getElem_cons_succ]
            refine wpAnyH_done (by kernel_rfl) ?_ _
            have HB4 := Lib.hid (btr HBL.out hHeld.2.2.2)
            have HS4 := Lib.hid (HS.out.kept hHeld.2.2.2)
            have HE4 := Lib.hid (HE.out.kept hHeld.2.2.2)
            clear hHeld HCB HRB HRV HRD HST HS HE HBL
            have c2 := HS4.out.cell 0
            have f2 := HS4.out.frozen 0
            have c3 := HE4.out.cell 0
            have f3 := HE4.out.frozen 0
            simp at c2 c3
            have HS9 := Lib.hid ((HS4.out.set_ 0 (.pointer none)).far (p := ⟨w.heap.size + 1, 0, none⟩) (by simp) (.int .i64 8))
            have HE9 := Lib.hid ((HE4.out.far (p := ⟨w.heap.size, 0, none⟩) (by simp) (.pointer none)).set_ 0 (.int .i64 8))
            have HB9 := Lib.hid ((HB4.out.setCell (p := ⟨w.heap.size, 0, none⟩) (by simp) (.pointer none)).setCell (p := ⟨w.heap.size + 1, 0, none⟩) (by simp) (.int .i64 8))
            go_wp2_with fail
            exact door_ret rfl rfl HS9.out HE9.out (And.intro (Or.inr ⟨HNO.out, by rw [HER.out]⟩) HB9.out)
        · obtain rfl : j = n + 1 := by omega
          have i1 : ¬ (((n + 1 : Nat) : Int) < (n : Int) + 1) := by omega
          have c0 := HRB.out.cell 0
          have c2 := HS.out.cell 0
          have f2 := HS.out.frozen 0
          have c3 := HE.out.cell 0
          have f3 := HE.out.frozen 0
          simp at c0 c2 c3
          clear hlt
          by_cases ht : t = []
          · have htl0 : tl = 0 := by rw [HTL2.out, ht]; rfl
            subst htl0
            have HDS := Lib.hid (dec_yes HMK.out HSG.out HCS.out HSH.out (by rw [HRS.out, ht, List.append_nil]; rfl))
            have HS9 := Lib.hid ((HS.out.set_ 0 (.pointer (some ⟨SB, 0, none⟩))).far (p := ⟨w.heap.size + 1, 0, none⟩) (by simp) (.int .i64 0))
            have HE9 := Lib.hid ((HE.out.far (p := ⟨w.heap.size, 0, none⟩) (by simp) (.pointer (some ⟨SB, 0, none⟩))).set_ 0 (.int .i64 0))
            have HB9 := Lib.hid ((HBL.out.setCell (p := ⟨w.heap.size, 0, none⟩) (by simp) (.pointer (some ⟨SB, 0, none⟩))).setCell (p := ⟨w.heap.size + 1, 0, none⟩) (by simp) (.int .i64 0))
            have HST9 := Lib.hid ((HST.out.far HS.out (by decide) (by decide) (grown_set wr w.heap.size 0 (.pointer (some ⟨SB, 0, none⟩)))).far (HE.out.far (p := ⟨w.heap.size, 0, none⟩) (by simp) (.pointer (some ⟨SB, 0, none⟩))) (by decide) (by decide) (grown_set _ (w.heap.size + 1) 0 (.int .i64 0)))
            clear ht HRS HSH
            go_wp2_with fail
            exact door_ret rfl rfl HS9.out HE9.out (And.intro (Or.inl ⟨_, _, _, _, _, Z, SB, L, X, A, G, C, HDS.out, rfl, HSB.out, HST9.out⟩) HB9.out)
          · have htl1 : 0 < tl := by rw [HTL2.out]; exact List.length_pos_iff.2 ht
            have HNO := Lib.hid (dec_rest HMK.out HCS.out HSH.out HRS.out ht)
            have HS9 := Lib.hid ((HS.out.set_ 0 (.pointer none)).far (p := ⟨w.heap.size + 1, 0, none⟩) (by simp) (.int .i64 8))
            have HE9 := Lib.hid ((HE.out.far (p := ⟨w.heap.size, 0, none⟩) (by simp) (.pointer none)).set_ 0 (.int .i64 8))
            have HB9 := Lib.hid ((HBL.out.setCell (p := ⟨w.heap.size, 0, none⟩) (by simp) (.pointer none)).setCell (p := ⟨w.heap.size + 1, 0, none⟩) (by simp) (.int .i64 8))
            have htl2 : ((0 : Int) < (tl : Int)) := by omega
            clear ht HRS HSH
            go_wp2_with fail
            exact door_ret rfl rfl HS9.out HE9.out (And.intro (Or.inr ⟨HNO.out, by rw [HER.out]⟩) HB9.out)
  · have c3 := HE4.out.cell 0
    have f3 := HE4.out.frozen 0
    have c2 := HS4.out.cell 0
    have f2 := HS4.out.frozen 0
    simp at c2 c3
    have HSQ2 : (!((strB (leB sm 4)).toList == (strB (bs.drop at_)).toList)) = true := by rw [HSQ.out, decide_eq_false hsum]; rfl
    have HS9 := Lib.hid ((HS4.out.set_ 0 (.pointer none)).far (p := ⟨w.heap.size + 1, 0, none⟩) (by simp) (.int .i64 9))
    have HE9 := Lib.hid ((HE4.out.far (p := ⟨w.heap.size, 0, none⟩) (by simp) (.pointer none)).set_ 0 (.int .i64 9))
    have HB9 := Lib.hid ((HB4.out.setCell (p := ⟨w.heap.size, 0, none⟩) (by simp) (.pointer none)).setCell (p := ⟨w.heap.size + 1, 0, none⟩) (by simp) (.int .i64 9))
    have HNO := Lib.hid (dec_sum (fun h => hsum (HSIG.out.2 h)))
    have HER : Hid (errOf bs = 9) := Lib.hid (by unfold errOf; rw [if_neg (by rw [HN.out]; omega), if_neg (fun h => hsum (HSIG.out.2 h))])
    rw [HSQ2]
    clear hsum HSQ2
    go_wp2_with fail
    exact ⟨_, dec_results _ _ ⟨w.heap.size, 0, none⟩ ⟨w.heap.size + 1, 0, none⟩ none 9 rfl rfl (HS9.out.cell 0) (HE9.out.cell 0), .inr ⟨HNO.out, by rw [HER.out]⟩, HB9.out⟩
end Go.Proofs.Ytbghchgmoiniiaa
