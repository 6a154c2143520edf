import Derived.Test.YtfeficdndjiijaaGreatDoorQwk
import Derived.Lib.SmallJoins
import Derived.Test.YtfeficdndjiijaaGreatDoorQwb
import Derived.Test.YtfeficdndjiijaaGreatDoorQwd
import Derived.Test.YtfeficdndjiijaaGreatDoorQwa
import Derived.Test.YtfeficdndjiijaaGreatDoorQwc
import Derived.Test.YtfeficdndjiijaaGreatDoorQwg
/-
  Contracts of the functions that TopWire reaches, and the plain laws that it leans on. Conditions: none beyond those stated at each theorem.
-/
namespace Go.Proofs.YtfeficdndjiijaaGreatDoor
open Go.RowKit
set_option linter.unusedVariables false
set_option linter.unusedSimpArgs false

set_option maxRecDepth 100000 in
set_option maxHeartbeats 8000000 in
theorem dec_many (w : World) (g off cap : Nat) (bs : List Int) (hv : BytesAt w (.slice (some ⟨g, off, none⟩) bs.length cap) bs) (hb : Byts bs) (h4 : 4 ≤ bs.length) (hl : bs.length ≤ 100000) :
  Calls Tryz.prog 16 #[.slice (some ⟨g, off, none⟩) bs.length cap] w (DecRes w bs) := by
 have HV := Lib.hid hv
 have HBY := Lib.hid hb
 have hcap : bs.length ≤ cap := by
  obtain ⟨ao2, cap2, e, e1, e2, -⟩ := hv
  simp only [Value.slice.injEq] at e
  obtain ⟨-, -, rfl⟩ := e
  omega
 have hgl : g < w.heap.size := by
  obtain ⟨ao2, cap2, e, e1, e2, e3⟩ := hv
  simp only [Value.slice.injEq] at e
  obtain ⟨rfl, -, rfl⟩ := e
  rcases e3 with ⟨rfl, e3⟩ | ⟨g2, off2, e4, hg, -⟩
  ·cases e3
  ·cases e4; exact hg
 obtain ⟨at_, hat⟩ : ∃ a, bs.length = a + 4 := ⟨bs.length - 4, by omega⟩
 have HN := Lib.hid hat
 rw [hat] at hcap hl HV ⊢
 clear h4 hv hb hat
 obtain ⟨g1, g2, hb1, hsz1⟩ := news2 w (.cells #[.pointer none] 49) (.cells #[.int .i64 0] 50)
 have HS1 : Hid (Blk _ w.heap.size 49 #[.pointer none]) := Lib.hid g1
 have HE1 : Hid (Blk _ (w.heap.size + 1) 50 #[.int .i64 0]) := Lib.hid g2
 have HB1 := Lib.hid hb1
 have d1 : decide ((at_ : Int) + 4 < 4) = false := decide_eq_false (by omega)
 have d2 : decide (at_ + 4 < 4) = false := decide_eq_false (by omega)
 have hatc : at_ < cap := by omega
 have a0 : (0 : Int) ≤ (at_ : Int) := by omega
 have a2 : at_ ≤ cap := by omega
 have a3 : ¬ cap = at_ := by omega
 have a4 : ¬ at_ = cap := by omega
 have a1 : (at_ : Int) ≤ (at_ : Int) + 4 := by omega
 have hV1 := HV.out.kept HB1.out
 have hmf : ∀ (fn : Fn) (first cap : Array Value) (w : World), (Instr.makeFunc fn first cap).run Tryz.prog w = .ok (.func fn first cap) w := fun _ _ _ _ => rfl
 clear g1 g2 hb1 hsz1
 go_enter_defers Tryz.func16, Tryz.ntmps16
 go_wp2_with fail
 generalize (w.alloc (.cells #[.pointer none] 49)).alloc (.cells #[.int .i64 0] 50) = w1 at *
 have HV1 := Lib.hid hV1
 have HTL : Hid ((bs.take at_).length = at_) := Lib.hid (by simp; have := HN.out; omega)
 have PS := Lib.hid (fun wq (hq : BytesAt wq (.slice (some ⟨g, off, none⟩) (at_ + 4) cap) bs) => sum_any (.slice (some ⟨g, off, none⟩) at_ cap) (bs.take at_) wq (hq.upto2 at_ (by omega)) (HBY.out.take _) (by rw [HTL.out]; omega))
 have hsb := sumI_bd 0 (bs.take at_)
 obtain ⟨sm, hsm⟩ : ∃ sm, sm = sumI 0 (bs.take at_) := ⟨_, rfl⟩
 have HSM := Lib.hid hsm
 rw [← hsm] at PS hsb
 have s1 : IntKind.u64.wrap sm = sm := u32_u64 sm hsb.1 hsb.2
 have PLW : Hid (∀ wq, Calls Tryz.prog 31 #[.slice none 0 0, .int .u64 sm, .int .i64 4] wq (OwnPost wq wq.heap.size (.slice none 0 0) (leB sm 4))) := Lib.hid (fun wq => by simpa using low_any wq wq.heap.size (.slice none 0 0) [] sm 4 (World.ownsRow_nil _ _ _ _) (Nat.le_refl _) hsb.1 (by omega) (by decide) (by simp))
 have HCV := Lib.hid (fun (wq : World) (hq : BytesAt wq (.slice (some ⟨g, off, none⟩) (at_ + 4) cap) bs) => strB_conv (P := Tryz.prog) (hq.from_ at_ (by omega) (off + at_) (fun _ => rfl) (fun e => by omega)) 41 5 9 Tryz.underlying41 Tryz.underlying5 Tryz.underlying9)
 have HCL := Lib.hid (fun (wq : World) (v : Value) (l : List Int) (hq : BytesAt wq v l) => strB_conv (P := Tryz.prog) hq 41 5 9 Tryz.underlying41 Tryz.underlying5 Tryz.underlying9)
 have e4 : at_ + 4 - at_ = 4 := by omega
 rw [e4] at HCV
 clear hV1 hsm
 refine wp_region_held_drew (S := fun w' => BytesAt w' (.slice (some ⟨g, off, none⟩) (at_ + 4) cap) bs ∧ Sem.run Tryz.prog (convert 41 9 (.slice (some ⟨g, off + at_, none⟩) 4 (cap - at_))) w' = .ok (.string (strB (bs.drop at_))) w' ∧ Below w1.heap.size w1 w') (by kernel_rfl) (by exact ⟨HV1.out.kept (below_drewN (Below.refl _ _) 1), HCV.out _ (HV1.out.kept (below_drewN (Below.refl _ _) 1)), below_drewN (Below.refl _ _) 1⟩) (fun hHeld => ?_)
 refine tkH (i := 0) (v := ?_) rfl (by kernel_rfl) (fun _ _ _ h => dec_put (by decide) h) (Or.inl ⟨by rfl, ?_⟩) (by assumption) ?_
 rotate_left
 ·intro w hSw
  try dsimp only at hSw
  go_simp
  try with_reducible rfl
 simp only [Act.put, z1, z2, z3, z4, z5, z6]
 refine tkH (i := 1) (v := ?_) rfl (by kernel_rfl) (fun _ _ _ h => dec_put (by decide) h) (Or.inl ⟨by rfl, ?_⟩) (by assumption) ?_
 rotate_left
 ·intro w hSw
  try dsimp only at hSw
  go_simp
  try with_reducible rfl
 simp only [Act.put, z1, z2, z3, z4, z5, z6]
 refine tkH (i := 2) (v := ?_) rfl (by kernel_rfl) (fun _ _ _ h => dec_put (by decide) h) (Or.inl ⟨by rfl, ?_⟩) (by assumption) ?_
 rotate_left
 ·intro w hSw
  try dsimp only at hSw
  go_simp
  try with_reducible rfl
 simp only [Act.put, z1, z2, z3, z4, z5, z6]
 refine tkH (i := 7) (v := ?_) rfl (by kernel_rfl) (fun _ _ _ h => dec_put (by decide) h) (Or.inl ⟨by rfl, ?_⟩) (by assumption) ?_
 rotate_left
 ·intro w hSw
  try dsimp only at hSw
  go_simp
  try with_reducible rfl
 simp only [Act.put, z1, z2, z3, z4, z5, z6]
 refine tkH (i := 8) (v := ?_) rfl (by kernel_rfl) (fun _ _ _ h => dec_put (by decide) h) (Or.inl ⟨by rfl, ?_⟩) (by assumption) ?_
 rotate_left
 ·intro w hSw
  try dsimp only at hSw
  go_simp
  try with_reducible rfl
 simp only [Act.put, z1, z2, z3, z4, z5, z6]
 refine tkH (i := 9) (v := ?_) rfl (by kernel_rfl) (fun _ _ _ h => dec_put (by decide) h) (Or.inl ⟨by rfl, ?_⟩) (by assumption) ?_
 rotate_left
 ·intro w hSw
  try dsimp only at hSw
  go_simp
  try with_reducible rfl
 simp only [Act.put, z1, z2, z3, z4, z5, z6]
 refine tkH (i := 10) (v := ?_) rfl (by kernel_rfl) (fun _ _ _ h => dec_put (by decide) h) (Or.inl ⟨by rfl, ?_⟩) (by assumption) ?_
 rotate_left
 ·intro w hSw
  try dsimp only at hSw
  go_simp
  try with_reducible rfl
 simp only [Act.put, z1, z2, z3, z4, z5, z6]
 refine wpAnyH_ready (rs := [3]) (by kernel_rfl) (by simp) ?_
 refine AllReadyH.cons rfl (fun Kc hKc => ?_) AllReadyH.nil
 go_simp
 go_wp2_with (first | (go_at_call 32; refine (PS.out _ hHeld.1).mono ?_; rintro e w3 ⟨rfl, hb'⟩) | (go_at_call 31; refine (PLW.out _).mono ?_; rintro e w4 ⟨v4, rfl, ho4, hg4, -⟩; have cv4 := HCL.out _ _ _ ho4.at; have hb' := (Below.refl w3.heap.size w3).grown hg4 (Nat.le_refl _) (fun k e => by simp [Value.ownBlock] at e); clear hg4))
 refine hKc.out _ _ ?_ (fun hHeld => ?_)
 ·first | assumption | exact ⟨hHeld.1.kept hb', HCV.out _ (hHeld.1.kept hb'), btr hHeld.2.2 hb'⟩
 clear hKc Kc
 refine tkH (i := 4) (v := ?_) rfl (by kernel_rfl) (fun _ _ _ h => dec_put (by decide) h) (Or.inl ⟨by rfl, ?_⟩) (by assumption) ?_
 rotate_left
 ·intro w hSw
  try dsimp only at hSw
  go_simp
  try with_reducible rfl
 simp only [Act.put, z1, z2, z3, z4, z5, z6]
 refine wpAnyH_ready (rs := [5]) (by kernel_rfl) (by simp) ?_
 refine AllReadyH.cons rfl (fun Kc hKc => ?_) AllReadyH.nil
 go_simp
 go_wp2_with (first | (go_at_call 32; refine (PS.out _ hHeld.1).mono ?_; rintro e w3 ⟨rfl, hb'⟩) | (go_at_call 31; refine (PLW.out _).mono ?_; rintro e w4 ⟨v4, rfl, ho4, hg4, -⟩; have cv4 := HCL.out _ _ _ ho4.at; have hb' := (Below.refl w3.heap.size w3).grown hg4 (Nat.le_refl _) (fun k e => by simp [Value.ownBlock] at e); clear hg4))
 refine hKc.out _ _ ?_ (fun hHeld => ?_)
 ·first | assumption | exact ⟨hHeld.1.kept hb', HCV.out _ (hHeld.1.kept hb'), btr hHeld.2.2 hb'⟩
 clear hKc Kc
 refine wpAnyH_ready (rs := [6]) (by kernel_rfl) (by simp) ?_
 refine AllReadyH.cons rfl (fun Kc hKc => ?_) AllReadyH.nil
 go_simp
 refine hKc.out _ _ ?_ (fun hHeld => ?_)
 ·first | assumption | exact ⟨hHeld.1.kept hb', HCV.out _ (hHeld.1.kept hb'), btr hHeld.2.2 hb'⟩
 clear hKc Kc
 refine tkH (i := 11) (v := ?_) rfl (by kernel_rfl) (fun _ _ _ h => dec_put (by decide) h) (Or.inl ⟨by rfl, ?_⟩) (by assumption) ?_
 rotate_left
 ·intro w hSw
  try dsimp only at hSw
  go_simp
  try with_reducible rfl
 simp only [Act.put, z1, z2, z3, z4, z5, z6]
 refine wpAnyH_done (by kernel_rfl) ?_ _
 have HO4 := Lib.hid ho4
 have HB4 := Lib.hid (btr HB1.out hHeld.2.2)
 have HS4 := Lib.hid (HS1.out.kept hHeld.2.2)
 have HE4 := Lib.hid (HE1.out.kept hHeld.2.2)
 have HV4 := Lib.hid hHeld.1
 have HSQ := Lib.hid (strB_inj (leB_byts sm 4) (HBY.out.drop at_))
 have HS4L := HB4.out.size
 have HOWN : Hid (bs.take (bs.length - 4) = bs.take at_) := Lib.hid (by rw [HN.out]; rfl)
 have HSIG : Hid (leB sm 4 = bs.drop at_ ↔ signB (bs.take (bs.length - 4)) = bs) := Lib.hid (by
  rw [HSM.out]; exact sign_iff HN.out)
 clear hHeld ho4 hb' cv4
 by_cases hsum : leB sm 4 = bs.drop at_
 ·have HSQ2 : (!((strB (leB sm 4)).toList == (strB (bs.drop at_)).toList)) = false := by rw [HSQ.out, decide_eq_true hsum]; rfl
  have HSG := Lib.hid (HSIG.out.1 hsum)
  have HER : Hid (errOf bs = 8) := Lib.hid (by unfold errOf; rw [if_neg (by rw [HN.out]; omega), if_pos HSG.out])
  rw [HSQ2]
  have HR5 : Hid (RdIs (w4.alloc (.cells #[.slice (some ⟨g, off, none⟩) at_ at_] 89)) w.heap.size w4.heap.size (bs.take at_)) := Lib.hid ⟨g, off, at_, by rw [HTL.out]; exact Blk.new _ _ _, by rw [HTL.out]; exact (HV4.out.upto at_ (by omega)).kept ((Below.refl _ _).alloc (Nat.le_refl _) _), hgl, HS4L⟩
  have HB5 := Lib.hid (HB4.out.alloc HB4.out.size (.cells #[.slice (some ⟨g, off, none⟩) at_ at_] 89))
  have HS5 := Lib.hid (HS4.out.alloc (.cells #[.slice (some ⟨g, off, none⟩) at_ at_] 89))
  have HE5 := Lib.hid (HE4.out.alloc (.cells #[.slice (some ⟨g, off, none⟩) at_ at_] 89))
  have HS4L2 : w.heap.size + 1 < w4.heap.size := HE4.out.lt
  have HBO := Lib.hid (HBY.out.take at_)
  clear hsum HSQ2 HSIG HSQ PS PLW HCV HV HV4 HB4 HS4 HE4 HO4 s1 hsb
  go_wp2_with fail
  generalize w4.alloc (.cells #[.slice (some ⟨g, off, none⟩) at_ at_] 89) = w5 at *
  generalize w4.heap.size = RB at *
  generalize bs.take at_ = own at *
  by_cases h2 : at_ < 2
  ·have PN : Hid (Calls Tryz.prog 34 #[.pointer (some ⟨RB, 0, none⟩), .int .i64 2] w5 fun e w' => BadP e ∧ w5 = w') := Lib.hid (some_no w5 w.heap.size RB own 2 HR5.out (by rw [HTL.out]; exact h2))
   have HNO : Hid (DecNo bs) := Lib.hid (dec_mark (fun q e => by rw [HOWN.out] at e; have := congrArg List.length e; rw [HTL.out] at this; simp at this; omega))
   with_reducible refine PN.out.mono ?_
   rintro e w6 ⟨hbad, hw⟩
   have hbad2 : e = .panicked [{ v := .iface 167 (.agg #[]), recovered := false }] := hbad
   subst hbad2
   subst hw
   exact door_panic rfl rfl HS5.out HE5.out (by omega) (Nat.le_refl _) (by omega) HB5.out HNO.out HER.out
  ·have PN : Hid (Calls Tryz.prog 34 #[.pointer (some ⟨RB, 0, none⟩), .int .i64 2] w5 (SomePost w5 w.heap.size RB own 2)) := Lib.hid (some_yes w5 w.heap.size RB own 2 HR5.out (by rw [HTL.out]; omega) (by rw [HTL.out]; omega))
   with_reducible refine PN.out.mono ?_
   rintro e w6 ⟨v6, rfl, -, hv6, hrd, hg⟩
   have cv6 := HCL.out w6 v6 _ hv6
   have HR6 := Lib.hid hrd
   have HS6 := Lib.hid (HS5.out.grown hg (by simp; omega))
   have HE6 := Lib.hid (HE5.out.grown hg (by simp; omega))
   have HB6 : Hid (Below w.heap.size w w6) := Lib.hid (HB5.out.grown hg HB5.out.size (fun k e => by have := Option.some.inj e; omega))
   have HBD := Lib.hid (HBO.out.drop 2)
   obtain ⟨vo, vc, rfl, hv6c, -⟩ := hv6
   have hl2 : (own.take 2).length = 2 := by have := HTL.out; simp; omega
   rw [hl2] at cv6 ⊢
   have HGA : Hid (((strB (own.take 2)).toList == [71, 65]) = decide (own.take 2 = [71, 65])) := Lib.hid (by
    have := strB_inj (HBO.out.take 2) (show Byts [71, 65] from fun u hu => by simp at hu; omega)
    rw [← this, strB_list [71, 65]]
    rfl)
   clear hrd hg PN HCL HR5 HS5 HE5 HB5 hl2
   by_cases hga : own.take 2 = [71, 65]
   rotate_left
   ·have q1 : ((strB (own.take 2)).toList == [71, 65]) = false := by rw [HGA.out]; exact decide_eq_false hga
    have q2 : (!((strB (own.take 2)).toList == [71, 65])) = true := by rw [q1]; rfl
    have HNO : Hid (DecNo bs) := Lib.hid (dec_mark (fun q e => hga (by rw [HOWN.out] at e; rw [e]; rfl)))
    clear hga
    have f3 := HE6.out.frozen 0
    have f2 := HS6.out.frozen 0
    have c3 := HE6.out.cell 0
    have c2 := HS6.out.cell 0
    simp at c2 c3
    go_wp2_with fail
    have HS9 := Lib.hid ((HS6.out.set_ 0 (.pointer none)).far (p := ⟨w.heap.size + 1, 0, none⟩) (by simp) (.int .i64 8))
    have HE9 := Lib.hid ((HE6.out.far (p := ⟨w.heap.size, 0, none⟩) (by simp) (.pointer none)).set_ 0 (.int .i64 8))
    have HB9 := Lib.hid ((HB6.out.setCell (p := ⟨w.heap.size, 0, none⟩) (by simp) (.pointer none)).setCell (p := ⟨w.heap.size + 1, 0, none⟩) (by simp) (.int .i64 8))
    exact door_ret rfl rfl HS9.out HE9.out (And.intro (Or.inr ⟨HNO.out, by rw [HER.out]⟩) HB9.out)
   have q1 : ((strB (own.take 2)).toList == [71, 65]) = true := by rw [HGA.out]; exact decide_eq_true hga
   have q2 : (!((strB (own.take 2)).toList == [71, 65])) = false := by rw [q1]; rfl
   have HG2 := Lib.hid hga
   clear hga
   go_wp2_with fail
   have HMK : Hid (bs.take (bs.length - 4) = [71, 65] ++ own.drop 2) := Lib.hid (by rw [HOWN.out, ← HG2.out, List.take_append_drop])
   have PC := Lib.hid (config_any w6 w.heap.size RB (own.drop 2) HR6.out HBD.out (by rw [List.length_drop, HTL.out]; omega))
   clear q1 q2 cv6 HGA HG2
   generalize own.drop 2 = q at *
   with_reducible refine PC.out.mono ?_
   rintro e w7 (⟨b, r, d, m, s, rest, hcs, hsz, rfl, hrd, hg⟩ | ⟨hno, hbad, hg⟩)
   rotate_left
   ·have hbad2 : e = .panicked [{ v := .iface 167 (.agg #[]), recovered := false }] := hbad
    subst hbad2
    exact door_panic rfl rfl (HS6.out.grown hg (by simp; omega)) (HE6.out.grown hg (by simp; omega)) (by omega) (Nat.le_refl _) (by omega) (HB6.out.grown hg HB6.out.size (fun k e => by have := Option.some.inj e; omega)) (dec_cfg HMK.out hno) HER.out
   have HCS := Lib.hid hcs
   have HR7 := Lib.hid hrd
   have HS7 := Lib.hid (HS6.out.grown hg (by simp; omega))
   have HE7 := Lib.hid (HE6.out.grown hg (by simp; omega))
   have HB7 : Hid (Below w.heap.size w w7) := Lib.hid (HB6.out.grown hg HB6.out.size (fun k e => by have := Option.some.inj e; omega))
   have HRT := Lib.hid hcs.1
   have hR := right_of hcs.1
   have HRLE : Hid (rest.length ≤ 100000) := Lib.hid (by
    have e := hcs.2.2.2
    have h := HMK.out
    rw [e] at h
    have := congrArg List.length h
    rw [HOWN.out, HTL.out] at this
    simp only [List.length_append] at this
    omega)
   clear hcs hsz hrd hg PC HR6 HS6 HE6 HB6
   obtain ⟨n, hn⟩ : ∃ n : Nat, b = (n : Int) := ⟨b.toNat, by omega⟩
   subst hn
   have hn59 : n ≤ 59 := by omega
   have HCB8 := Lib.hid (Blk.new w7 24 #[.int .i64 (n : Int), .int .i64 r, .int .i64 d, .int .i64 m, .int .u64 s])
   have HAL : Hid (Below w7.heap.size w7 (w7.alloc (.cells #[.int .i64 (n : Int), .int .i64 r, .int .i64 d, .int .i64 m, .int .u64 s] 24))) := Lib.hid ((Below.refl _ _).alloc (Nat.le_refl _) _)
   have HR8 := Lib.hid (HR7.out.kept HAL.out)
   have HS8 := Lib.hid (HS7.out.kept HAL.out)
   have HE8 := Lib.hid (HE7.out.kept HAL.out)
   have HB8 := Lib.hid (btr HB7.out HAL.out)
   have HCBL : Hid (w.heap.size + 1 < w7.heap.size) := Lib.hid HE7.out.lt
   have HRB7 : Hid (RB < w7.heap.size) := Lib.hid HR7.out.lt
   clear HR7 HS7 HE7 HB7 HAL
   go_upto_region 11 with fail
   generalize w7.alloc (.cells #[.int .i64 (n : Int), .int .i64 r, .int .i64 d, .int .i64 m, .int .u64 s] 24) = w8 at *
   generalize w7.heap.size = CB at *
   have PN8 := Lib.hid (stnew_yes (n : Int) r d m s HRT.out w8)
   go_wp2_with (refine wpList_load_row rfl 24 _ rfl CB rfl 24 _ (0, 0) _ HCB8.out Tryz.underlying24 rfl (by kernel_rfl) ?_)
   with_reducible refine PN8.out.mono ?_
   rintro e w9 ⟨SB, L, X, A, G, C, rfl, hSB, hst, hb9⟩
   have HSB := Lib.hid (Nat.le_trans HB8.out.size hSB)
   have HST9 := Lib.hid (hst.low_ HB8.out.size)
   have HCB9 := Lib.hid (HCB8.out.kept hb9)
   have HR9 := Lib.hid (HR8.out.kept hb9)
   have HS9 := Lib.hid (HS8.out.kept hb9)
   have HE9 := Lib.hid (HE8.out.kept hb9)
   have HB9 := Lib.hid (btr HB8.out hb9)
   clear hst hb9 hSB HCB8 HR8 HS8 HE8 HB8 PN8
   have c2 := HS9.out.cell 0
   have f2 := HS9.out.frozen 0
   simp at c2
   go_upto_region 12 with fail
   have HGS := Lib.hid (grown_set w9 w.heap.size 0 (.pointer (some ⟨SB, 0, none⟩)))
   have HSA : Hid (Blk (w9.setCell ⟨w.heap.size, 0, none⟩ (.pointer (some ⟨SB, 0, none⟩))) w.heap.size 49 #[.pointer (some ⟨SB, 0, none⟩)]) := Lib.hid (by simpa using HS9.out.set_ 0 (.pointer (some ⟨SB, 0, none⟩)))
   have HEA := Lib.hid (HE9.out.grown HGS.out (by simp))
   have HCBA := Lib.hid (HCB9.out.grown HGS.out (by simp; have := HCBL.out; omega))
   have HRA := Lib.hid (HR9.out.gr HGS.out (Nat.le_refl _) (by omega))
   have HSTA := Lib.hid (HST9.out.far HS9.out (by decide) (by decide) HGS.out)
   have HBA := Lib.hid (HB9.out.setCell (p := ⟨w.heap.size, 0, none⟩) (Nat.le_refl _) (.pointer (some ⟨SB, 0, none⟩)))
   have HBR : Hid (Byts rest) := Lib.hid (by
    have e := HCS.out.2.2.2
    have h := HBD.out
    rw [e] at h
    exact h.tail.tail.tail.tail.tail)
   clear HGS HS9 HE9 HCB9 HR9 HST9 HB9 c2 f2
   generalize w9.setCell ⟨w.heap.size, 0, none⟩ (.pointer (some ⟨SB, 0, none⟩)) = wA at *
   have k0 := HCBA.out.cell 0
   simp at k0
   go_wp2_with fail
   clear k0
   go_loopw [50] (fun i wr => ∃ (j : Nat) (Z : Nat → List Int) (t : List Int), j ≤ n + 1 ∧ i = .int .i64 (j : Int) ∧ Shaped (n : Int) r d m Z j ∧ rest = rowsB Z j ++ t ∧ RdIs wr w.heap.size RB t ∧ StIs wr w.heap.size SB L (n : Int) r d m s X A G C Z ∧ Blk wr CB 24 #[.int .i64 (n : Int), .int .i64 r, .int .i64 d, .int .i64 m, .int .u64 s] ∧ Blk wr w.heap.size 49 #[.pointer (some ⟨SB, 0, none⟩)] ∧ Blk wr (w.heap.size + 1) 50 #[.int .i64 0] ∧ Below w.heap.size w wr) (fun i _ => n + 1 - (intOf i).toNat)
   case atStart => exact ⟨0, _, rest, by omega, rfl, fun k hk => by omega, rfl, HRA.out, HSTA.out, HCBA.out, HSA.out, HEA.out, HBA.out⟩
   case round =>
    obtain ⟨j, Z, t, hj, rfl, hsh, hrest, hrd, hst, hcb, hs, he, hbel⟩ := hrel
    have HSH := Lib.hid hsh
    have HRS := Lib.hid hrest
    have HRD := Lib.hid hrd
    have HST := Lib.hid hst
    have HCB := Lib.hid hcb
    have HS := Lib.hid hs
    have HE := Lib.hid he
    have HBL := Lib.hid hbel
    have HBT : Hid (Byts t) := Lib.hid (by have := HBR.out; rw [hrest] at this; exact this.tail)
    have HTLL : Hid (t.length ≤ 100000) := Lib.hid (by have := HRLE.out; rw [hrest, List.length_append] at this; omega)
    obtain ⟨rg, roff, rcap, hrb, hrv, -, -⟩ := hrd
    obtain ⟨tl, htl⟩ : ∃ tl, tl = t.length := ⟨_, rfl⟩
    have HTL2 := Lib.hid htl
    rw [← htl] at hrb hrv
    have HRB := Lib.hid hrb
    have HRV := Lib.hid hrv
    clear hsh hrest hst hcb hs he hbel hrb hrv htl HRA HSTA HCBA HSA HEA HBA
    by_cases hlt : j < n + 1
    ·have i0 : (0 : Int) ≤ (j : Int) := by omega
     have i1 : (j : Int) < (n : Int) + 1 := by omega
     have PCL := Lib.hid (fun wq => wcells_any (n : Int) r d m s (j : Int) HRT.out wq)
     have hcn := cellsN_le (l := (j : Int)) HRT.out
     by_cases hrow : ∃ zs a, TRow t (cellsN (n : Int) r d m (j : Int)) zs a
     ·obtain ⟨zs, a, hrow⟩ := hrow
      have HROW := Lib.hid hrow
      have PTR := Lib.hid (fun wq hq => takerow_yes wq (.slice (some ⟨rg, roff, none⟩) tl rcap) t _ hq HBT.out HTLL.out (by omega) hrow)
      have ha := hrow.rest.2
      have hal : a ≤ 100000 := by have := HTLL.out; omega
      clear hrow
      generalize hcd : cellsN (n : Int) r d m (j : Int) = cd at *
      have HCD := Lib.hid hcd
      clear hcd
      go_wp2_with fail
      refine wp_region_held_drew (S := fun w' => Blk w' CB 24 #[.int .i64 (n : Int), .int .i64 r, .int .i64 d, .int .i64 m, .int .u64 s] ∧ Blk w' RB 89 #[.slice (some ⟨rg, roff, none⟩) tl rcap] ∧ BytesAt w' (.slice (some ⟨rg, roff, none⟩) tl rcap) t ∧ Below wr.heap.size wr w') (by kernel_rfl) (by exact ⟨HCB.out.drewN 1, HRB.out.drewN 1, HRV.out.kept (below_drewN (Below.refl _ _) 1), below_drewN (Below.refl _ _) 1⟩) (fun hHeld => ?_)
      refine tkH (i := 0) (v := ?_) rfl (by kernel_rfl) (fun _ _ _ h => dec_put (by decide) h) (Or.inl ⟨by rfl, ?_⟩) (by assumption) ?_
      rotate_left
      ·intro w hSw
       try dsimp only at hSw
       go_simp
       try with_reducible rfl
      simp only [Act.put, z1, z2, z3, z4, z5, z6]
      refine tkH (i := 1) (v := ?_) rfl (by kernel_rfl) (fun _ _ _ h => dec_put (by decide) h) (Or.inl ⟨by rfl, ?_⟩) (by assumption) ?_
      rotate_left
      ·intro w hSw
       try dsimp only at hSw
       go_simp
       try with_reducible rfl
      simp only [Act.put, z1, z2, z3, z4, z5, z6]
      refine tkH (i := 2) (v := ?_) rfl (by kernel_rfl) (fun _ _ _ h => dec_put (by decide) h) (Or.inl ⟨by rfl, ?_⟩) (by assumption) ?_
      rotate_left
      ·intro w hSw
       try dsimp only at hSw
       go_simp
       try with_reducible rfl
      simp only [Act.put, z1, z2, z3, z4, z5, z6]
      refine tkH (i := 3) (v := ?_) rfl (by kernel_rfl) (fun _ _ _ h => dec_put (by decide) h) (Or.inl ⟨by rfl, ?_⟩) (by assumption) ?_
      rotate_left
      ·intro w hSw
       have q0 := hSw.2.1.cell 0
       simp at q0
       try refine (exec_load_row 24 _ rfl _ rfl 24 _ (0, 0) _ hSw.1 Tryz.underlying24 rfl (by kernel_rfl)).trans ?_
       go_simp
       try with_reducible rfl
      simp only [Act.put, z1, z2, z3, z4, z5, z6]
      refine tkH (i := 4) (v := ?_) rfl (by kernel_rfl) (fun _ _ _ h => dec_put (by decide) h) (Or.inl ⟨by rfl, ?_⟩) (by assumption) ?_
      rotate_left
      ·intro w hSw
       have q0 := hSw.2.1.cell 0
       simp at q0
       try refine (exec_load_row 24 _ rfl _ rfl 24 _ (0, 0) _ hSw.1 Tryz.underlying24 rfl (by kernel_rfl)).trans ?_
       go_simp
       try with_reducible rfl
      simp only [Act.put, z1, z2, z3, z4, z5, z6]
      refine tkH (i := 5) (v := ?_) rfl (by kernel_rfl) (fun _ _ _ h => dec_put (by decide) h) (Or.inl ⟨by rfl, ?_⟩) (by assumption) ?_
      rotate_left
      ·intro w hSw
       try dsimp only at hSw
       go_simp
       try with_reducible rfl
      simp only [Act.put, z1, z2, z3, z4, z5, z6]
      refine wpAnyH_ready (rs := [6]) (by kernel_rfl) (by simp) ?_
      refine AllReadyH.cons rfl (fun Kc hKc => ?_) AllReadyH.nil
      go_simp
      go_wp2_with (first | (go_at_call 38; refine (PCL.out _).mono ?_; rintro e w3 ⟨rfl, hb'⟩; have hs3 : wr.heap.size ≤ w3.heap.size := (btr hHeld.2.2.2 hb').size) | (go_at_call 37; refine (PTR.out _ hHeld.2.2.1).mono ?_; rintro e w4 ⟨x4, rfl, ho4, hb'⟩; have HO4 := Lib.hid ho4; clear ho4))
      refine hKc.out _ _ ?_ (fun hHeld => ?_)
      ·first | assumption | exact ⟨hHeld.1.kept hb', hHeld.2.1.kept hb', hHeld.2.2.1.kept hb', btr hHeld.2.2.2 hb'⟩
      clear hKc Kc
      refine wpAnyH_ready (rs := [7]) (by kernel_rfl) (by simp) ?_
      refine AllReadyH.cons rfl (fun Kc hKc => ?_) AllReadyH.nil
      go_simp
      go_wp2_with (first | (go_at_call 38; refine (PCL.out _).mono ?_; rintro e w3 ⟨rfl, hb'⟩; have hs3 : wr.heap.size ≤ w3.heap.size := (btr hHeld.2.2.2 hb').size) | (go_at_call 37; refine (PTR.out _ hHeld.2.2.1).mono ?_; rintro e w4 ⟨x4, rfl, ho4, hb'⟩; have HO4 := Lib.hid ho4; clear ho4))
      refine hKc.out _ _ ?_ (fun hHeld => ?_)
      ·first | assumption | exact ⟨hHeld.1.kept hb', hHeld.2.1.kept hb', hHeld.2.2.1.kept hb', btr hHeld.2.2.2 hb'⟩
      clear hKc Kc
      refine tkH (i := 8) (v := ?_) rfl (by kernel_rfl) (fun _ _ _ h => dec_put (by decide) h) (Or.inl ⟨by rfl, ?_⟩) (by assumption) ?_
      rotate_left
      ·intro w hSw
       try dsimp only at hSw
       go_simp
       try with_reducible rfl
      simp only [Act.put, z1, z2, z3, z4, z5, z6]
      refine tkH (i := 9) (v := ?_) rfl (by kernel_rfl) (fun _ _ _ h => dec_put (by decide) h) (Or.inl ⟨by rfl, ?_⟩) (by assumption) ?_
      rotate_left
      ·intro w hSw
       try dsimp only at hSw
       go_simp
       try with_reducible rfl
      simp only [Act.put, z1, z2, z3, z4, z5, z6]
      refine tkH (i := 10) (v := ?_) rfl (by kernel_rfl) (fun _ _ _ h => dec_put (by decide) h) (Or.inl ⟨by rfl, ?_⟩) (by assumption) ?_
      rotate_left
      ·intro w hSw
       try dsimp only at hSw
       go_simp
       try with_reducible rfl
      simp only [Act.put, z1, z2, z3, z4, z5, z6]
      refine tkH (i := 11) (v := ?_) rfl (by kernel_rfl) (fun _ _ _ h => dec_put (by decide) h) (Or.inl ⟨by rfl, ?_⟩) (by assumption) ?_
      rotate_left
      ·intro w hSw
       try dsimp only at hSw
       go_simp
       try with_reducible rfl
      simp only [Act.put, z1, z2, z3, z4, z5, z6]
      refine tkH (i := 12) (v := ?_) rfl (by kernel_rfl) (fun _ _ _ h => dec_put (by decide) h) (Or.inl ⟨by rfl, ?_⟩) (by assumption) ?_
      rotate_left
      ·intro w hSw
       try dsimp only at hSw
       go_simp
       try with_reducible rfl
      simp only [Act.put, z1, z2, z3, z4, z5, z6]
      refine tkH (i := 13) (v := ?_) rfl (by kernel_rfl) (fun _ _ _ h => dec_put (by decide) h) (Or.inl ⟨by rfl, ?_⟩) (by assumption) ?_
      rotate_left
      ·intro w hSw
       try dsimp only at hSw
       go_simp
       try with_reducible rfl
      simp only [Act.put, z1, z2, z3, z4, z5, z6]
      refine tkH (i := 14) (v := ?_) rfl (by kernel_rfl) (fun _ _ _ h => dec_put (by decide) h) (Or.inl ⟨by rfl, ?_⟩) (by assumption) ?_
      rotate_left
      ·intro w hSw
       try dsimp only at hSw
       go_simp
       try with_reducible rfl
      simp only [Act.put, z1, z2, z3, z4, z5, z6]
      refine wpAnyH_done (by kernel_rfl) ?_ _
      have HB4 := Lib.hid (btr HBL.out hHeld.2.2.2)
      have HRD4 := Lib.hid (HRD.out.kept hHeld.2.2.2)
      have HST4 := Lib.hid (HST.out.kept hHeld.2.2.2)
      have HS4 := Lib.hid (HS.out.kept hHeld.2.2.2)
      have HE4 := Lib.hid (HE.out.kept hHeld.2.2.2)
      have HCB4 := Lib.hid hHeld.1
      have HCJ : Hid (C j < wr.heap.size) := Lib.hid (HST.out.lev j (by simp; omega)).ltC
      obtain ⟨xo, xl, xc, rfl⟩ : ∃ xo xl xc, x4 = .slice xo xl xc := by obtain ⟨xo, xc, e, -⟩ := HO4.out.ints; exact ⟨xo, _, xc, e⟩
      have PSM := Lib.hid (some_yes w4 w.heap.size RB t a HRD4.out ha HTLL.out)
      clear hHeld HCB HRB HRV HRD HST HS HE HBL
      go_wp2_with fail
      with_reducible refine PSM.out.mono ?_
      rintro e w5 ⟨v5, rfl, -, -, hrd, hg⟩
      obtain ⟨cs5, hbk⟩ := HRD4.out.blk
      have HRD5 := Lib.hid hrd
      have HST5 := Lib.hid (HST4.out.far hbk (by decide) (by decide) hg)
      have HO5 : Hid (OwnZ w5 w3.heap.size (.slice xo xl xc) zs) := Lib.hid (World.ownsRow.kept HO4.out hg (.inr (own_ne HO4.out hbk (by decide))))
      have HS5 := Lib.hid (HS4.out.grown hg (by simp; omega))
      have HE5 := Lib.hid (HE4.out.grown hg (by simp; omega))
      have HCB5 := Lib.hid (HCB4.out.grown hg (by simp; have := HRB7.out; omega))
      have HB5 : Hid (Below w.heap.size w w5) := Lib.hid (HB4.out.grown hg HB4.out.size (fun k e => by have := Option.some.inj e; omega))
      have c2 := HS5.out.cell 0
      simp at c2
      have PLD := Lib.hid (stload w5 w.heap.size SB L (n : Int) r d m s X A G C Z HST5.out j (by simp; omega) (.slice xo xl xc) zs HO5.out.ints (by rw [HCD.out]; exact HROW.out.1) HROW.out.2.1 (fun e => by have := (HO5.out.lt _ e).1; have := HCJ.out; omega))
      clear hrd hg hbk HRD4 HST4 HO4 HS4 HE4 HCB4 HB4 PSM
      go_wp2_with fail
      with_reducible refine PLD.out.mono ?_
      rintro e w6 ⟨rfl, hst, hg⟩
      obtain ⟨cj, hcj⟩ := (HST5.out.lev j (by simp; omega)).cells
      have hlowj := HST5.out.low j (by simp; omega)
      obtain ⟨cs6, hbk⟩ := HRD5.out.blk
      have HST6 := Lib.hid hst
      have HRD6 := Lib.hid (HRD5.out.gr hg hlowj (hbk.ne_ hcj (by decide)))
      have HS6 := Lib.hid (HS5.out.grown hg (by simpa using HS5.out.ne_ hcj (by decide)))
      have HE6 := Lib.hid (HE5.out.grown hg (by simpa using HE5.out.ne_ hcj (by decide)))
      have HCB6 := Lib.hid (HCB5.out.grown hg (by simpa using HCB5.out.ne_ hcj (by decide)))
      have HB6 : Hid (Below w.heap.size w w6) := Lib.hid (HB5.out.grown hg HB5.out.size (fun k e => by have := Option.some.inj e; omega))
      have HSH6 := Lib.hid (HSH.out.up (by rw [HCD.out]; exact HROW.out.1) HROW.out.2.1)
      have HRS6 : Hid (rest = rowsB (upN Z j zs) (j + 1) ++ t.drop a) := Lib.hid (by
       rw [rowsB_up, List.append_assoc, ← HROW.out.rest.1]; exact HRS.out)
      clear hst hg hcj hbk PLD HO5 HRD5 HS5 HE5 HCB5 HB5 HST5 c2
      go_wp2
      go_roundw
      case rel => exact ⟨j + 1, upN Z j zs, t.drop a, by omega, by go_num, HSH6.out, HRS6.out, HRD6.out, HST6.out, HCB6.out, HS6.out, HE6.out, HB6.out⟩
      case measure => simp [intOf]; omega
     ·have hno : TRowNo t (cellsN (n : Int) r d m (j : Int)) := fun zs a h => hrow ⟨zs, a, h⟩
      have PTR := Lib.hid (fun wq hq => takerow_no wq (.slice (some ⟨rg, roff, none⟩) tl rcap) t _ hq HBT.out HTLL.out (by omega) hno)
      have HNO := Lib.hid (dec_row HMK.out HCS.out (by simp; omega) HSH.out HRS.out hno)
      clear hrow hno
      generalize hcd : cellsN (n : Int) r d m (j : Int) = cd at *
      clear hcd
      go_wp2_with fail
      refine wp_region_held_drew (S := fun w' => Blk w' CB 24 #[.int .i64 (n : Int), .int .i64 r, .int .i64 d, .int .i64 m, .int .u64 s] ∧ Blk w' RB 89 #[.slice (some ⟨rg, roff, none⟩) tl rcap] ∧ BytesAt w' (.slice (some ⟨rg, roff, none⟩) tl rcap) t ∧ Below wr.heap.size wr w') (by kernel_rfl) (by exact ⟨HCB.out.drewN 1, HRB.out.drewN 1, HRV.out.kept (below_drewN (Below.refl _ _) 1), below_drewN (Below.refl _ _) 1⟩) (fun hHeld => ?_)
      refine tkH (i := 0) (v := ?_) rfl (by kernel_rfl) (fun _ _ _ h => dec_put (by decide) h) (Or.inl ⟨by rfl, ?_⟩) (by assumption) ?_
      rotate_left
      ·intro w hSw
       try dsimp only at hSw
       go_simp
       try with_reducible rfl
      simp only [Act.put, z1, z2, z3, z4, z5, z6]
      refine tkH (i := 1) (v := ?_) rfl (by kernel_rfl) (fun _ _ _ h => dec_put (by decide) h) (Or.inl ⟨by rfl, ?_⟩) (by assumption) ?_
      rotate_left
      ·intro w hSw
       try dsimp only at hSw
       go_simp
       try with_reducible rfl
      simp only [Act.put, z1, z2, z3, z4, z5, z6]
      refine tkH (i := 2) (v := ?_) rfl (by kernel_rfl) (fun _ _ _ h => dec_put (by decide) h) (Or.inl ⟨by rfl, ?_⟩) (by assumption) ?_
      rotate_left
      ·intro w hSw
       try dsimp only at hSw
       go_simp
       try with_reducible rfl
      simp only [Act.put, z1, z2, z3, z4, z5, z6]
      refine tkH (i := 3) (v := ?_) rfl (by kernel_rfl) (fun _ _ _ h => dec_put (by decide) h) (Or.inl ⟨by rfl, ?_⟩) (by assumption) ?_
      rotate_left
      ·intro w hSw
       have q0 := hSw.2.1.cell 0
       simp at q0
       try refine (exec_load_row 24 _ rfl _ rfl 24 _ (0, 0) _ hSw.1 Tryz.underlying24 rfl (by kernel_rfl)).trans ?_
       go_simp
       try with_reducible rfl
      simp only [Act.put, z1, z2, z3, z4, z5, z6]
      refine tkH (i := 4) (v := ?_) rfl (by kernel_rfl) (fun _ _ _ h => dec_put (by decide) h) (Or.inl ⟨by rfl, ?_⟩) (by assumption) ?_
      rotate_left
      ·intro w hSw
       have q0 := hSw.2.1.cell 0
       simp at q0
       try refine (exec_load_row 24 _ rfl _ rfl 24 _ (0, 0) _ hSw.1 Tryz.underlying24 rfl (by kernel_rfl)).trans ?_
       go_simp
       try with_reducible rfl
      simp only [Act.put, z1, z2, z3, z4, z5, z6]
      refine tkH (i := 5) (v := ?_) rfl (by kernel_rfl) (fun _ _ _ h => dec_put (by decide) h) (Or.inl ⟨by rfl, ?_⟩) (by assumption) ?_
      rotate_left
      ·intro w hSw
       try dsimp only at hSw
       go_simp
       try with_reducible rfl
      simp only [Act.put, z1, z2, z3, z4, z5, z6]
      refine wpAnyH_ready (rs := [6]) (by kernel_rfl) (by simp) ?_
      refine AllReadyH.cons rfl (fun Kc hKc => ?_) AllReadyH.nil
      go_simp
      go_wp2_with (first | (go_at_call 38; refine (PCL.out _).mono ?_; rintro e w3 ⟨rfl, hb'⟩) | (go_at_call 37; refine (PTR.out _ hHeld.2.2.1).mono ?_; rintro e w4 ⟨rfl, hb'⟩))
      refine hKc.out _ _ ?_ (fun hHeld => ?_)
      ·first | assumption | exact ⟨hHeld.1.kept hb', hHeld.2.1.kept hb', hHeld.2.2.1.kept hb', btr hHeld.2.2.2 hb'⟩
      clear hKc Kc
      refine wpAnyH_ready (rs := [7]) (by kernel_rfl) (by simp) ?_
      refine AllReadyH.cons rfl (fun Kc hKc => ?_) AllReadyH.nil
      go_simp
      go_wp2_with (first | (go_at_call 38; refine (PCL.out _).mono ?_; rintro e w3 ⟨rfl, hb'⟩) | (go_at_call 37; refine (PTR.out _ hHeld.2.2.1).mono ?_; rintro e w4 ⟨rfl, hb'⟩))
      refine hKc.out _ _ ?_ (fun hHeld => ?_)
      ·first | assumption | exact ⟨hHeld.1.kept hb', hHeld.2.1.kept hb', hHeld.2.2.1.kept hb', btr hHeld.2.2.2 hb'⟩
      clear hKc Kc
      refine tkH (i := 8) (v := ?_) rfl (by kernel_rfl) (fun _ _ _ h => dec_put (by decide) h) (Or.inl ⟨by rfl, ?_⟩) (by assumption) ?_
      rotate_left
      ·intro w hSw
       try dsimp only at hSw
       go_simp
       try with_reducible rfl
      simp only [Act.put, z1, z2, z3, z4, z5, z6]
      refine tkH (i := 9) (v := ?_) rfl (by kernel_rfl) (fun _ _ _ h => dec_put (by decide) h) (Or.inl ⟨by rfl, ?_⟩) (by assumption) ?_
      rotate_left
      ·intro w hSw
       try dsimp only at hSw
       go_simp
       try with_reducible rfl
      simp only [Act.put, z1, z2, z3, z4, z5, z6]
      refine tkH (i := 10) (v := ?_) rfl (by kernel_rfl) (fun _ _ _ h => dec_put (by decide) h) (Or.inl ⟨by rfl, ?_⟩) (by assumption) ?_
      rotate_left
      ·intro w hSw
       try dsimp only at hSw
       go_simp
       try with_reducible rfl
      simp only [Act.put, z1, z2, z3, z4, z5, z6]
      refine tkH (i := 11) (v := ?_) rfl (by kernel_rfl) (fun _ _ _ h => dec_put (by decide) h) (Or.inl ⟨by rfl, ?_⟩) (by assumption) ?_
      rotate_left
      ·intro w hSw
       try dsimp only at hSw
       go_simp
       try with_reducible rfl
      simp only [Act.put, z1, z2, z3, z4, z5, z6]
      refine tkH (i := 12) (v := ?_) rfl (by kernel_rfl) (fun _ _ _ h => dec_put (by decide) h) (Or.inl ⟨by rfl, ?_⟩) (by assumption) ?_
      rotate_left
      ·intro w hSw
       try dsimp only at hSw
       go_simp
       try with_reducible rfl
      simp only [Act.put, z1, z2, z3, z4, z5, z6]
      refine tkH (i := 13) (v := ?_) rfl (by kernel_rfl) (fun _ _ _ h => dec_put (by decide) h) (Or.inl ⟨by rfl, ?_⟩) (by assumption) ?_
      rotate_left
      ·intro w hSw
       try dsimp only at hSw
       go_simp
       try with_reducible rfl
      simp only [Act.put, z1, z2, z3, z4, z5, z6]
      refine tkH (i := 14) (v := ?_) rfl (by kernel_rfl) (fun _ _ _ h => dec_put (by decide) h) (Or.inl ⟨by rfl, ?_⟩) (by assumption) ?_
      rotate_left
      ·intro w hSw
       try dsimp only at hSw
       go_simp
       try with_reducible rfl
      simp only [Act.put, z1, z2, z3, z4, z5, z6]
      refine wpAnyH_done (by kernel_rfl) ?_ _
      have HB4 := Lib.hid (btr HBL.out hHeld.2.2.2)
      have HS4 := Lib.hid (HS.out.kept hHeld.2.2.2)
      have HE4 := Lib.hid (HE.out.kept hHeld.2.2.2)
      clear hHeld HCB HRB HRV HRD HST HS HE HBL
      have c2 := HS4.out.cell 0
      have f2 := HS4.out.frozen 0
      have c3 := HE4.out.cell 0
      have f3 := HE4.out.frozen 0
      simp at c2 c3
      have HS9 := Lib.hid ((HS4.out.set_ 0 (.pointer none)).far (p := ⟨w.heap.size + 1, 0, none⟩) (by simp) (.int .i64 8))
      have HE9 := Lib.hid ((HE4.out.far (p := ⟨w.heap.size, 0, none⟩) (by simp) (.pointer none)).set_ 0 (.int .i64 8))
      have HB9 := Lib.hid ((HB4.out.setCell (p := ⟨w.heap.size, 0, none⟩) (by simp) (.pointer none)).setCell (p := ⟨w.heap.size + 1, 0, none⟩) (by simp) (.int .i64 8))
      go_wp2_with fail
      exact door_ret rfl rfl HS9.out HE9.out (And.intro (Or.inr ⟨HNO.out, by rw [HER.out]⟩) HB9.out)
    ·obtain rfl : j = n + 1 := by omega
     have i1 : ¬ (((n + 1 : Nat) : Int) < (n : Int) + 1) := by omega
     have c0 := HRB.out.cell 0
     have c2 := HS.out.cell 0
     have f2 := HS.out.frozen 0
     have c3 := HE.out.cell 0
     have f3 := HE.out.frozen 0
     simp at c0 c2 c3
     clear hlt
     by_cases ht : t = []
     ·have htl0 : tl = 0 := by rw [HTL2.out, ht]; rfl
      subst htl0
      have HDS := Lib.hid (dec_yes HMK.out HSG.out HCS.out HSH.out (by rw [HRS.out, ht, List.append_nil]; rfl))
      have HS9 := Lib.hid ((HS.out.set_ 0 (.pointer (some ⟨SB, 0, none⟩))).far (p := ⟨w.heap.size + 1, 0, none⟩) (by simp) (.int .i64 0))
      have HE9 := Lib.hid ((HE.out.far (p := ⟨w.heap.size, 0, none⟩) (by simp) (.pointer (some ⟨SB, 0, none⟩))).set_ 0 (.int .i64 0))
      have HB9 := Lib.hid ((HBL.out.setCell (p := ⟨w.heap.size, 0, none⟩) (by simp) (.pointer (some ⟨SB, 0, none⟩))).setCell (p := ⟨w.heap.size + 1, 0, none⟩) (by simp) (.int .i64 0))
      have HST9 := Lib.hid ((HST.out.far HS.out (by decide) (by decide) (grown_set wr w.heap.size 0 (.pointer (some ⟨SB, 0, none⟩)))).far (HE.out.far (p := ⟨w.heap.size, 0, none⟩) (by simp) (.pointer (some ⟨SB, 0, none⟩))) (by decide) (by decide) (grown_set _ (w.heap.size + 1) 0 (.int .i64 0)))
      clear ht HRS HSH
      go_wp2_with fail
      exact door_ret rfl rfl HS9.out HE9.out (And.intro (Or.inl ⟨_, _, _, _, _, Z, SB, L, X, A, G, C, HDS.out, rfl, HSB.out, HST9.out⟩) HB9.out)
     ·have htl1 : 0 < tl := by rw [HTL2.out]; exact List.length_pos_iff.2 ht
      have HNO := Lib.hid (dec_rest HMK.out HCS.out HSH.out HRS.out ht)
      have HS9 := Lib.hid ((HS.out.set_ 0 (.pointer none)).far (p := ⟨w.heap.size + 1, 0, none⟩) (by simp) (.int .i64 8))
      have HE9 := Lib.hid ((HE.out.far (p := ⟨w.heap.size, 0, none⟩) (by simp) (.pointer none)).set_ 0 (.int .i64 8))
      have HB9 := Lib.hid ((HBL.out.setCell (p := ⟨w.heap.size, 0, none⟩) (by simp) (.pointer none)).setCell (p := ⟨w.heap.size + 1, 0, none⟩) (by simp) (.int .i64 8))
      have htl2 : ((0 : Int) < (tl : Int)) := by omega
      clear ht HRS HSH
      go_wp2_with fail
      exact door_ret rfl rfl HS9.out HE9.out (And.intro (Or.inr ⟨HNO.out, by rw [HER.out]⟩) HB9.out)
 ·have c3 := HE4.out.cell 0
  have f3 := HE4.out.frozen 0
  have c2 := HS4.out.cell 0
  have f2 := HS4.out.frozen 0
  simp at c2 c3
  have HSQ2 : (!((strB (leB sm 4)).toList == (strB (bs.drop at_)).toList)) = true := by rw [HSQ.out, decide_eq_false hsum]; rfl
  have HS9 := Lib.hid ((HS4.out.set_ 0 (.pointer none)).far (p := ⟨w.heap.size + 1, 0, none⟩) (by simp) (.int .i64 9))
  have HE9 := Lib.hid ((HE4.out.far (p := ⟨w.heap.size, 0, none⟩) (by simp) (.pointer none)).set_ 0 (.int .i64 9))
  have HB9 := Lib.hid ((HB4.out.setCell (p := ⟨w.heap.size, 0, none⟩) (by simp) (.pointer none)).setCell (p := ⟨w.heap.size + 1, 0, none⟩) (by simp) (.int .i64 9))
  have HNO := Lib.hid (dec_sum (fun h => hsum (HSIG.out.2 h)))
  have HER : Hid (errOf bs = 9) := Lib.hid (by unfold errOf; rw [if_neg (by rw [HN.out]; omega), if_neg (fun h => hsum (HSIG.out.2 h))])
  rw [HSQ2]
  clear hsum HSQ2
  go_wp2_with fail
  exact ⟨_, dec_results _ _ ⟨w.heap.size, 0, none⟩ ⟨w.heap.size + 1, 0, none⟩ none 9 rfl rfl (HS9.out.cell 0) (HE9.out.cell 0), .inr ⟨HNO.out, by rw [HER.out]⟩, HB9.out⟩
end Go.Proofs.YtfeficdndjiijaaGreatDoor


namespace Go.Proofs.YtfeficdndjiijaaGreatDoor
open Go.RowKit
set_option linter.unusedVariables false
set_option linter.unusedSimpArgs false

theorem decode_any (w : World) (v : Value) (bs : List Int) (hv : BytesAt w v bs) (hb : Byts bs) (hl : bs.length ≤ 100000) :
    Calls Tryz.prog 16 #[v] w (DecRes w bs) := by
  by_cases h4 : bs.length < 4
  · exact dec_few w v bs hv h4
  · obtain ⟨ao, cap, rfl, hcap, hmx, hc⟩ := hv
    rcases hc with ⟨rfl, rfl⟩ | ⟨g, off, rfl, hg, hcc⟩
    · simp at h4
    · exact dec_many w g off cap bs ⟨_, cap, rfl, hcap, hmx, .inr ⟨g, off, rfl, hg, hcc⟩⟩ hb (by omega) hl
def numsB (ns : List Nat) : List Int := ns.flatMap putN
theorem numsB_snoc (ns : List Nat) (k : Nat) : numsB (ns ++ [k]) = numsB ns ++ putN k := by simp [numsB]
theorem numsB_le {ns : List Nat} (h : ∀ k ∈ ns, k ≤ 128) : (numsB ns).length ≤ 10 * ns.length := by
  induction ns with
  | nil => simp [numsB]
  | cons k ns ih =>
    have e : numsB (k :: ns) = putN k ++ numsB ns := by simp [numsB]
    rw [e, List.length_append, List.length_cons]
    have := putN_len10 (u := k) (by have := h k (by simp); omega)
    have := ih (fun k hk => h k (by simp [hk]))
    omega
theorem four_step {nb nr nd nm j : Nat} (hb : nb ≤ 59) (hr : nr ≤ 8) (hd : nd ≤ 128) (hm : nm ≤ 3) (hj : j < 4) : ∃ q : Nat, q ≤ 128 ∧ [nb, nr, nd, nm].take (j + 1) = [nb, nr, nd, nm].take j ++ [q] ∧ (#[.int .i64 (nb : Int), .int .i64 (nr : Int), .int .i64 (nd : Int), .int .i64 (nm : Int)] : Array Value)[j]? = some (.int .i64 (q : Int)) ∧ (numsB ([nb, nr, nd, nm].take j)).length ≤ 1000 := by
  have hall : ∀ k ∈ [nb, nr, nd, nm], k ≤ 128 := by
    intro k hk
    simp at hk
    omega
  have hle : (numsB ([nb, nr, nd, nm].take j)).length ≤ 1000 := by
    have := numsB_le (ns := [nb, nr, nd, nm].take j) (fun k hk => hall k (List.mem_of_mem_take hk))
    have h2 : ([nb, nr, nd, nm].take j).length ≤ 4 := by simp; omega
    omega
  rcases (show j = 0 ∨ j = 1 ∨ j = 2 ∨ j = 3 by omega) with rfl | rfl | rfl | rfl
  · exact ⟨nb, by omega, rfl, rfl, hle⟩
  · exact ⟨nr, by omega, rfl, rfl, hle⟩
  · exact ⟨nd, by omega, rfl, rfl, hle⟩
  · exact ⟨nm, by omega, rfl, rfl, hle⟩
set_option maxRecDepth 100000 in
set_option maxHeartbeats 8000000 in
theorem encode_any (w : World) (base S L : Nat) (b r d m s : Int) (X : Nat → Value) (A G C : Nat → Nat) (Z : Nat → List Int) (h : StIs w base S L b r d m s X A G C Z) (s0 : 0 ≤ s) (s1 : s < 18446744073709551616) (hl : (headB b r d m s ++ rowsB Z (b.toNat + 1)).length ≤ 100000) :
  Calls Tryz.prog 92 #[.pointer (some ⟨S, 0, none⟩)] w (PostC w (encB b r d m s Z)) := by
 obtain ⟨i0', hi, hz0, hz1, hz2⟩ := info_parts Tryz.info8
 have HST := Lib.hid h
 have HL := Lib.hid hl
 have hR := right_of h.right
 have PC := Lib.hid (stconfig w base S L b r d m s X A G C Z h)
 obtain ⟨nb, nr, nd, nm, rfl, rfl, rfl, rfl⟩ : ∃ nb nr nd nm : Nat, b = (nb : Int) ∧ r = (nr : Int) ∧ d = (nd : Int) ∧ m = (nm : Int) := ⟨b.toNat, r.toNat, d.toNat, m.toNat, by omega, by omega, by omega, by omega⟩
 have hb59 : nb ≤ 59 := by omega
 have hr8 : nr ≤ 8 := by omega
 have hd128 : nd ≤ 128 := by omega
 have hm3 : nm ≤ 3 := by omega
 clear h hl hR
 go_enter Tryz.func92, Tryz.ntmps92
 go_wp2_with fail
 with_reducible refine PC.out.mono ?_
 rintro e w2 ⟨rfl, hb2⟩
 have HB2 := Lib.hid hb2
 have HST2 := Lib.hid (HST.out.kept hb2)
 clear hb2 PC
 have kc := Joins.run_convert_bytes_const_at (P := Tryz.prog) (w2.alloc (.cells #[.int .i64 (nb : Int), .int .i64 (nr : Int), .int .i64 (nd : Int), .int .i64 (nm : Int), .int .u64 s] 24)) 41 5 #[.int .u8 71, .int .u8 65] 2 2 (w2.heap.size + 1) (by simp) Tryz.underlying41 Tryz.underlying5
 go_upto_region 3 with fail
 clear kc
 obtain ⟨g1, g2, hb3, hsz3⟩ := news2 w2 (.cells #[.int .i64 (nb : Int), .int .i64 (nr : Int), .int .i64 (nd : Int), .int .i64 (nm : Int), .int .u64 s] 24) (.cells #[.int .u8 71, .int .u8 65] 5 (2, 3))
 have HC3 : Hid (Blk _ w2.heap.size 24 #[.int .i64 (nb : Int), .int .i64 (nr : Int), .int .i64 (nd : Int), .int .i64 (nm : Int), .int .u64 s]) := Lib.hid g1
 have HB3 := Lib.hid (btr HB2.out hb3)
 have HST3 := Lib.hid (HST2.out.kept hb3)
 have HMK : Hid (BytesAt ((w2.alloc (.cells #[.int .i64 (nb : Int), .int .i64 (nr : Int), .int .i64 (nd : Int), .int .i64 (nm : Int), .int .u64 s] 24)).alloc (.cells #[.int .u8 71, .int .u8 65] 5 (2, 3))) (.slice (some ⟨w2.heap.size + 1, 0, none⟩) 2 2) [71, 65]) := Lib.hid ⟨_, 2, rfl, by simp, by unfold maxLen; omega, .inr ⟨w2.heap.size + 1, 0, rfl, by simp, fun i u hu => by
  have hc := Joins.cell_alloc_mark_at (w2.alloc (.cells #[.int .i64 (nb : Int), .int .i64 (nr : Int), .int .i64 (nd : Int), .int .i64 (nm : Int), .int .u64 s] 24)) #[.int .u8 71, .int .u8 65] 5 (2, 3) (w2.heap.size + 1) i (by simp)
  rw [Nat.zero_add, hc]
  have : ([71, 65] : List Int)[i]? = some u := hu
  match i, this with
  | 0, h => simpa using h
  | 1, h => simpa using h⟩⟩
 have HCL : Hid (w.heap.size ≤ w2.heap.size) := Lib.hid HB2.out.size
 clear g1 g2 hb3 hsz3 HST2 HB2
 generalize (w2.alloc (.cells #[.int .i64 (nb : Int), .int .i64 (nr : Int), .int .i64 (nd : Int), .int .i64 (nm : Int), .int .u64 s] 24)).alloc (.cells #[.int .u8 71, .int .u8 65] 5 (2, 3)) = w3 at *
 generalize w2.heap.size = CB at *
 have k0 := HC3.out.cell 0
 have k1 := HC3.out.cell 1
 have k2 := HC3.out.cell 2
 have k3 := HC3.out.cell 3
 simp at k0 k1 k2 k3
 have HLB := Lib.hid (Blk.new w3 3 #[.int .i64 (nb : Int), .int .i64 (nr : Int), .int .i64 (nd : Int), .int .i64 (nm : Int)])
 have HAL : Hid (Below w3.heap.size w3 (w3.alloc (.cells #[.int .i64 (nb : Int), .int .i64 (nr : Int), .int .i64 (nd : Int), .int .i64 (nm : Int)] 3))) := Lib.hid ((Below.refl _ _).alloc (Nat.le_refl _) _)
 have HC4 := Lib.hid (HC3.out.kept HAL.out)
 have HB4 := Lib.hid (btr HB3.out HAL.out)
 have HST4 := Lib.hid (HST3.out.kept HAL.out)
 have HMK4 := Lib.hid (HMK.out.kept HAL.out)
 have hsz4 := HB3.out.size
 go_wp2_with fail
 clear k0 k1 k2 k3 HC3 HB3 HST3 HMK HAL
 generalize w3.alloc (.cells #[.int .i64 (nb : Int), .int .i64 (nr : Int), .int .i64 (nd : Int), .int .i64 (nm : Int)] 3) = w4 at *
 generalize w3.heap.size = LB at *
 go_loopw [4, 22] (fun x i wr => ∃ j : Nat, j ≤ 4 ∧ i = .int .i64 (j : Int) ∧ BytesAt wr x ([71, 65] ++ numsB ([nb, nr, nd, nm].take j)) ∧ (0 < j → OwnB wr w.heap.size x ([71, 65] ++ numsB ([nb, nr, nd, nm].take j))) ∧ Blk wr LB 3 #[.int .i64 (nb : Int), .int .i64 (nr : Int), .int .i64 (nd : Int), .int .i64 (nm : Int)] ∧ Blk wr CB 24 #[.int .i64 (nb : Int), .int .i64 (nr : Int), .int .i64 (nd : Int), .int .i64 (nm : Int), .int .u64 s] ∧ StIs wr base S L nb nr nd nm s X A G C Z ∧ Below w.heap.size w wr) (fun _ i _ => 4 - (intOf i).toNat)
 case atStart => exact ⟨0, by omega, rfl, by simpa [numsB] using HMK4.out, fun h => by omega, HLB.out, HC4.out, HST4.out, HB4.out⟩
 case round =>
  obtain ⟨j, hj, rfl, hx, hox, hlb, hcb, hst, hbel⟩ := hrel
  obtain ⟨xo, xl, xc, rfl⟩ : ∃ xo xl xc, u4 = .slice xo xl xc := by obtain ⟨xo, xc, e, -⟩ := hx; exact ⟨xo, _, xc, e⟩
  have HX := Lib.hid hx
  have HOX := Lib.hid hox
  have HLB5 := Lib.hid hlb
  have HC5 := Lib.hid hcb
  have HST5 := Lib.hid hst
  have HB5 := Lib.hid hbel
  clear hx hox hlb hcb hst hbel HMK4 HLB HC4 HST4 HB4
  by_cases hlt : j < 4
  ·obtain ⟨q, hq1, hq2, hq3, hq4⟩ := four_step hb59 hr8 hd128 hm3 hlt
   have HQ := Lib.hid hq2
   have cx := (HLB5.out.cell j).trans hq3
   have i0 : (0 : Int) ≤ (j : Int) := by omega
   have i1 : (j : Int) < 4 := by omega
   have PP := Lib.hid (put_any' wr _ _ q HX.out (by omega) (by simp; omega))
   have e1 : IntKind.u64.wrap (q : Int) = (q : Int) := by rw [wrapU_mod]; omega
   clear hq2 hq3
   go_wp2_with fail
   with_reducible refine PP.out.mono ?_
   rintro e w6 ⟨v6, rfl, ho6, hb6⟩
   have HO6 : Hid (OwnB w6 w.heap.size v6 ([71, 65] ++ numsB ([nb, nr, nd, nm].take (j + 1)))) := Lib.hid (by rw [HQ.out, numsB_snoc, ← List.append_assoc]; exact ho6.pre HB5.out.size)
   have HB6 := Lib.hid (btr HB5.out hb6)
   have HLB6 := Lib.hid (HLB5.out.kept hb6)
   have HC6 := Lib.hid (HC5.out.kept hb6)
   have HST6 := Lib.hid (HST5.out.kept hb6)
   obtain ⟨vo, vl, vc, rfl⟩ := ho6.open2
   clear ho6 hb6 PP HX HOX HLB5 HC5 HST5 HB5
   go_wp2
   go_roundw
   case rel => exact ⟨j + 1, by omega, by go_num, HO6.out.at, fun _ => HO6.out, HLB6.out, HC6.out, HST6.out, HB6.out⟩
   case measure => simp [intOf]; omega
  ·obtain rfl : j = 4 := by omega
   have HO5 : Hid (OwnB wr w.heap.size (.slice xo xl xc) ([71, 65] ++ numsB [nb, nr, nd, nm])) := Lib.hid (HOX.out (by omega))
   have HLN : Hid (([71, 65] ++ numsB [nb, nr, nd, nm]).length ≤ 1000) := Lib.hid (by
    have := numsB_le (ns := [nb, nr, nd, nm]) (fun k hk => by simp at hk; omega)
    simp only [List.length_append, List.length_cons, List.length_nil] at this ⊢
    omega)
   have HHD : Hid ([71, 65] ++ numsB [nb, nr, nd, nm] ++ leB s 8 = headB (nb : Int) nr nd nm s) := Lib.hid (by simp [headB, numsB])
   have k4 := HC5.out.cell 4
   simp at k4
   have PLW : Hid (Calls Tryz.prog 31 #[.slice xo xl xc, .int .u64 s, .int .i64 8] wr (OwnPost wr w.heap.size (.slice xo xl xc) ([71, 65] ++ numsB [nb, nr, nd, nm] ++ leB s 8))) := Lib.hid (low_any wr w.heap.size _ _ s 8 HO5.out HB5.out.size s0 (by omega) (by decide) (by have := HLN.out; omega))
   have i1 : ¬ ((4 : Nat) : Int) < 4 := by omega
   rw [HHD.out] at PLW
   clear hlt HX HOX HLN
   go_wp2_with fail
   with_reducible refine PLW.out.mono ?_
   rintro e w6 ⟨v6, rfl, ho6, hg6, -⟩
   have HO6 := Lib.hid ho6
   have HB6 : Hid (Below w.heap.size w w6) := Lib.hid (HB5.out.grown hg6 HB5.out.size (fun k e => (HO5.out.lt k e).1))
   have HC6 : Hid (Blk w6 CB 24 #[.int .i64 (nb : Int), .int .i64 (nr : Int), .int .i64 (nd : Int), .int .i64 (nm : Int), .int .u64 s]) := Lib.hid (HC5.out.grown hg6 (HO5.out.far HC5.out (by decide)))
   obtain ⟨vo, vl, vc, rfl⟩ := ho6.open2
   have k0 := HC6.out.cell 0
   simp at k0
   have HLT : Hid (∀ j, j ≤ nb + 1 → (headB (nb : Int) nr nd nm s ++ rowsB Z j).length ≤ 100000) := Lib.hid (fun j hj => by
    have h1 := HL.out
    have h2 : ∀ i, (rowsB Z j).length ≤ (rowsB Z (j + i)).length := fun i => by
     induction i with
     | zero => exact Nat.le_refl _
     | succ i ih => rw [← Nat.add_assoc, rowsB, List.length_append]; omega
    have h3 := h2 (nb + 1 - j)
    rw [show j + (nb + 1 - j) = nb + 1 by omega] at h3
    rw [List.length_append] at h1 ⊢
    simp only [Int.toNat_natCast] at h1
    omega)
   clear ho6 hg6 PLW HO5 HC5 HB5 HST5 HLB5 HHD
   go_wp2_with fail
   clear k0 k4
   generalize wr = wo at *
   go_loopw [4, 38] (fun x i wr => ∃ j : Nat, j ≤ nb + 1 ∧ i = .int .i64 (j : Int) ∧ OwnB wr w.heap.size x (headB (nb : Int) nr nd nm s ++ rowsB Z j) ∧ Blk wr CB 24 #[.int .i64 (nb : Int), .int .i64 (nr : Int), .int .i64 (nd : Int), .int .i64 (nm : Int), .int .u64 s] ∧ Below w.heap.size w wr) (fun _ i _ => nb + 1 - (intOf i).toNat)
   case atStart => exact ⟨0, by omega, rfl, by simpa [rowsB] using HO6.out, HC6.out, HB6.out⟩
   case round =>
    obtain ⟨j, hj, rfl, hox, hcb, hbel⟩ := hrel
    have HO7 := Lib.hid hox
    have HC7 := Lib.hid hcb
    have HB7 := Lib.hid hbel
    obtain ⟨xo, xl, xc, rfl⟩ := hox.open2
    clear hox hcb hbel HO6 HC6 HB6
    by_cases hlt : j < nb + 1
    ·have i0 : (0 : Int) ≤ (j : Int) := by omega
     have i1 : (j : Int) < (nb : Int) + 1 := by omega
     have hlev := HST.out.lev j (by simp; omega)
     have hzf := hlev.fit
     have hzl := hlev.le
     have hz0' : 0 < (Z j).length := by rw [hlev.len]; exact cellsN_pos HST.out.right (by omega) (by omega)
     have HZF := Lib.hid hzf
     have HZL := Lib.hid hzl
     have HRP : Hid (0 < (rowB (Z j)).length) := Lib.hid (by have := rowB_ge (Z j); omega)
     have HRL : Hid ((rowB (Z j)).length ≤ 10240) := Lib.hid (by have := rowB_le (Z j) hzf; omega)
     have PCE := Lib.hid (stcells wr base S L nb nr nd nm s X A G C Z (HST.out.kept HB7.out) j (by simp; omega))
     have HLJ := Lib.hid (HLT.out j (by omega))
     clear hlev hzf hzl hz0'
     go_wp2_with fail
     with_reducible refine PCE.out.mono ?_
     rintro e w8 ⟨v8, rfl, ho8, -, hb8⟩
     have HB8 := Lib.hid (btr HB7.out hb8)
     have HO8 := Lib.hid (HO7.out.kept hb8)
     have HC8 := Lib.hid (HC7.out.kept hb8)
     have hints : IntsAt w8 v8 (Z j) := IntsAt.of_own ho8 rfl
     have PPR : Hid (Calls Tryz.prog 133 #[.slice none 0 0, v8] w8 (PostC w8 (rowB (Z j)))) := Lib.hid (by simpa using putrow_any w8 (.slice none 0 0) v8 [] (Z j) ⟨none, 0, rfl, by simp, by unfold maxLen; omega, .inl ⟨rfl, rfl⟩⟩ hints HZF.out (by simp) (by have := HZL.out; omega))
     obtain ⟨yo, yl, yc, rfl⟩ : ∃ yo yl yc, v8 = .slice yo yl yc := by obtain ⟨yo, yc, e, -⟩ := hints; exact ⟨yo, _, yc, e⟩
     clear ho8 hb8 hints PCE HO7 HC7 HB7
     go_wp2_with fail
     with_reducible refine PPR.out.mono ?_
     rintro e w9 ⟨v9, rfl, ho9, hb9⟩
     have HB9 := Lib.hid (btr HB8.out hb9)
     have HO9 := Lib.hid (HO8.out.kept hb9)
     have HC9 := Lib.hid (HC8.out.kept hb9)
     obtain ⟨ao9, cap9, e9, hc9, hm9, -⟩ := ho9.at
     have HNW := Lib.hid (BytesAt.news (n := (rowB (Z j)).length) (by rw [← e9]; exact ho9.at) rfl w9 (Below.refl _ _))
     subst e9
     obtain ⟨ad9, ead, hnw⟩ := HNW.out HRP.out
     subst ead
     have HNW2 := Lib.hid hnw
     obtain ⟨rl, hrl⟩ : ∃ rl, rl = (rowB (Z j)).length := ⟨_, rfl⟩
     have HRLQ := Lib.hid hrl
     rw [← hrl] at hc9 HRL HRP HNW ⊢
     have hc1 : (headB (nb : Int) nr nd nm s ++ rowsB Z j).length + rl ≤ maxLen := by have := HLJ.out; have := HRL.out; unfold maxLen; omega
     have hc4 : ((headB (nb : Int) nr nd nm s ++ rowsB Z j).length + rl) * 1 ≤ 140737488355328 := by have := HLJ.out; have := HRL.out; omega
     clear hnw ho9 hb9 hrl PPR HO8 HC8 HB8
     go_wp2_with (at_builtin; go_loud (refine wpList_append_own_at _ rfl _ _ 41 rfl w.heap.size 5 i0' (.int .u8 0) 1 1 Tryz.underlying41 hi hz0 hz1 hz2 rfl (by decide) _ (headB (nb : Int) nr nd nm s ++ rowsB Z j).length _ rfl HO9.out ad9 rl cap9 ((rowB (Z j)).map (Value.int .u8)) rfl (by rw [List.length_map, Nat.mul_one]; exact HRLQ.out.symm) HNW2.out ?c2 hc1 hc4 ?c5 ?_))
     case c2 => exact fun u hu => by obtain ⟨z, -, rfl⟩ := List.mem_map.1 hu; rfl
     case c5 => exact HB9.out.size
     intro va wa hown' hgrow hnil' hq9
     have HOA : Hid (OwnB wa w.heap.size va (headB (nb : Int) nr nd nm s ++ rowsB Z (j + 1))) := Lib.hid (by
      unfold OwnB
      rw [rowsB, ← List.append_assoc, List.length_append (bs := rowB (Z j)), ← HRLQ.out, List.map_append]
      simpa using hown')
     have HBA : Hid (Below w.heap.size w wa) := Lib.hid (HB9.out.grown hgrow HB9.out.size (fun k e => (HO9.out.lt k e).1))
     have HCA : Hid (Blk wa CB 24 #[.int .i64 (nb : Int), .int .i64 (nr : Int), .int .i64 (nd : Int), .int .i64 (nm : Int), .int .u64 s]) := Lib.hid (HC9.out.grown hgrow (HO9.out.far HC9.out (by decide)))
     obtain ⟨zo, zl, zc, rfl⟩ := HOA.out.open2
     clear hown' hgrow hnil' hq9 HO9 HC9 HB9 hc1 hc4
     go_wp2
     go_roundw
     case rel => exact ⟨j + 1, by omega, by go_num, HOA.out, HCA.out, HBA.out⟩
     case measure => simp [intOf]; omega
    ·obtain rfl : j = nb + 1 := by omega
     have i1 : ¬ (((nb + 1 : Nat) : Int) < (nb : Int) + 1) := by omega
     have HLJ := Lib.hid (HLT.out (nb + 1) (by omega))
     have HBY : Hid (Byts (headB (nb : Int) nr nd nm s ++ rowsB Z (nb + 1))) := Lib.hid ((headB_byts _ _ _ _ _).append (rowsB_byts _ _))
     have HEN : Hid (encB (nb : Int) nr nd nm s Z = (headB (nb : Int) nr nd nm s ++ rowsB Z (nb + 1)) ++ leB (sumI 0 (headB (nb : Int) nr nd nm s ++ rowsB Z (nb + 1))) 4) := Lib.hid rfl
     have PSU := Lib.hid (sum_any (.slice xo xl xc) _ wr HO7.out.at HBY.out HLJ.out)
     have hsb := sumI_bd 0 (headB (nb : Int) nr nd nm s ++ rowsB Z (nb + 1))
     generalize headB (nb : Int) nr nd nm s ++ rowsB Z (nb + 1) = body at *
     generalize sumI 0 body = sm at *
     have e5 : IntKind.u64.wrap sm = sm := u32_u64 sm hsb.1 hsb.2
     clear hlt HLT
     go_wp2_with fail
     with_reducible refine PSU.out.mono ?_
     rintro e w8 ⟨rfl, hb8⟩
     have HB8 := Lib.hid (btr HB7.out hb8)
     have HO8 := Lib.hid (HO7.out.kept hb8)
     have PLW : Hid (Calls Tryz.prog 31 #[.slice xo xl xc, .int .u64 sm, .int .i64 4] w8 (OwnPost w8 w.heap.size (.slice xo xl xc) (body ++ leB sm 4))) := Lib.hid (low_any w8 w.heap.size _ _ sm 4 HO8.out HB8.out.size hsb.1 (by omega) (by decide) (by have := HLJ.out; omega))
     clear hb8 PSU HO7 HB7 HC7
     go_wp2_with fail
     with_reducible refine PLW.out.mono ?_
     rintro e w9 ⟨v9, rfl, ho9, hg9, -⟩
     have HO9 := Lib.hid ho9
     have HB9 : Hid (Below w.heap.size w w9) := Lib.hid (HB8.out.grown hg9 HB8.out.size (fun k e => (HO8.out.lt k e).1))
     clear ho9 hg9 PLW
     go_wp2
     go_ret
     exact ⟨_, rfl, by rw [HEN.out]; exact HO9.out, HB9.out⟩
end Go.Proofs.YtfeficdndjiijaaGreatDoor


namespace Go.Proofs.YtfeficdndjiijaaGreatDoor
open Go.RowKit
set_option linter.unusedVariables false
set_option linter.unusedSimpArgs false

def shBytes : Sh := .slice (.int .u8)
def ArgB (w : World) (v : Value) (bs : List Int) : Prop :=
  ∃ (ao : Option Addr) (cap : Nat), v = .slice ao bs.length cap ∧ bs.length ≤ cap ∧ cap ≤ maxLen ∧ (0 < bs.length → ∃ g off, ao = some ⟨g, off, none⟩ ∧ g < w.heap.size ∧ ∀ (i : Nat) (u : Int), bs[i]? = some u → w.cell? ⟨g, off + i, none⟩ = some (.int .u8 u))
theorem bytes_of_val {w : World} {v : Value} (h : shBytes.Val w v) : ∃ bs, ArgB w v bs ∧ Byts bs := by
 obtain ⟨ao, len, cap, h1, hl, hm, hx⟩ := h
 have h1 : v = .slice ao len cap := by simpa using h1
 subst h1
 by_cases h0 : 0 < len
 ·obtain ⟨b, off, rfl, hb, hc⟩ := hx h0
  have key : ∀ i, i < len → ∃ x : Int, (0 ≤ x ∧ x ≤ 255) ∧ w.cell? ⟨b, off + i, none⟩ = some (.int .u8 x) := by
   intro i hi
   obtain ⟨cs', hcl, hcell, hr⟩ := hc i hi
   obtain ⟨n, rfl, hn⟩ := hr
   have := hcell 0 (by decide)
   refine ⟨n, ?_, by simpa [Sh.size] using this⟩
   have h2 := hn
   simp [Lit.wf, IntKind.min, IntKind.max, IntKind.signed, IntKind.bits] at h2
   omega
  refine ⟨(List.range len).map fun i => if h : i < len then (key i h).choose else 0, ⟨some ⟨b, off, none⟩, cap, by simp, by simpa using hl, hm, fun _ => ⟨b, off, rfl, hb, fun i u hu => ?_⟩⟩, fun u hu => ?_⟩
  ·have hi : i < len := by
    have := (List.getElem?_eq_some_iff.1 hu).1
    simpa using this
   simp [hi] at hu
   subst hu
   exact (key i hi).choose_spec.2
  ·simp at hu
   obtain ⟨i, hi, rfl⟩ := hu
   simp only [dif_pos hi]
   exact (key i hi).choose_spec.1
 ·obtain rfl : len = 0 := by omega
  exact ⟨[], ⟨ao, cap, rfl, by simp, hm, fun h => by simp at h⟩, fun u hu => by simp at hu⟩
theorem ArgB.kept {w w' : World} {v : Value} {bs : List Int} (h : ArgB w v bs) (hb : Below w.heap.size w w') : ArgB w' v bs := by
  obtain ⟨ao, cap, e, hc, hm, h⟩ := h
  refine ⟨ao, cap, e, hc, hm, fun h0 => ?_⟩
  obtain ⟨b, off, e2, hg, hc⟩ := h h0
  exact ⟨b, off, e2, Nat.lt_of_lt_of_le hg hb.size, fun i u hu => (hb.cell (p := ⟨b, off + i, none⟩) hg).trans (hc i u hu)⟩
theorem ArgB.news {w : World} {ao : Option Addr} {n cap : Nat} {bs : List Int} (h : ArgB w (.slice ao n cap) bs) (k : Nat) (hk : k ≤ n) :
    0 < k → ∃ ad, ao = some ad ∧ ∀ j u, ((bs.take k).map (Value.int .u8))[j]? = some u → w.cell? (ad.add j) = some u := by
  intro h0
  obtain ⟨ao2, cap2, e, h1, h2, h3⟩ := h
  simp only [Value.slice.injEq] at e
  obtain ⟨rfl, rfl, rfl⟩ := e
  obtain ⟨g, off, rfl, hg, hcc⟩ := h3 (by omega)
  refine ⟨_, rfl, fun j u hu => ?_⟩
  rw [List.getElem?_map, List.getElem?_take] at hu
  split at hu
  · cases hz : bs[j]? with
    | none => rw [hz] at hu; simp at hu
    | some z =>
      rw [hz] at hu
      simp at hu
      subst hu
      rw [addr_add]
      exact hcc j z hz
  · simp at hu
def cutN (n : Nat) : Nat := min n 1000
def cutB (bs : List Int) (sg : Bool) : List Int := if sg then signB (bs.take (cutN bs.length)) else bs.take (cutN bs.length)
theorem cutB_byts {bs : List Int} (h : Byts bs) (sg : Bool) : Byts (cutB bs sg) := by
  unfold cutB
  split
  · exact signB_byts (h.take _)
  · exact h.take _
theorem cutB_len (bs : List Int) (sg : Bool) : (cutB bs sg).length ≤ 1004 := by
  unfold cutB cutN
  split
  · rw [signB_len]; simp; omega
  · simp; omega
end Go.Proofs.YtfeficdndjiijaaGreatDoor


namespace Go.Proofs.YtfeficdndjiijaaGreatDoor
open Go.RowKit
set_option linter.unusedVariables false
set_option linter.unusedSimpArgs false

theorem taExEx (a : Addr) (w : World) : (Instr.typeAssert (.iface 232 (.pointer (some a))) 174 232 true).run Tryz.prog w = .ok (.tuple #[.pointer (some a), .bool true]) w := by kernel_rfl
theorem taExSk (a : Addr) (w : World) : (Instr.typeAssert (.iface 232 (.pointer (some a))) 174 235 true).run Tryz.prog w = .ok (.tuple #[.pointer none, .bool false]) w := by kernel_rfl
theorem taSkSk (a : Addr) (w : World) : (Instr.typeAssert (.iface 235 (.pointer (some a))) 174 235 true).run Tryz.prog w = .ok (.tuple #[.pointer (some a), .bool true]) w := by kernel_rfl
theorem taSkEx (a : Addr) (w : World) : (Instr.typeAssert (.iface 235 (.pointer (some a))) 174 232 true).run Tryz.prog w = .ok (.tuple #[.pointer none, .bool false]) w := by kernel_rfl
theorem asSk_ex (a : Addr) (w : World) : Calls Tryz.prog 216 #[.iface 232 (.pointer (some a))] w fun e w' => e = .returned (.tuple #[.pointer none, .bool false]) ∧ w = w' := by
  have t0 := taExSk a
  go_enter Tryz.func216, Tryz.ntmps216
  go_wp2_with fail
  go_ret2
  exact ⟨rfl, rfl⟩
theorem sketches_ex (x : Value) (a : Addr) (w : World) : Calls Tryz.prog 183 #[x, .iface 232 (.pointer (some a))] w fun e w' => e = .returned (.tuple #[.pointer none, .pointer none, .bool false]) ∧ w = w' := by
  have P := Lib.hid (asSk_ex a)
  go_enter Tryz.func183, Tryz.ntmps183
  go_wp2_with fail
  with_reducible refine (P.out _).mono ?_
  rintro e w1 ⟨rfl, hw⟩
  subst hw
  go_wp2_with fail
  refine bodyPost_ret (results_tmp3 rfl _ _ _) rfl ?_
  exact ⟨rfl, rfl⟩
theorem arrays_ex (a b : Addr) (w : World) : Calls Tryz.prog 185 #[.iface 232 (.pointer (some a)), .iface 232 (.pointer (some b))] w fun e w' => e = .returned (.tuple #[.pointer (some a), .pointer (some b), .bool true]) ∧ w = w' := by
  have t0 := taExEx a
  have t1 := taExEx b
  go_enter Tryz.func185, Tryz.ntmps185
  go_wp2_with fail
  refine bodyPost_ret (results_tmp3 rfl _ _ _) rfl ?_
  exact ⟨rfl, rfl⟩
theorem alike_yes (w : World) (S1 S2 : Nat) (b r d m s : Int) (h1 : ∀ wq, Below w.heap.size w wq → Calls Tryz.prog 84 #[.pointer (some ⟨S1, 0, none⟩)] wq fun e w' => e = .returned (.agg #[.int .i64 b, .int .i64 r, .int .i64 d, .int .i64 m, .int .u64 s]) ∧ Below wq.heap.size wq w')
  (h2 : ∀ wq, Below w.heap.size w wq → Calls Tryz.prog 84 #[.pointer (some ⟨S2, 0, none⟩)] wq fun e w' => e = .returned (.agg #[.int .i64 b, .int .i64 r, .int .i64 d, .int .i64 m, .int .u64 s]) ∧ Below wq.heap.size wq w') :
  Calls Tryz.prog 139 #[.pointer (some ⟨S1, 0, none⟩), .pointer (some ⟨S2, 0, none⟩)] w fun e w' => e = .returned (.bool true) ∧ Below w.heap.size w w' := by
 have hgd : Tryz.prog.eqGuardType Tryz.prog.depth 24 = false := by kernel_rfl
 have EQ := eqCfg b r d m s b r d m s
 have hq : cfgEq b r d m s b r d m s = true := by simp [cfgEq]
 rw [hq] at EQ
 have P1 := Lib.hid h1
 have P2 := Lib.hid h2
 clear h1 h2 hq
 go_enter Tryz.func139, Tryz.ntmps139
 go_wp2_with fail
 with_reducible refine (P1.out _ (Below.refl _ _)).mono ?_
 rintro e w1 ⟨rfl, hb1⟩
 have HB1 := Lib.hid hb1
 clear hb1
 go_wp2_with fail
 with_reducible refine (P2.out _ HB1.out).mono ?_
 rintro e w2 ⟨rfl, hb2⟩
 have HB2 := Lib.hid (btr HB1.out hb2)
 clear hb2
 go_wp2_with fail
 go_ret
 exact ⟨rfl, HB2.out⟩
set_option maxRecDepth 100000 in
set_option maxHeartbeats 4000000 in
theorem times_small (a b : Nat) (ha : a ≤ 1000000) (hb : b ≤ 1000000) (w : World) :
  Calls Tryz.prog 222 #[.int .i64 (a : Int), .int .i64 (b : Int)] w fun e w' => e = .returned (.agg #[.int .i64 0, .int .u64 ((a * b : Nat) : Int)]) ∧ Below w.heap.size w w' := by
 have hab : a * b ≤ 1000000 * 1000000 := Nat.mul_le_mul ha hb
 have PM := Lib.hid (fun w => Tryz.bits_Mul64 a b (by omega) (by omega) w)
 have e1 : a * b / 18446744073709551616 = 0 := Nat.div_eq_of_lt (by omega)
 have e2 : a * b % 18446744073709551616 = a * b := Nat.mod_eq_of_lt (by omega)
 rw [e1, e2] at PM
 have u1 : IntKind.u64.wrap (a : Int) = (a : Int) := by rw [wrapU_eq]; omega
 have u2 : IntKind.u64.wrap (b : Int) = (b : Int) := by rw [wrapU_eq]; omega
 have n1 : ¬ ((a : Int) < 0) := by omega
 have n2 : ¬ ((b : Int) < 0) := by omega
 obtain ⟨p, hp⟩ : ∃ p : Int, p = ((a * b : Nat) : Int) := ⟨_, rfl⟩
 rw [← hp] at PM ⊢
 clear hab e1 e2 hp
 go_enter Tryz.func222, Tryz.ntmps222
 go_wp2_with fail
 with_reducible refine (PM.out _).mono ?_
 rintro e w1 ⟨rfl, hw⟩
 subst hw
 go_wp2_with fail
 refine bodyPost_ret (results_cell_row rfl _ _ w.heap.size 143 _ (0, 0) _ rfl (Blk.new w _ _) Tryz.underlying143 rfl (by kernel_rfl)) rfl ?_
 exact ⟨rfl, (Below.refl _ w).alloc (Nat.le_refl _) _⟩
theorem results_row_tmp {P : Program} {fn : Func} {p q : Tmp} {ty : TypeId} (h : fn.results = #[.cell q ty, .tmp p]) (tmps : Array Value) (w : World) (g : Nat) (t : TypeId) (cs : Array Value) (fr : Nat × Nat) (d : TypeDesc)
    (hq : tmps.getD q undef = .pointer (some ⟨g, 0, none⟩)) (hg : w.heap[g]? = some (.cells cs t fr))
    (hu : P.underlying ty = some d) (hd : (match d with | .struct _ | .array _ _ => true | _ => false) = true) (hi : (P.info? ty).map (·.size) = some cs.size) :
    (results fn tmps).run P w = .ok (.tuple #[.agg cs, tmps.getD p undef]) w := by
  have hq' : tmps[q]?.getD undef = .pointer (some ⟨g, 0, none⟩) := by simpa using hq
  simp [results, h, hq', asAddr, run_loadVar_row w g t ty cs fr d hg hu hd hi]
def dotN (zs hs : List Int) : Nat → Nat
  | 0 => 0
  | j + 1 => dotN zs hs j + (cellD zs j).toNat * (cellD hs j).toNat
theorem dotN_le (zs hs : List Int) (hz : ∀ j, (cellD zs j).toNat ≤ 1000000) (hh : ∀ j, (cellD hs j).toNat ≤ 1000000) : ∀ j, dotN zs hs j ≤ j * 1000000000000
  | 0 => Nat.zero_le _
  | j + 1 => by
    have h1 := dotN_le zs hs hz hh j
    have h2 := Nat.mul_le_mul (hz j) (hh j)
    rw [dotN]
    omega
set_option maxRecDepth 100000 in
set_option maxHeartbeats 8000000 in
theorem dot_small (w : World) (C D ca cb n : Nat) (zs hs : List Int) (hn : n ≤ 2000) (hlz : zs.length = n) (hlh : hs.length = n) (hz : ∀ x ∈ zs, 0 ≤ x ∧ x ≤ 1000000) (hh : ∀ x ∈ hs, 0 ≤ x ∧ x ≤ 1000000)
  (hC : ∀ i u, zs[i]? = some u → w.cell? ⟨C, i, none⟩ = some (.int .i64 u)) (hD : ∀ i u, hs[i]? = some u → w.cell? ⟨D, i, none⟩ = some (.int .i64 u)) (lC : C < w.heap.size) (lD : D < w.heap.size) :
  Calls Tryz.prog 188 #[.slice (some ⟨C, 0, none⟩) n ca, .slice (some ⟨D, 0, none⟩) n cb] w fun e w' => e = .returned (.tuple #[.agg #[.int .i64 0, .int .u64 ((dotN zs hs n : Nat) : Int)], .bool true]) ∧ Below w.heap.size w w' := by
 have bd : ∀ (l : List Int), (∀ x ∈ l, 0 ≤ x ∧ x ≤ 1000000) → ∀ j, (cellD l j).toNat ≤ 1000000 := fun l hl j => by
  unfold cellD
  cases hx : l[j]? with
  | none => simp
  | some x => have := hl x (List.mem_of_getElem? hx); simp; omega
 have HDN := Lib.hid (dotN_le zs hs (bd zs hz) (bd hs hh))
 have HC := Lib.hid hC
 have HD := Lib.hid hD
 have HLZ := Lib.hid hlz
 have HLH := Lib.hid hlh
 have HZ := Lib.hid hz
 have HH := Lib.hid hh
 have HL := Lib.hid (And.intro lC lD)
 clear hC hD hlz hlh hz hh lC lD bd
 go_enter Tryz.func188, Tryz.ntmps188
 go_wp2_with fail
 obtain ⟨ga, gb, gc, gd⟩ := news2 w (.cells #[.int .i64 0, .int .u64 0] 143) (.cells #[.int .i64 0, .int .u64 0] 143)
 have HGA : Hid (Blk _ w.heap.size 143 #[.int .i64 0, .int .u64 0]) := Lib.hid ga
 have HGB : Hid (Blk _ (w.heap.size + 1) 143 #[.int .i64 0, .int .u64 0]) := Lib.hid gb
 have HB1 := Lib.hid gc
 clear ga gb gc gd
 generalize ((w.alloc (.cells #[.int .i64 0, .int .u64 0] 143)).alloc (.cells #[.int .i64 0, .int .u64 0] 143)) = w1 at *
 go_loopw [19] (fun i wr => ∃ j : Nat, j ≤ n ∧ i = .int .i64 (j : Int) ∧ Blk wr (w.heap.size + 1) 143 #[.int .i64 0, .int .u64 ((dotN zs hs j : Nat) : Int)] ∧ (∃ cs, Blk wr w.heap.size 143 cs ∧ cs.size = 2) ∧ Below w.heap.size w wr) (fun i _ => n - (intOf i).toNat)
 case atStart => exact ⟨0, by omega, rfl, HGB.out, ⟨_, HGA.out, rfl⟩, HB1.out⟩
 case round =>
  obtain ⟨j, hj, rfl, hbo, hbr, hbel⟩ := hrel
  have HBO := Lib.hid hbo
  have HBR := Lib.hid hbr
  have HBL := Lib.hid hbel
  clear hbo hbr hbel HGA HGB HB1
  by_cases hlt : j < n
  ·obtain ⟨x, hx⟩ : ∃ x, zs[j]? = some x := ⟨_, List.getElem?_eq_getElem (by have := HLZ.out; omega)⟩
   obtain ⟨y, hy⟩ : ∃ y, hs[j]? = some y := ⟨_, List.getElem?_eq_getElem (by have := HLH.out; omega)⟩
   have cx : wr.cell? ⟨C, j, none⟩ = some (.int .i64 x) := by
    rw [World.cell?_of_block (HBL.out.block C HL.out.1)]; exact HC.out j x hx
   have cy : wr.cell? ⟨D, j, none⟩ = some (.int .i64 y) := by
    rw [World.cell?_of_block (HBL.out.block D HL.out.2)]; exact HD.out j y hy
   have htL : (j : Int) < (n : Int) := by omega
   have ht0 : (0 : Int) ≤ (j : Int) := by omega
   have HST : Hid (dotN zs hs (j + 1) = dotN zs hs j + x.toNat * y.toNat) := Lib.hid (by rw [dotN]; simp [cellD, hx, hy])
   have hx2 := HZ.out x (List.mem_of_getElem? hx)
   have hy2 := HH.out y (List.mem_of_getElem? hy)
   clear hx hy
   obtain ⟨a, rfl⟩ : ∃ a : Nat, x = (a : Int) := ⟨x.toNat, by omega⟩
   obtain ⟨b, rfl⟩ : ∃ b : Nat, y = (b : Int) := ⟨y.toNat, by omega⟩
   have hab : a * b ≤ 1000000 * 1000000 := Nat.mul_le_mul (by omega) (by omega)
   have hdn := HDN.out j
   have PT := Lib.hid (fun w => times_small a b (by omega) (by omega) w)
   have PA := Lib.hid (fun w => wadd_any 0 ((dotN zs hs j : Nat) : Int) 0 ((a * b : Nat) : Int) 0 ((dotN zs hs (j + 1) : Nat) : Int) (by omega) (by omega) (by omega) (by omega) (by omega) (by omega) (by omega) (by omega) (by omega) (by rw [HST.out]; simp only [Int.toNat_natCast]; omega) (by omega) (by omega) w)
   generalize ((dotN zs hs j : Nat) : Int) = P at *
   obtain ⟨P', hP'⟩ : ∃ P', P' = ((dotN zs hs (j + 1) : Nat) : Int) := ⟨_, rfl⟩
   rw [← hP'] at PA
   have HP' := Lib.hid hP'
   clear hP'
   generalize ((a * b : Nat) : Int) = AB at *
   clear hab hdn hx2 hy2 HST
   go_wp2_with fail
   refine wp_region_held_drew (S := fun w' => Below wr.heap.size wr w') (by kernel_rfl) (by exact below_drewN (Below.refl _ _) 1) (fun hHeld => ?_)
   refine tkH (i := 0) (v := ?_) rfl (by kernel_rfl) (fun _ _ _ h => h) (Or.inl ⟨by rfl, ?_⟩) (by assumption) ?_
   rotate_left
   ·intro w hSw
    have q1 := HBO.out.kept hSw
    have q2 : w.cell? ⟨D, j, none⟩ = some (.int .i64 (b : Int)) := (World.cell?_of_block (hSw.block D (by have := HL.out.2; have := HBL.out.size; omega))).trans cy
    try (refine (exec_load_row 143 _ rfl _ rfl 143 _ (0, 0) _ q1 Tryz.underlying143 rfl (by kernel_rfl)).trans ?_)
    go_simp
    try with_reducible rfl
   simp only [Act.put, z1, z2, z3, z4, z5, z6]
   refine tkH (i := 1) (v := ?_) rfl (by kernel_rfl) (fun _ _ _ h => h) (Or.inl ⟨by rfl, ?_⟩) (by assumption) ?_
   rotate_left
   ·intro w hSw
    try dsimp only at hSw
    go_simp
    try with_reducible rfl
   simp only [Act.put, z1, z2, z3, z4, z5, z6]
   refine tkH (i := 2) (v := ?_) rfl (by kernel_rfl) (fun _ _ _ h => h) (Or.inl ⟨by rfl, ?_⟩) (by assumption) ?_
   rotate_left
   ·intro w hSw
    try dsimp only at hSw
    go_simp
    try with_reducible rfl
   simp only [Act.put, z1, z2, z3, z4, z5, z6]
   refine tkH (i := 3) (v := ?_) rfl (by kernel_rfl) (fun _ _ _ h => h) (Or.inl ⟨by rfl, ?_⟩) (by assumption) ?_
   rotate_left
   ·intro w hSw
    try dsimp only at hSw
    go_simp
    try with_reducible rfl
   simp only [Act.put, z1, z2, z3, z4, z5, z6]
   refine tkH (i := 4) (v := ?_) rfl (by kernel_rfl) (fun _ _ _ h => h) (Or.inl ⟨by rfl, ?_⟩) (by assumption) ?_
   rotate_left
   ·intro w hSw
    try dsimp only at hSw
    go_simp
    try with_reducible rfl
   simp only [Act.put, z1, z2, z3, z4, z5, z6]
   refine tkH (i := 5) (v := ?_) rfl (by kernel_rfl) (fun _ _ _ h => h) (Or.inl ⟨by rfl, ?_⟩) (by assumption) ?_
   rotate_left
   ·intro w hSw
    have q1 := HBO.out.kept hSw
    have q2 : w.cell? ⟨D, j, none⟩ = some (.int .i64 (b : Int)) := (World.cell?_of_block (hSw.block D (by have := HL.out.2; have := HBL.out.size; omega))).trans cy
    try (refine (exec_load_row 143 _ rfl _ rfl 143 _ (0, 0) _ q1 Tryz.underlying143 rfl (by kernel_rfl)).trans ?_)
    go_simp
    try with_reducible rfl
   simp only [Act.put, z1, z2, z3, z4, z5, z6]
   refine wpAnyH_ready (rs := [6, 11]) (by kernel_rfl) (by simp) ?_
   refine AllReadyH.cons rfl (fun Kc hKc => ?_) (AllReadyH.cons rfl (fun Kc hKc => ?_) AllReadyH.nil)
   ·go_simp
    go_wp2_with (first | ((with_reducible refine (PT.out _).mono ?_); rintro e wq ⟨rfl, hb'⟩; try have HAQ := Lib.hid (HAQ.out.kept hb')) | ((with_reducible refine (PA.out _).mono ?_); rintro e wq ⟨rfl, hb'⟩; try have HAQ := Lib.hid (HAQ.out.kept hb')))
    refine hKc.out _ _ ?_ (fun hHeld => ?_)
    ·first | assumption | exact hHeld | exact btr hHeld hb' | exact hHeld.alloc hHeld.size _ | exact below_setRow hHeld hPrev.out _
    clear hKc Kc
    refine wpAnyH_ready (rs := [7, 11]) (by kernel_rfl) (by simp) ?_
    refine AllReadyH.cons rfl (fun Kc hKc => ?_) (AllReadyH.cons rfl (fun Kc hKc => ?_) AllReadyH.nil)
    ·go_simp
     go_wp2_with (first | ((with_reducible refine (PT.out _).mono ?_); rintro e wq ⟨rfl, hb'⟩; try have HAQ := Lib.hid (HAQ.out.kept hb')) | ((with_reducible refine (PA.out _).mono ?_); rintro e wq ⟨rfl, hb'⟩; try have HAQ := Lib.hid (HAQ.out.kept hb')))
     refine hKc.out _ _ ?_ (fun hHeld => ?_)
     ·first | assumption | exact hHeld | exact btr hHeld hb' | exact hHeld.alloc hHeld.size _ | exact below_setRow hHeld hPrev.out _
     clear hKc Kc
     refine tkH (i := 8) (v := ?_) rfl (by kernel_rfl) (fun _ _ _ h => h) (Or.inl ⟨by rfl, ?_⟩) (by assumption) ?_
     rotate_left
     ·intro w hSw
      try dsimp only at hSw
      go_simp
      try with_reducible rfl
     simp only [Act.put, z1, z2, z3, z4, z5, z6]
     refine tkH (i := 9) (v := ?_) rfl (by kernel_rfl) (fun _ _ _ h => h) (Or.inl ⟨by rfl, ?_⟩) (by assumption) ?_
     rotate_left
     ·intro w hSw
      try dsimp only at hSw
      go_simp
      try with_reducible rfl
     simp only [Act.put, z1, z2, z3, z4, z5, z6]
     refine tkH (i := 10) (v := ?_) rfl (by kernel_rfl) (fun _ _ _ h => h) (Or.inl ⟨by rfl, ?_⟩) (by assumption) ?_
     rotate_left
     ·intro w hSw
      try dsimp only at hSw
      go_simp
      try with_reducible rfl
     simp only [Act.put, z1, z2, z3, z4, z5, z6]
     refine wpAnyH_ready (rs := [11]) (by kernel_rfl) (by simp) ?_
     refine AllReadyH.cons rfl (fun Kc hKc => ?_) AllReadyH.nil
     go_simp
     have hPrev := Lib.hid hHeld.size
     refine hKc.out _ _ ?_ (fun hHeld => ?_)
     ·first | assumption | exact hHeld | exact btr hHeld hb' | exact hHeld.alloc hHeld.size _ | exact below_setRow hHeld hPrev.out _
     clear hKc Kc
     first | have HAQ := Lib.hid (freshOf hHeld) | have HAQ := Lib.hid (freshDrew hHeld)
     refine wpAnyH_ready (rs := [12]) (by kernel_rfl) (by simp) ?_
     refine AllReadyH.cons rfl (fun Kc hKc => ?_) AllReadyH.nil
     have HAR := Lib.hid (blkRowNew (cs' := #[.int .i64 0, .int .u64 P']) HAQ.out); refine wp_store_row 143 _ _ rfl _ #[.int .i64 0, .int .u64 P'] rfl (by rfl) 143 _ HAQ.out (by kernel_rfl) rfl (by simp [Value.oneCell']) ?_
     refine hKc.out _ _ ?_ (fun hHeld => ?_)
     ·first | assumption | exact hHeld | exact btr hHeld hb' | exact hHeld.alloc hHeld.size _ | exact below_setRow hHeld hPrev.out _
     clear hKc Kc
     refine tkH (i := 13) (v := ?_) rfl (by kernel_rfl) (fun _ _ _ h => h) (Or.inl ⟨by rfl, ?_⟩) (by assumption) ?_
     rotate_left
     ·intro w hSw
      try dsimp only at hSw
      go_simp
      try with_reducible rfl
     simp only [Act.put, z1, z2, z3, z4, z5, z6]
     refine wpAnyH_done (by kernel_rfl) ?_ _
     have HBZ := Lib.hid (btr HBL.out hHeld)
     have hbo := HBO.out.kept hHeld
     obtain ⟨cs0, hbr, hcs⟩ := HBR.out
     have HBR9 : Hid (Blk _ w.heap.size 143 cs0 ∧ cs0.size = 2) := Lib.hid ⟨hbr.kept hHeld, hcs⟩
     have har := HAR.out
     have HBO9 := Lib.hid hbo
     clear hHeld hbr hcs
     go_wp2_with (first | refine wpList_load_row rfl 143 _ rfl _ rfl 143 _ (0, 0) _ har Tryz.underlying143 rfl (by kernel_rfl) ?_ | refine wpList_store_row rfl 143 _ _ rfl (w.heap.size + 1) #[.int .i64 0, .int .u64 P'] rfl (by rfl) 143 _ hbo (by kernel_rfl) rfl (by simp [Value.oneCell']) ?_)
     go_roundw
     case rel => exact ⟨j + 1, by omega, by go_num, by rw [← HP'.out]; exact blkRowNew HBO9.out, ⟨cs0, (setRow_other _ _ _ _ (by omega)).trans HBR9.out.1, HBR9.out.2⟩, below_setRow HBZ.out (by omega) _⟩
     case measure => simp [intOf]; omega
    ·go_simp
     have hPrev := Lib.hid hHeld.size
     refine hKc.out _ _ ?_ (fun hHeld => ?_)
     ·first | assumption | exact hHeld | exact btr hHeld hb' | exact hHeld.alloc hHeld.size _ | exact below_setRow hHeld hPrev.out _
     clear hKc Kc
     first | have HAQ := Lib.hid (freshOf hHeld) | have HAQ := Lib.hid (freshDrew hHeld)
     refine wpAnyH_ready (rs := [7]) (by kernel_rfl) (by simp) ?_
     refine AllReadyH.cons rfl (fun Kc hKc => ?_) AllReadyH.nil
     go_simp
     go_wp2_with (first | ((with_reducible refine (PT.out _).mono ?_); rintro e wq ⟨rfl, hb'⟩; try have HAQ := Lib.hid (HAQ.out.kept hb')) | ((with_reducible refine (PA.out _).mono ?_); rintro e wq ⟨rfl, hb'⟩; try have HAQ := Lib.hid (HAQ.out.kept hb')))
     refine hKc.out _ _ ?_ (fun hHeld => ?_)
     ·first | assumption | exact hHeld | exact btr hHeld hb' | exact hHeld.alloc hHeld.size _ | exact below_setRow hHeld hPrev.out _
     clear hKc Kc
     refine tkH (i := 8) (v := ?_) rfl (by kernel_rfl) (fun _ _ _ h => h) (Or.inl ⟨by rfl, ?_⟩) (by assumption) ?_
     rotate_left
     ·intro w hSw
      try dsimp only at hSw
      go_simp
      try with_reducible rfl
     simp only [Act.put, z1, z2, z3, z4, z5, z6]
     refine tkH (i := 9) (v := ?_) rfl (by kernel_rfl) (fun _ _ _ h => h) (Or.inl ⟨by rfl, ?_⟩) (by assumption) ?_
     rotate_left
     ·intro w hSw
      try dsimp only at hSw
      go_simp
      try with_reducible rfl
     simp only [Act.put, z1, z2, z3, z4, z5, z6]
     refine tkH (i := 10) (v := ?_) rfl (by kernel_rfl) (fun _ _ _ h => h) (Or.inl ⟨by rfl, ?_⟩) (by assumption) ?_
     rotate_left
     ·intro w hSw
      try dsimp only at hSw
      go_simp
      try with_reducible rfl
     simp only [Act.put, z1, z2, z3, z4, z5, z6]
     refine wpAnyH_ready (rs := [12]) (by kernel_rfl) (by simp) ?_
     refine AllReadyH.cons rfl (fun Kc hKc => ?_) AllReadyH.nil
     have HAR := Lib.hid (blkRowNew (cs' := #[.int .i64 0, .int .u64 P']) HAQ.out); refine wp_store_row 143 _ _ rfl _ #[.int .i64 0, .int .u64 P'] rfl (by rfl) 143 _ HAQ.out (by kernel_rfl) rfl (by simp [Value.oneCell']) ?_
     refine hKc.out _ _ ?_ (fun hHeld => ?_)
     ·first | assumption | exact hHeld | exact btr hHeld hb' | exact hHeld.alloc hHeld.size _ | exact below_setRow hHeld hPrev.out _
     clear hKc Kc
     refine tkH (i := 13) (v := ?_) rfl (by kernel_rfl) (fun _ _ _ h => h) (Or.inl ⟨by rfl, ?_⟩) (by assumption) ?_
     rotate_left
     ·intro w hSw
      try dsimp only at hSw
      go_simp
      try with_reducible rfl
     simp only [Act.put, z1, z2, z3, z4, z5, z6]
     refine wpAnyH_done (by kernel_rfl) ?_ _
     have HBZ := Lib.hid (btr HBL.out hHeld)
     have hbo := HBO.out.kept hHeld
     obtain ⟨cs0, hbr, hcs⟩ := HBR.out
     have HBR9 : Hid (Blk _ w.heap.size 143 cs0 ∧ cs0.size = 2) := Lib.hid ⟨hbr.kept hHeld, hcs⟩
     have har := HAR.out
     have HBO9 := Lib.hid hbo
     clear hHeld hbr hcs
     go_wp2_with (first | refine wpList_load_row rfl 143 _ rfl _ rfl 143 _ (0, 0) _ har Tryz.underlying143 rfl (by kernel_rfl) ?_ | refine wpList_store_row rfl 143 _ _ rfl (w.heap.size + 1) #[.int .i64 0, .int .u64 P'] rfl (by rfl) 143 _ hbo (by kernel_rfl) rfl (by simp [Value.oneCell']) ?_)
     go_roundw
     case rel => exact ⟨j + 1, by omega, by go_num, by rw [← HP'.out]; exact blkRowNew HBO9.out, ⟨cs0, (setRow_other _ _ _ _ (by omega)).trans HBR9.out.1, HBR9.out.2⟩, below_setRow HBZ.out (by omega) _⟩
     case measure => simp [intOf]; omega
   ·go_simp
    have hPrev := Lib.hid hHeld.size
    refine hKc.out _ _ ?_ (fun hHeld => ?_)
    ·first | assumption | exact hHeld | exact btr hHeld hb' | exact hHeld.alloc hHeld.size _ | exact below_setRow hHeld hPrev.out _
    clear hKc Kc
    first | have HAQ := Lib.hid (freshOf hHeld) | have HAQ := Lib.hid (freshDrew hHeld)
    refine wpAnyH_ready (rs := [6]) (by kernel_rfl) (by simp) ?_
    refine AllReadyH.cons rfl (fun Kc hKc => ?_) AllReadyH.nil
    go_simp
    go_wp2_with (first | ((with_reducible refine (PT.out _).mono ?_); rintro e wq ⟨rfl, hb'⟩; try have HAQ := Lib.hid (HAQ.out.kept hb')) | ((with_reducible refine (PA.out _).mono ?_); rintro e wq ⟨rfl, hb'⟩; try have HAQ := Lib.hid (HAQ.out.kept hb')))
    refine hKc.out _ _ ?_ (fun hHeld => ?_)
    ·first | assumption | exact hHeld | exact btr hHeld hb' | exact hHeld.alloc hHeld.size _ | exact below_setRow hHeld hPrev.out _
    clear hKc Kc
    refine wpAnyH_ready (rs := [7]) (by kernel_rfl) (by simp) ?_
    refine AllReadyH.cons rfl (fun Kc hKc => ?_) AllReadyH.nil
    go_simp
    go_wp2_with (first | ((with_reducible refine (PT.out _).mono ?_); rintro e wq ⟨rfl, hb'⟩; try have HAQ := Lib.hid (HAQ.out.kept hb')) | ((with_reducible refine (PA.out _).mono ?_); rintro e wq ⟨rfl, hb'⟩; try have HAQ := Lib.hid (HAQ.out.kept hb')))
    refine hKc.out _ _ ?_ (fun hHeld => ?_)
    ·first | assumption | exact hHeld | exact btr hHeld hb' | exact hHeld.alloc hHeld.size _ | exact below_setRow hHeld hPrev.out _
    clear hKc Kc
    refine tkH (i := 8) (v := ?_) rfl (by kernel_rfl) (fun _ _ _ h => h) (Or.inl ⟨by rfl, ?_⟩) (by assumption) ?_
    rotate_left
    ·intro w hSw
     try dsimp only at hSw
     go_simp
     try with_reducible rfl
    simp only [Act.put, z1, z2, z3, z4, z5, z6]
    refine tkH (i := 9) (v := ?_) rfl (by kernel_rfl) (fun _ _ _ h => h) (Or.inl ⟨by rfl, ?_⟩) (by assumption) ?_
    rotate_left
    ·intro w hSw
     try dsimp only at hSw
     go_simp
     try with_reducible rfl
    simp only [Act.put, z1, z2, z3, z4, z5, z6]
    refine tkH (i := 10) (v := ?_) rfl (by kernel_rfl) (fun _ _ _ h => h) (Or.inl ⟨by rfl, ?_⟩) (by assumption) ?_
    rotate_left
    ·intro w hSw
     try dsimp only at hSw
     go_simp
     try with_reducible rfl
    simp only [Act.put, z1, z2, z3, z4, z5, z6]
    refine wpAnyH_ready (rs := [12]) (by kernel_rfl) (by simp) ?_
    refine AllReadyH.cons rfl (fun Kc hKc => ?_) AllReadyH.nil
    have HAR := Lib.hid (blkRowNew (cs' := #[.int .i64 0, .int .u64 P']) HAQ.out); refine wp_store_row 143 _ _ rfl _ #[.int .i64 0, .int .u64 P'] rfl (by rfl) 143 _ HAQ.out (by kernel_rfl) rfl (by simp [Value.oneCell']) ?_
    refine hKc.out _ _ ?_ (fun hHeld => ?_)
    ·first | assumption | exact hHeld | exact btr hHeld hb' | exact hHeld.alloc hHeld.size _ | exact below_setRow hHeld hPrev.out _
    clear hKc Kc
    refine tkH (i := 13) (v := ?_) rfl (by kernel_rfl) (fun _ _ _ h => h) (Or.inl ⟨by rfl, ?_⟩) (by assumption) ?_
    rotate_left
    ·intro w hSw
     try dsimp only at hSw
     go_simp
     try with_reducible rfl
    simp only [Act.put, z1, z2, z3, z4, z5, z6]
    refine wpAnyH_done (by kernel_rfl) ?_ _
    have HBZ := Lib.hid (btr HBL.out hHeld)
    have hbo := HBO.out.kept hHeld
    obtain ⟨cs0, hbr, hcs⟩ := HBR.out
    have HBR9 : Hid (Blk _ w.heap.size 143 cs0 ∧ cs0.size = 2) := Lib.hid ⟨hbr.kept hHeld, hcs⟩
    have har := HAR.out
    have HBO9 := Lib.hid hbo
    clear hHeld hbr hcs
    go_wp2_with (first | refine wpList_load_row rfl 143 _ rfl _ rfl 143 _ (0, 0) _ har Tryz.underlying143 rfl (by kernel_rfl) ?_ | refine wpList_store_row rfl 143 _ _ rfl (w.heap.size + 1) #[.int .i64 0, .int .u64 P'] rfl (by rfl) 143 _ hbo (by kernel_rfl) rfl (by simp [Value.oneCell']) ?_)
    go_roundw
    case rel => exact ⟨j + 1, by omega, by go_num, by rw [← HP'.out]; exact blkRowNew HBO9.out, ⟨cs0, (setRow_other _ _ _ _ (by omega)).trans HBR9.out.1, HBR9.out.2⟩, below_setRow HBZ.out (by omega) _⟩
    case measure => simp [intOf]; omega
  ·obtain rfl : j = n := by omega
   obtain ⟨cs0, hbr, hcs⟩ := HBR.out
   have hbo := HBO.out
   have HBS := Lib.hid hbr
   clear hbr
   go_wp2_with (first | refine wpList_load_row rfl 143 _ rfl _ rfl 143 _ (0, 0) _ hbo Tryz.underlying143 rfl (by kernel_rfl) ?_ | refine wpList_store_row rfl 143 _ _ rfl w.heap.size #[.int .i64 0, .int .u64 ((dotN zs hs j : Nat) : Int)] rfl (by rfl) 143 _ HBS.out (by kernel_rfl) (by rw [hcs]; rfl) (by simp [Value.oneCell']) ?_)
   have HF := Lib.hid (blkRowNew (cs' := #[.int .i64 0, .int .u64 ((dotN zs hs j : Nat) : Int)]) HBS.out)
   refine bodyPost_ret (results_row_tmp rfl _ _ w.heap.size 143 _ (0, 0) _ rfl HF.out Tryz.underlying143 rfl (by kernel_rfl)) rfl ?_
   exact ⟨rfl, below_setRow HBL.out (by omega) _⟩
end Go.Proofs.YtfeficdndjiijaaGreatDoor

