import Derived.Test.YthbkljeibmkimaaGreatQtc
import Derived.BigRegion
import Derived.Deep.DeepCutAuto
import Derived.Deep.Cut
import Derived.BigQuiet
import Derived.DeepKeys4
import Derived.MapViews
import Derived.Maps.Own
import Derived.Maps.OwnSet
import Derived.Maps.Views
import Derived.Maps.Keyed
import Derived.Test.YthbkljeibmkimaaGreatQta
import Derived.RangeFuncBox
import Derived.Laws.EntriesVeiled
import Derived.RangeFuncNested
import Derived.RangeFuncBound
import Derived.RangeFuncCalls
import Derived.RangeFuncLeaves
import Derived.RangeFuncWrites
import Derived.Shelf.Abstract
import Derived.Shelf.RegionOpen
import Derived.WalkKit
import Derived.OwnWalkIn
import Derived.TacticsInMore
import Derived.LoopNIn
import Derived.LoopIn
import Derived.Deep.RegionHeld3
import Derived.StillTailTactics
import Derived.Test.YthbkljeibmkimaaGreatQtb
/-
  Contracts of the functions that HeavyTells reaches, and the plain laws that it leans on. Conditions: none beyond those stated at each theorem.
-/
namespace Go.Proofs.YthbkljeibmkimaaGreat
open Go.RowKit
set_option linter.unusedVariables false
set_option linter.unusedSimpArgs false

set_option maxRecDepth 100000 in
set_option maxHeartbeats 8000000 in
theorem srsym1 (pt : Nat → Nat → Int) (g cap : Nat) (l : List (Nat × Nat)) (a m b : Nat) (ham : a < m) (hmb : m < b) (hb : b ≤ l.length) (hlen : l.length ≤ 100000) (hc : l.length ≤ cap) (sm : Small l) (h1 : Srt lvK a m l) (h2 : Srt lvK m b l) (h1m : m = a + 1) (w : World) (h : FdAt w g pt l) :
  Calls Tryz.prog 75 #[.slice (some ⟨g, 0, none⟩) l.length cap, .int .i64 (a : Int), .int .i64 (m : Int), .int .i64 (b : Int), (.func (.func 37) #[] #[])] w (SortRes w g pt fun y => Stp lvK a b l y ∧ Srt lvK a b y) := by
 obtain ⟨L, hL⟩ : ∃ L, L = l.length := ⟨_, rfl⟩
 have HL := Lib.hid hL
 rw [← hL] at hb hlen hc ⊢
 have HF := Lib.hid h
 have HSM := Lib.hid sm
 have HYL : Hid (l.length = L) := Lib.hid hL.symm
 have HS1 := Lib.hid h1
 have HS2 := Lib.hid h2
 clear h hL sm h1 h2
 go_enter Tryz.func75, Tryz.ntmps75
 subst h1m
 have hm1 : (((a + 1 : Nat) : Int) - (a : Int) == 1) = true := by simp; omega
 obtain ⟨m, hm⟩ : ∃ m, m = a + 1 := ⟨_, rfl⟩
 rw [← hm] at hm1 HS1 HS2 ham hmb ⊢
 have HM := Lib.hid hm
 clear hm
 go_wp2_with fail
 go_loopw [10, 11] (fun vi vj wr => ∃ (i j : Nat), vi = .int .i64 (i : Int) ∧ vj = .int .i64 (j : Int) ∧ m ≤ i ∧ i ≤ j ∧ j ≤ b ∧ FdAt wr g pt l ∧ w.grownBy wr (some g) ∧ (∀ c, m ≤ c → c < i → kf lvK l c < kf lvK l a) ∧ ∀ c, j ≤ c → c < b → kf lvK l a ≤ kf lvK l c) (fun i j _ => (intOf j).toNat - (intOf i).toNat)
 case atStart => exact ⟨m, b, rfl, rfl, Nat.le_refl _, by omega, Nat.le_refl _, HF.out, gr_refl _ _, fun c h1 h2 => absurd h1 (by omega), fun c h1 h2 => absurd h1 (by omega)⟩
 case round =>
  obtain ⟨i, j, rfl, rfl, hi, hij, hj, hf, hg, hlo, hhi⟩ := hrel
  have HFY := Lib.hid hf
  have HG := Lib.hid hg
  have HLO := Lib.hid hlo
  have HHI := Lib.hid hhi
  clear hf hg hlo hhi
  by_cases hlt : i < j
  ·have hltz : (i : Int) < (j : Int) := by omega
   obtain ⟨s, hs⟩ : ∃ s, s = i + j := ⟨_, rfl⟩
   obtain ⟨t, ht⟩ : ∃ t, t = s / 2 := ⟨_, rfl⟩
   have hzs : (i : Int) + (j : Int) = (s : Int) := by omega
   have hws : IntKind.i64.wrap (s : Int) = (s : Int) := wrapI_of _ (by omega) (by omega)
   have hus : IntKind.u64.wrap (s : Int) = (s : Int) := by rw [wrapU_mod]; omega
   have hds : (s : Int) / 2 = (t : Int) := by omega
   have hwt : IntKind.i64.wrap (t : Int) = (t : Int) := wrapI_of _ (by omega) (by omega)
   have hvt : IntKind.u64.wrap (t : Int) = (t : Int) := by rw [wrapU_mod]; omega
   have htL : (t : Int) < (L : Int) := by omega
   have haL : (a : Int) < (L : Int) := by omega
   have HT : Hid (i ≤ t ∧ t < j) := Lib.hid (by omega)
   obtain ⟨u, hu⟩ : ∃ u, l[t]? = some u := ⟨_, List.getElem?_eq_getElem (by have := HYL.out; omega)⟩
   have HEu := Lib.hid hu
   have HKu : Hid (kf lvK l t = (u.1 : Int)) := Lib.hid (kf_get hu)
   clear hu
   obtain ⟨v, hv⟩ : ∃ v, l[a]? = some v := ⟨_, List.getElem?_eq_getElem (by have := HYL.out; omega)⟩
   have HEv := Lib.hid hv
   have HKv : Hid (kf lvK l a = (v.1 : Int)) := Lib.hid (kf_get hv)
   clear hv
   have HUB := Lib.hid (HSM.out.get HEu.out).1
   have HVB := Lib.hid (HSM.out.get HEv.out).1
   have HSH := Lib.hid hs
   clear hs ht
   go_wp2_with fail
   have PC := Lib.hid (fun w => cmp_any pt u v (HSM.out.get HEu.out).1 (HSM.out.get HEv.out).1 w)
   have HFD := Lib.hid HFY.out.drew
   have HGD := Lib.hid (gr_drew HG.out)
   refine wp_region_any (by kernel_rfl) ?_
   generalize ({ heap := wr.heap, tape := wr.tape, drawn := wr.drawn + 1, os := wr.os, output := wr.output } : World) = wd at *
   have hlp := HFD.out.rng t u HEu.out
   have hlq := HFD.out.rng a v HEv.out
   refine wpAny_still_tail [true, true, true, true, true, true, true, true, true] [] _ (by kernel_rfl) (by kernel_rfl) ?_
   simp only [dropAt, List.length_cons, List.length_nil, List.drop_succ_cons, List.drop_zero]
   repeat (first | refine wpStill_load_mid (by rfl) 66 _ rfl g (t * 3) rfl (fd3 pt u) _ hlp Tryz.underlying66 rfl (by kernel_rfl) ?_ | refine wpStill_load_mid (by rfl) 66 _ rfl g (a * 3) rfl (fd3 pt v) _ hlq Tryz.underlying66 rfl (by kernel_rfl) ?_ | still_step)
   refine wpStill_nil ?_
   simp only [Act.put, z1, z2, z3, z4, z5, z6]
   clear hlp hlq
   go_wp2_with fail
   with_reducible refine (PC.out _).mono ?_
   rintro e w3 ⟨rfl, hb⟩
   have HF3 := Lib.hid (HFD.out.kept hb)
   have HG3 := Lib.hid (gr_below HGD.out hb)
   clear hb
   have hub := HUB.out
   have hvb := HVB.out
   have hdw : IntKind.i64.wrap ((u.1 : Int) - (v.1 : Int)) = (u.1 : Int) - (v.1 : Int) := wrapI_of _ (by omega) (by omega)
   by_cases hd : (u.1 : Int) - (v.1 : Int) < 0
   ·have HN : Hid (∀ c, m ≤ c → c < t + 1 → kf lvK l c < kf lvK l a) := Lib.hid (fun c c1 c2 => by
     have k1 := HS2.out c t c1 (by omega) (by have := HT.out; omega)
     rw [HKu.out] at k1
     rw [HKv.out]
     omega)
    go_wp2_with fail
    go_roundw
    case rel => exact ⟨t + 1, j, by go_num, rfl, by have := HT.out; omega, by have := HT.out; omega, hj, HF3.out, HG3.out, HN.out, HHI.out⟩
    case measure => simp [intOf]; have := HT.out; omega
   ·have HN : Hid (∀ c, t ≤ c → c < b → kf lvK l a ≤ kf lvK l c) := Lib.hid (fun c c1 c2 => by
     have k1 := HS2.out t c (by have := HT.out; omega) c1 c2
     rw [HKu.out] at k1
     rw [HKv.out]
     omega)
    go_wp2_with fail
    go_roundw
    case rel => exact ⟨i, t, rfl, rfl, hi, by have := HT.out; omega, by have := HT.out; omega, HF3.out, HG3.out, HLO.out, HN.out⟩
    case measure => simp [intOf]; have := HT.out; omega
  ·have hltz : ¬ (i : Int) < (j : Int) := by omega
   have hji : j = i := by omega
   subst hji
   generalize wr = wo at *
   go_wp2_with fail
   go_loopw [13] (fun vk wr => ∃ (k : Nat) (y : List (Nat × Nat)), vk = .int .i64 (k : Int) ∧ a ≤ k ∧ k + 1 ≤ j ∧ FdAt wr g pt y ∧ w.grownBy wr (some g) ∧ IsRot l y a (a + 1) (k + 1)) (fun k _ => j - (intOf k).toNat)
   case atStart => exact ⟨a, l, rfl, Nat.le_refl _, by have := HM.out; omega, HFY.out, HG.out, IsRot.self _ (.inr ⟨by omega, rfl⟩)⟩
   case round =>
    obtain ⟨k, y, rfl, hk1, hk2, hf, hg, hr⟩ := hrel
    have HFZ := Lib.hid hf
    have HGZ := Lib.hid hg
    have HRO := Lib.hid hr
    have HYL : Hid (y.length = L) := Lib.hid (by rw [hr.1, HYL.out])
    clear hf hg hr
    by_cases hkj : k + 1 < j
    ·have hkz : (k : Int) < (j : Int) - 1 := by omega
     obtain ⟨p, hp⟩ : ∃ p, p = k + 1 := ⟨_, rfl⟩
     have hpz : (k : Int) + 1 = (p : Int) := by omega
     have hpw : IntKind.i64.wrap (p : Int) = (p : Int) := wrapI_of _ (by omega) (by omega)
     have hpL : (p : Int) < (L : Int) := by omega
     have hkL : (k : Int) < (L : Int) := by omega
     have HP := Lib.hid hp
     obtain ⟨u, hu⟩ : ∃ u, y[k]? = some u := ⟨_, List.getElem?_eq_getElem (by have := HYL.out; omega)⟩
     have HEu := Lib.hid hu
     have HKu : Hid (kf lvK y k = (u.1 : Int)) := Lib.hid (kf_get hu)
     clear hu
     obtain ⟨v, hv⟩ : ∃ v, y[p]? = some v := ⟨_, List.getElem?_eq_getElem (by have := HYL.out; omega)⟩
     have HEv := Lib.hid hv
     have HKv : Hid (kf lvK y p = (v.1 : Int)) := Lib.hid (kf_get hv)
     clear hv
     clear hp
     go_wp2_with fail
     have HFD := Lib.hid HFZ.out.drew
     have HGD := Lib.hid (gr_drew HGZ.out)
     refine wp_region_any (by kernel_rfl) ?_
     generalize ({ heap := wr.heap, tape := wr.tape, drawn := wr.drawn + 1, os := wr.os, output := wr.output } : World) = wd at *
     have hlp := HFD.out.rng k u HEu.out
     have hlq := HFD.out.rng p v HEv.out
     refine tkA (i := 2) (v := ?_) rfl (by kernel_rfl) (fun _ _ _ h => h) (Or.inl ⟨by rfl, ?_⟩) ?_
     rotate_left
     ·intro w
      go_simp
      try with_reducible rfl
     simp only [Act.put, z1, z2, z3, z4, z5, z6]
     refine tkA (i := 3) (v := ?_) rfl (by kernel_rfl) (fun _ _ _ h => h) (Or.inl ⟨by rfl, ?_⟩) ?_
     rotate_left
     ·intro w
      go_simp
      try with_reducible rfl
     simp only [Act.put, z1, z2, z3, z4, z5, z6]
     refine tkA (i := 4) (v := ?_) rfl (by kernel_rfl) (fun _ _ _ h => h) (Or.inl ⟨by rfl, ?_⟩) ?_
     rotate_left
     ·intro w
      go_simp
      try with_reducible rfl
     simp only [Act.put, z1, z2, z3, z4, z5, z6]
     refine wpAny_still_tail [true, true, false, false, false, true, true, true, true, true, true, true, true, true] [2, 3, 4] _ (by kernel_rfl) (by kernel_rfl) ?_
     simp only [dropAt, List.length_cons, List.length_nil, List.drop_succ_cons, List.drop_zero]
     repeat (first | refine wpStill_load_mid (by rfl) 66 _ rfl g (k * 3) rfl (fd3 pt u) _ hlp Tryz.underlying66 rfl (by kernel_rfl) ?_ | refine wpStill_load_mid (by rfl) 66 _ rfl g (p * 3) rfl (fd3 pt v) _ hlq Tryz.underlying66 rfl (by kernel_rfl) ?_ | still_step)
     refine wpStill_nil ?_
     simp only [Act.put, z1, z2, z3, z4, z5, z6]
     clear hlp hlq
     have ht1 := HFD.out.there (t := k) (by have := HYL.out; omega)
     have hf2 := HFD.out.set (i := k) (by have := HYL.out; omega) v
     have ht2 := hf2.there (t := p) (by have := HYL.out; simp; omega)
     have HF3 : Hid (FdAt ((wd.setCells g (k * 3) (fd3 pt v).toArray.toList).setCells g (p * 3) (fd3 pt u).toArray.toList) g pt ((y.set k v).set p u)) := Lib.hid (hf2.set (i := p) (by have := HYL.out; simp; omega) u)
     have HG3 : Hid (w.grownBy ((wd.setCells g (k * 3) (fd3 pt v).toArray.toList).setCells g (p * 3) (fd3 pt u).toArray.toList) (some g)) := Lib.hid (grown_setCells w g (fd3 pt u) (p * 3) _ (grown_setCells w g (fd3 pt v) (k * 3) _ HGD.out))
     have HSW : Hid (IsSw y ((y.set k v).set p u) k p 1) := Lib.hid (isSw_set HEu.out HEv.out)
     have HT1 := Lib.hid ht1
     have HT2 := Lib.hid ht2
     clear hf2 ht1 ht2
     iterate 3 go_step
     refine wpList_store_mid rfl 66 _ _ rfl g (k * 3) (fd3 pt v).toArray rfl (by rfl) HT1.out (fd3_info pt v) (fd3_one pt v) ?_
     iterate 3 go_step
     refine wpList_store_mid rfl 66 _ _ rfl g (p * 3) (fd3 pt u).toArray rfl (by rfl) HT2.out (fd3_info pt u) (fd3_one pt u) ?_
     generalize ((wd.setCells g (k * 3) (fd3 pt v).toArray.toList).setCells g (p * 3) (fd3 pt u).toArray.toList) = w3 at *
     have HN : Hid (IsRot l ((y.set k v).set p u) a (a + 1) (k + 1 + 1)) := Lib.hid (by have h1 := HSW.out; rw [HP.out] at h1 ⊢; exact rot_up hk1 HRO.out h1)
     go_wp2_with fail
     go_roundw
     case rel => exact ⟨k + 1, _, by go_num, by omega, by omega, HF3.out, HG3.out, HN.out⟩
     case measure => simp [intOf]; have := HP.out; omega
    ·have hkz : ¬ (k : Int) < (j : Int) - 1 := by omega
     have HR : Hid (SortRes w g pt (fun y => Stp lvK a b l y ∧ Srt lvK a b y) (.returned (.tuple #[])) wr) := Lib.hid (by
      have e : k + 1 = j := by omega
      have h1 := HRO.out
      have h2 := HLO.out
      have h3 := HHI.out
      have h4 := HS2.out
      rw [e] at h1
      rw [HM.out] at h2 h4
      refine ⟨rfl, y, HFZ.out, HGZ.out, (stp_rot (by omega) (by omega) (by have := HL.out; omega) h1 (fun p q g1 g2 g3 g4 => ?_)).mono (Nat.le_refl _) hj, merge_one_left (by omega) hj h4 h1 h2 h3⟩
      rw [show p = a by omega]
      have := h2 q g3 g4
      omega)
     go_wp2_with fail
     (try simp only [Exit.inBlock, Exit.then])
     refine bodyPost_ret (results_none rfl _ _ _) rfl ?_
     exact HR.out
end Go.Proofs.YthbkljeibmkimaaGreat


namespace Go.Proofs.YthbkljeibmkimaaGreat
open Go.RowKit
set_option linter.unusedVariables false
set_option linter.unusedSimpArgs false

set_option maxRecDepth 100000 in
set_option maxHeartbeats 8000000 in
theorem srsym2 (pt : Nat → Nat → Int) (g cap : Nat) (l : List (Nat × Nat)) (a m b : Nat) (ham : a < m) (hmb : m < b) (hb : b ≤ l.length) (hlen : l.length ≤ 100000) (hc : l.length ≤ cap) (sm : Small l) (h1 : Srt lvK a m l) (h2 : Srt lvK m b l) (h1m : m ≠ a + 1) (h2m : b = m + 1) (w : World) (h : FdAt w g pt l) :
  Calls Tryz.prog 75 #[.slice (some ⟨g, 0, none⟩) l.length cap, .int .i64 (a : Int), .int .i64 (m : Int), .int .i64 (b : Int), (.func (.func 37) #[] #[])] w (SortRes w g pt fun y => Stp lvK a b l y ∧ Srt lvK a b y) := by
 obtain ⟨L, hL⟩ : ∃ L, L = l.length := ⟨_, rfl⟩
 have HL := Lib.hid hL
 rw [← hL] at hb hlen hc ⊢
 have HF := Lib.hid h
 have HSM := Lib.hid sm
 have HYL : Hid (l.length = L) := Lib.hid hL.symm
 have HS1 := Lib.hid h1
 have HS2 := Lib.hid h2
 clear h hL sm h1 h2
 go_enter Tryz.func75, Tryz.ntmps75
 subst h2m
 have hm0 : (((m : Nat) : Int) - (a : Int) == 1) = false := by simp; omega
 have hm1 : (((m + 1 : Nat) : Int) - (m : Int) == 1) = true := by simp; omega
 obtain ⟨b, hm⟩ : ∃ b, b = m + 1 := ⟨_, rfl⟩
 rw [← hm] at hm1 HS2 hb hmb ⊢
 have HM := Lib.hid hm
 have hmb2 : (m : Int) < (b : Int) := by omega
 have hmL : (m : Int) < (L : Int) := by omega
 clear hm
 go_wp2_with fail
 go_loopw [14, 15] (fun vi vj wr => ∃ (i j : Nat), vi = .int .i64 (i : Int) ∧ vj = .int .i64 (j : Int) ∧ a ≤ i ∧ i ≤ j ∧ j ≤ m ∧ FdAt wr g pt l ∧ w.grownBy wr (some g) ∧ (∀ c, a ≤ c → c < i → kf lvK l c ≤ kf lvK l m) ∧ ∀ c, j ≤ c → c < m → kf lvK l m < kf lvK l c) (fun i j _ => (intOf j).toNat - (intOf i).toNat)
 case atStart => exact ⟨a, m, rfl, rfl, Nat.le_refl _, by omega, Nat.le_refl _, HF.out, gr_refl _ _, fun c h1 h2 => absurd h1 (by omega), fun c h1 h2 => absurd h1 (by omega)⟩
 case round =>
  obtain ⟨i, j, rfl, rfl, hi, hij, hj, hf, hg, hlo, hhi⟩ := hrel
  have HFY := Lib.hid hf
  have HG := Lib.hid hg
  have HLO := Lib.hid hlo
  have HHI := Lib.hid hhi
  clear hf hg hlo hhi
  by_cases hlt : i < j
  ·have hltz : (i : Int) < (j : Int) := by omega
   obtain ⟨s, hs⟩ : ∃ s, s = i + j := ⟨_, rfl⟩
   obtain ⟨t, ht⟩ : ∃ t, t = s / 2 := ⟨_, rfl⟩
   have hzs : (i : Int) + (j : Int) = (s : Int) := by omega
   have hws : IntKind.i64.wrap (s : Int) = (s : Int) := wrapI_of _ (by omega) (by omega)
   have hus : IntKind.u64.wrap (s : Int) = (s : Int) := by rw [wrapU_mod]; omega
   have hds : (s : Int) / 2 = (t : Int) := by omega
   have hwt : IntKind.i64.wrap (t : Int) = (t : Int) := wrapI_of _ (by omega) (by omega)
   have hvt : IntKind.u64.wrap (t : Int) = (t : Int) := by rw [wrapU_mod]; omega
   have htL : (t : Int) < (L : Int) := by omega
   have HT : Hid (i ≤ t ∧ t < j) := Lib.hid (by omega)
   obtain ⟨u, hu⟩ : ∃ u, l[m]? = some u := ⟨_, List.getElem?_eq_getElem (by have := HYL.out; omega)⟩
   have HEu := Lib.hid hu
   have HKu : Hid (kf lvK l m = (u.1 : Int)) := Lib.hid (kf_get hu)
   clear hu
   obtain ⟨v, hv⟩ : ∃ v, l[t]? = some v := ⟨_, List.getElem?_eq_getElem (by have := HYL.out; omega)⟩
   have HEv := Lib.hid hv
   have HKv : Hid (kf lvK l t = (v.1 : Int)) := Lib.hid (kf_get hv)
   clear hv
   have HUB := Lib.hid (HSM.out.get HEu.out).1
   have HVB := Lib.hid (HSM.out.get HEv.out).1
   have HSH := Lib.hid hs
   clear hs ht
   go_wp2_with fail
   have PC := Lib.hid (fun w => cmp_any pt u v (HSM.out.get HEu.out).1 (HSM.out.get HEv.out).1 w)
   have HFD := Lib.hid HFY.out.drew
   have HGD := Lib.hid (gr_drew HG.out)
   refine wp_region_any (by kernel_rfl) ?_
   generalize ({ heap := wr.heap, tape := wr.tape, drawn := wr.drawn + 1, os := wr.os, output := wr.output } : World) = wd at *
   have hlp := HFD.out.rng m u HEu.out
   have hlq := HFD.out.rng t v HEv.out
   refine wpAny_still_tail [true, true, true, true, true, true, true, true, true] [] _ (by kernel_rfl) (by kernel_rfl) ?_
   simp only [dropAt, List.length_cons, List.length_nil, List.drop_succ_cons, List.drop_zero]
   repeat (first | refine wpStill_load_mid (by rfl) 66 _ rfl g (m * 3) rfl (fd3 pt u) _ hlp Tryz.underlying66 rfl (by kernel_rfl) ?_ | refine wpStill_load_mid (by rfl) 66 _ rfl g (t * 3) rfl (fd3 pt v) _ hlq Tryz.underlying66 rfl (by kernel_rfl) ?_ | still_step)
   refine wpStill_nil ?_
   simp only [Act.put, z1, z2, z3, z4, z5, z6]
   clear hlp hlq
   go_wp2_with fail
   with_reducible refine (PC.out _).mono ?_
   rintro e w3 ⟨rfl, hb⟩
   have HF3 := Lib.hid (HFD.out.kept hb)
   have HG3 := Lib.hid (gr_below HGD.out hb)
   clear hb
   have hub := HUB.out
   have hvb := HVB.out
   have hdw : IntKind.i64.wrap ((u.1 : Int) - (v.1 : Int)) = (u.1 : Int) - (v.1 : Int) := wrapI_of _ (by omega) (by omega)
   by_cases hd : (u.1 : Int) - (v.1 : Int) < 0
   ·have hdd : decide ((u.1 : Int) - (v.1 : Int) < 0) = true := decide_eq_true hd
    have HN : Hid (∀ c, t ≤ c → c < m → kf lvK l m < kf lvK l c) := Lib.hid (fun c c1 c2 => by
     have k1 := HS1.out t c (by have := HT.out; omega) c1 c2
     rw [HKv.out] at k1
     rw [HKu.out]
     omega)
    clear hd
    go_wp2_with fail
    go_roundw
    case rel => exact ⟨i, t, rfl, rfl, hi, by have := HT.out; omega, by have := HT.out; omega, HF3.out, HG3.out, HLO.out, HN.out⟩
    case measure => simp [intOf]; have := HT.out; omega
   ·have hdd : decide ((u.1 : Int) - (v.1 : Int) < 0) = false := decide_eq_false hd
    have HN : Hid (∀ c, a ≤ c → c < t + 1 → kf lvK l c ≤ kf lvK l m) := Lib.hid (fun c c1 c2 => by
     have k1 := HS1.out c t c1 (by omega) (by have := HT.out; omega)
     rw [HKv.out] at k1
     rw [HKu.out]
     omega)
    clear hd
    go_wp2_with fail
    go_roundw
    case rel => exact ⟨t + 1, j, by go_num, rfl, by have := HT.out; omega, by have := HT.out; omega, hj, HF3.out, HG3.out, HN.out, HHI.out⟩
    case measure => simp [intOf]; have := HT.out; omega
  ·have hltz : ¬ (i : Int) < (j : Int) := by omega
   have hji : j = i := by omega
   subst hji
   generalize wr = wo at *
   go_wp2_with fail
   go_loopw [17] (fun vk wr => ∃ (k : Nat) (y : List (Nat × Nat)), vk = .int .i64 (k : Int) ∧ j ≤ k ∧ k ≤ m ∧ FdAt wr g pt y ∧ w.grownBy wr (some g) ∧ IsRot l y k m (m + 1)) (fun k _ => (intOf k).toNat)
   case atStart => exact ⟨m, l, rfl, hj, Nat.le_refl _, HFY.out, HG.out, IsRot.self _ (.inl ⟨rfl, by omega⟩)⟩
   case round =>
    obtain ⟨k, y, rfl, hk1, hk2, hf, hg, hr⟩ := hrel
    have HFZ := Lib.hid hf
    have HGZ := Lib.hid hg
    have HRO := Lib.hid hr
    have HYL : Hid (y.length = L) := Lib.hid (by rw [hr.1, HYL.out])
    clear hf hg hr
    by_cases hkj : j < k
    ·have hkz : (j : Int) < (k : Int) := by omega
     obtain ⟨p, hp⟩ : ∃ p, k = p + 1 := ⟨k - 1, by omega⟩
     have hpz : (k : Int) - 1 = (p : Int) := by omega
     have hpw : IntKind.i64.wrap (p : Int) = (p : Int) := wrapI_of _ (by omega) (by omega)
     have hpL : (p : Int) < (L : Int) := by omega
     have hkL : (k : Int) < (L : Int) := by omega
     have hp0 : (0 : Int) ≤ (p : Int) := by omega
     have HP := Lib.hid hp
     obtain ⟨u, hu⟩ : ∃ u, y[k]? = some u := ⟨_, List.getElem?_eq_getElem (by have := HYL.out; omega)⟩
     have HEu := Lib.hid hu
     have HKu : Hid (kf lvK y k = (u.1 : Int)) := Lib.hid (kf_get hu)
     clear hu
     obtain ⟨v, hv⟩ : ∃ v, y[p]? = some v := ⟨_, List.getElem?_eq_getElem (by have := HYL.out; omega)⟩
     have HEv := Lib.hid hv
     have HKv : Hid (kf lvK y p = (v.1 : Int)) := Lib.hid (kf_get hv)
     clear hv
     clear hp
     go_wp2_with fail
     have HFD := Lib.hid HFZ.out.drew
     have HGD := Lib.hid (gr_drew HGZ.out)
     refine wp_region_any (by kernel_rfl) ?_
     generalize ({ heap := wr.heap, tape := wr.tape, drawn := wr.drawn + 1, os := wr.os, output := wr.output } : World) = wd at *
     have hlp := HFD.out.rng k u HEu.out
     have hlq := HFD.out.rng p v HEv.out
     refine tkA (i := 2) (v := ?_) rfl (by kernel_rfl) (fun _ _ _ h => h) (Or.inl ⟨by rfl, ?_⟩) ?_
     rotate_left
     ·intro w
      go_simp
      try with_reducible rfl
     simp only [Act.put, z1, z2, z3, z4, z5, z6]
     refine tkA (i := 3) (v := ?_) rfl (by kernel_rfl) (fun _ _ _ h => h) (Or.inl ⟨by rfl, ?_⟩) ?_
     rotate_left
     ·intro w
      go_simp
      try with_reducible rfl
     simp only [Act.put, z1, z2, z3, z4, z5, z6]
     refine tkA (i := 4) (v := ?_) rfl (by kernel_rfl) (fun _ _ _ h => h) (Or.inl ⟨by rfl, ?_⟩) ?_
     rotate_left
     ·intro w
      go_simp
      try with_reducible rfl
     simp only [Act.put, z1, z2, z3, z4, z5, z6]
     refine wpAny_still_tail [true, true, false, false, false, true, true, true, true, true, true, true, true, true] [2, 3, 4] _ (by kernel_rfl) (by kernel_rfl) ?_
     simp only [dropAt, List.length_cons, List.length_nil, List.drop_succ_cons, List.drop_zero]
     repeat (first | refine wpStill_load_mid (by rfl) 66 _ rfl g (k * 3) rfl (fd3 pt u) _ hlp Tryz.underlying66 rfl (by kernel_rfl) ?_ | refine wpStill_load_mid (by rfl) 66 _ rfl g (p * 3) rfl (fd3 pt v) _ hlq Tryz.underlying66 rfl (by kernel_rfl) ?_ | still_step)
     refine wpStill_nil ?_
     simp only [Act.put, z1, z2, z3, z4, z5, z6]
     clear hlp hlq
     have ht1 := HFD.out.there (t := k) (by have := HYL.out; omega)
     have hf2 := HFD.out.set (i := k) (by have := HYL.out; omega) v
     have ht2 := hf2.there (t := p) (by have := HYL.out; simp; omega)
     have HF3 : Hid (FdAt ((wd.setCells g (k * 3) (fd3 pt v).toArray.toList).setCells g (p * 3) (fd3 pt u).toArray.toList) g pt ((y.set k v).set p u)) := Lib.hid (hf2.set (i := p) (by have := HYL.out; simp; omega) u)
     have HG3 : Hid (w.grownBy ((wd.setCells g (k * 3) (fd3 pt v).toArray.toList).setCells g (p * 3) (fd3 pt u).toArray.toList) (some g)) := Lib.hid (grown_setCells w g (fd3 pt u) (p * 3) _ (grown_setCells w g (fd3 pt v) (k * 3) _ HGD.out))
     have HSW : Hid (IsSw y ((y.set k v).set p u) k p 1) := Lib.hid (isSw_set HEu.out HEv.out)
     have HT1 := Lib.hid ht1
     have HT2 := Lib.hid ht2
     clear hf2 ht1 ht2
     iterate 3 go_step
     refine wpList_store_mid rfl 66 _ _ rfl g (k * 3) (fd3 pt v).toArray rfl (by rfl) HT1.out (fd3_info pt v) (fd3_one pt v) ?_
     iterate 3 go_step
     refine wpList_store_mid rfl 66 _ _ rfl g (p * 3) (fd3 pt u).toArray rfl (by rfl) HT2.out (fd3_info pt u) (fd3_one pt u) ?_
     generalize ((wd.setCells g (k * 3) (fd3 pt v).toArray.toList).setCells g (p * 3) (fd3 pt u).toArray.toList) = w3 at *
     have HN : Hid (IsRot l ((y.set k v).set p u) p m (m + 1)) := Lib.hid (by
      have h1 := HSW.out.symm1
      have h2 := HRO.out
      rw [HP.out] at h1 h2 ⊢
      exact rot_down (by have := HP.out; omega) h2 h1)
     go_wp2_with fail
     go_roundw
     case rel => exact ⟨p, _, by go_num, by have := HP.out; omega, by have := HP.out; omega, HF3.out, HG3.out, HN.out⟩
     case measure => simp [intOf]; have := HP.out; omega
    ·have hkz : ¬ (j : Int) < (k : Int) := by omega
     have HR : Hid (SortRes w g pt (fun y => Stp lvK a b l y ∧ Srt lvK a b y) (.returned (.tuple #[])) wr) := Lib.hid (by
      have e : k = j := by omega
      have h1 := HRO.out
      have h2 := HLO.out
      have h3 := HHI.out
      have h4 := HS1.out
      have eb := HM.out
      rw [e] at h1
      refine ⟨rfl, y, HFZ.out, HGZ.out, (stp_rot hj (by omega) (by have := HL.out; omega) h1 (fun p q g1 g2 g3 g4 => ?_)).mono hi (by omega), by rw [eb]; exact merge_one_right hi hj h4 h1 h2 h3⟩
      rw [show q = m by omega]
      have := h3 p g1 g2
      omega)
     go_wp2_with fail
     (try simp only [Exit.inBlock, Exit.then])
     refine bodyPost_ret (results_none rfl _ _ _) rfl ?_
     exact HR.out
end Go.Proofs.YthbkljeibmkimaaGreat


namespace Go.Proofs.YthbkljeibmkimaaGreat
open Go.RowKit
set_option linter.unusedVariables false
set_option linter.unusedSimpArgs false

set_option maxRecDepth 100000 in
set_option maxHeartbeats 8000000 in
theorem srsymg (pt : Nat → Nat → Int) (g cap : Nat) (l : List (Nat × Nat)) (a m b : Nat) (ham : a < m) (hmb : m < b) (hb : b ≤ l.length) (hlen : l.length ≤ 100000) (hc : l.length ≤ cap) (sm : Small l) (h1 : Srt lvK a m l) (h2 : Srt lvK m b l) (h1m : m ≠ a + 1) (h2m : b ≠ m + 1)
  (ih : ∀ (x : List (Nat × Nat)) (a' m' b' : Nat), a' < m' → m' < b' → b' ≤ x.length → x.length = l.length → b' - a' < b - a → Small x → Srt lvK a' m' x → Srt lvK m' b' x → ∀ w, FdAt w g pt x → Calls Tryz.prog 75 #[.slice (some ⟨g, 0, none⟩) x.length cap, .int .i64 (a' : Int), .int .i64 (m' : Int), .int .i64 (b' : Int), (.func (.func 37) #[] #[])] w (SortRes w g pt fun y => Stp lvK a' b' x y ∧ Srt lvK a' b' y)) (w : World) (h : FdAt w g pt l) :
  Calls Tryz.prog 75 #[.slice (some ⟨g, 0, none⟩) l.length cap, .int .i64 (a : Int), .int .i64 (m : Int), .int .i64 (b : Int), (.func (.func 37) #[] #[])] w (SortRes w g pt fun y => Stp lvK a b l y ∧ Srt lvK a b y) := by
 obtain ⟨L, hL⟩ : ∃ L, L = l.length := ⟨_, rfl⟩
 have HL := Lib.hid hL
 have IH := Lib.hid ih
 have PR := Lib.hid (fun (z : List (Nat × Nat)) (x y n : Nat) h1 h2 h3 (h4 : z.length = L) => srrot pt (.func (.func 37) #[] #[]) g cap z x y n h1 h2 h3 (by rw [h4, hL]; exact hlen) (by rw [h4, hL]; exact hc))
 rw [← hL] at hb hlen hc ⊢
 have HF := Lib.hid h
 have HSM := Lib.hid sm
 have HYL : Hid (l.length = L) := Lib.hid hL.symm
 have HS1 := Lib.hid h1
 have HS2 := Lib.hid h2
 clear h hL sm h1 h2 ih
 have hm0 : ((m : Int) - (a : Int) == 1) = false := by simp; omega
 have hb0 : ((b : Int) - (m : Int) == 1) = false := by simp; omega
 obtain ⟨s0, hs0⟩ : ∃ s0, s0 = a + b := ⟨_, rfl⟩
 obtain ⟨mid, hmid⟩ : ∃ mid, mid = s0 / 2 := ⟨_, rfl⟩
 have hzs0 : (a : Int) + (b : Int) = (s0 : Int) := by omega
 have hws0 : IntKind.i64.wrap (s0 : Int) = (s0 : Int) := wrapI_of _ (by omega) (by omega)
 have hus0 : IntKind.u64.wrap (s0 : Int) = (s0 : Int) := by rw [wrapU_mod]; omega
 have hds0 : (s0 : Int) / 2 = (mid : Int) := by omega
 have hwmid : IntKind.i64.wrap (mid : Int) = (mid : Int) := wrapI_of _ (by omega) (by omega)
 have hvmid : IntKind.u64.wrap (mid : Int) = (mid : Int) := by rw [wrapU_mod]; omega
 obtain ⟨n, hn⟩ : ∃ n, n = mid + m := ⟨_, rfl⟩
 have hnz : (mid : Int) + (m : Int) = (n : Int) := by omega
 have hnw : IntKind.i64.wrap (n : Int) = (n : Int) := wrapI_of _ (by omega) (by omega)
 obtain ⟨p, hp⟩ : ∃ p, p = n - 1 := ⟨_, rfl⟩
 have hpz : (n : Int) - 1 = (p : Int) := by omega
 have hpw : IntKind.i64.wrap (p : Int) = (p : Int) := wrapI_of _ (by omega) (by omega)
 have HMID : Hid (mid = (a + b) / 2) := Lib.hid (by omega)
 have HN := Lib.hid hn
 have HPP := Lib.hid hp
 have HNB : Hid (n ≤ 200000 ∧ mid ≤ b) := Lib.hid (by omega)
 have HH : Hid (m ≠ a + 1 ∧ b ≠ m + 1) := Lib.hid ⟨h1m, h2m⟩
 clear hs0 hmid hn hp h1m h2m
 go_enter Tryz.func75, Tryz.ntmps75
 go_upto_if 140 with fail
 go_cut [20, 21] (fun x y wx => ∃ (lo hi : Nat), x = .int .i64 (lo : Int) ∧ y = .int .i64 (hi : Int) ∧ Bnd a m b mid lo hi ∧ w = wx)
 case first =>
  by_cases hmm : mid < m
  ·have hmz : (mid : Int) < (m : Int) := by omega
   obtain ⟨lo, hlo⟩ : ∃ lo, lo + b = n := ⟨n - b, by have := HN.out; have := HMID.out; omega⟩
   have hlz : (n : Int) - (b : Int) = (lo : Int) := by omega
   have hlw : IntKind.i64.wrap (lo : Int) = (lo : Int) := wrapI_of _ (by omega) (by have := HNB.out; omega)
   have HLH : Hid (Bnd a m b mid lo mid) := Lib.hid (.inl ⟨hmm, by have := HN.out; omega, rfl⟩)
   clear hlo
   go_wp2_with fail
   go_meet
   exact ⟨lo, mid, rfl, rfl, HLH.out, rfl⟩
  ·have hmz : ¬ (mid : Int) < (m : Int) := by omega
   have HLH : Hid (Bnd a m b mid a m) := Lib.hid (.inr ⟨by omega, rfl, rfl⟩)
   go_wp2_with fail
   go_meet
   exact ⟨a, m, rfl, rfl, HLH.out, rfl⟩
 case rest =>
  obtain ⟨lo, hi, rfl, rfl, hbd, rfl⟩ := hcut
  clear hm0 hb0 hzs0 hws0 hus0 hds0 hwmid hvmid hnz hnw
  have HBD := Lib.hid hbd
  have HFA := Lib.hid (hbd.facts HMID.out ham hmb)
  clear hbd
  go_wp2_with fail
  clear hpz hpw
  go_loopw [20, 21] (fun vi vj wr => ∃ (i j : Nat), vi = .int .i64 (i : Int) ∧ vj = .int .i64 (j : Int) ∧ lo ≤ i ∧ i ≤ j ∧ j ≤ hi ∧ FdAt wr g pt l ∧ w.grownBy wr (some g) ∧ Low lvK l (mid + m) lo i ∧ High lvK l (mid + m) j hi) (fun i j _ => (intOf j).toNat - (intOf i).toNat)
  case atStart => exact ⟨lo, hi, rfl, rfl, Nat.le_refl _, by have := HFA.out; omega, Nat.le_refl _, HF.out, gr_refl _ _, fun c h1 h2 => absurd h1 (by omega), fun c h1 h2 => absurd h1 (by omega)⟩
  case round =>
   obtain ⟨i, j, rfl, rfl, hi1, hij, hj, hf, hg, hlo, hhi⟩ := hrel
   have HFY := Lib.hid hf
   have HG := Lib.hid hg
   have HLO := Lib.hid hlo
   have HHI := Lib.hid hhi
   clear hf hg hlo hhi
   by_cases hlt : i < j
   ·have hltz : (i : Int) < (j : Int) := by omega
    have hjb : j ≤ 100000 := by have := HFA.out; omega
    obtain ⟨s, hs⟩ : ∃ s, s = i + j := ⟨_, rfl⟩
    obtain ⟨t, ht⟩ : ∃ t, t = s / 2 := ⟨_, rfl⟩
    have hzs : (i : Int) + (j : Int) = (s : Int) := by omega
    have hws : IntKind.i64.wrap (s : Int) = (s : Int) := wrapI_of _ (by omega) (by omega)
    have hus : IntKind.u64.wrap (s : Int) = (s : Int) := by rw [wrapU_mod]; omega
    have hds : (s : Int) / 2 = (t : Int) := by omega
    have hwt : IntKind.i64.wrap (t : Int) = (t : Int) := wrapI_of _ (by omega) (by omega)
    have hvt : IntKind.u64.wrap (t : Int) = (t : Int) := by rw [wrapU_mod]; omega
    obtain ⟨d, hd⟩ : ∃ d, d = p - t := ⟨_, rfl⟩
    have hpn : p = mid + m - 1 := by rw [HPP.out, HN.out]
    have hdz : (p : Int) - (t : Int) = (d : Int) := by have := HFA.out; omega
    have hdw : IntKind.i64.wrap (d : Int) = (d : Int) := wrapI_of _ (by omega) (by have := HNB.out; omega)
    have htL : (t : Int) < (L : Int) := by have := HFA.out; omega
    have hdL : (d : Int) < (L : Int) := by have := HFA.out; omega
    have HT : Hid (i ≤ t ∧ t < j ∧ d = mid + m - 1 - t ∧ d < L ∧ t < L) := Lib.hid ⟨by omega, by omega, by rw [hd, HPP.out, HN.out], by omega, by omega⟩
    have HUe : Hid (∃ u v, l[d]? = some u ∧ l[t]? = some v) := Lib.hid ⟨_, _, List.getElem?_eq_getElem (by have := HYL.out; have := HT.out; omega), List.getElem?_eq_getElem (by have := HYL.out; have := HT.out; omega)⟩
    obtain ⟨u, v, hu, hv⟩ := HUe.out
    have HEu := Lib.hid hu
    have HEv := Lib.hid hv
    have HKu : Hid (kf lvK l d = (u.1 : Int)) := Lib.hid (kf_get hu)
    have HKv : Hid (kf lvK l t = (v.1 : Int)) := Lib.hid (kf_get hv)
    have HUB := Lib.hid (HSM.out.get hu).1
    have HVB := Lib.hid (HSM.out.get hv).1
    clear hs ht hd hu hv HUe hpn
    go_wp2_with fail
    have PC := Lib.hid (fun w => cmp_any pt u v (HSM.out.get HEu.out).1 (HSM.out.get HEv.out).1 w)
    have HFD := Lib.hid HFY.out.drew
    have HGD := Lib.hid (gr_drew HG.out)
    refine wp_region_any (by kernel_rfl) ?_
    generalize ({ heap := wr.heap, tape := wr.tape, drawn := wr.drawn + 1, os := wr.os, output := wr.output } : World) = wd at *
    have hlp := HFD.out.rng d u HEu.out
    have hlq := HFD.out.rng t v HEv.out
    refine wpAny_still_tail [true, true, true, true, true, true, true, true, true, true, true] [] _ (by kernel_rfl) (by kernel_rfl) ?_
    simp only [dropAt, List.length_cons, List.length_nil, List.drop_succ_cons, List.drop_zero]
    repeat (first | refine wpStill_load_mid (by rfl) 66 _ rfl g (d * 3) rfl (fd3 pt u) _ hlp Tryz.underlying66 rfl (by kernel_rfl) ?_ | refine wpStill_load_mid (by rfl) 66 _ rfl g (t * 3) rfl (fd3 pt v) _ hlq Tryz.underlying66 rfl (by kernel_rfl) ?_ | still_step)
    refine wpStill_nil ?_
    simp only [Act.put, z1, z2, z3, z4, z5, z6]
    clear hlp hlq
    go_wp2_with fail
    with_reducible refine (PC.out _).mono ?_
    rintro e w3 ⟨rfl, hb⟩
    have HF3 := Lib.hid (HFD.out.kept hb)
    have HG3 := Lib.hid (gr_below HGD.out hb)
    clear hb
    have hub := HUB.out
    have hvb := HVB.out
    have hdx : IntKind.i64.wrap ((u.1 : Int) - (v.1 : Int)) = (u.1 : Int) - (v.1 : Int) := wrapI_of _ (by omega) (by omega)
    clear hzs hws hus hds hwt hvt hdz hdw hdL hjb
    by_cases hd : (u.1 : Int) - (v.1 : Int) < 0
    ·have hdd : decide ((u.1 : Int) - (v.1 : Int) < 0) = true := decide_eq_true hd
     have HNX : Hid (High lvK l (mid + m) t hi) := Lib.hid (by
      have h1 := HT.out
      refine high_next (s := 0) HBD.out HMID.out ham hmb HS1.out HS2.out (by omega) (by omega) ?_
      rw [← h1.2.2.1, HKu.out, HKv.out]
      omega)
     clear hd
     go_wp2_with fail
     go_roundw
     case rel => exact ⟨i, t, rfl, rfl, hi1, HT.out.1, by have := HT.out; omega, HF3.out, HG3.out, HLO.out, HNX.out⟩
     case measure => simp [intOf]; have := HT.out; omega
    ·have hdd : decide ((u.1 : Int) - (v.1 : Int) < 0) = false := decide_eq_false hd
     have HNX : Hid (Low lvK l (mid + m) lo (t + 1)) := Lib.hid (by
      have h1 := HT.out
      refine low_next (s := 0) HBD.out HMID.out ham hmb HS1.out HS2.out (by omega) (by omega) ?_
      rw [← h1.2.2.1, HKu.out, HKv.out]
      omega)
     clear hd
     go_wp2_with fail
     go_roundw
     case rel => exact ⟨t + 1, j, by go_num, rfl, by have := HT.out; omega, by have := HT.out; omega, hj, HF3.out, HG3.out, HNX.out, HHI.out⟩
     case measure => simp [intOf]; have := HT.out; omega
   ·have hltz : ¬ (i : Int) < (j : Int) := by omega
    have hji : j = i := by omega
    subst hji
    generalize wr = wo at *
    obtain ⟨e, he⟩ : ∃ e, e = mid + m - j := ⟨_, rfl⟩
    have HC : Hid (SymCut lvK l a m b mid j e) := Lib.hid (by rw [he]; exact symcut_of HBD.out HMID.out ham hmb hi1 hj HLO.out HHI.out)
    have hez : (n : Int) - (j : Int) = (e : Int) := by have := HFA.out; have := HN.out; omega
    have hew : IntKind.i64.wrap (e : Int) = (e : Int) := wrapI_of _ (by omega) (by have := HNB.out; have := HN.out; omega)
    clear he
    go_upto_region 38 with fail
    iterate 17 (first | go_values | go_skip | go_guarded | go_step | go_upon)
    clear hez hew
    go_cut [] (fun wx => ∃ y, FdAt wx g pt y ∧ w.grownBy wx (some g) ∧ IsRot l y j m e)
    case first =>
     by_cases h1 : j < m
     ·have k1 : (j : Int) < (m : Int) := by omega
      by_cases h2 : m < e
      ·have k2 : (m : Int) < (e : Int) := by omega
       have PW := Lib.hid (PR.out l j m e h1 h2 (by have := HC.out.e1; have := HYL.out; omega) HYL.out _ HFY.out)
       rw [HYL.out] at PW
       clear h1 h2
       go_wp2_with fail
       with_reducible refine PW.out.mono ?_
       rintro e' w3 ⟨rfl, y, h1, h2, h3⟩
       have HQ : Hid (∃ y, FdAt w3 g pt y ∧ w.grownBy w3 (some g) ∧ IsRot l y j m e) := Lib.hid ⟨y, h1, HG.out.trans h2, h3⟩
       clear h1 h2 h3
       go_wp2_with fail
       go_meet
       exact HQ.out
      ·have k2 : ¬ (m : Int) < (e : Int) := by omega
       have HQ : Hid (∃ y, FdAt wo g pt y ∧ w.grownBy wo (some g) ∧ IsRot l y j m e) := Lib.hid ⟨l, HFY.out, HG.out, IsRot.self _ (by have := HC.out.s1; have := HC.out.e0; omega)⟩
       go_wp2_with fail
       go_meet
       exact HQ.out
     ·have k1 : ¬ (j : Int) < (m : Int) := by omega
      have HQ : Hid (∃ y, FdAt wo g pt y ∧ w.grownBy wo (some g) ∧ IsRot l y j m e) := Lib.hid ⟨l, HFY.out, HG.out, IsRot.self _ (by have := HC.out.s1; have := HC.out.e0; omega)⟩
      go_wp2_with fail
      go_meet
      exact HQ.out
    case rest =>
     obtain ⟨y, hf, hg, hr⟩ := hcut
     have HFZ := Lib.hid hf
     have HGZ := Lib.hid hg
     have HR1 := Lib.hid (sym_rot (by have := HYL.out; omega) HC.out HS1.out HS2.out hr)
     have HYL2 : Hid (y.length = L) := Lib.hid (by rw [hr.1, HYL.out])
     clear hf hg hr HFY HG
     generalize wc = w5 at *
     iterate 2 go_step
     go_cut [] (fun wx => ∃ z, FdAt wx g pt z ∧ w.grownBy wx (some g) ∧ Stp lvK a mid y z ∧ Srt lvK a mid z)
     case first =>
      by_cases h1 : a < j
      ·have k1 : (a : Int) < (j : Int) := by omega
       by_cases h2 : j < mid
       ·have k2 : (j : Int) < (mid : Int) := by omega
        have PW := Lib.hid (IH.out y a j mid h1 h2 (by have := HFA.out; have := HYL2.out; omega) (by rw [HYL2.out, HL.out]) (by have := HFA.out; omega) (HR1.out.1.small HSM.out) HR1.out.2.1 HR1.out.2.2.1 _ HFZ.out)
        rw [HYL2.out] at PW
        clear h1 h2
        go_wp2_with fail
        with_reducible refine PW.out.mono ?_
        rintro e' w3 ⟨rfl, z, h1, h2, h3, h4⟩
        have HQ : Hid (∃ z, FdAt w3 g pt z ∧ w.grownBy w3 (some g) ∧ Stp lvK a mid y z ∧ Srt lvK a mid z) := Lib.hid ⟨z, h1, HGZ.out.trans h2, h3, h4⟩
        clear h1 h2 h3 h4
        go_wp2_with fail
        go_meet
        exact HQ.out
       ·have k2 : ¬ (j : Int) < (mid : Int) := by omega
        have HQ : Hid (∃ z, FdAt w5 g pt z ∧ w.grownBy w5 (some g) ∧ Stp lvK a mid y z ∧ Srt lvK a mid z) := Lib.hid ⟨y, HFZ.out, HGZ.out, Stp.refl _ _ _, srt_join HR1.out.2.1 HR1.out.2.2.1 (by have := HC.out.s0; have := HC.out.s2; omega)⟩
        go_wp2_with fail
        go_meet
        exact HQ.out
      ·have k1 : ¬ (a : Int) < (j : Int) := by omega
       have HQ : Hid (∃ z, FdAt w5 g pt z ∧ w.grownBy w5 (some g) ∧ Stp lvK a mid y z ∧ Srt lvK a mid z) := Lib.hid ⟨y, HFZ.out, HGZ.out, Stp.refl _ _ _, srt_join HR1.out.2.1 HR1.out.2.2.1 (by have := HC.out.s0; have := HC.out.s2; omega)⟩
       go_wp2_with fail
       go_meet
       exact HQ.out
     case rest =>
      obtain ⟨z, hf, hg, hs, ho⟩ := hcut
      have HFU := Lib.hid hf
      have HGU := Lib.hid hg
      have HSU := Lib.hid hs
      have HOU := Lib.hid ho
      have HYL3 : Hid (z.length = L) := Lib.hid (by rw [hs.len, HYL2.out])
      clear hf hg hs ho HFZ HGZ
      generalize wc = w6 at *
      have HE1 : Hid (Srt lvK mid e z ∧ Srt lvK e b z) := Lib.hid ⟨HR1.out.2.2.2.1.of_out HSU.out (.inr (Nat.le_refl _)), HR1.out.2.2.2.2.1.of_out HSU.out (.inr (by have := HC.out.e0; have := HC.out.s1; have := HC.out.sum; omega))⟩
      have HFIN : Hid (∀ w' u, FdAt w' g pt u → w.grownBy w' (some g) → Stp lvK mid b z u → Srt lvK mid b u → SortRes w g pt (fun y => Stp lvK a b l y ∧ Srt lvK a b y) (.returned (.tuple #[])) w') := Lib.hid (fun w' u k1 k2 k3 k4 => by
       have hf := HFA.out
       exact ⟨rfl, u, k1, k2, (HR1.out.1.trans (HSU.out.mono (Nat.le_refl _) (by omega))).trans (k3.mono (by omega) (Nat.le_refl _)), srt_both HSU.out k3 (by omega) (by omega) HOU.out k4 HR1.out.2.2.2.2.2⟩)
      by_cases h1 : mid < e
      ·have k1 : (mid : Int) < (e : Int) := by omega
       by_cases h2 : e < b
       ·have k2 : (e : Int) < (b : Int) := by omega
        have PW := Lib.hid (IH.out z mid e b h1 h2 (by have := HYL3.out; omega) (by rw [HYL3.out, HL.out]) (by have := HMID.out; omega) ((HR1.out.1.trans (HSU.out.mono (Nat.le_refl _) (by have := HFA.out; omega))).small HSM.out) HE1.out.1 HE1.out.2 _ HFU.out)
        rw [HYL3.out] at PW
        clear h1 h2
        go_wp2_with fail
        with_reducible refine PW.out.mono ?_
        rintro e' w3 ⟨rfl, u, h1, h2, h3, h4⟩
        have HQ := Lib.hid (HFIN.out _ u h1 (HGU.out.trans h2) h3 h4)
        clear h1 h2 h3 h4
        go_wp2
        go_end0
        exact HQ.out
       ·have k2 : ¬ (e : Int) < (b : Int) := by omega
        have HQ := Lib.hid (HFIN.out _ z HFU.out HGU.out (Stp.refl _ _ _) (srt_join HE1.out.1 HE1.out.2 (by have := HC.out.e1; have := HC.out.e0; have := HC.out.sum; have := HC.out.s1; omega)))
        go_wp2
        go_end0
        exact HQ.out
      ·have k1 : ¬ (mid : Int) < (e : Int) := by omega
       have HQ := Lib.hid (HFIN.out _ z HFU.out HGU.out (Stp.refl _ _ _) (srt_join HE1.out.1 HE1.out.2 (by have := HC.out.e1; have := HC.out.e0; have := HC.out.sum; have := HC.out.s1; omega)))
       go_wp2
       go_end0
       exact HQ.out
end Go.Proofs.YthbkljeibmkimaaGreat


namespace Go.Proofs.YthbkljeibmkimaaGreat
open Go.RowKit
set_option linter.unusedVariables false
set_option linter.unusedSimpArgs false

theorem srsym (pt : Nat → Nat → Int) (g cap : Nat) : ∀ (k : Nat) (l : List (Nat × Nat)) (a m b : Nat), b - a ≤ k → a < m → m < b → b ≤ l.length → l.length ≤ 100000 → l.length ≤ cap → Small l → Srt lvK a m l → Srt lvK m b l → ∀ w, FdAt w g pt l →
    Calls Tryz.prog 75 #[.slice (some ⟨g, 0, none⟩) l.length cap, .int .i64 (a : Int), .int .i64 (m : Int), .int .i64 (b : Int), (.func (.func 37) #[] #[])] w (SortRes w g pt fun y => Stp lvK a b l y ∧ Srt lvK a b y)
  | 0, l, a, m, b, hk, h1, h2, _, _, _, _, _, _, _, _ => by omega
  | k + 1, l, a, m, b, hk, h1, h2, h3, h4, h5, h6, h7, h8, w, h => by
    by_cases e1 : m = a + 1
    · exact srsym1 pt g cap l a m b h1 h2 h3 h4 h5 h6 h7 h8 e1 w h
    · by_cases e2 : b = m + 1
      · exact srsym2 pt g cap l a m b h1 h2 h3 h4 h5 h6 h7 h8 e1 e2 w h
      · exact srsymg pt g cap l a m b h1 h2 h3 h4 h5 h6 h7 h8 e1 e2 (fun x a' m' b' g1 g2 g3 g4 g5 g6 g7 g8 w hw => srsym pt g cap k x a' m' b' (by omega) g1 g2 g3 (by rw [g4]; exact h4) (by rw [g4]; exact h5) g6 g7 g8 w hw) w h
set_option maxRecDepth 100000 in
set_option maxHeartbeats 8000000 in
theorem srstable (pt : Nat → Nat → Int) (g cap : Nat) (l : List (Nat × Nat)) (hlen : l.length ≤ 100000) (hc : l.length ≤ cap) (sm : Small l) (w : World) (h : FdAt w g pt l) :
  Calls Tryz.prog 62 #[.slice (some ⟨g, 0, none⟩) l.length cap, .int .i64 (l.length : Int), (.func (.func 37) #[] #[])] w (SortRes w g pt fun y => Stp lvK 0 l.length l y ∧ Srt lvK 0 l.length y) := by
 obtain ⟨L, hL⟩ : ∃ L, L = l.length := ⟨_, rfl⟩
 have HL := Lib.hid hL
 have PI := Lib.hid (fun (z : List (Nat × Nat)) (x y : Nat) h1 h2 (h4 : z.length = L) h5 => srins pt g cap z x y h1 h2 (by rw [h4, hL]; exact hlen) (by rw [h4, hL]; exact hc) h5)
 have PM := Lib.hid (fun (z : List (Nat × Nat)) (x y n : Nat) h1 h2 h3 (h4 : z.length = L) h5 h6 h7 => srsym pt g cap (n - x) z x y n (Nat.le_refl _) h1 h2 h3 (by rw [h4, hL]; exact hlen) (by rw [h4, hL]; exact hc) h5 h6 h7)
 rw [← hL] at hlen hc ⊢
 have HF := Lib.hid h
 have HSL := Lib.hid sm
 clear h hL sm
 go_enter Tryz.func62, Tryz.ntmps62
 go_wp2_with fail
 go_loopw [7, 8] (fun va vb wr => ∃ (t a b : Nat) (y : List (Nat × Nat)), va = .int .i64 (a : Int) ∧ vb = .int .i64 (b : Int) ∧ a = t * 20 ∧ b = a + 20 ∧ a ≤ L ∧ FdAt wr g pt y ∧ w.grownBy wr (some g) ∧ Stp lvK 0 L l y ∧ SrtU lvK 20 a y) (fun a _ _ => L - (intOf a).toNat)
 case atStart => exact ⟨0, 0, 20, l, rfl, rfl, rfl, rfl, Nat.zero_le _, HF.out, gr_refl _ _, Stp.refl _ _ _, fun p q h1 h2 h3 => by omega⟩
 case round =>
  obtain ⟨t, a, b, y, rfl, rfl, ha, hb, htl, hf, hg, hs, hu⟩ := hrel
  have HFY := Lib.hid hf
  have HG := Lib.hid hg
  have HS := Lib.hid hs
  have HU := Lib.hid hu
  have HYL : Hid (y.length = L) := Lib.hid (by rw [hs.len, HL.out])
  have HSM := Lib.hid (hs.small HSL.out)
  have HAB := Lib.hid (And.intro ha hb)
  clear hf hg hs hu
  by_cases hbn : b ≤ L
  ·have hbz : (b : Int) ≤ (L : Int) := by omega
   have PW := Lib.hid (PI.out y a b (by omega) (by rw [HYL.out]; exact hbn) HYL.out HSM.out wr HFY.out)
   rw [HYL.out] at PW
   have hb2 : (b : Int) ≤ 100000 := by omega
   clear ha hb htl
   go_wp2_with fail
   with_reducible refine PW.out.mono ?_
   rintro e w3 ⟨rfl, z, h1, h2, h3, h4⟩
   have HF3 := Lib.hid h1
   have HG3 := Lib.hid (HG.out.trans h2)
   have HS3 : Hid (Stp lvK 0 L l z) := Lib.hid (HS.out.trans (h3.mono (Nat.zero_le _) hbn))
   have HU3 : Hid (SrtU lvK 20 b z) := Lib.hid (by
    have e1 := HAB.out.1
    have e2 := HAB.out.2
    have h5 := HU.out
    rw [e2] at h3 h4 ⊢
    rw [e1] at h3 h4 h5 ⊢
    exact h5.next (by decide) h3 h4)
   clear h1 h2 h3 h4
   go_wp2_with fail
   go_roundw
   case rel => exact ⟨t + 1, b, b + 20, z, rfl, by go_num, by have := HAB.out; omega, rfl, hbn, HF3.out, HG3.out, HS3.out, HU3.out⟩
   case measure => simp [intOf]; have := HAB.out; omega
  ·have hbz : ¬ (b : Int) ≤ (L : Int) := by omega
   have PW := Lib.hid (PI.out y a L (by omega) (by rw [HYL.out]; exact Nat.le_refl _) HYL.out HSM.out wr HFY.out)
   rw [HYL.out] at PW
   have HAL : Hid (a ≤ L ∧ L ≤ a + 20) := Lib.hid (by omega)
   clear ha hb htl
   generalize wr = wo at *
   go_wp2_with fail
   with_reducible refine PW.out.mono ?_
   rintro e w3 ⟨rfl, z, h1, h2, h3, h4⟩
   have HF3 := Lib.hid h1
   have HG3 := Lib.hid (HG.out.trans h2)
   have HS3 : Hid (Stp lvK 0 L l z) := Lib.hid (HS.out.trans (h3.mono (Nat.zero_le _) (Nat.le_refl _)))
   have HU3 : Hid (SrtU lvK 20 L z) := Lib.hid (by
    have e1 := HAB.out.1
    have h5 := HU.out
    have h6 := HAL.out
    rw [e1] at h3 h4 h5 h6
    exact SrtU.last (by decide) h6.2 h6.1 h5 h3 h4)
   clear h1 h2 h3 h4 PW HFY HG HS HU HYL HSM HAB HAL hbz
   go_wp2_with fail
   go_loopw [6, 7, 8] (fun vs _ _ wr => ∃ (s : Nat) (y : List (Nat × Nat)), vs = .int .i64 (s : Int) ∧ 0 < s ∧ s ≤ 200000 ∧ FdAt wr g pt y ∧ w.grownBy wr (some g) ∧ Stp lvK 0 L l y ∧ SrtU lvK s L y) (fun s _ _ _ => L - (intOf s).toNat)
   case atStart => exact ⟨20, z, rfl, by decide, by decide, HF3.out, HG3.out, HS3.out, HU3.out⟩
   case round =>
    clear HF3 HG3 HS3 HU3 hbn
    obtain ⟨s, y, rfl, hs0, hs2, hf, hg, hs, hu⟩ := hrel
    have HFY := Lib.hid hf
    have HG := Lib.hid hg
    have HS := Lib.hid hs
    have HU := Lib.hid hu
    clear hf hg hs hu
    by_cases hsl : s < L
    ·have hsz : (s : Int) < (L : Int) := by omega
     obtain ⟨D, hD⟩ : ∃ D, D = 2 * s := ⟨_, rfl⟩
     have hDz : (s : Int) * 2 = (D : Int) := by omega
     have hDz2 : 2 * (s : Int) = (D : Int) := by omega
     have hDw : IntKind.i64.wrap (D : Int) = (D : Int) := wrapI_of _ (by omega) (by omega)
     have HD := Lib.hid hD
     have hDl : (D : Int) ≤ 200000 := by omega
     have hD0 : 0 < (D : Int) := by omega
     clear hD
     generalize wr = wo2 at *
     go_wp2_with fail
     go_loopw [7, 8] (fun va vb wr => ∃ (t a b : Nat) (y : List (Nat × Nat)), va = .int .i64 (a : Int) ∧ vb = .int .i64 (b : Int) ∧ a = t * D ∧ a = 2 * t * s ∧ b = a + D ∧ a ≤ L ∧ FdAt wr g pt y ∧ w.grownBy wr (some g) ∧ Stp lvK 0 L l y ∧ SrtU lvK D a y ∧ SrtV lvK s a L y) (fun a _ _ => L - (intOf a).toNat)
     case atStart => exact ⟨0, 0, D, y, rfl, rfl, by simp, by simp, by simp, Nat.zero_le _, HFY.out, HG.out, HS.out, fun p q h1 h2 h3 => by omega, HU.out.toV⟩
     case round =>
      clear HFY HG HS HU
      obtain ⟨t, a, b, y, rfl, rfl, ha, ha2, hb, htl, hf, hg, hs, hu, hv⟩ := hrel
      have HFY := Lib.hid hf
      have HG := Lib.hid hg
      have HS := Lib.hid hs
      have HU := Lib.hid hu
      have HV := Lib.hid hv
      have HYL : Hid (y.length = L) := Lib.hid (by rw [hs.len, HL.out])
      have HSM := Lib.hid (hs.small HSL.out)
      have HAB := Lib.hid (And.intro ha hb)
      have HA2 : Hid (a = 2 * t * s ∧ a + s = (2 * t + 1) * s) := Lib.hid ⟨ha2, by rw [Nat.succ_mul, ← ha2]⟩
      clear hf hg hs hu hv ha ha2
      obtain ⟨m, hm⟩ : ∃ m, m = a + s := ⟨_, rfl⟩
      have hmz : (a : Int) + (s : Int) = (m : Int) := by omega
      have hmw : IntKind.i64.wrap (m : Int) = (m : Int) := wrapI_of _ (by omega) (by omega)
      have HM := Lib.hid hm
      have HP1 : ∀ hi, hi ≤ m → hi ≤ L → Srt lvK a hi y := fun hi h1 h2 => HV.out.part (t := 2 * t) (Nat.le_refl _) (by rw [← HA2.out.1]; exact Nat.le_refl _) (by rw [← HA2.out.1, ← hm]; exact h1) h2
      have HP2 : ∀ hi, hi ≤ a + D → hi ≤ L → Srt lvK m hi y := fun hi h1 h2 => HV.out.part (t := 2 * t + 1) (by omega) (by rw [← HA2.out.2, hm]; exact Nat.le_refl _) (by rw [← HA2.out.2]; have := HD.out; omega) h2
      have HP1 := Lib.hid HP1
      have HP2 := Lib.hid HP2
      by_cases hbn : b ≤ L
      ·have hbz : (b : Int) ≤ (L : Int) := by omega
       have hbz2 : (b : Int) ≤ 100000 := by omega
       have PW := Lib.hid (PM.out y a m b (by omega) (by have := HD.out; omega) (by rw [HYL.out]; exact hbn) HYL.out HSM.out (HP1.out m (Nat.le_refl _) (by have := HD.out; omega)) (HP2.out b (by omega) hbn) wr HFY.out)
       rw [HYL.out] at PW
       obtain ⟨c, hc2⟩ : ∃ c, c = b + D := ⟨_, rfl⟩
       have hcz : (b : Int) + (D : Int) = (c : Int) := by omega
       have hcw : IntKind.i64.wrap (c : Int) = (c : Int) := wrapI_of _ (by omega) (by omega)
       have HC := Lib.hid hc2
       clear hm hb hc2 htl
       go_wp2_with fail
       with_reducible refine PW.out.mono ?_
       rintro e w3 ⟨rfl, z, h1, h2, h3, h4⟩
       have HF3 := Lib.hid h1
       have HG3 := Lib.hid (HG.out.trans h2)
       have HS3 : Hid (Stp lvK 0 L l z) := Lib.hid (HS.out.trans (h3.mono (Nat.zero_le _) hbn))
       have HV3 : Hid (SrtV lvK s b L z) := Lib.hid (HV.out.out h3 (by have := HAB.out.2; omega))
       have HU3 : Hid (SrtU lvK D b z) := Lib.hid (by
        have e1 := HAB.out.1
        have e2 := HAB.out.2
        have h5 := HU.out
        rw [e2] at h3 h4 ⊢
        rw [e1] at h3 h4 h5 ⊢
        exact h5.next (by omega) h3 h4)
       clear h1 h2 h3 h4
       go_wp2_with fail
       go_roundw
       case rel => exact ⟨t + 1, b, c, z, rfl, rfl, by have := HAB.out; rw [Nat.succ_mul]; omega, by have h1 := HA2.out; have h2 := HAB.out.2; have h3 := HD.out; rw [show 2 * (t + 1) = 2 * t + 1 + 1 by omega, Nat.succ_mul, ← h1.2]; omega, HC.out, hbn, HF3.out, HG3.out, HS3.out, HU3.out, HV3.out⟩
       case measure => simp [intOf]; have := HAB.out; omega
      ·have hbz : ¬ (b : Int) ≤ (L : Int) := by omega
       by_cases hml : m < L
       ·have hmlz : (m : Int) < (L : Int) := by omega
        have PW := Lib.hid (PM.out y a m L (by omega) hml (by rw [HYL.out]; exact Nat.le_refl _) HYL.out HSM.out (HP1.out m (Nat.le_refl _) (by omega)) (HP2.out L (by omega) (Nat.le_refl _)) wr HFY.out)
        rw [HYL.out] at PW
        have HLB : Hid (L ≤ a + D ∧ a ≤ L) := Lib.hid (by omega)
        clear hm hb htl
        go_wp2_with fail
        with_reducible refine PW.out.mono ?_
        rintro e w3 ⟨rfl, z, h1, h2, h3, h4⟩
        have HF3 := Lib.hid h1
        have HG3 := Lib.hid (HG.out.trans h2)
        have HS3 : Hid (Stp lvK 0 L l z) := Lib.hid (HS.out.trans (h3.mono (Nat.zero_le _) (Nat.le_refl _)))
        have HU3 : Hid (SrtU lvK D L z) := Lib.hid (by
         have e1 := HAB.out.1
         have h5 := HU.out
         have h6 := HLB.out
         rw [e1] at h3 h4 h5 h6
         exact SrtU.last (by omega) h6.1 h6.2 h5 h3 h4)
        clear h1 h2 h3 h4
        go_wp2_with fail
        go_roundw
        case rel => exact ⟨D, z, rfl, by omega, by omega, HF3.out, HG3.out, HS3.out, HU3.out⟩
        case measure => simp [intOf]; have := HD.out; omega
       ·have hmlz : ¬ (m : Int) < (L : Int) := by omega
        have HU3 : Hid (SrtU lvK D L y) := Lib.hid (by
         have h4 := HP1.out L (by omega) (Nat.le_refl _)
         have e1 := HAB.out.1
         have h5 := HU.out
         have h6 : L ≤ a + D ∧ a ≤ L := by omega
         rw [e1] at h4 h5 h6
         exact SrtU.last (by omega) h6.1 h6.2 h5 (Stp.refl _ _ _) h4)
        clear hm hb htl
        go_wp2_with fail
        go_roundw
        case rel => exact ⟨D, y, rfl, by omega, by omega, HFY.out, HG.out, HS.out, HU3.out⟩
        case measure => simp [intOf]; have := HD.out; omega
    ·have hsz : ¬ (s : Int) < (L : Int) := by omega
     have HR : Hid (SortRes w g pt (fun y => Stp lvK 0 L l y ∧ Srt lvK 0 L y) (.returned (.tuple #[])) wr) := Lib.hid ⟨rfl, y, HFY.out, HG.out, HS.out, HU.out.whole (by omega)⟩
     go_wp2
     go_end0
     exact HR.out
end Go.Proofs.YthbkljeibmkimaaGreat


namespace Go.Proofs.YthbkljeibmkimaaGreat
open Go.RowKit Go.Maps
set_option linter.unusedVariables false
set_option linter.unusedSimpArgs false

theorem pcLaw : Keyed Tryz.prog 64 := .of_law (deep_law_laid (m := 2) (by kernel_rfl) (by omega) (of_decide_eq_true (by kernel_rfl)) (by kernel_rfl) (by rw [Tryz.underlying64]))
def pcL (p : Nat × Nat) : Lit := .string (keyBytes [.int .i64 (p.1 : Int), .int .u64 (p.2 : Int)])
def Sml (p : Nat × Nat) : Prop := p.1 ≤ 59 ∧ p.2 < 18446744073709551616
def pcV (p : Nat × Nat) : Value := .agg #[.int .i64 (p.1 : Int), .int .u64 (p.2 : Int)]
theorem pcKey (p : Nat × Nat) (h : Sml p) : keyOf Tryz.prog 64 (pcV p) = some (pcL p) := by
 obtain ⟨n, i⟩ := p
 obtain ⟨h1, h2⟩ := h
 have w1 : (Lit.int .i64 (n : Int)).wf = true := by
  have h1 : n ≤ 59 := h1
  have m0 : IntKind.i64.min = -9223372036854775808 := by decide
  have m1 : IntKind.i64.max = 9223372036854775807 := by decide
  simp only [Lit.wf, m0, m1, Bool.and_eq_true, decide_eq_true_eq]
  omega
 have w2 : (Lit.int .u64 (i : Int)).wf = true := by
  have h2 : i < 18446744073709551616 := h2
  have m0 : IntKind.u64.min = 0 := by decide
  have m1 : IntKind.u64.max = 18446744073709551615 := by decide
  simp only [Lit.wf, m0, m1, Bool.and_eq_true, decide_eq_true_eq]
  omega
 have e1 : Tryz.prog.keyType 64 = true := by kernel_rfl
 have e2 : (pcV (n, i)).formed Tryz.prog 64 = true := by
  have : Tryz.prog.cellsOf 64 = 2 := by kernel_rfl
  simp [pcV, Value.formed, Tryz.underlying64, this]
 have e3 : ∀ d, Tryz.prog.keyLits (d + 2) 64 [.int .i64 (n : Int), .int .u64 (i : Int)] = some [.int .i64 (n : Int), .int .u64 (i : Int)] := fun d => by
  have c0 : Tryz.prog.cellsOf 64 = 2 := by kernel_rfl
  have c1 : Tryz.prog.cellsOf 3 = 1 := by kernel_rfl
  have c2 : Tryz.prog.cellsOf 22 = 1 := by kernel_rfl
  simp [Program.keyLits, Tryz.underlying64, Tryz.underlying3, Tryz.underlying22, c0, c1, c2, w1, w2]
 obtain ⟨d, hd⟩ : ∃ d, Tryz.prog.types.size + 1 = d + 2 := ⟨Tryz.prog.types.size - 1, by have : Tryz.prog.types.size ≠ 0 := of_decide_eq_true (by kernel_rfl); omega⟩
 unfold keyOf
 rw [Tryz.underlying64]
 show (if (Tryz.prog.keyType 64 && (pcV (n, i)).formed Tryz.prog 64) = true then (Tryz.prog.keyLits (Tryz.prog.types.size + 1) 64 [.int .i64 (n : Int), .int .u64 (i : Int)]).map (fun ls => Lit.string (keyBytes ls)) else none) = _
 rw [e1, e2, hd, e3]
 rfl
theorem pcL_inj {p q : Nat × Nat} (hp : Sml p) (hq : Sml q) (h : pcL p = pcL q) : p = q := by
  have := pcLaw.inj (pcKey p hp) (by rw [h]; exact pcKey q hq)
  unfold pcV at this
  simp at this
  exact Prod.ext (by omega) (by omega)
def MapIs (w : World) (b n : Nat) (pt : Nat → Nat → Int) (l : List (Nat × Nat)) : Prop :=
  ∃ D : DataW Unit, w.ownsMap Tryz.prog 64 (plainElem Tryz.prog 2) b n D ∧ ∀ p, Sml p → has D (pcL p) = decide (p ∈ l) ∧ (p ∈ l → D.atKey (pcL p) (.lit (.int .i64 0)) = .lit (.int .i64 (pt p.1 p.2)))
theorem MapIs.lt {w : World} {b n : Nat} {pt : Nat → Nat → Int} {l : List (Nat × Nat)} (h : MapIs w b n pt l) : b < w.heap.size := by obtain ⟨D, h1, -⟩ := h; exact h1.lt
theorem MapIs.grown {w w' : World} {b n : Nat} {pt : Nat → Nat → Int} {l : List (Nat × Nat)} {row : Option Nat} (h : MapIs w b n pt l) (hg : w.grownBy w' row) (hne : some b ≠ row) : MapIs w' b n pt l := by
  obtain ⟨D, h1, h2⟩ := h
  exact ⟨D, h1.kept hg hne, h2⟩
theorem MapIs.kept {w w' : World} {b n : Nat} {pt : Nat → Nat → Int} {l : List (Nat × Nat)} (h : MapIs w b n pt l) (hb : Below w.heap.size w w') : MapIs w' b n pt l :=
  h.grown (row := none) ⟨hb.os, hb.tape, hb.output, hb.size, fun k hk _ => hb.block k hk⟩ (by simp)
theorem mapis_made (w : World) (pt : Nat → Nat → Int) : MapIs (w.alloc (.map #[] 0)) w.heap.size 0 pt [] :=
  ⟨.map [], World.ownsMap_made w _ _ _, fun p _ => ⟨by simp [has], fun h => by simp at h⟩⟩
theorem key_lit (p : Nat × Nat) (h : Sml p) : WideAt.IsKeyLit (pcL p) := pcLaw.key (pcKey p h)
theorem MapIs.put {w : World} {b n : Nat} {pt : Nat → Nat → Int} {l : List (Nat × Nat)} {D : DataW Unit} (hD : ∀ p, Sml p → has D (pcL p) = decide (p ∈ l) ∧ (p ∈ l → D.atKey (pcL p) (.lit (.int .i64 0)) = .lit (.int .i64 (pt p.1 p.2)))) (hm : IsMap D) (p : Nat × Nat) (hp : Sml p)
    (h : w.ownsMap Tryz.prog 64 (plainElem Tryz.prog 2) b n (D.put (pcL p) (.lit (.int .i64 (pt p.1 p.2))))) : MapIs w b n pt (l ++ [p]) := by
  refine ⟨_, h, fun q hq => ?_⟩
  by_cases e : q = p
  · subst e
    exact ⟨by rw [has_put_same hm (key_lit q hq)]; simp, fun _ => atKey_put_same hm (key_lit q hq) _ _⟩
  · have hne : pcL q ≠ pcL p := fun h => e (pcL_inj hq hp h)
    rw [has_put_other hne, atKey_put_other hne]
    obtain ⟨h1, h2⟩ := hD q hq
    exact ⟨by rw [h1]; simp [e], fun h => h2 (by simpa [e] using h)⟩
theorem owns_isMap {w : World} {k : TypeId} {R : Value → Option (DataW Unit × List MemPlace)} {b n : Nat} {D : DataW Unit} (h : w.ownsMap Tryz.prog k R b n D) : IsMap D := by
  obtain ⟨es, clock, -, -, -, rfl⟩ := h
  exact ⟨_, rfl⟩
end Go.Proofs.YthbkljeibmkimaaGreat


namespace Go.Proofs.YthbkljeibmkimaaGreat
open Go.RowKit Go.Maps
set_option linter.unusedVariables false
set_option linter.unusedSimpArgs false

def wV (x : Int) : Value := .agg #[.int .i64 (wHi x), .int .u64 (wLo x)]
def W127 (x : Int) : Prop := -170141183460469231731687303715884105728 ≤ x ∧ x < 170141183460469231731687303715884105728
theorem wide_of (n : Int) (h : In64 n) (w : World) : Calls Tryz.prog 34 #[.int .i64 n] w fun e w' => e = .returned (wV n) ∧ Below w.heap.size w w' := by
  obtain ⟨h1, h2⟩ := h
  have e1 : n / 9223372036854775808 = wHi n := by unfold wHi; omega
  have e2 : IntKind.u64.wrap n = wLo n := by rw [wrapU_eq]; rfl
  have := of_any n h1 h2 w
  rw [e1, e2] at this
  exact this
theorem wide_add (x y : Int) (hx : W127 x) (hy : W127 y) (hs : W127 (x + y)) (w : World) : Calls Tryz.prog 35 #[wV x, wV y] w fun e w' => e = .returned (.tuple #[wV (x + y), .bool true]) ∧ Below w.heap.size w w' := by
  obtain ⟨h1, h2⟩ := hx
  obtain ⟨h3, h4⟩ := hy
  obtain ⟨h5, h6⟩ := hs
  exact wadd_any (wHi x) (wLo x) (wHi y) (wLo y) (wHi (x + y)) (wLo (x + y)) (by unfold wHi; omega) (by unfold wHi; omega) (by unfold wHi; omega) (by unfold wHi; omega) (by unfold wLo; omega) (by unfold wLo; omega) (by unfold wLo; omega) (by unfold wLo; omega)
    (by unfold wHi wLo; omega) (by unfold wLo; omega) (by unfold wHi; omega) (by unfold wHi; omega) w
theorem wide_sub (x y : Int) (hx : W127 x) (hy : W127 y) (hs : W127 (x - y)) (w : World) : Calls Tryz.prog 38 #[wV x, wV y] w fun e w' => e = .returned (.tuple #[wV (x - y), .bool true]) ∧ Below w.heap.size w w' := by
  obtain ⟨h1, h2⟩ := hx
  obtain ⟨h3, h4⟩ := hy
  obtain ⟨h5, h6⟩ := hs
  exact wsub_any (wHi x) (wLo x) (wHi y) (wLo y) (wHi (x - y)) (wLo (x - y)) (by unfold wHi; omega) (by unfold wHi; omega) (by unfold wHi; omega) (by unfold wHi; omega) (by unfold wLo; omega) (by unfold wLo; omega) (by unfold wLo; omega) (by unfold wLo; omega)
    (by unfold wHi wLo bor64; split <;> omega) (by unfold wLo; omega) (by unfold wHi; omega) (by unfold wHi; omega) w
theorem wide_int_yes (x : Int) (h : In64 x) (w : World) : Calls Tryz.prog 39 #[wV x] w fun e w' => e = .returned (.tuple #[.int .i64 x, .bool true]) ∧ Below w.heap.size w w' := by
  obtain ⟨h1, h2⟩ := h
  exact int_yes (wHi x) (wLo x) x (by unfold wLo wrap64; omega) h1 h2 (by unfold wHi; omega) (by rw [wrapU_eq]; rfl) w
theorem wide_int_no (x : Int) (h : ¬ In64 x) (w : World) : Calls Tryz.prog 39 #[wV x] w fun e w' => e = .returned (.tuple #[.int .i64 0, .bool false]) ∧ Below w.heap.size w w' := by
  unfold In64 at h
  exact int_no (wHi x) (wLo x) (wrap64 (wLo x)) rfl (by unfold wrap64; omega) (by unfold wrap64; omega) (by unfold wHi wLo wrap64; omega) w
structure WEnv (w : World) (Kp Bp Tp Wp kb tb nk nt b : Nat) (pt : Nat → Nat → Int) (K T : List (Nat × Nat)) : Prop where
  ck : Blk w Kp 91 #[.map (some kb)]
  cb : Blk w Bp 3 #[.int .i64 (b : Int)]
  ct : Blk w Tp 91 #[.map (some tb)]
  cw : Blk w Wp 92 #[.func (.func 33) #[] #[.pointer (some ⟨Kp, 0, none⟩), .pointer (some ⟨Bp, 0, none⟩), .pointer (some ⟨Tp, 0, none⟩), .pointer (some ⟨Wp, 0, none⟩)]]
  mapK : MapIs w kb nk pt K
  mapT : MapIs w tb nt pt T
theorem WEnv.kept {w w' : World} {Kp Bp Tp Wp kb tb nk nt b : Nat} {pt : Nat → Nat → Int} {K T : List (Nat × Nat)} (h : WEnv w Kp Bp Tp Wp kb tb nk nt b pt K T) (hb : Below w.heap.size w w') : WEnv w' Kp Bp Tp Wp kb tb nk nt b pt K T :=
  ⟨h.ck.kept hb, h.cb.kept hb, h.ct.kept hb, h.cw.kept hb, h.mapK.kept hb, h.mapT.kept hb⟩
theorem fresh_of {B : Nat} {w w1 : World} {cs : Array Value} {t : TypeId} (h : Below B w (w1.alloc (.cells cs t))) : Blk (w1.alloc (.cells cs t)) w1.heap.size t cs := Blk.new w1 t cs
theorem fresh_drew {B : Nat} {w w1 : World} {cs : Array Value} {t : TypeId} (h : Below B w (w1.alloc (.cells cs t)).drew) : Blk (w1.alloc (.cells cs t)).drew w1.heap.size t cs := Blk.new w1 t cs
theorem zero64 (w : World) : (zeroValue 2).run Tryz.prog w = .ok (.int .i64 0) w := by kernel_rfl
set_option maxRecDepth 100000 in
set_option maxHeartbeats 8000000 in
theorem within_kept (w : World) (Kp Bp Tp Wp kb tb nk nt b : Nat) (pt : Nat → Nat → Int) (K T : List (Nat × Nat)) (h : WEnv w Kp Bp Tp Wp kb tb nk nt b pt K T) (n i : Nat) (hs : Sml (n, i)) (hp : In64 (pt n i)) (hK : (n, i) ∈ K) :
  Calls Tryz.prog 33 #[.agg #[.int .i64 (n : Int), .int .u64 (i : Int)], .pointer (some ⟨Kp, 0, none⟩), .pointer (some ⟨Bp, 0, none⟩), .pointer (some ⟨Tp, 0, none⟩), .pointer (some ⟨Wp, 0, none⟩)] w fun e w' => e = .returned (wV (pt n i)) ∧ Below w.heap.size w w' := by
 obtain ⟨g1, g2, hb1', hsz1⟩ := news2 w (.cells #[.int .i64 (n : Int), .int .u64 (i : Int)] 64) (.cells #[.int .i64 0, .int .u64 0] 94)
 have hx1 : Blk _ w.heap.size 64 #[.int .i64 (n : Int), .int .u64 (i : Int)] := g1
 have HX2 : Hid (Blk _ (w.heap.size + 1) 94 #[.int .i64 0, .int .u64 0]) := Lib.hid g2
 have HB1 := Lib.hid hb1'
 have HE := Lib.hid (h.kept hb1')
 obtain ⟨D, hown, hD⟩ := (h.kept hb1').mapK
 have HD := Lib.hid (hD (n, i) hs)
 have hkey := pcKey (n, i) hs
 have q0 := HE.out.ck.cell 0
 simp at q0
 have PO := Lib.hid (fun w => wide_of (pt n i) hp w)
 have hh : has D (pcL (n, i)) = true := by rw [HD.out.1]; simp [hK]
 have HA := Lib.hid (HD.out.2 hK)
 clear g1 g2 hb1' hsz1 h hD
 go_enter Tryz.func33, Tryz.ntmps33
 go_wp2_with (first | refine wpList_load_row rfl 64 _ rfl w.heap.size rfl 64 _ (0, 0) _ hx1 Tryz.underlying64 rfl (by kernel_rfl) ?_ | (at_lookup; refine wpList_lookup_own_ok_int _ rfl _ _ 91 rfl 64 2 .i64 pcLaw Tryz.underlying91 Tryz.underlying2 (zero64 _) kb nk D rfl hown _ _ rfl hkey ?_; intro c hat hwc))
 have hc : pt n i = c := by
  have h := HA.out.symm.trans hat
  injection h with h
  injection h
 subst hc
 have HB2 := Lib.hid HB1.out
 generalize ((w.alloc (.cells #[.int .i64 (n : Int), .int .u64 (i : Int)] 64)).alloc (.cells #[.int .i64 0, .int .u64 0] 94)) = w1 at *
 with_reducible refine (PO.out _).mono ?_
 rintro e w2 ⟨rfl, hb⟩
 have HX3 := Lib.hid (HX2.out.kept hb)
 have HX4 : Hid (Blk (w2.setRow (w.heap.size + 1) #[.int .i64 (wHi (pt n i)), .int .u64 (wLo (pt n i))]) (w.heap.size + 1) 94 #[.int .i64 (wHi (pt n i)), .int .u64 (wLo (pt n i))]) := Lib.hid (HX3.out.rowNew)
 have HB3 : Hid (Below w.heap.size w (w2.setRow (w.heap.size + 1) #[.int .i64 (wHi (pt n i)), .int .u64 (wLo (pt n i))])) := Lib.hid (below_setRow (btr HB2.out hb) (by omega) _)
 unfold wV
 clear hb hx1 hown
 go_wp2_with (refine wpList_store_row rfl 94 _ _ rfl (w.heap.size + 1) #[.int .i64 (wHi (pt n i)), .int .u64 (wLo (pt n i))] rfl rfl 94 _ HX3.out (by kernel_rfl) rfl (by simp [Value.oneCell']) ?_)
 refine bodyPost_ret (results_cell_row rfl _ _ (w.heap.size + 1) 94 _ (0, 0) _ rfl HX4.out Tryz.underlying94 rfl (by kernel_rfl)) rfl ?_
 exact ⟨rfl, HB3.out⟩
theorem halves_any (b n i : Nat) (hb1 : 1 ≤ b) (hb : b ≤ 59) (hn : n ≤ b) (hi : i < 2 ^ (b - n)) : ∃ (m y1 y2 : Nat) (ok : Bool), (∀ w, Calls Tryz.prog 31 #[.int .i64 (b : Int), .agg #[.int .i64 (n : Int), .int .u64 (i : Int)]] w fun e w' => e = .returned (.tuple #[.agg #[.int .i64 (m : Int), .int .u64 (y1 : Int)], .agg #[.int .i64 (m : Int), .int .u64 (y2 : Int)], .bool ok]) ∧ Below w.heap.size w w') ∧
    (ok = true → n = m + 1 ∧ y1 = 2 * i ∧ y2 = 2 * i + 1) ∧ (ok = false → n = 0) := by
  cases n with
  | zero => exact ⟨0, 0, 0, false, fun w => halves_no b i hb1 hb (by simpa using hi) w, fun h => absurd h (by decide), fun _ => rfl⟩
  | succ m => exact ⟨m, 2 * i, 2 * i + 1, true, fun w => halves_yes b m i hb1 hb hn hi w, fun _ => ⟨rfl, rfl, rfl⟩, fun h => absurd h (by decide)⟩
set_option maxRecDepth 100000 in
set_option maxHeartbeats 8000000 in
theorem within_not (w : World) (Kp Bp Tp Wp kb tb nk nt b : Nat) (pt : Nat → Nat → Int) (K T : List (Nat × Nat)) (h : WEnv w Kp Bp Tp Wp kb tb nk nt b pt K T) (hb1 : 1 ≤ b) (hb59 : b ≤ 59) (n i : Nat) (hn : n ≤ b) (hi : i < 2 ^ (b - n)) (hs : Sml (n, i)) (hK : (n, i) ∉ K)
  (h0 : (n, i) ∉ T → wI pt K n i = 0) (hbd : ∀ m j : Nat, m ≤ b → W127 (wI pt K m j))
  (ih : ∀ m y, n = m + 1 → (y = 2 * i ∨ y = 2 * i + 1) → ∀ wq, WEnv wq Kp Bp Tp Wp kb tb nk nt b pt K T → Calls Tryz.prog 33 #[.agg #[.int .i64 (m : Int), .int .u64 (y : Int)], .pointer (some ⟨Kp, 0, none⟩), .pointer (some ⟨Bp, 0, none⟩), .pointer (some ⟨Tp, 0, none⟩), .pointer (some ⟨Wp, 0, none⟩)] wq fun e w' => e = .returned (wV (wI pt K m y)) ∧ Below wq.heap.size wq w') :
  Calls Tryz.prog 33 #[.agg #[.int .i64 (n : Int), .int .u64 (i : Int)], .pointer (some ⟨Kp, 0, none⟩), .pointer (some ⟨Bp, 0, none⟩), .pointer (some ⟨Tp, 0, none⟩), .pointer (some ⟨Wp, 0, none⟩)] w fun e w' => e = .returned (wV (wI pt K n i)) ∧ Below w.heap.size w w' := by
 obtain ⟨m, y1, y2, ok, hph, hok, hno⟩ := halves_any b n i hb1 hb59 hn hi
 have PH := Lib.hid hph
 have HOK := Lib.hid hok
 have HNO := Lib.hid hno
 obtain ⟨g1, g2, hb1', hsz1⟩ := news2 w (.cells #[.int .i64 (n : Int), .int .u64 (i : Int)] 64) (.cells #[.int .i64 0, .int .u64 0] 94)
 have hx1 : Blk _ w.heap.size 64 #[.int .i64 (n : Int), .int .u64 (i : Int)] := g1
 have HX1 := Lib.hid hx1
 have HX2 : Hid (Blk _ (w.heap.size + 1) 94 #[.int .i64 0, .int .u64 0]) := Lib.hid g2
 have HB1 := Lib.hid hb1'
 have HE := Lib.hid (h.kept hb1')
 obtain ⟨D, hown, hD⟩ := (h.kept hb1').mapK
 have HD := Lib.hid (hD (n, i) hs)
 have hkey := pcKey (n, i) hs
 have HKEY := Lib.hid hkey
 have q0 := HE.out.ck.cell 0
 have q1 := HE.out.cb.cell 0
 simp at q0 q1
 have hh : has D (pcL (n, i)) = false := by rw [HD.out.1]; simp [hK]
 have IH := Lib.hid ih
 have H0 := Lib.hid h0
 have HBD := Lib.hid hbd
 have HNK := Lib.hid hK
 have HNN := Lib.hid (And.intro hn hi)
 clear g1 g2 hb1' hsz1 h hD ih h0 hbd hph hok hno hi
 go_enter Tryz.func33, Tryz.ntmps33
 go_wp2_with (first | refine wpList_load_row rfl 64 _ rfl w.heap.size rfl 64 _ (0, 0) _ hx1 Tryz.underlying64 rfl (by kernel_rfl) ?_ | (at_lookup; refine wpList_lookup_own_ok_int _ rfl _ _ 91 rfl 64 2 .i64 pcLaw Tryz.underlying91 Tryz.underlying2 (zero64 _) kb nk D rfl hown _ _ rfl hkey ?_; intro c hat hwc))
 generalize ((w.alloc (.cells #[.int .i64 (n : Int), .int .u64 (i : Int)] 64)).alloc (.cells #[.int .i64 0, .int .u64 0] 94)) = w1 at *
 with_reducible refine (PH.out _).mono ?_
 rintro e w2 ⟨rfl, hb⟩
 obtain ⟨g8, g9, hb8, hsz8⟩ := news2 w2 (.cells #[.int .i64 (m : Int), .int .u64 (y1 : Int)] 64) (.cells #[.int .i64 (m : Int), .int .u64 (y2 : Int)] 64)
 have HY1 : Hid (Blk _ w2.heap.size 64 #[.int .i64 (m : Int), .int .u64 (y1 : Int)]) := Lib.hid g8
 have HY2 : Hid (Blk _ (w2.heap.size + 1) 64 #[.int .i64 (m : Int), .int .u64 (y2 : Int)]) := Lib.hid g9
 have HX3 := Lib.hid ((HX1.out.kept hb).kept hb8)
 have HX4 := Lib.hid ((HX2.out.kept hb).kept hb8)
 have HE2 := Lib.hid ((HE.out.kept hb).kept hb8)
 have HB2 := Lib.hid (btr (btr HB1.out hb) hb8)
 have HSZ := Lib.hid hsz8
 clear g8 g9 hb hb8 hsz8 hx1 q0 q1 hat hwc hown
 obtain ⟨D2, hown2, hD2⟩ := HE2.out.mapT
 have HD2 := Lib.hid (hD2 (n, i) hs)
 have q2 := HE2.out.ct.cell 0
 simp at q2
 have hx3 := HX3.out
 clear hD2
 by_cases hz : (n, i) ∉ T ∨ ok = false
 ·have HW : Hid (wI pt K n i = 0) := Lib.hid (by
   rcases hz with hz | hz
   ·exact H0.out hz
   ·have e := HNO.out hz
    have := HNK.out
    rw [e] at this ⊢
    unfold wI
    rw [if_neg this])
  by_cases ht : (n, i) ∈ T
  ·have hok2 : ok = false := hz.resolve_left (fun h => h ht)
   subst hok2
   have hh2 : has D2 (pcL (n, i)) = true := by rw [HD2.out.1]; simp [ht]
   clear hz ht
   go_wp2_with (first | refine wpList_load_row rfl 64 _ rfl w.heap.size rfl 64 _ (0, 0) _ hx3 Tryz.underlying64 rfl (by kernel_rfl) ?_ | (at_lookup; refine wpList_lookup_own_ok_int _ rfl _ _ 91 rfl 64 2 .i64 pcLaw Tryz.underlying91 Tryz.underlying2 (zero64 _) tb nt D2 rfl hown2 _ _ rfl hkey ?_; intro c hat hwc) | ((refine wpList_store_row rfl 94 _ _ rfl (w.heap.size + 1) #[.int .i64 0, .int .u64 0] rfl rfl 94 _ HX4.out (by kernel_rfl) rfl (by simp [Value.oneCell']) ?_); rw [Blk.setRow_same HX4.out]))
   refine bodyPost_ret (results_cell_row rfl _ _ (w.heap.size + 1) 94 _ (0, 0) _ rfl HX4.out Tryz.underlying94 rfl (by kernel_rfl)) rfl ?_
   exact ⟨by rw [HW.out]; rfl, HB2.out⟩
  ·have hh2 : has D2 (pcL (n, i)) = false := by rw [HD2.out.1]; simp [ht]
   clear hz ht
   go_wp2_with (first | refine wpList_load_row rfl 64 _ rfl w.heap.size rfl 64 _ (0, 0) _ hx3 Tryz.underlying64 rfl (by kernel_rfl) ?_ | (at_lookup; refine wpList_lookup_own_ok_int _ rfl _ _ 91 rfl 64 2 .i64 pcLaw Tryz.underlying91 Tryz.underlying2 (zero64 _) tb nt D2 rfl hown2 _ _ rfl hkey ?_; intro c hat hwc) | ((refine wpList_store_row rfl 94 _ _ rfl (w.heap.size + 1) #[.int .i64 0, .int .u64 0] rfl rfl 94 _ HX4.out (by kernel_rfl) rfl (by simp [Value.oneCell']) ?_); rw [Blk.setRow_same HX4.out]))
   refine bodyPost_ret (results_cell_row rfl _ _ (w.heap.size + 1) 94 _ (0, 0) _ rfl HX4.out Tryz.underlying94 rfl (by kernel_rfl)) rfl ?_
   exact ⟨by rw [HW.out]; rfl, HB2.out⟩
 ·have ht : (n, i) ∈ T := Classical.byContradiction (fun h => hz (.inl h))
  have hok2 : ok = true := by
   cases ok with
   | true => rfl
   | false => exact absurd (.inr rfl) hz
  obtain ⟨hm, hy1, hy2⟩ := HOK.out hok2
  subst hok2
  have hh2 : has D2 (pcL (n, i)) = true := by rw [HD2.out.1]; simp [ht]
  have HMM := Lib.hid (And.intro hm (And.intro hy1 hy2))
  have HX9 := Lib.hid HX4.out
  have HEE := Lib.hid HE2.out
  have HBB := Lib.hid HB2.out
  clear hz ht hm hy1 hy2
  go_wp2_with (first | refine wpList_load_row rfl 64 _ rfl w.heap.size rfl 64 _ (0, 0) _ hx3 Tryz.underlying64 rfl (by kernel_rfl) ?_ | (at_lookup; refine wpList_lookup_own_ok_int _ rfl _ _ 91 rfl 64 2 .i64 pcLaw Tryz.underlying91 Tryz.underlying2 (zero64 _) tb nt D2 rfl hown2 _ _ rfl hkey ?_; intro c hat hwc))
  generalize ((w2.alloc (.cells #[.int .i64 (m : Int), .int .u64 (y1 : Int)] 64)).alloc (.cells #[.int .i64 (m : Int), .int .u64 (y2 : Int)] 64)) = w0 at *
  have HMB : Hid (m ≤ b ∧ n = m + 1) := Lib.hid (by have h1 := HNN.out; have h2 := HMM.out.1; exact ⟨by omega, h2⟩)
  have PL := Lib.hid (fun wq (hq : Below w0.heap.size w0 wq) => IH.out m y1 HMM.out.1 (.inl HMM.out.2.1) wq (HEE.out.kept hq))
  have PR := Lib.hid (fun wq (hq : Below w0.heap.size w0 wq) => IH.out m y2 HMM.out.1 (.inr HMM.out.2.2) wq (HEE.out.kept hq))
  have HWS : Hid (wI pt K n i = wI pt K m y1 + wI pt K m y2) := Lib.hid (by
   obtain ⟨h1, h2, h3⟩ := HMM.out
   have := HNK.out
   rw [h1] at this ⊢
   rw [h2, h3]
   conv => lhs; unfold wI
   rw [if_neg this])
  have PA := Lib.hid (fun w => wide_add (wI pt K m y1) (wI pt K m y2) (HBD.out _ _ HMB.out.1) (HBD.out _ _ HMB.out.1) (by rw [← HWS.out]; exact HBD.out _ _ HNN.out.1) w)
  rw [← HWS.out] at PA
  clear hat hwc hx3 q2 hown2 HX3 HX4
  refine wp_region_held_drew (S := fun w' => Below w0.heap.size w0 w') (by kernel_rfl) (by exact below_drewN (Below.refl _ _) 1) (fun hHeld => ?_)
  refine tkH (i := 0) (v := ?_) rfl (by kernel_rfl) (fun _ _ _ h => h) (Or.inl ⟨by rfl, ?_⟩) (by assumption) ?_
  rotate_left
  ·intro w hSw
   have q1 := (HEE.out.kept hSw).cw.cell 0
   have q8 := HY1.out.kept hSw
   have q9 := HY2.out.kept hSw
   simp at q1
   try (first | refine (exec_load_row 64 _ rfl w2.heap.size rfl 64 _ (0, 0) _ q8 Tryz.underlying64 rfl (by kernel_rfl)).trans ?_ | refine (exec_load_row 64 _ rfl (w2.heap.size + 1) rfl 64 _ (0, 0) _ q9 Tryz.underlying64 rfl (by kernel_rfl)).trans ?_)
   go_simp
   try with_reducible rfl
  simp only [Act.put, z1, z2, z3, z4, z5, z6]
  refine tkH (i := 1) (v := ?_) rfl (by kernel_rfl) (fun _ _ _ h => h) (Or.inl ⟨by rfl, ?_⟩) (by assumption) ?_
  rotate_left
  ·intro w hSw
   have q1 := (HEE.out.kept hSw).cw.cell 0
   have q8 := HY1.out.kept hSw
   have q9 := HY2.out.kept hSw
   simp at q1
   try (first | refine (exec_load_row 64 _ rfl w2.heap.size rfl 64 _ (0, 0) _ q8 Tryz.underlying64 rfl (by kernel_rfl)).trans ?_ | refine (exec_load_row 64 _ rfl (w2.heap.size + 1) rfl 64 _ (0, 0) _ q9 Tryz.underlying64 rfl (by kernel_rfl)).trans ?_)
   go_simp
   try with_reducible rfl
  simp only [Act.put, z1, z2, z3, z4, z5, z6]
  refine tkH (i := 3) (v := ?_) rfl (by kernel_rfl) (fun _ _ _ h => h) (Or.inl ⟨by rfl, ?_⟩) (by assumption) ?_
  rotate_left
  ·intro w hSw
   have q1 := (HEE.out.kept hSw).cw.cell 0
   have q8 := HY1.out.kept hSw
   have q9 := HY2.out.kept hSw
   simp at q1
   try (first | refine (exec_load_row 64 _ rfl w2.heap.size rfl 64 _ (0, 0) _ q8 Tryz.underlying64 rfl (by kernel_rfl)).trans ?_ | refine (exec_load_row 64 _ rfl (w2.heap.size + 1) rfl 64 _ (0, 0) _ q9 Tryz.underlying64 rfl (by kernel_rfl)).trans ?_)
   go_simp
   try with_reducible rfl
  simp only [Act.put, z1, z2, z3, z4, z5, z6]
  refine tkH (i := 4) (v := ?_) rfl (by kernel_rfl) (fun _ _ _ h => h) (Or.inl ⟨by rfl, ?_⟩) (by assumption) ?_
  rotate_left
  ·intro w hSw
   have q1 := (HEE.out.kept hSw).cw.cell 0
   have q8 := HY1.out.kept hSw
   have q9 := HY2.out.kept hSw
   simp at q1
   try (first | refine (exec_load_row 64 _ rfl w2.heap.size rfl 64 _ (0, 0) _ q8 Tryz.underlying64 rfl (by kernel_rfl)).trans ?_ | refine (exec_load_row 64 _ rfl (w2.heap.size + 1) rfl 64 _ (0, 0) _ q9 Tryz.underlying64 rfl (by kernel_rfl)).trans ?_)
   go_simp
   try with_reducible rfl
  simp only [Act.put, z1, z2, z3, z4, z5, z6]
  refine wpAnyH_ready (rs := [2, 10]) (by kernel_rfl) (by simp) ?_
  refine AllReadyH.cons rfl (fun Kc hKc => ?_) (AllReadyH.cons rfl (fun Kc hKc => ?_) AllReadyH.nil)
  ·go_simp
   go_wp2_with (first | (with_reducible refine (PL.out _ hHeld).mono ?_; rintro e wq ⟨rfl, hb'⟩; try have HAQ := Lib.hid (HAQ.out.kept hb')) | (with_reducible refine (PR.out _ hHeld).mono ?_; rintro e wq ⟨rfl, hb'⟩; try have HAQ := Lib.hid (HAQ.out.kept hb')) | (with_reducible refine (PA.out _).mono ?_; rintro e wq ⟨rfl, hb'⟩; try have HAQ := Lib.hid (HAQ.out.kept hb')))
   refine hKc.out _ _ ?_ (fun hHeld => ?_)
   ·first | assumption | exact hHeld | exact btr hHeld hb' | exact hHeld.alloc hHeld.size _ | exact below_setRow hHeld hPrev.out _
   clear hKc Kc
   refine wpAnyH_ready (rs := [5, 10]) (by kernel_rfl) (by simp) ?_
   refine AllReadyH.cons rfl (fun Kc hKc => ?_) (AllReadyH.cons rfl (fun Kc hKc => ?_) AllReadyH.nil)
   ·go_simp
    go_wp2_with (first | (with_reducible refine (PL.out _ hHeld).mono ?_; rintro e wq ⟨rfl, hb'⟩; try have HAQ := Lib.hid (HAQ.out.kept hb')) | (with_reducible refine (PR.out _ hHeld).mono ?_; rintro e wq ⟨rfl, hb'⟩; try have HAQ := Lib.hid (HAQ.out.kept hb')) | (with_reducible refine (PA.out _).mono ?_; rintro e wq ⟨rfl, hb'⟩; try have HAQ := Lib.hid (HAQ.out.kept hb')))
    refine hKc.out _ _ ?_ (fun hHeld => ?_)
    ·first | assumption | exact hHeld | exact btr hHeld hb' | exact hHeld.alloc hHeld.size _ | exact below_setRow hHeld hPrev.out _
    clear hKc Kc
    refine wpAnyH_ready (rs := [6, 10]) (by kernel_rfl) (by simp) ?_
    refine AllReadyH.cons rfl (fun Kc hKc => ?_) (AllReadyH.cons rfl (fun Kc hKc => ?_) AllReadyH.nil)
    ·go_simp
     go_wp2_with (first | (with_reducible refine (PL.out _ hHeld).mono ?_; rintro e wq ⟨rfl, hb'⟩; try have HAQ := Lib.hid (HAQ.out.kept hb')) | (with_reducible refine (PR.out _ hHeld).mono ?_; rintro e wq ⟨rfl, hb'⟩; try have HAQ := Lib.hid (HAQ.out.kept hb')) | (with_reducible refine (PA.out _).mono ?_; rintro e wq ⟨rfl, hb'⟩; try have HAQ := Lib.hid (HAQ.out.kept hb')))
     refine hKc.out _ _ ?_ (fun hHeld => ?_)
     ·first | assumption | exact hHeld | exact btr hHeld hb' | exact hHeld.alloc hHeld.size _ | exact below_setRow hHeld hPrev.out _
     clear hKc Kc
     refine tkH (i := 7) (v := ?_) rfl (by kernel_rfl) (fun _ _ _ h => h) (Or.inl ⟨by rfl, ?_⟩) (by assumption) ?_
     rotate_left
     ·intro w hSw
      try dsimp only at hSw
      go_simp
      try with_reducible rfl
     simp only [Act.put, z1, z2, z3, z4, z5, z6]
     refine tkH (i := 8) (v := ?_) rfl (by kernel_rfl) (fun _ _ _ h => h) (Or.inl ⟨by rfl, ?_⟩) (by assumption) ?_
     rotate_left
     ·intro w hSw
      try dsimp only at hSw
      go_simp
      try with_reducible rfl
     simp only [Act.put, z1, z2, z3, z4, z5, z6]
     refine tkH (i := 9) (v := ?_) rfl (by kernel_rfl) (fun _ _ _ h => h) (Or.inl ⟨by rfl, ?_⟩) (by assumption) ?_
     rotate_left
     ·intro w hSw
      try dsimp only at hSw
      go_simp
      try with_reducible rfl
     simp only [Act.put, z1, z2, z3, z4, z5, z6]
     refine wpAnyH_ready (rs := [10]) (by kernel_rfl) (by simp) ?_
     refine AllReadyH.cons rfl (fun Kc hKc => ?_) AllReadyH.nil
     go_simp
     have hPrev := Lib.hid hHeld.size
     refine hKc.out _ _ ?_ (fun hHeld => ?_)
     ·first | assumption | exact hHeld | exact btr hHeld hb' | exact hHeld.alloc hHeld.size _ | exact below_setRow hHeld hPrev.out _
     clear hKc Kc
     first | have HAQ := Lib.hid (fresh_of hHeld) | have HAQ := Lib.hid (fresh_drew hHeld)
     refine wpAnyH_ready (rs := [11]) (by kernel_rfl) (by simp) ?_
     refine AllReadyH.cons rfl (fun Kc hKc => ?_) AllReadyH.nil
     have HAR := Lib.hid (HAQ.out.rowNew (cs' := #[.int .i64 (wHi (wI pt K n i)), .int .u64 (wLo (wI pt K n i))])); refine wp_store_row 94 _ _ rfl _ #[.int .i64 (wHi (wI pt K n i)), .int .u64 (wLo (wI pt K n i))] rfl (by rfl) 94 _ HAQ.out (by kernel_rfl) rfl (by simp [Value.oneCell']) ?_
     refine hKc.out _ _ ?_ (fun hHeld => ?_)
     ·first | assumption | exact hHeld | exact btr hHeld hb' | exact hHeld.alloc hHeld.size _ | exact below_setRow hHeld hPrev.out _
     clear hKc Kc
     refine tkH (i := 12) (v := ?_) rfl (by kernel_rfl) (fun _ _ _ h => h) (Or.inl ⟨by rfl, ?_⟩) (by assumption) ?_
     rotate_left
     ·intro w hSw
      try dsimp only at hSw
      go_simp
      try with_reducible rfl
     simp only [Act.put, z1, z2, z3, z4, z5, z6]
     refine wpAnyH_done (by kernel_rfl) ?_ _
     have HX10 := Lib.hid (HX9.out.kept hHeld)
     have HX11 := Lib.hid (HX10.out.rowNew (cs' := #[.int .i64 (wHi (wI pt K n i)), .int .u64 (wLo (wI pt K n i))]))
     have HB11 := Lib.hid (below_setRow (btr HBB.out hHeld) (show w.heap.size ≤ w.heap.size + 1 by omega) #[.int .i64 (wHi (wI pt K n i)), .int .u64 (wLo (wI pt K n i))])
     clear hHeld
     go_wp2_with (first | refine wpList_load_row rfl 94 _ rfl _ rfl 94 _ (0, 0) _ HAR.out Tryz.underlying94 rfl (by kernel_rfl) ?_ | refine wpList_store_row rfl 94 _ _ rfl (w.heap.size + 1) #[.int .i64 (wHi (wI pt K n i)), .int .u64 (wLo (wI pt K n i))] rfl rfl 94 _ HX10.out (by kernel_rfl) rfl (by simp [Value.oneCell']) ?_)
     refine bodyPost_ret (results_cell_row rfl _ _ (w.heap.size + 1) 94 _ (0, 0) _ rfl HX11.out Tryz.underlying94 rfl (by kernel_rfl)) rfl ?_
     exact ⟨rfl, HB11.out⟩
    ·go_simp
     have hPrev := Lib.hid hHeld.size
     refine hKc.out _ _ ?_ (fun hHeld => ?_)
     ·first | assumption | exact hHeld | exact btr hHeld hb' | exact hHeld.alloc hHeld.size _ | exact below_setRow hHeld hPrev.out _
     clear hKc Kc
     first | have HAQ := Lib.hid (fresh_of hHeld) | have HAQ := Lib.hid (fresh_drew hHeld)
     refine wpAnyH_ready (rs := [6]) (by kernel_rfl) (by simp) ?_
     refine AllReadyH.cons rfl (fun Kc hKc => ?_) AllReadyH.nil
     go_simp
     go_wp2_with (first | (with_reducible refine (PL.out _ hHeld).mono ?_; rintro e wq ⟨rfl, hb'⟩; try have HAQ := Lib.hid (HAQ.out.kept hb')) | (with_reducible refine (PR.out _ hHeld).mono ?_; rintro e wq ⟨rfl, hb'⟩; try have HAQ := Lib.hid (HAQ.out.kept hb')) | (with_reducible refine (PA.out _).mono ?_; rintro e wq ⟨rfl, hb'⟩; try have HAQ := Lib.hid (HAQ.out.kept hb')))
     refine hKc.out _ _ ?_ (fun hHeld => ?_)
     ·first | assumption | exact hHeld | exact btr hHeld hb' | exact hHeld.alloc hHeld.size _ | exact below_setRow hHeld hPrev.out _
     clear hKc Kc
     refine tkH (i := 7) (v := ?_) rfl (by kernel_rfl) (fun _ _ _ h => h) (Or.inl ⟨by rfl, ?_⟩) (by assumption) ?_
     rotate_left
     ·intro w hSw
      try dsimp only at hSw
      go_simp
      try with_reducible rfl
     simp only [Act.put, z1, z2, z3, z4, z5, z6]
     refine tkH (i := 8) (v := ?_) rfl (by kernel_rfl) (fun _ _ _ h => h) (Or.inl ⟨by rfl, ?_⟩) (by assumption) ?_
     rotate_left
     ·intro w hSw
      try dsimp only at hSw
      go_simp
      try with_reducible rfl
     simp only [Act.put, z1, z2, z3, z4, z5, z6]
     refine tkH (i := 9) (v := ?_) rfl (by kernel_rfl) (fun _ _ _ h => h) (Or.inl ⟨by rfl, ?_⟩) (by assumption) ?_
     rotate_left
     ·intro w hSw
      try dsimp only at hSw
      go_simp
      try with_reducible rfl
     simp only [Act.put, z1, z2, z3, z4, z5, z6]
     refine wpAnyH_ready (rs := [11]) (by kernel_rfl) (by simp) ?_
     refine AllReadyH.cons rfl (fun Kc hKc => ?_) AllReadyH.nil
     have HAR := Lib.hid (HAQ.out.rowNew (cs' := #[.int .i64 (wHi (wI pt K n i)), .int .u64 (wLo (wI pt K n i))])); refine wp_store_row 94 _ _ rfl _ #[.int .i64 (wHi (wI pt K n i)), .int .u64 (wLo (wI pt K n i))] rfl (by rfl) 94 _ HAQ.out (by kernel_rfl) rfl (by simp [Value.oneCell']) ?_
     refine hKc.out _ _ ?_ (fun hHeld => ?_)
     ·first | assumption | exact hHeld | exact btr hHeld hb' | exact hHeld.alloc hHeld.size _ | exact below_setRow hHeld hPrev.out _
     clear hKc Kc
     refine tkH (i := 12) (v := ?_) rfl (by kernel_rfl) (fun _ _ _ h => h) (Or.inl ⟨by rfl, ?_⟩) (by assumption) ?_
     rotate_left
     ·intro w hSw
      try dsimp only at hSw
      go_simp
      try with_reducible rfl
     simp only [Act.put, z1, z2, z3, z4, z5, z6]
     refine wpAnyH_done (by kernel_rfl) ?_ _
     have HX10 := Lib.hid (HX9.out.kept hHeld)
     have HX11 := Lib.hid (HX10.out.rowNew (cs' := #[.int .i64 (wHi (wI pt K n i)), .int .u64 (wLo (wI pt K n i))]))
     have HB11 := Lib.hid (below_setRow (btr HBB.out hHeld) (show w.heap.size ≤ w.heap.size + 1 by omega) #[.int .i64 (wHi (wI pt K n i)), .int .u64 (wLo (wI pt K n i))])
     clear hHeld
     go_wp2_with (first | refine wpList_load_row rfl 94 _ rfl _ rfl 94 _ (0, 0) _ HAR.out Tryz.underlying94 rfl (by kernel_rfl) ?_ | refine wpList_store_row rfl 94 _ _ rfl (w.heap.size + 1) #[.int .i64 (wHi (wI pt K n i)), .int .u64 (wLo (wI pt K n i))] rfl rfl 94 _ HX10.out (by kernel_rfl) rfl (by simp [Value.oneCell']) ?_)
     refine bodyPost_ret (results_cell_row rfl _ _ (w.heap.size + 1) 94 _ (0, 0) _ rfl HX11.out Tryz.underlying94 rfl (by kernel_rfl)) rfl ?_
     exact ⟨rfl, HB11.out⟩
   ·go_simp
    have hPrev := Lib.hid hHeld.size
    refine hKc.out _ _ ?_ (fun hHeld => ?_)
    ·first | assumption | exact hHeld | exact btr hHeld hb' | exact hHeld.alloc hHeld.size _ | exact below_setRow hHeld hPrev.out _
    clear hKc Kc
    first | have HAQ := Lib.hid (fresh_of hHeld) | have HAQ := Lib.hid (fresh_drew hHeld)
    refine wpAnyH_ready (rs := [5]) (by kernel_rfl) (by simp) ?_
    refine AllReadyH.cons rfl (fun Kc hKc => ?_) AllReadyH.nil
    go_simp
    go_wp2_with (first | (with_reducible refine (PL.out _ hHeld).mono ?_; rintro e wq ⟨rfl, hb'⟩; try have HAQ := Lib.hid (HAQ.out.kept hb')) | (with_reducible refine (PR.out _ hHeld).mono ?_; rintro e wq ⟨rfl, hb'⟩; try have HAQ := Lib.hid (HAQ.out.kept hb')) | (with_reducible refine (PA.out _).mono ?_; rintro e wq ⟨rfl, hb'⟩; try have HAQ := Lib.hid (HAQ.out.kept hb')))
    refine hKc.out _ _ ?_ (fun hHeld => ?_)
    ·first | assumption | exact hHeld | exact btr hHeld hb' | exact hHeld.alloc hHeld.size _ | exact below_setRow hHeld hPrev.out _
    clear hKc Kc
    refine wpAnyH_ready (rs := [6]) (by kernel_rfl) (by simp) ?_
    refine AllReadyH.cons rfl (fun Kc hKc => ?_) AllReadyH.nil
    go_simp
    go_wp2_with (first | (with_reducible refine (PL.out _ hHeld).mono ?_; rintro e wq ⟨rfl, hb'⟩; try have HAQ := Lib.hid (HAQ.out.kept hb')) | (with_reducible refine (PR.out _ hHeld).mono ?_; rintro e wq ⟨rfl, hb'⟩; try have HAQ := Lib.hid (HAQ.out.kept hb')) | (with_reducible refine (PA.out _).mono ?_; rintro e wq ⟨rfl, hb'⟩; try have HAQ := Lib.hid (HAQ.out.kept hb')))
    refine hKc.out _ _ ?_ (fun hHeld => ?_)
    ·first | assumption | exact hHeld | exact btr hHeld hb' | exact hHeld.alloc hHeld.size _ | exact below_setRow hHeld hPrev.out _
    clear hKc Kc
    refine tkH (i := 7) (v := ?_) rfl (by kernel_rfl) (fun _ _ _ h => h) (Or.inl ⟨by rfl, ?_⟩) (by assumption) ?_
    rotate_left
    ·intro w hSw
     try dsimp only at hSw
     go_simp
     try with_reducible rfl
    simp only [Act.put, z1, z2, z3, z4, z5, z6]
    refine tkH (i := 8) (v := ?_) rfl (by kernel_rfl) (fun _ _ _ h => h) (Or.inl ⟨by rfl, ?_⟩) (by assumption) ?_
    rotate_left
    ·intro w hSw
     try dsimp only at hSw
     go_simp
     try with_reducible rfl
    simp only [Act.put, z1, z2, z3, z4, z5, z6]
    refine tkH (i := 9) (v := ?_) rfl (by kernel_rfl) (fun _ _ _ h => h) (Or.inl ⟨by rfl, ?_⟩) (by assumption) ?_
    rotate_left
    ·intro w hSw
     try dsimp only at hSw
     go_simp
     try with_reducible rfl
    simp only [Act.put, z1, z2, z3, z4, z5, z6]
    refine wpAnyH_ready (rs := [11]) (by kernel_rfl) (by simp) ?_
    refine AllReadyH.cons rfl (fun Kc hKc => ?_) AllReadyH.nil
    have HAR := Lib.hid (HAQ.out.rowNew (cs' := #[.int .i64 (wHi (wI pt K n i)), .int .u64 (wLo (wI pt K n i))])); refine wp_store_row 94 _ _ rfl _ #[.int .i64 (wHi (wI pt K n i)), .int .u64 (wLo (wI pt K n i))] rfl (by rfl) 94 _ HAQ.out (by kernel_rfl) rfl (by simp [Value.oneCell']) ?_
    refine hKc.out _ _ ?_ (fun hHeld => ?_)
    ·first | assumption | exact hHeld | exact btr hHeld hb' | exact hHeld.alloc hHeld.size _ | exact below_setRow hHeld hPrev.out _
    clear hKc Kc
    refine tkH (i := 12) (v := ?_) rfl (by kernel_rfl) (fun _ _ _ h => h) (Or.inl ⟨by rfl, ?_⟩) (by assumption) ?_
    rotate_left
    ·intro w hSw
     try dsimp only at hSw
     go_simp
     try with_reducible rfl
    simp only [Act.put, z1, z2, z3, z4, z5, z6]
    refine wpAnyH_done (by kernel_rfl) ?_ _
    have HX10 := Lib.hid (HX9.out.kept hHeld)
    have HX11 := Lib.hid (HX10.out.rowNew (cs' := #[.int .i64 (wHi (wI pt K n i)), .int .u64 (wLo (wI pt K n i))]))
    have HB11 := Lib.hid (below_setRow (btr HBB.out hHeld) (show w.heap.size ≤ w.heap.size + 1 by omega) #[.int .i64 (wHi (wI pt K n i)), .int .u64 (wLo (wI pt K n i))])
    clear hHeld
    go_wp2_with (first | refine wpList_load_row rfl 94 _ rfl _ rfl 94 _ (0, 0) _ HAR.out Tryz.underlying94 rfl (by kernel_rfl) ?_ | refine wpList_store_row rfl 94 _ _ rfl (w.heap.size + 1) #[.int .i64 (wHi (wI pt K n i)), .int .u64 (wLo (wI pt K n i))] rfl rfl 94 _ HX10.out (by kernel_rfl) rfl (by simp [Value.oneCell']) ?_)
    refine bodyPost_ret (results_cell_row rfl _ _ (w.heap.size + 1) 94 _ (0, 0) _ rfl HX11.out Tryz.underlying94 rfl (by kernel_rfl)) rfl ?_
    exact ⟨rfl, HB11.out⟩
  ·go_simp
   have hPrev := Lib.hid hHeld.size
   refine hKc.out _ _ ?_ (fun hHeld => ?_)
   ·first | assumption | exact hHeld | exact btr hHeld hb' | exact hHeld.alloc hHeld.size _ | exact below_setRow hHeld hPrev.out _
   clear hKc Kc
   first | have HAQ := Lib.hid (fresh_of hHeld) | have HAQ := Lib.hid (fresh_drew hHeld)
   refine wpAnyH_ready (rs := [2]) (by kernel_rfl) (by simp) ?_
   refine AllReadyH.cons rfl (fun Kc hKc => ?_) AllReadyH.nil
   go_simp
   go_wp2_with (first | (with_reducible refine (PL.out _ hHeld).mono ?_; rintro e wq ⟨rfl, hb'⟩; try have HAQ := Lib.hid (HAQ.out.kept hb')) | (with_reducible refine (PR.out _ hHeld).mono ?_; rintro e wq ⟨rfl, hb'⟩; try have HAQ := Lib.hid (HAQ.out.kept hb')) | (with_reducible refine (PA.out _).mono ?_; rintro e wq ⟨rfl, hb'⟩; try have HAQ := Lib.hid (HAQ.out.kept hb')))
   refine hKc.out _ _ ?_ (fun hHeld => ?_)
   ·first | assumption | exact hHeld | exact btr hHeld hb' | exact hHeld.alloc hHeld.size _ | exact below_setRow hHeld hPrev.out _
   clear hKc Kc
   refine wpAnyH_ready (rs := [5]) (by kernel_rfl) (by simp) ?_
   refine AllReadyH.cons rfl (fun Kc hKc => ?_) AllReadyH.nil
   go_simp
   go_wp2_with (first | (with_reducible refine (PL.out _ hHeld).mono ?_; rintro e wq ⟨rfl, hb'⟩; try have HAQ := Lib.hid (HAQ.out.kept hb')) | (with_reducible refine (PR.out _ hHeld).mono ?_; rintro e wq ⟨rfl, hb'⟩; try have HAQ := Lib.hid (HAQ.out.kept hb')) | (with_reducible refine (PA.out _).mono ?_; rintro e wq ⟨rfl, hb'⟩; try have HAQ := Lib.hid (HAQ.out.kept hb')))
   refine hKc.out _ _ ?_ (fun hHeld => ?_)
   ·first | assumption | exact hHeld | exact btr hHeld hb' | exact hHeld.alloc hHeld.size _ | exact below_setRow hHeld hPrev.out _
   clear hKc Kc
   refine wpAnyH_ready (rs := [6]) (by kernel_rfl) (by simp) ?_
   refine AllReadyH.cons rfl (fun Kc hKc => ?_) AllReadyH.nil
   go_simp
   go_wp2_with (first | (with_reducible refine (PL.out _ hHeld).mono ?_; rintro e wq ⟨rfl, hb'⟩; try have HAQ := Lib.hid (HAQ.out.kept hb')) | (with_reducible refine (PR.out _ hHeld).mono ?_; rintro e wq ⟨rfl, hb'⟩; try have HAQ := Lib.hid (HAQ.out.kept hb')) | (with_reducible refine (PA.out _).mono ?_; rintro e wq ⟨rfl, hb'⟩; try have HAQ := Lib.hid (HAQ.out.kept hb')))
   refine hKc.out _ _ ?_ (fun hHeld => ?_)
   ·first | assumption | exact hHeld | exact btr hHeld hb' | exact hHeld.alloc hHeld.size _ | exact below_setRow hHeld hPrev.out _
   clear hKc Kc
   refine tkH (i := 7) (v := ?_) rfl (by kernel_rfl) (fun _ _ _ h => h) (Or.inl ⟨by rfl, ?_⟩) (by assumption) ?_
   rotate_left
   ·intro w hSw
    try dsimp only at hSw
    go_simp
    try with_reducible rfl
   simp only [Act.put, z1, z2, z3, z4, z5, z6]
   refine tkH (i := 8) (v := ?_) rfl (by kernel_rfl) (fun _ _ _ h => h) (Or.inl ⟨by rfl, ?_⟩) (by assumption) ?_
   rotate_left
   ·intro w hSw
    try dsimp only at hSw
    go_simp
    try with_reducible rfl
   simp only [Act.put, z1, z2, z3, z4, z5, z6]
   refine tkH (i := 9) (v := ?_) rfl (by kernel_rfl) (fun _ _ _ h => h) (Or.inl ⟨by rfl, ?_⟩) (by assumption) ?_
   rotate_left
   ·intro w hSw
    try dsimp only at hSw
    go_simp
    try with_reducible rfl
   simp only [Act.put, z1, z2, z3, z4, z5, z6]
   refine wpAnyH_ready (rs := [11]) (by kernel_rfl) (by simp) ?_
   refine AllReadyH.cons rfl (fun Kc hKc => ?_) AllReadyH.nil
   have HAR := Lib.hid (HAQ.out.rowNew (cs' := #[.int .i64 (wHi (wI pt K n i)), .int .u64 (wLo (wI pt K n i))])); refine wp_store_row 94 _ _ rfl _ #[.int .i64 (wHi (wI pt K n i)), .int .u64 (wLo (wI pt K n i))] rfl (by rfl) 94 _ HAQ.out (by kernel_rfl) rfl (by simp [Value.oneCell']) ?_
   refine hKc.out _ _ ?_ (fun hHeld => ?_)
   ·first | assumption | exact hHeld | exact btr hHeld hb' | exact hHeld.alloc hHeld.size _ | exact below_setRow hHeld hPrev.out _
   clear hKc Kc
   refine tkH (i := 12) (v := ?_) rfl (by kernel_rfl) (fun _ _ _ h => h) (Or.inl ⟨by rfl, ?_⟩) (by assumption) ?_
   rotate_left
   ·intro w hSw
    try dsimp only at hSw
    go_simp
    try with_reducible rfl
   simp only [Act.put, z1, z2, z3, z4, z5, z6]
   refine wpAnyH_done (by kernel_rfl) ?_ _
   have HX10 := Lib.hid (HX9.out.kept hHeld)
   have HX11 := Lib.hid (HX10.out.rowNew (cs' := #[.int .i64 (wHi (wI pt K n i)), .int .u64 (wLo (wI pt K n i))]))
   have HB11 := Lib.hid (below_setRow (btr HBB.out hHeld) (show w.heap.size ≤ w.heap.size + 1 by omega) #[.int .i64 (wHi (wI pt K n i)), .int .u64 (wLo (wI pt K n i))])
   clear hHeld
   go_wp2_with (first | refine wpList_load_row rfl 94 _ rfl _ rfl 94 _ (0, 0) _ HAR.out Tryz.underlying94 rfl (by kernel_rfl) ?_ | refine wpList_store_row rfl 94 _ _ rfl (w.heap.size + 1) #[.int .i64 (wHi (wI pt K n i)), .int .u64 (wLo (wI pt K n i))] rfl rfl 94 _ HX10.out (by kernel_rfl) rfl (by simp [Value.oneCell']) ?_)
   refine bodyPost_ret (results_cell_row rfl _ _ (w.heap.size + 1) 94 _ (0, 0) _ rfl HX11.out Tryz.underlying94 rfl (by kernel_rfl)) rfl ?_
   exact ⟨rfl, HB11.out⟩
theorem inside_any (Kp Bp Tp Wp kb tb nk nt b : Nat) (pt : Nat → Nat → Int) (K T : List (Nat × Nat)) (hb1 : 1 ≤ b) (hb59 : b ≤ 59) (hp : ∀ n i, In64 (pt n i)) (h0 : ∀ n i, n ≤ b → (n, i) ∉ T → wI pt K n i = 0) :
  ∀ n i : Nat, n ≤ b → i < 2 ^ (b - n) → ∀ w, WEnv w Kp Bp Tp Wp kb tb nk nt b pt K T →
  Calls Tryz.prog 33 #[.agg #[.int .i64 (n : Int), .int .u64 (i : Int)], .pointer (some ⟨Kp, 0, none⟩), .pointer (some ⟨Bp, 0, none⟩), .pointer (some ⟨Tp, 0, none⟩), .pointer (some ⟨Wp, 0, none⟩)] w fun e w' => e = .returned (wV (wI pt K n i)) ∧ Below w.heap.size w w' := by
 have hbd : ∀ m j : Nat, m ≤ b → W127 (wI pt K m j) := fun m j hm => by
  have h1 := wI_bd pt K hp m j
  have h2 := two_lt (n := m) (by omega)
  unfold W127
  omega
 have sml : ∀ n i : Nat, n ≤ b → i < 2 ^ (b - n) → Sml (n, i) := fun n i hn hi => by
  have h2 := two_lt (n := b - n) (by omega)
  have e : ((2 ^ (b - n) : Nat) : Int) = (2 : Int) ^ (b - n) := by simp
  exact ⟨by show n ≤ 59; omega, by show i < _; omega⟩
 intro n
 induction n with
 | zero =>
  intro i hn hi w h
  by_cases hK : (0, i) ∈ K
  ·have := within_kept w Kp Bp Tp Wp kb tb nk nt b pt K T h 0 i (sml 0 i hn hi) (hp 0 i) hK
   rwa [show wI pt K 0 i = pt 0 i by unfold wI; rw [if_pos hK]]
  ·exact within_not w Kp Bp Tp Wp kb tb nk nt b pt K T h hb1 hb59 0 i hn hi (sml 0 i hn hi) hK (h0 0 i hn) hbd (fun m y e => by omega)
 | succ n ih =>
  intro i hn hi w h
  by_cases hK : (n + 1, i) ∈ K
  ·have := within_kept w Kp Bp Tp Wp kb tb nk nt b pt K T h (n + 1) i (sml (n + 1) i hn hi) (hp (n + 1) i) hK
   rwa [show wI pt K (n + 1) i = pt (n + 1) i by unfold wI; rw [if_pos hK]]
  ·refine within_not w Kp Bp Tp Wp kb tb nk nt b pt K T h hb1 hb59 (n + 1) i hn hi (sml (n + 1) i hn hi) hK (h0 (n + 1) i hn) hbd (fun m y e hy wq hq => ?_)
   obtain rfl : n = m := by omega
   refine ih y (by omega) ?_ wq hq
   have e2 : b - n = b - (n + 1) + 1 := by omega
   rw [e2, Nat.pow_succ]
   omega
end Go.Proofs.YthbkljeibmkimaaGreat


namespace Go.Proofs.YthbkljeibmkimaaGreat
open Go.RowKit
set_option linter.unusedVariables false
set_option linter.unusedSimpArgs false

def hvErr (pt : Nat → Nat → Int) (least budget : Int) (b : Nat) : Int := if least < 1 ∨ 4096 < budget then 1 else if budget < (askedUp pt least b (b + 1) : Int) then 7 else 0
def HvPost (w : World) (pt : Nat → Nat → Int) (least budget : Int) (b : Nat) (e : Ending) (w' : World) : Prop :=
  ∃ v, e = .returned (.tuple #[v, .int .i64 (hvErr pt least budget b)]) ∧ (hvErr pt least budget b = 0 → FdOwn w' w.heap.size v pt (hvOut pt least b (b + 1))) ∧ (hvErr pt least budget b ≠ 0 → v = .slice none 0 0) ∧ Below w.heap.size w w'
def PtIs (w : World) (S : Nat) (b : Nat) (r d m s : Int) (pt : Nat → Nat → Int) : Prop :=
  (∀ wq, Below w.heap.size w wq → Calls Tryz.prog 29 #[.pointer (some ⟨S, 0, none⟩)] wq fun e w' => e = .returned (.agg #[.int .i64 (b : Int), .int .i64 r, .int .i64 d, .int .i64 m, .int .u64 s]) ∧ Below wq.heap.size wq w') ∧
  ∀ wq, Below w.heap.size w wq → ∀ n i : Nat, n ≤ b → i < 2 ^ (b - n) → Calls Tryz.prog 30 #[.pointer (some ⟨S, 0, none⟩), .agg #[.int .i64 (n : Int), .int .u64 (i : Int)]] wq fun e w' => e = .returned (.tuple #[.int .i64 (pt n i), .int .i64 0]) ∧ Below wq.heap.size wq w'
set_option maxRecDepth 100000 in
set_option maxHeartbeats 8000000 in
theorem hvheavy (w : World) (S b : Nat) (r d m s : Int) (pt : Nat → Nat → Int) (hp : PtIs w S b r d m s pt) (hb1 : 1 ≤ b) (hb : b ≤ 59) (least budget : Int) (hl : In64 least) (hbu : In64 budget) :
  Calls Tryz.prog 11 #[.pointer (some ⟨S, 0, none⟩), .int .i64 least, .int .i64 budget] w (HvPost w pt least budget b) := by
 obtain ⟨iF, hF, hF0, hF1, hF2⟩ := info_parts Tryz.infoFd
 obtain ⟨iP, hP, hP0, hP1, hP2⟩ := info_parts Tryz.infoPc
 obtain ⟨hcf, hpt⟩ := hp
 have HCF := Lib.hid hcf
 have HPT := Lib.hid hpt
 clear hcf hpt
 by_cases h1 : least < 1 ∨ 4096 < budget
 ·have HQ : Hid (HvPost w pt least budget b (.returned (.tuple #[.slice none 0 0, .int .i64 1])) w) := Lib.hid (by
   have he : hvErr pt least budget b = 1 := by unfold hvErr; rw [if_pos h1]
   exact ⟨_, by rw [he], fun h => absurd h (by rw [he]; decide), fun _ => rfl, Below.refl _ _⟩)
  have d1 : (decide (least < 1) || decide (4096 < budget)) = true := by simp; omega
  go_enter Tryz.func11, Tryz.ntmps11
  by_cases hl1 : least < 1
  ·go_wp2
   go_ret2
   exact HQ.out
  ·have hb4 : 4096 < budget := by omega
   go_wp2
   go_ret2
   exact HQ.out
 ·have l1 : 1 ≤ least := by omega
  have l2 : budget ≤ 4096 := by omega
  have HE : Hid (hvErr pt least budget b = if budget < (askedUp pt least b (b + 1) : Int) then 7 else 0) := Lib.hid (by unfold hvErr; rw [if_neg h1])
  have HQ7 : Hid (∀ w', Below w.heap.size w w' → budget < (askedUp pt least b (b + 1) : Int) → HvPost w pt least budget b (.returned (.tuple #[.slice none 0 0, .int .i64 7])) w') := Lib.hid (fun w' hb' hh => by
   have he : hvErr pt least budget b = 7 := by rw [HE.out, if_pos hh]
   exact ⟨_, by rw [he], fun h => absurd h (by rw [he]; decide), fun _ => rfl, hb'⟩)
  have HQ0 : Hid (∀ w' v, Below w.heap.size w w' → ¬ budget < (askedUp pt least b (b + 1) : Int) → FdOwn w' w.heap.size v pt (hvOut pt least b (b + 1)) → HvPost w pt least budget b (.returned (.tuple #[v, .int .i64 0])) w') := Lib.hid (fun w' v hb' hh hf => by
   have he : hvErr pt least budget b = 0 := by rw [HE.out, if_neg hh]
   exact ⟨_, by rw [he], fun _ => hf, fun h => absurd he h, hb'⟩)
  clear h1
  go_enter Tryz.func11, Tryz.ntmps11
  go_wp2_with fail
  have hfd : ∀ w : World, (Instr.field 24 (.agg #[.int .i64 (b : Int), .int .i64 r, .int .i64 d, .int .i64 m, .int .u64 s]) 0).run Tryz.prog w = .ok (.int .i64 (b : Int)) w := fun _ => by kernel_rfl
  with_reducible refine (HCF.out w (Below.refl _ _)).mono ?_
  rintro e w2 ⟨rfl, hb2⟩
  have HB2 := Lib.hid hb2
  clear hb2
  go_wp2_with fail
  go_loopw [9, 10, 11, 34] (fun a o rw i wr => ∃ j : Nat, j ≤ b + 1 ∧ i = .int .i64 (j : Int) ∧ a = .int .i64 (askedUp pt least b j : Int) ∧ FdOwn wr w.heap.size o pt (hvOut pt least b j) ∧ (j ≤ b → PcOwn wr w.heap.size rw (b - j) (rowAt pt least b j)) ∧ (∀ k, rw.ownBlock = some k → o.ownBlock ≠ some k) ∧ askedUp pt least b j ≤ 4096 ∧ (0 < j → (askedUp pt least b j : Int) ≤ budget) ∧ (rowAt pt least b j).length ≤ 8192 ∧ Below w.heap.size w wr) (fun _ _ _ i _ => b + 1 - (intOf i).toNat)
  case atStart =>
   refine ⟨0, by omega, rfl, rfl, World.ownsRow_nil _ _ _ _, fun _ => ?_, by simp [Value.ownBlock], by show 0 ≤ 4096; decide, fun h => absurd h (by decide), by show 1 ≤ 8192; decide, HB2.out.alloc HB2.out.size _⟩
   exact World.ownsRow_lit (base := w.heap.size) (e := 64) (size := 2) w2 #[.int .i64 (b : Int), .int .u64 0] 1 HB2.out.size (by unfold maxLen; omega) (by simp)
  case round =>
   obtain ⟨j, hj, rfl, rfl, hfd, hpc, hne, hak, hab, hrl, hbel⟩ := hrel
   by_cases hlt : j ≤ b
   ·have HPC := Lib.hid (hpc hlt)
    obtain ⟨rao, rcap, hre, hrc, hrm⟩ := own_open (hpc hlt)
    subst hre
    have HFD := Lib.hid hfd
    have HNE := Lib.hid hne
    have HBr := Lib.hid hbel
    have hnx : askedUp pt least b (j + 1) = askedUp pt least b j + (rowAt pt least b j).length := rfl
    have HMO := Lib.hid (askedUp_mono pt least b (j := j + 1) (k := b + 1) (by omega))
    have HNX := Lib.hid hnx
    obtain ⟨L, hL⟩ : ∃ L, L = (rowAt pt least b j).length := ⟨_, rfl⟩
    have HL := Lib.hid hL
    rw [← hL] at hrl hrc hnx ⊢
    obtain ⟨q, hq⟩ : ∃ q, q = askedUp pt least b j := ⟨_, rfl⟩
    have HQ := Lib.hid hq
    rw [← hq] at hak hnx ⊢
    have hjb : (j : Int) < (b : Int) + 1 := by omega
    have hql : (q : Int) + (L : Int) ≤ 20000 := by omega
    have hql0 : 0 ≤ (q : Int) + (L : Int) := by omega
    clear hfd hpc hne hbel hL hq hj hnx
    generalize wr = wo at *
    by_cases hov : budget < (q : Int) + (L : Int)
    ·have HOV : Hid (budget < (askedUp pt least b (b + 1) : Int)) := Lib.hid (by have h1 := HMO.out; have h2 := HNX.out; have h3 := HL.out; have h4 := HQ.out; omega)
     go_wp2
     go_ret2
     exact HQ7.out _ HBr.out HOV.out
    ·have hsz := HBr.out.size
     have HSZ := Lib.hid hsz
     clear hsz
     go_wp2_with fail
     go_loopw [10, 12, 45] (fun o nx i wi => ∃ t : Nat, t ≤ L ∧ i = .int .i64 (t : Int) ∧ FdOwn wi w.heap.size o pt (hvOut pt least b j ++ foundR pt least (b - j) ((rowAt pt least b j).take t)) ∧ (j < b → PcOwn wi wo.heap.size nx (b - j - 1) (kids (toldR pt least (b - j) ((rowAt pt least b j).take t)))) ∧ (¬ j < b → nx = .slice none 0 0) ∧ (∀ k, nx.ownBlock = some k → o.ownBlock ≠ some k) ∧ (∀ k, (Value.slice rao L rcap).ownBlock = some k → o.ownBlock ≠ some k) ∧ PcOwn wi w.heap.size (.slice rao L rcap) (b - j) (rowAt pt least b j) ∧ Below w.heap.size w wi ∧ wo.heap.size ≤ wi.heap.size) (fun _ _ i _ => L - (intOf i).toNat)
     case atStart => exact ⟨0, by omega, rfl, by simpa [foundR, toldR] using HFD.out, fun _ => World.ownsRow_nil _ _ _ _, fun _ => rfl, by simp [Value.ownBlock], by rw [HL.out]; exact HNE.out, by rw [HL.out]; exact HPC.out, HBr.out, Nat.le_refl _⟩
     case round =>
      obtain ⟨t, ht, rfl, hfd, hpc, hnl, hne, hno, hrow, hbel, hsz⟩ := hrel
      by_cases hlt2 : t < L
      ·obtain ⟨x, hx⟩ : ∃ x, (rowAt pt least b j)[t]? = some x := ⟨_, List.getElem?_eq_getElem (by rw [← HL.out]; exact hlt2)⟩
       obtain ⟨g, cp, e, hg1, hg2, -, -, hrg⟩ := hrow.range hx
       simp only [Value.slice.injEq] at e
       obtain ⟨rfl, -, rfl⟩ := e
       have HSZR : Hid (g < wo.heap.size) := Lib.hid (HPC.out.lt g (by simp [Value.ownBlock])).2
       have HX := Lib.hid hx
       have hx2 : x < 2 ^ j := rowAt_lt pt least b j x (List.mem_of_getElem? hx)
       have HFD2 := Lib.hid hfd
       have HPC2 := Lib.hid hpc
       have HNL2 := Lib.hid hnl
       have HNE2 := Lib.hid hne
       have HNO2 := Lib.hid hno
       have HROW := Lib.hid hrow
       have HB2' := Lib.hid hbel
       have HSZ2 := Lib.hid hsz
       have HRG := Lib.hid hrg
       have htL : (t : Int) < (L : Int) := by omega
       have ht0 : (0 : Int) ≤ (t : Int) := by omega
       clear hx hfd hpc hnl hne hno hrow hbel hsz hrg
       have hrg := HRG.out
       have PPT := Lib.hid (fun wq hq => HPT.out wq hq (b - j) x (by omega) (by rw [show b - (b - j) = j by omega]; exact hx2))
       obtain ⟨n, hn⟩ : ∃ n, n = b - j := ⟨_, rfl⟩
       have HNN := Lib.hid hn
       rw [← hn] at hrg PPT
       have HBN := Lib.hid (HB2'.out.alloc HB2'.out.size (.cells #[.int .i64 (n : Int), .int .u64 (x : Int)] 64))
       clear hn
       go_wp2_with (refine wpList_load_mid rfl 64 _ rfl g (t * 2) rfl [.int .i64 (n : Int), .int .u64 (x : Int)] _ hrg Tryz.underlying64 rfl (by kernel_rfl) ?_)
       with_reducible refine (PPT.out _ HBN.out).mono ?_
       rintro e wa ⟨rfl, hb⟩
       have HAB := Lib.hid (btr ((Below.refl wr.heap.size wr).alloc (Nat.le_refl _) (.cells #[.int .i64 (n : Int), .int .u64 (x : Int)] 64)) hb)
       have hpx : Blk wa wr.heap.size 64 #[.int .i64 (n : Int), .int .u64 (x : Int)] := (Blk.new wr _ _).kept hb
       have HPX := Lib.hid hpx
       have HFDA := Lib.hid (HFD2.out.kept HAB.out)
       have HROWA := Lib.hid (HROW.out.kept HAB.out)
       have HPCA : Hid (j < b → PcOwn wa wo.heap.size u12 (n - 1) (kids (toldR pt least n ((rowAt pt least b j).take t)))) := Lib.hid (fun h => by rw [HNN.out]; exact (HPC2.out h).kept HAB.out)
       have HBA := Lib.hid (btr HB2'.out HAB.out)
       have hsza := HAB.out.size
       have HSA : Hid (wo.heap.size ≤ wa.heap.size) := Lib.hid (by have := HSZ2.out; omega)
       clear hb hsza hrg
       by_cases hlt3 : pt n x < least
       ·have HTS : Hid (foundR pt least (b - j) ((rowAt pt least b j).take (t + 1)) = foundR pt least (b - j) ((rowAt pt least b j).take t) ∧ kids (toldR pt least (b - j) ((rowAt pt least b j).take (t + 1))) = kids (toldR pt least (b - j) ((rowAt pt least b j).take t))) := Lib.hid (by
         rw [foundR_snoc HX.out, kids_snoc HX.out, ← HNN.out, if_neg (by omega), if_neg (by omega), List.append_nil, List.append_nil]
         exact ⟨rfl, rfl⟩)
        go_wp2_with fail
        go_roundw
        case rel => exact ⟨t + 1, by omega, by go_num, by rw [HTS.out.1]; exact HFDA.out, by rw [HTS.out.2, ← HNN.out]; exact HPCA.out, HNL2.out, HNE2.out, HNO2.out, HROWA.out, HBA.out, HSA.out⟩
        case measure => simp [intOf]; omega
       ·have hge : least ≤ pt n x := by omega
        have hlo := (hvOut_len pt least b j)
        have hcap1 : (hvOut pt least b j ++ foundR pt least (b - j) ((rowAt pt least b j).take t)).length ≤ 20000 := by
         rw [List.length_append, foundR, List.length_map]
         have h1 := toldR_le pt least (b - j) ((rowAt pt least b j).take t)
         have h2 : ((rowAt pt least b j).take t).length ≤ L := by rw [List.length_take, ← HL.out]; omega
         have h3 := HQ.out
         omega
        obtain ⟨N, hN⟩ : ∃ N, N = (hvOut pt least b j ++ foundR pt least (b - j) ((rowAt pt least b j).take t)).length := ⟨_, rfl⟩
        have HLN := Lib.hid hN
        have HFA : Hid (wa.ownsRow w.heap.size 66 3 u10 N (fdCells pt (hvOut pt least b j ++ foundR pt least (b - j) ((rowAt pt least b j).take t)))) := Lib.hid (by rw [hN]; exact HFDA.out)
        have hc1 : N + 1 ≤ maxLen := by unfold maxLen; omega
        have hc4 : (N + 1) * 24 ≤ 140737488355328 := by omega
        have HBA2 := Lib.hid (HBA.out.alloc HBA.out.size (.cells #[.int .i64 (n : Int), .int .u64 (x : Int), .int .i64 (pt n x)] 66))
        obtain ⟨oao, ocap, ho10, -, -⟩ := own_open HFA.out
        subst ho10
        clear hlo hcap1 hN
        go_wp2_with (first | refine wpList_load_row rfl 64 _ rfl wr.heap.size rfl 64 _ (0, 0) _ hpx Tryz.underlying64 rfl (by kernel_rfl) ?_ | (at_builtin; go_loud (refine wpList_append_own_at _ rfl _ _ 39 rfl w.heap.size 66 iF (.agg #[.int .i64 0, .int .u64 0, .int .i64 0]) 3 24 Tryz.underlying39 hF hF0 hF1 hF2 rfl (by decide) _ N _ rfl (World.ownsRow.alloc HFA.out _) ⟨wa.heap.size, 0, none⟩ 1 1 [.int .i64 (n : Int), .int .u64 (x : Int), .int .i64 (pt n x)] rfl rfl (cells_new _ rfl) ?c2 hc1 hc4 ?c5 ?_)))
        case c2 => simp [Value.oneCell']
        case c5 => exact HBA2.out.size
        intro v5 w5 hown' hgrow hnil' hq5
        have HTS : Hid (hvOut pt least b j ++ foundR pt least (b - j) ((rowAt pt least b j).take (t + 1)) = hvOut pt least b j ++ foundR pt least (b - j) ((rowAt pt least b j).take t) ++ [(n, x)] ∧ kids (toldR pt least (b - j) ((rowAt pt least b j).take (t + 1))) = kids (toldR pt least (b - j) ((rowAt pt least b j).take t)) ++ [2 * x, 2 * x + 1]) := Lib.hid (by
         rw [foundR_snoc HX.out, kids_snoc HX.out, ← HNN.out, if_pos hge, if_pos hge, List.append_assoc]
         exact ⟨rfl, rfl⟩)
        have HFD5 : Hid (FdOwn w5 w.heap.size v5 pt (hvOut pt least b j ++ foundR pt least (b - j) ((rowAt pt least b j).take (t + 1)))) := Lib.hid (FdOwn.push HTS.out.1 HLN.out hown')
        have HROW5 : Hid (PcOwn w5 w.heap.size (.slice (some ⟨g, 0, none⟩) L rcap) (b - j) (rowAt pt least b j)) := Lib.hid (own_gr (World.ownsRow.alloc HROWA.out _) hgrow (fun k e => HNO2.out k e))
        have HPC5 : Hid (j < b → PcOwn w5 wo.heap.size u12 (n - 1) (kids (toldR pt least n ((rowAt pt least b j).take t)))) := Lib.hid (fun h => own_gr (World.ownsRow.alloc (HPCA.out h) _) hgrow (fun k e => HNE2.out k e))
        have HNO5 : Hid (∀ k, (Value.slice (some ⟨g, 0, none⟩) L rcap).ownBlock = some k → v5.ownBlock ≠ some k) := Lib.hid (fun k e => by
         rcases hq5 with h | h
         ·rw [h]; exact HNO2.out k e
         ·rw [h]
          intro e2
          have := (HROWA.out.lt k e).2
          have := Option.some.inj e2
          omega)
        have HNE5 : Hid (∀ k, u12.ownBlock = some k → v5.ownBlock ≠ some k) := Lib.hid (fun k e => by
         rcases hq5 with h | h
         ·rw [h]; exact HNE2.out k e
         ·rw [h]
          intro e2
          by_cases hjb2 : j < b
          ·have := ((HPCA.out hjb2).lt k e).2
           have := Option.some.inj e2
           omega
          ·rw [HNL2.out hjb2] at e
           simp [Value.ownBlock] at e)
        have HPX5 : Hid (Blk w5 wr.heap.size 64 #[.int .i64 (n : Int), .int .u64 (x : Int)]) := Lib.hid ((HPX.out.alloc _).grown hgrow (own_far HFA.out HPX.out (by decide)))
        have HB5 := Lib.hid (HBA2.out.grown hgrow HBA2.out.size (fun k e => (HFA.out.lt k e).1))
        have hs5 := hgrow.size
        have HS5 : Hid (wo.heap.size ≤ w5.heap.size) := Lib.hid (by have := HSA.out; simp at hs5; omega)
        obtain ⟨pao, pcap, hv5, -, -⟩ := own_open hown'
        subst hv5
        clear hown' hgrow hnil' hq5 hs5 hc1 hc4 hpx
        have hp5 := HPX5.out
        go_wp2_with (refine wpList_load_row rfl 64 _ rfl wr.heap.size rfl 64 _ (0, 0) _ hp5 Tryz.underlying64 rfl (by kernel_rfl) ?_)
        by_cases hn0 : n = 0
        ·have PH : Hid (Calls Tryz.prog 31 #[.int .i64 (b : Int), .agg #[.int .i64 (n : Int), .int .u64 (x : Int)]] w5 fun e w' => e = .returned (.tuple #[.agg #[.int .i64 0, .int .u64 0], .agg #[.int .i64 0, .int .u64 0], .bool false]) ∧ Below w5.heap.size w5 w') := Lib.hid (by
          rw [hn0]
          exact halves_no b x hb1 hb (by have := HNN.out; rwa [show b = j by omega]) w5)
         with_reducible refine PH.out.mono ?_
         rintro e w6 ⟨rfl, hb⟩
         have HFD6 := Lib.hid (HFD5.out.kept hb)
         have HROW6 := Lib.hid (HROW5.out.kept hb)
         have HB6 := Lib.hid (btr HB5.out hb)
         have hs6 := hb.size
         have HS6 : Hid (wo.heap.size ≤ w6.heap.size) := Lib.hid (by have := HS5.out; omega)
         obtain ⟨-, -, hb8, hsz8⟩ := news2 w6 (.cells #[.int .i64 0, .int .u64 0] 64) (.cells #[.int .i64 0, .int .u64 0] 64)
         have HFD8 := Lib.hid (HFD6.out.kept hb8)
         have HROW8 := Lib.hid (HROW6.out.kept hb8)
         have HB8 := Lib.hid (btr HB6.out hb8)
         have HS8 := Lib.hid (Nat.le_trans HS6.out hb8.size)
         clear hb hs6 hp5 hb8 hsz8
         go_wp2_with fail
         go_roundw
         case rel => exact ⟨t + 1, by omega, by go_num, HFD8.out, fun h => absurd h (by have := HNN.out; omega), HNL2.out, HNE5.out, HNO5.out, HROW8.out, HB8.out, HS8.out⟩
         case measure => simp [intOf]; omega
        ·obtain ⟨m', hm'⟩ : ∃ m', n = m' + 1 := ⟨n - 1, by omega⟩
         have PH : Hid (Calls Tryz.prog 31 #[.int .i64 (b : Int), .agg #[.int .i64 (n : Int), .int .u64 (x : Int)]] w5 fun e w' => e = .returned (.tuple #[.agg #[.int .i64 (m' : Int), .int .u64 ((2 * x : Nat) : Int)], .agg #[.int .i64 (m' : Int), .int .u64 ((2 * x + 1 : Nat) : Int)], .bool true]) ∧ Below w5.heap.size w5 w') := Lib.hid (by
          rw [hm']
          exact halves_yes b m' x hb1 hb (by have := HNN.out; omega) (by have := HNN.out; rwa [show b - (m' + 1) = j by omega]) w5)
         have HM' := Lib.hid hm'
         obtain ⟨y1, hy1⟩ : ∃ y1, y1 = 2 * x := ⟨_, rfl⟩
         obtain ⟨y2, hy2⟩ : ∃ y2, y2 = 2 * x + 1 := ⟨_, rfl⟩
         rw [← hy2, ← hy1] at PH HTS
         with_reducible refine PH.out.mono ?_
         rintro e w6 ⟨rfl, hb⟩
         have HFD6 := Lib.hid (HFD5.out.kept hb)
         have HROW6 := Lib.hid (HROW5.out.kept hb)
         have HPC6 : Hid (j < b → PcOwn w6 wo.heap.size u12 (n - 1) (kids (toldR pt least n ((rowAt pt least b j).take t)))) := Lib.hid (fun h => (HPC5.out h).kept hb)
         have HB6 := Lib.hid (btr HB5.out hb)
         have hs6 := hb.size
         have HS6 : Hid (wo.heap.size ≤ w6.heap.size) := Lib.hid (by have := HS5.out; omega)
         have hjb2 : j < b := by have := HNN.out; omega
         obtain ⟨M, hM⟩ : ∃ M, M = (kids (toldR pt least n ((rowAt pt least b j).take t))).length := ⟨_, rfl⟩
         have hMle : M ≤ 20000 := by
          rw [hM, kids_len]
          have h1 := toldR_le pt least n ((rowAt pt least b j).take t)
          have h2 : ((rowAt pt least b j).take t).length ≤ L := by rw [List.length_take, ← HL.out]; omega
          omega
         have HLM := Lib.hid hM
         obtain ⟨g8, g9, hb8, hsz8⟩ := news2 w6 (.cells #[.int .i64 (m' : Int), .int .u64 (y1 : Int)] 64) (.cells #[.int .i64 (m' : Int), .int .u64 (y2 : Int)] 64)
         have HX8 : Hid (Blk _ w6.heap.size 64 #[.int .i64 (m' : Int), .int .u64 (y1 : Int)]) := Lib.hid g8
         have HX9 : Hid (Blk _ (w6.heap.size + 1) 64 #[.int .i64 (m' : Int), .int .u64 (y2 : Int)]) := Lib.hid g9
         have HFD8 := Lib.hid (HFD6.out.kept hb8)
         have HROW8 := Lib.hid (HROW6.out.kept hb8)
         have HB8 := Lib.hid (btr HB6.out hb8)
         have HS8 := Lib.hid (Nat.le_trans HS6.out hb8.size)
         have HPA := Lib.hid ((HPC6.out hjb2).kept hb8)
         have HPA : Hid (World.ownsRow _ wo.heap.size 64 2 u12 M (pcCells m' (kids (toldR pt least n ((rowAt pt least b j).take t))))) := Lib.hid (by
          have h1 := HPA.out
          unfold PcOwn at h1
          rw [← hM, show n - 1 = m' by omega] at h1
          exact h1)
         obtain ⟨nao, ncap, ho12, -, -⟩ := own_open HPA.out
         subst ho12
         have HSZ8 := Lib.hid hsz8
         have hc1 : M + 2 ≤ maxLen := by unfold maxLen; omega
         have hc4 : (M + 2) * 16 ≤ 140737488355328 := by omega
         have HJB2 := Lib.hid hjb2
         clear hb hs6 hp5 hm' hy1 hy2 hn0 hM hMle hjb2 g8 g9 hb8 hsz8
         have hx8 := HX8.out
         have hx9 := HX9.out
         go_wp2_with (first | refine wpList_load_row rfl 64 _ rfl w6.heap.size rfl 64 _ (0, 0) _ hx8 Tryz.underlying64 rfl (by kernel_rfl) ?_ | refine wpList_load_row rfl 64 _ rfl (w6.heap.size + 1) rfl 64 _ (0, 0) _ hx9 Tryz.underlying64 rfl (by kernel_rfl) ?_ | (at_builtin; go_loud (refine wpList_append_own_at _ rfl _ _ 85 rfl wo.heap.size 64 iP (.agg #[.int .i64 0, .int .u64 0]) 2 16 Tryz.underlying85 hP hP0 hP1 hP2 rfl (by decide) _ M _ rfl (World.ownsRow.alloc HPA.out _) ⟨_, 0, none⟩ 2 2 [.int .i64 (m' : Int), .int .u64 (y1 : Int), .int .i64 (m' : Int), .int .u64 (y2 : Int)] rfl rfl (cells_new' _ rfl (by simp)) ?c2 hc1 hc4 ?c5 ?_)))
         case c2 => simp [Value.oneCell']
         case c5 => exact Nat.le_trans HS8.out (by simp)
         intro v7 w7 hown' hgrow hnil' hq7
         generalize ((w6.alloc (.cells #[.int .i64 (m' : Int), .int .u64 (y1 : Int)] 64)).alloc (.cells #[.int .i64 (m' : Int), .int .u64 (y2 : Int)] 64)) = w8 at *
         have HFD7 : Hid (FdOwn w7 w.heap.size (.slice pao (N + 1) pcap) pt (hvOut pt least b j ++ foundR pt least (b - j) ((rowAt pt least b j).take (t + 1)))) := Lib.hid (own_gr (World.ownsRow.alloc HFD8.out _) hgrow (fun k e => fun e2 => HNE5.out k e2 e))
         have HROW7 : Hid (PcOwn w7 w.heap.size (.slice (some ⟨g, 0, none⟩) L rcap) (b - j) (rowAt pt least b j)) := Lib.hid (own_gr (World.ownsRow.alloc HROW8.out _) hgrow (fun k e => fun e2 => by
          have h1 := (HPA.out.lt k e2).1
          have h2 : g = k := by simpa [Value.ownBlock] using e
          have h3 := HSZR.out
          omega))
         have HPC7 : Hid (j < b → PcOwn w7 wo.heap.size v7 (b - j - 1) (kids (toldR pt least (b - j) ((rowAt pt least b j).take (t + 1))))) := Lib.hid (fun _ => by
          have h1 := HTS.out.2
          have hm := HM'.out
          have e := HNN.out
          rw [e] at hown' hm
          rw [show b - j - 1 = m' by omega]
          exact PcOwn.push2 h1 (by rw [HLM.out, HNN.out]) hown')
         have HNE7 : Hid (∀ k, v7.ownBlock = some k → (Value.slice pao (N + 1) pcap).ownBlock ≠ some k) := Lib.hid (fun k e => by
          rcases hq7 with h | h
          ·rw [h] at e; exact HNE5.out k e
          ·rw [h] at e
           intro e2
           have h1 := (HFD8.out.lt k e2).2
           have h2 := Option.some.inj e
           have h4 := HSZ8.out
           try simp at h2
           omega)
         have HB7 := Lib.hid ((HB8.out.alloc HB8.out.size (.cells #[.int .i64 (m' : Int), .int .u64 (y1 : Int), .int .i64 (m' : Int), .int .u64 (y2 : Int)] 64)).grown hgrow (Nat.le_trans HB8.out.size (by simp)) (fun k e => Nat.le_trans HSZ.out (HPA.out.lt k e).1))
         have HS7 : Hid (wo.heap.size ≤ w7.heap.size) := Lib.hid (by have h1 := hgrow.size; have h2 := HS8.out; simp at h1; omega)
         obtain ⟨zao, zcap, hv7, -, -⟩ := own_open hown'
         subst hv7
         clear hown' hgrow hnil' hq7 hx8 hx9 hc1 hc4
         go_wp2_with fail
         go_roundw
         case rel => exact ⟨t + 1, by omega, by go_num, HFD7.out, HPC7.out, fun h => absurd HJB2.out h, HNE7.out, HNO5.out, HROW7.out, HB7.out, HS7.out⟩
         case measure => simp [intOf]; omega
      ·have htL : t = L := by omega
       have htz : ¬ (t : Int) < (L : Int) := by omega
       have ht2 : (rowAt pt least b j).take t = rowAt pt least b j := List.take_of_length_le (by rw [htL, ← HL.out]; exact Nat.le_refl _)
       rw [ht2] at hfd hpc
       have HFD9 := Lib.hid hfd
       have HPC9 : Hid (j + 1 ≤ b → PcOwn wr w.heap.size u12 (b - (j + 1)) (rowAt pt least b (j + 1))) := Lib.hid (fun h => own_mono (by
        have := hpc (by omega)
        unfold PcOwn at this
        rw [show b - j - 1 = b - (j + 1) by omega] at this
        exact this) HSZ.out)
       have HNE9 := Lib.hid hne
       have HB9 := Lib.hid hbel
       have HK9 : Hid ((askedUp pt least b (j + 1) : Int) = (q : Int) + (L : Int) ∧ askedUp pt least b (j + 1) ≤ 4096 ∧ (askedUp pt least b (j + 1) : Int) ≤ budget ∧ (rowAt pt least b (j + 1)).length ≤ 8192) := Lib.hid (by
        have h1 := HNX.out
        have h2 := HQ.out
        have h3 := HL.out
        refine ⟨by omega, by omega, by omega, ?_⟩
        show (kids (toldR pt least (b - j) (rowAt pt least b j))).length ≤ 8192
        rw [kids_len]
        have := toldR_le pt least (b - j) (rowAt pt least b j)
        omega)
       clear hfd hpc hnl hne hno hrow hbel hsz ht2
       go_wp2_with fail
       go_roundw
       case rel => exact ⟨j + 1, by omega, by go_num, by rw [HK9.out.1], HFD9.out, HPC9.out, HNE9.out, HK9.out.2.1, fun _ => HK9.out.2.2.1, HK9.out.2.2.2, HB9.out⟩
       case measure => simp [intOf]; omega
   ·have hjb : j = b + 1 := by omega
    have HF : Hid (FdOwn wr w.heap.size _ pt (hvOut pt least b (b + 1))) := Lib.hid (by rw [← hjb]; exact hfd)
    have HN : Hid (¬ budget < (askedUp pt least b (b + 1) : Int)) := Lib.hid (by rw [← hjb]; have := hab (by omega); omega)
    have HB := Lib.hid hbel
    have hjn : ¬ (j : Int) < (b : Int) + 1 := by omega
    clear hfd hpc hne hak hab hrl hbel
    go_wp2
    go_ret2
    exact HQ0.out _ _ HB.out HN.out HF.out
end Go.Proofs.YthbkljeibmkimaaGreat


namespace Go.Proofs.YthbkljeibmkimaaGreat
open Go.RowKit Go.Maps
set_option linter.unusedVariables false
set_option linter.unusedSimpArgs false

set_option maxRecDepth 100000 in
set_option maxHeartbeats 4000000 in
theorem srins_nil (F : Value) (w : World) : Calls Tryz.prog 74 #[.slice none 0 0, .int .i64 0, .int .i64 0, F] w fun e w' => e = .returned (.tuple #[]) ∧ w = w' := by
  go_enter Tryz.func74, Tryz.ntmps74
  go_wp2_with fail
  go_loopw [8] (fun vi wr => vi = .int .i64 1 ∧ w = wr) (fun _ _ => 0)
  case atStart => exact ⟨by go_num, rfl⟩
  case round =>
    obtain ⟨rfl, hw⟩ := hrel
    subst hw
    go_wp2
    go_end0
    exact ⟨rfl, rfl⟩
set_option maxRecDepth 100000 in
set_option maxHeartbeats 4000000 in
theorem srstable_nil (F : Value) (w : World) : Calls Tryz.prog 62 #[.slice none 0 0, .int .i64 0, F] w fun e w' => e = .returned (.tuple #[]) ∧ w = w' := by
  have PI := Lib.hid (srins_nil F w)
  go_enter Tryz.func62, Tryz.ntmps62
  go_wp2_with fail
  go_loopw [7, 8] (fun va vb wr => va = .int .i64 0 ∧ vb = .int .i64 20 ∧ w = wr) (fun _ _ _ => 0)
  case atStart => exact ⟨rfl, rfl, rfl⟩
  case round =>
    obtain ⟨rfl, rfl, hw⟩ := hrel
    subst hw
    go_wp2_with fail
    with_reducible refine PI.out.mono ?_
    rintro e w3 ⟨rfl, hw⟩
    subst hw
    go_wp2_with fail
    go_loopw [6, 7, 8] (fun vs _ _ wr => vs = .int .i64 20 ∧ w = wr) (fun _ _ _ _ => 0)
    case atStart => exact ⟨rfl, rfl⟩
    case round =>
      obtain ⟨rfl, hw⟩ := hrel
      subst hw
      go_wp2
      go_end0
      exact ⟨rfl, rfl⟩
set_option maxRecDepth 100000 in
set_option maxHeartbeats 4000000 in
theorem sort_nil (F : Value) (w : World) : Calls Tryz.prog 36 #[.slice none 0 0, F] w fun e w' => e = .returned (.tuple #[]) ∧ w = w' := by
  have PI := Lib.hid (srstable_nil F w)
  go_enter Tryz.func36, Tryz.ntmps36
  go_wp2_with fail
  with_reducible refine PI.out.mono ?_
  rintro e w3 ⟨rfl, hw⟩
  subst hw
  go_wp2
  go_end0
  exact ⟨rfl, rfl⟩
set_option maxRecDepth 100000 in
set_option maxHeartbeats 4000000 in
theorem sort_any (pt : Nat → Nat → Int) (g cap : Nat) (l : List (Nat × Nat)) (hlen : l.length ≤ 100000) (hc : l.length ≤ cap) (sm : Small l) (w : World) (h : FdAt w g pt l) :
    Calls Tryz.prog 36 #[.slice (some ⟨g, 0, none⟩) l.length cap, (.func (.func 37) #[] #[])] w (SortRes w g pt fun y => Stp lvK 0 l.length l y ∧ Srt lvK 0 l.length y) := by
  have PI := Lib.hid (srstable pt g cap l hlen hc sm w h)
  obtain ⟨L, hL⟩ : ∃ L, L = l.length := ⟨_, rfl⟩
  rw [← hL] at PI hc hlen ⊢
  clear hL h sm
  go_enter Tryz.func36, Tryz.ntmps36
  go_wp2_with fail
  with_reducible refine PI.out.mono ?_
  rintro e w3 ⟨rfl, hr⟩
  have HR := Lib.hid hr
  clear hr
  go_wp2
  go_end0
  exact ⟨rfl, HR.out⟩
def rsCells (pt : Nat → Nat → Int) (l : List (Nat × Nat × Int)) : List Value := l.flatMap fun p => [.int .i64 (p.1 : Int), .int .u64 (p.2.1 : Int), .int .i64 (pt p.1 p.2.1), .int .i64 p.2.2]
theorem rsCells_append (pt : Nat → Nat → Int) (l m : List (Nat × Nat × Int)) : rsCells pt (l ++ m) = rsCells pt l ++ rsCells pt m := by simp [rsCells]
theorem rsCells_get {pt : Nat → Nat → Int} : ∀ {l : List (Nat × Nat × Int)} {t : Nat} {p : Nat × Nat × Int}, l[t]? = some p → (rsCells pt l)[4 * t]? = some (.int .i64 (p.1 : Int)) ∧ (rsCells pt l)[4 * t + 1]? = some (.int .u64 (p.2.1 : Int)) ∧ (rsCells pt l)[4 * t + 2]? = some (.int .i64 (pt p.1 p.2.1)) ∧ (rsCells pt l)[4 * t + 3]? = some (.int .i64 p.2.2)
  | [], t, p, h => by simp at h
  | a :: l, 0, p, h => by simp at h; subst h; simp [rsCells]
  | a :: l, t + 1, p, h => by
    have := rsCells_get (pt := pt) (l := l) (t := t) (p := p) (by simpa using h)
    rw [show 4 * (t + 1) = 4 * t + 4 by omega, show 4 * t + 4 + 1 = 4 * t + 1 + 4 by omega, show 4 * t + 4 + 2 = 4 * t + 2 + 4 by omega, show 4 * t + 4 + 3 = 4 * t + 3 + 4 by omega]
    have e : rsCells pt (a :: l) = [.int .i64 (a.1 : Int), .int .u64 (a.2.1 : Int), .int .i64 (pt a.1 a.2.1), .int .i64 a.2.2] ++ rsCells pt l := by simp [rsCells]
    rw [e, List.getElem?_append_right (by simp), List.getElem?_append_right (by simp), List.getElem?_append_right (by simp), List.getElem?_append_right (by simp)]
    simpa using this
def RsOwn (w : World) (base : Nat) (v : Value) (pt : Nat → Nat → Int) (l : List (Nat × Nat × Int)) : Prop := w.ownsRow base 68 4 v l.length (rsCells pt l)
theorem RsOwn.kept {w w' : World} {base : Nat} {v : Value} {pt : Nat → Nat → Int} {l : List (Nat × Nat × Int)} (h : RsOwn w base v pt l) (hb : Below w.heap.size w w') : RsOwn w' base v pt l := own_kept h hb
theorem RsOwn.push {w : World} {base : Nat} {v : Value} {pt : Nat → Nat → Int} {l : List (Nat × Nat × Int)} {n x N : Nat} {z : Int} (hN : N = l.length) (h : w.ownsRow base 68 4 v (N + 1) (rsCells pt l ++ [.int .i64 (n : Int), .int .u64 (x : Int), .int .i64 (pt n x), .int .i64 z])) : RsOwn w base v pt (l ++ [(n, x, z)]) := by
  subst hN
  unfold RsOwn
  rw [rsCells_append, List.length_append]
  exact h
theorem RsOwn.range {w : World} {base : Nat} {v : Value} {pt : Nat → Nat → Int} {l : List (Nat × Nat × Int)} (h : RsOwn w base v pt l) {t : Nat} {p : Nat × Nat × Int} (ht : l[t]? = some p) : ∃ g cap, v = .slice (some ⟨g, 0, none⟩) l.length cap ∧ base ≤ g ∧ g < w.heap.size ∧ l.length ≤ cap ∧ cap ≤ maxLen ∧ w.rangeAt g (t * 4) [.int .i64 (p.1 : Int), .int .u64 (p.2.1 : Int), .int .i64 (pt p.1 p.2.1), .int .i64 p.2.2] := by
  have hl : t < l.length := (List.getElem?_eq_some_iff.1 ht).1
  obtain ⟨g, cap, h1, h2, h3, h4, h5, h6⟩ := own_cells h (by omega)
  obtain ⟨g0, g1, g2, g3⟩ := rsCells_get (pt := pt) ht
  rw [Nat.mul_comm 4 t] at g0 g1 g2 g3
  refine ⟨g, cap, h1, h2, h3, h4, h5, fun j u hu => ?_⟩
  match j, hu with
  | 0, hu => simp at hu; subst hu; simpa using h6 _ _ g0
  | 1, hu => simp at hu; subst hu; exact h6 _ _ g1
  | 2, hu => simp at hu; subst hu; exact h6 _ _ g2
  | 3, hu => simp at hu; subst hu; exact h6 _ _ g3
  | j + 4, hu => simp at hu
theorem Tryz.infoRs : (Tryz.prog.info? 68).map (fun i => (i.zero, i.size, i.bytes)) = some (some (.agg #[.int .i64 0, .int .u64 0, .int .i64 0, .int .i64 0]), 4, 32) := by kernel_rfl
theorem FdOwn.at {w : World} {base : Nat} {v : Value} {pt : Nat → Nat → Int} {l : List (Nat × Nat)} (h : FdOwn w base v pt l) : (v = .slice none 0 0 ∧ l = []) ∨ ∃ g cap, v = .slice (some ⟨g, 0, none⟩) l.length cap ∧ base ≤ g ∧ l.length ≤ cap ∧ FdAt w g pt l ∧ ∃ cs, w.heap[g]? = some (.cells cs 66 (0, 0)) := by
  have hlt := h.lt
  have hc := fun (g : Nat) hg => World.ownsRow.cells (g := g) h hg
  rcases h.2 with ⟨h1, h2⟩ | ⟨g, cap, cur, rfl, hb, hg, hn, hm, hs, ht⟩
  · exact .inl ⟨h1, List.length_eq_zero_iff.1 h2⟩
  · refine .inr ⟨g, cap, rfl, hb, hn, ⟨(hlt g rfl).2, fun o => by simp [World.frozen?, hg], fun t p hp => ?_⟩, cur, hg⟩
    obtain ⟨g0, g1, g2⟩ := fdCells_get (pt := pt) hp
    have e : ∀ (j : Nat) (u : Value), (fdCells pt l)[j]? = some u → w.cell? ⟨g, j, none⟩ = some u := fun j u hu => by
      have := hc g rfl j u hu
      rwa [Addr.add_mid, Nat.zero_add] at this
    rw [Nat.mul_comm 3 t] at g0 g1 g2
    intro j u hu
    unfold fd3 at hu
    match j, hu with
    | 0, hu => simp at hu; subst hu; simpa using e _ _ g0
    | 1, hu => simp at hu; subst hu; exact e _ _ g1
    | 2, hu => simp at hu; subst hu; exact e _ _ g2
    | j + 3, hu => simp at hu
end Go.Proofs.YthbkljeibmkimaaGreat


namespace Go.Proofs.YthbkljeibmkimaaGreat
open Go.RowKit Go.Maps
set_option linter.unusedVariables false
set_option linter.unusedSimpArgs false

def hiT (pt : Nat → Nat → Int) (least : Int) (b : Nat) : List (Nat × Nat) := byKey lvK (b + 1) (hvOut pt least b (b + 1))
def hiKept (pt : Nat → Nat → Int) (least : Int) (b : Nat) : Option (List (Nat × Nat × Int)) := keptAt pt least (hiT pt least b) (hiT pt least b).length
def hiErr (pt : Nat → Nat → Int) (least budget : Int) (b : Nat) : Int := if hvErr pt least budget b = 0 then (match hiKept pt least b with | some _ => 0 | none => 4) else hvErr pt least budget b
def HiPost (w : World) (pt : Nat → Nat → Int) (least budget : Int) (b : Nat) (e : Ending) (w' : World) : Prop :=
  ∃ v, e = .returned (.tuple #[v, .int .i64 (hiErr pt least budget b)]) ∧ (hiErr pt least budget b = 0 → ∃ o, hiKept pt least b = some o ∧ RsOwn w' w.heap.size v pt o) ∧ (hiErr pt least budget b ≠ 0 → v = .slice none 0 0) ∧ Below w.heap.size w w'
theorem below_of_grown {w w1 w2 : World} {B g : Nat} (h : Below B w w1) (hB : B ≤ w1.heap.size) (k : w1.grownBy w2 (some g)) (hg : B ≤ g) : Below B w w2 :=
  ⟨k.os.trans h.os, k.tape.trans h.tape, k.output.trans h.output, Nat.le_trans h.size k.size, fun j hj => (k.block j (by omega) (by intro e; have := Option.some.inj e; omega)).trans (h.block j hj)⟩
theorem Blk.range {w : World} {g : Nat} {t : TypeId} {cs : Array Value} (h : Blk w g t cs) (o : Nat) (xs : List Value) (hx : ∀ (j : Nat) (u : Value), xs[j]? = some u → cs[o + j]? = some u) : w.rangeAt g o xs := fun j u hu => by
  rw [h.cell (o + j)]
  exact hx j u hu
theorem FdAt.grown {w w' : World} {g r : Nat} {pt : Nat → Nat → Int} {l : List (Nat × Nat)} (h : FdAt w g pt l) (hg : w.grownBy w' (some r)) (hne : g ≠ r) : FdAt w' g pt l := h.of_block (hg.block g h.lt (by intro e; exact hne (Option.some.inj e)))
def TabAt (w : World) (base : Nat) (v : Value) (pt : Nat → Nat → Int) (l : List (Nat × Nat)) : Prop :=
  (v = .slice none 0 0 ∧ l = []) ∨ ∃ g cap, v = .slice (some ⟨g, 0, none⟩) l.length cap ∧ base ≤ g ∧ l.length ≤ cap ∧ FdAt w g pt l
theorem TabAt.kept {w w' : World} {base : Nat} {v : Value} {pt : Nat → Nat → Int} {l : List (Nat × Nat)} (h : TabAt w base v pt l) (hb : Below w.heap.size w w') : TabAt w' base v pt l := by
  rcases h with h | ⟨g, cap, h1, h2, h3, h4⟩
  · exact .inl h
  · exact .inr ⟨g, cap, h1, h2, h3, h4.kept hb⟩
theorem TabAt.grown {w w' : World} {base r : Nat} {v : Value} {pt : Nat → Nat → Int} {l : List (Nat × Nat)} (h : TabAt w base v pt l) (hg : w.grownBy w' (some r)) (hne : ∀ g, v.ownBlock = some g → g ≠ r) : TabAt w' base v pt l := by
  rcases h with h | ⟨g, cap, h1, h2, h3, h4⟩
  · exact .inl h
  · exact .inr ⟨g, cap, h1, h2, h3, h4.grown hg (hne g (by rw [h1]; rfl))⟩
theorem TabAt.grown' {w w' : World} {base : Nat} {row : Option Nat} {v : Value} {pt : Nat → Nat → Int} {l : List (Nat × Nat)} (h : TabAt w base v pt l) (hg : w.grownBy w' row) (hne : ∀ g, v.ownBlock = some g → some g ≠ row) : TabAt w' base v pt l := by
  rcases h with h | ⟨g, cap, h1, h2, h3, h4⟩
  · exact .inl h
  · exact .inr ⟨g, cap, h1, h2, h3, h4.of_block (hg.block g h4.lt (hne g (by rw [h1]; rfl)))⟩
theorem TabAt.range {w : World} {base : Nat} {v : Value} {pt : Nat → Nat → Int} {l : List (Nat × Nat)} (h : TabAt w base v pt l) {t : Nat} {p : Nat × Nat} (ht : l[t]? = some p) : ∃ g cap, v = .slice (some ⟨g, 0, none⟩) l.length cap ∧ l.length ≤ cap ∧ w.rangeAt g (t * 3) (fd3 pt p) := by
  rcases h with ⟨-, h⟩ | ⟨g, cap, h1, h2, h3, h4⟩
  · rw [h] at ht; simp at ht
  · exact ⟨g, cap, h1, h3, h4.rng t p ht⟩
theorem TabAt.slice {w : World} {base : Nat} {v : Value} {pt : Nat → Nat → Int} {l : List (Nat × Nat)} (h : TabAt w base v pt l) : ∃ ao cap, v = .slice ao l.length cap := by
  rcases h with ⟨h, h2⟩ | ⟨g, cap, h1, -⟩
  · exact ⟨none, 0, by rw [h2]; exact h⟩
  · exact ⟨_, cap, h1⟩
section
variable {P : Program}
theorem exec_load_mid {o : Oper} {a : Act} {w : World} (ty : TypeId) (x : Operand) (ho : o.op = .load ty x)
    (b off : Nat) (hx : a.eval x = .pointer (some ⟨b, off, none⟩)) (cs : List Value) (d : TypeDesc) (hc : w.rangeAt b off cs)
    (hu : P.underlying ty = some d) (hd : d.isRow = true) (hi : (P.info? ty).map (·.size) = some cs.length) :
    (execOp a.eval o).run P w = .ok (.value (.agg cs.toArray)) w := by
  unfold execOp
  simp only [ho, hx, Instr.loadAt, Instr.sureAddr, Sem.run_bind, Sem.run_pure, Result.andThen_ok, run_loadVar_mid w b off ty cs d hc hu hd hi]
end
theorem MapIs.mono {w : World} {b n n' : Nat} {pt : Nat → Nat → Int} {l : List (Nat × Nat)} (h : MapIs w b n pt l) (hn : n ≤ n') : MapIs w b n' pt l := by
  obtain ⟨D, h1, h2⟩ := h
  exact ⟨D, h1.mono hn, h2⟩
theorem hvOut_small (pt : Nat → Nat → Int) (least : Int) (b : Nat) (hb : b ≤ 59) : Small (hvOut pt least b (b + 1)) := by
  have key : ∀ j, j ≤ b + 1 → Small (hvOut pt least b j) := by
    intro j
    induction j with
    | zero => intro _ p hp; simp [hvOut] at hp
    | succ j ih =>
      intro hj p hp
      rw [hvOut, List.mem_append] at hp
      rcases hp with hp | hp
      · exact ih (by omega) p hp
      · unfold foundR at hp
        rw [List.mem_map] at hp
        obtain ⟨i, hi, rfl⟩ := hp
        have h1 := rowAt_lt pt least b j i (List.mem_filter.1 hi).1
        have h2 := two_lt (n := j) (by omega)
        have e : ((2 ^ j : Nat) : Int) = (2 : Int) ^ j := by simp
        exact ⟨by show b - j ≤ 59; omega, by show i < _; omega⟩
  exact key _ (Nat.le_refl _)
theorem wf64 {x : Int} (h : In64 x) : (Lit.int .i64 x).wf = true := by
  have m0 : IntKind.i64.min = -9223372036854775808 := by decide
  have m1 : IntKind.i64.max = 9223372036854775807 := by decide
  obtain ⟨h1, h2⟩ := h
  simp only [Lit.wf, m0, m1, Bool.and_eq_true, decide_eq_true_eq]
  omega
theorem hvOut_mem {pt : Nat → Nat → Int} {least : Int} {b : Nat} {n i : Nat} : (n, i) ∈ hvOut pt least b (b + 1) ↔ n ≤ b ∧ i ∈ toldR pt least n (rowAt pt least b (b - n)) := by
  have key : ∀ j, j ≤ b + 1 → ((n, i) ∈ hvOut pt least b j ↔ n ≤ b ∧ b < n + j ∧ i ∈ toldR pt least n (rowAt pt least b (b - n))) := by
    intro j
    induction j with
    | zero => intro _; simp [hvOut]; omega
    | succ j ih =>
      intro hj
      rw [hvOut, List.mem_append, ih (by omega)]
      unfold foundR
      rw [List.mem_map]
      constructor
      · rintro (⟨h1, h2, h3⟩ | ⟨k, hk, e⟩)
        · exact ⟨h1, by omega, h3⟩
        · simp only [Prod.mk.injEq] at e
          obtain ⟨e1, e2⟩ := e
          subst e1 e2
          rw [show b - (b - j) = j by omega]
          exact ⟨by omega, by omega, hk⟩
      · rintro ⟨h1, h2, h3⟩
        by_cases e : b < n + j
        · exact .inl ⟨h1, e, h3⟩
        · refine .inr ⟨i, ?_, ?_⟩
          · rw [show b - j = n by omega, show j = b - n by omega]
            exact h3
          · rw [show b - j = n by omega]
  rw [key _ (Nat.le_refl _)]
  constructor
  · rintro ⟨h1, h2, h3⟩; exact ⟨h1, h3⟩
  · rintro ⟨h1, h3⟩; exact ⟨h1, by omega, h3⟩
theorem hv_up {pt : Nat → Nat → Int} {least : Int} {b n i : Nat} (h : (n, i) ∈ hvOut pt least b (b + 1)) (hn : n < b) : (n + 1, i / 2) ∈ hvOut pt least b (b + 1) := by
  rw [hvOut_mem] at h ⊢
  refine ⟨by omega, ?_⟩
  have h2 := (List.mem_filter.1 h.2).1
  rw [show b - n = b - (n + 1) + 1 by omega, rowAt, mem_kids, show b - (b - (n + 1)) = n + 1 by omega] at h2
  exact h2
theorem hv_above {pt : Nat → Nat → Int} {least : Int} {b : Nat} {q : Nat × Nat} (hq : q ∈ hvOut pt least b (b + 1)) : ∀ (n i : Nat), n ≤ b → liesB q (n, i) = true → (n, i) ∈ hvOut pt least b (b + 1)
  | 0, i, hn, h => by rw [← liesB_same h (Nat.zero_le _)]; exact hq
  | n + 1, i, hn, h => by
    by_cases e : n + 1 ≤ q.1
    · rw [← liesB_same h e]; exact hq
    · obtain ⟨d1, -⟩ := liesB_down h (by omega)
      rcases d1 with d1 | d1
      · have := hv_up (hv_above hq n (2 * i) (by omega) d1) (by omega)
        rwa [show 2 * i / 2 = i by omega] at this
      · have := hv_up (hv_above hq n (2 * i + 1) (by omega) d1) (by omega)
        rwa [show (2 * i + 1) / 2 = i by omega] at this
theorem hv_none {pt : Nat → Nat → Int} {least : Int} {b : Nat} {K : List (Nat × Nat)} (hK : ∀ q ∈ K, q ∈ hvOut pt least b (b + 1)) (n i : Nat) (hn : n ≤ b) (h : (n, i) ∉ hvOut pt least b (b + 1)) : wI pt K n i = 0 :=
  wI_none pt K n i (fun q hq => by
    cases e : liesB q (n, i) with
    | false => rfl
    | true => exact absurd (hv_above (hK q hq) n i hn e) h)
theorem byKey_mem {x : List (Nat × Nat)} {b : Nat} {e : Nat × Nat} : e ∈ byKey lvK b x ↔ e ∈ x ∧ e.1 < b := by
  unfold byKey
  rw [List.mem_flatMap]
  constructor
  · rintro ⟨n, hn, he⟩
    rw [List.mem_filter] at he
    have h1 := List.mem_range.1 hn
    have h2 : lvK e = (n : Int) := by simpa using he.2
    unfold lvK at h2
    exact ⟨he.1, by omega⟩
  · rintro ⟨h1, h2⟩
    exact ⟨e.1, List.mem_range.2 h2, List.mem_filter.2 ⟨h1, by simp [lvK]⟩⟩
theorem hv_in {pt : Nat → Nat → Int} {least : Int} {b n i : Nat} (h : (n, i) ∈ hvOut pt least b (b + 1)) : n ≤ b ∧ i < 2 ^ (b - n) := by
  rw [hvOut_mem] at h
  exact ⟨h.1, rowAt_lt pt least b (b - n) i (List.mem_filter.1 h.2).1⟩
theorem sort_tab (pt : Nat → Nat → Int) (base b : Nat) (v : Value) (l : List (Nat × Nat)) (hlen : l.length ≤ 100000) (sm : Small l) (hlb : ∀ e ∈ l, e.1 ≤ b) (w : World) (h : TabAt w base v pt l) :
    Calls Tryz.prog 36 #[v, (.func (.func 37) #[] #[])] w fun e w' => e = .returned (.tuple #[]) ∧ TabAt w' base v pt (byKey lvK (b + 1) l) ∧ (byKey lvK (b + 1) l).length = l.length ∧ w.grownBy w' v.ownBlock := by
  rcases h with ⟨rfl, rfl⟩ | ⟨g, cap, rfl, h2, h3, h4⟩
  · refine (sort_nil _ w).mono ?_
    rintro e w' ⟨rfl, hw⟩
    subst hw
    have e : byKey lvK (b + 1) ([] : List (Nat × Nat)) = [] := by unfold byKey; simp
    exact ⟨rfl, .inl ⟨rfl, e⟩, by rw [e], gr_refl _ _⟩
  · refine (sort_any pt g cap l hlen h3 sm w h4).mono ?_
    rintro e w' ⟨rfl, y, k1, k2, k3, k4⟩
    have e := srt_byKey (b := b + 1) k3 k4 (fun e he => ⟨by unfold lvK; omega, by have := hlb e he; unfold lvK; omega⟩)
    rw [← e]
    exact ⟨rfl, .inr ⟨g, cap, by rw [k3.len], h2, by rw [k3.len]; exact h3, k1⟩, k3.len, k2⟩
theorem WEnv.grown {w w' : World} {Kp Bp Tp Wp kb tb nk nt b : Nat} {pt : Nat → Nat → Int} {K T : List (Nat × Nat)} {row : Option Nat} (h : WEnv w Kp Bp Tp Wp kb tb nk nt b pt K T) (hg : w.grownBy w' row) (hne : ∀ k ∈ [Kp, Bp, Tp, Wp, kb, tb], some k ≠ row) : WEnv w' Kp Bp Tp Wp kb tb nk nt b pt K T :=
  ⟨h.ck.grown hg (hne _ (by simp)), h.cb.grown hg (hne _ (by simp)), h.ct.grown hg (hne _ (by simp)), h.cw.grown hg (hne _ (by simp)), h.mapK.grown hg (hne _ (by simp)), h.mapT.grown hg (hne _ (by simp))⟩
set_option maxRecDepth 100000 in
set_option maxHeartbeats 8000000 in
theorem hvhier (w : World) (S b : Nat) (r d m s : Int) (pt : Nat → Nat → Int) (hp : PtIs w S b r d m s pt) (hp64 : ∀ n i, In64 (pt n i)) (hb1 : 1 ≤ b) (hb : b ≤ 59) (least budget : Int) (hl : In64 least) (hbu : In64 budget) :
  Calls Tryz.prog 13 #[.pointer (some ⟨S, 0, none⟩), .int .i64 least, .int .i64 budget] w (HiPost w pt least budget b) := by
 have PH := Lib.hid (hvheavy w S b r d m s pt hp hb1 hb least budget hl hbu)
 have HCF := Lib.hid hp.1
 have HP64 := Lib.hid hp64
 clear hp hp64
 have hfd : ∀ w : World, (Instr.field 24 (.agg #[.int .i64 (b : Int), .int .i64 r, .int .i64 d, .int .i64 m, .int .u64 s]) 0).run Tryz.prog w = .ok (.int .i64 (b : Int)) w := fun _ => by kernel_rfl
 by_cases hE : hvErr pt least budget b = 0
 ·have HE := Lib.hid hE
  clear hE
  go_enter Tryz.func13, Tryz.ntmps13
  go_wp2_with fail
  with_reducible refine PH.out.mono ?_
  rintro e w2 ⟨v, rfl, hown, -, hb2⟩
  have HV := Lib.hid ((hown HE.out).at)
  have HB2 := Lib.hid hb2
  rw [HE.out]
  clear hown hb2
  go_wp2_with fail
  with_reducible refine (HCF.out w2 HB2.out).mono ?_
  rintro e w3 ⟨rfl, hb3⟩
  have HB3 := Lib.hid (btr HB2.out hb3)
  have HB23 := Lib.hid hb3
  clear hb3
  have hmm := run_makeMap (P := Tryz.prog) 91
  obtain ⟨g1, g2, g3, hb4, hsz4⟩ := news3 w3 (.cells #[.int .i64 (b : Int)] 3) (.map #[] 0) (.cells #[.map (some (w3.heap.size + 1))] 91)
  have HBP : Hid (Blk _ w3.heap.size 3 #[.int .i64 (b : Int)]) := Lib.hid g1
  have HTP : Hid (Blk _ (w3.heap.size + 1 + 1) 91 #[.map (some (w3.heap.size + 1))]) := Lib.hid g3
  have HMT := mapis_made (w3.alloc (.cells #[.int .i64 (b : Int)] 3)) pt
  have HMT := Lib.hid (HMT.kept ((Below.refl _ _).alloc (Nat.le_refl _) (.cells #[.map (some (w3.heap.size + 1))] 91)))
  rw [show (w3.alloc (.cells #[.int .i64 (b : Int)] 3)).heap.size = w3.heap.size + 1 by simp] at HMT
  have HTV : Hid (TabAt _ w.heap.size v pt (hvOut pt least b (b + 1))) := Lib.hid (TabAt.kept (by
   rcases HV.out with h | ⟨g, cap, h1, h2, h3, h4, -⟩
   ·exact .inl h
   ·exact .inr ⟨g, cap, h1, h2, h3, h4⟩) (btr HB23.out hb4))
  have HB4 := Lib.hid (btr HB3.out hb4)
  have HNB : Hid (w.heap.size ≤ w3.heap.size) := Lib.hid HB3.out.size
  obtain ⟨l, hll⟩ : ∃ l, l = hvOut pt least b (b + 1) := ⟨_, rfl⟩
  have HL := Lib.hid hll
  have HLS : Hid (l.length ≤ 4096) := Lib.hid (by
   have h1 := hvOut_len pt least b (b + 1)
   have h2 := HE.out
   unfold hvErr at h2
   rw [hll]
   split at h2
   ·cases h2
   ·split at h2
    ·cases h2
    ·omega)
  have HSM : Hid (Small l) := Lib.hid (by rw [hll]; exact hvOut_small pt least b hb)
  rw [← hll] at HTV
  obtain ⟨ao, cap, hv⟩ := HTV.out.slice
  subst hv
  obtain ⟨L, hL⟩ : ∃ L, L = l.length := ⟨_, rfl⟩
  have HLL := Lib.hid hL
  have hLs : L ≤ 4096 := by rw [hL]; exact HLS.out
  have HNW : Hid (∀ g, (Value.slice ao l.length cap).ownBlock = some g → g < w3.heap.size) := Lib.hid (fun g hg => by
   rcases HV.out with ⟨h1, -⟩ | ⟨g', cap', h1, h2, h3, h4, -⟩
   ·rw [h1] at hg; simp [Value.ownBlock] at hg
   ·rw [h1] at hg
    have := Option.some.inj hg
    have h5 := h4.lt
    have h6 := HB23.out.size
    simp at this
    omega)
  rw [← hL] at HTV HNW ⊢
  clear g1 g2 g3 hb4 hsz4 hll hL
  go_wp2_with fail
  go_loopw [39] (fun i wr => ∃ t : Nat, i = .int .i64 (t : Int) ∧ t ≤ L ∧ MapIs wr (w3.heap.size + 1) t pt (l.take t) ∧ Blk wr w3.heap.size 3 #[.int .i64 (b : Int)] ∧ Blk wr (w3.heap.size + 1 + 1) 91 #[.map (some (w3.heap.size + 1))] ∧ TabAt wr w.heap.size (.slice ao L cap) pt l ∧ Below w.heap.size w wr) (fun i _ => L - (intOf i).toNat)
  case atStart => exact ⟨0, rfl, Nat.zero_le _, HMT.out, HBP.out, HTP.out, HTV.out, HB4.out⟩
  case round =>
   clear HMT HBP HTP HTV HB4
   obtain ⟨t, rfl, htL, hmt, hbp, htp, htv, hbel⟩ := hrel
   have HMT := Lib.hid hmt
   have HBP := Lib.hid hbp
   have HTP := Lib.hid htp
   have HTV := Lib.hid htv
   have HB4 := Lib.hid hbel
   clear hmt hbp htp htv hbel
   by_cases hlt : t < L
   ·have htz : (t : Int) < (L : Int) := by omega
    obtain ⟨p, hp⟩ : ∃ p, l[t]? = some p := ⟨_, List.getElem?_eq_getElem (by have := HLL.out; omega)⟩
    obtain ⟨g, cp, he, -, hrg⟩ := HTV.out.range hp
    simp only [Value.slice.injEq] at he
    obtain ⟨rfl, -, rfl⟩ := he
    have HPP := Lib.hid hp
    have HSP : Hid (Sml p) := Lib.hid ⟨(HSM.out.get hp).1, (HSM.out.get hp).2⟩
    have hkey := pcKey p HSP.out
    have hbx : Blk (wr.alloc (.cells (fd3 pt p).toArray 66)) wr.heap.size 66 (fd3 pt p).toArray := Blk.new wr _ _
    have hal : Below wr.heap.size wr (wr.alloc (.cells (fd3 pt p).toArray 66)) := (Below.refl _ _).alloc (Nat.le_refl _) _
    have hr2 := hbx.range 0 [.int .i64 (p.1 : Int), .int .u64 (p.2 : Int)] (fun j u hu => by
     match j, hu with
     | 0, hu => simpa [fd3] using hu
     | 1, hu => simpa [fd3] using hu
     | j + 2, hu => simp at hu)
    have q0 := (HTP.out.kept hal).cell 0
    simp at q0
    unfold fd3 at q0 hr2 hrg
    have HMT2 := Lib.hid (HMT.out.kept hal)
    obtain ⟨D, hown, hD⟩ := HMT2.out
    have HD := Lib.hid hD
    have HIM := Lib.hid (owns_isMap hown)
    have hval : plainElem (H := Unit) Tryz.prog 2 (.int .i64 (pt p.1 p.2)) = some (.lit (.int .i64 (pt p.1 p.2)), []) := plainElem_int Tryz.underlying2 (wf64 (HP64.out p.1 p.2))
    have hmx : t < maxLen := by unfold maxLen; omega
    have HBP2 := Lib.hid (HBP.out.kept hal)
    have HTP2 := Lib.hid (HTP.out.kept hal)
    have HTV2 := Lib.hid (HTV.out.kept hal)
    have HB5 := Lib.hid (btr HB4.out hal)
    clear hp hbx hal hD
    go_wp2_with (first | refine wpList_load_mid rfl 66 _ rfl g (t * 3) rfl [.int .i64 (p.1 : Int), .int .u64 (p.2 : Int), .int .i64 (pt p.1 p.2)] _ hrg Tryz.underlying66 rfl (by kernel_rfl) ?_ | (at_mapUpdate; refine wpList_mapUpdate_own _ rfl _ _ _ 91 rfl 64 2 pcLaw Tryz.underlying91 _ (w3.heap.size + 1) t D rfl hown hmx _ _ (pcL p) rfl rfl hkey (.lit (.int .i64 (pt p.1 p.2))) [] hval ?_))
    intro w5 hown5 hgrow5
    have HMT3 : Hid (MapIs w5 (w3.heap.size + 1) (t + 1) pt (l.take (t + 1))) := Lib.hid (by
     rw [List.take_add_one, HPP.out]
     exact MapIs.put HD.out HIM.out p HSP.out hown5)
    have HBP3 := Lib.hid (HBP2.out.grown hgrow5 (by simp))
    have HTP3 := Lib.hid (HTP2.out.grown hgrow5 (by simp))
    have HTV3 := Lib.hid (HTV2.out.grown hgrow5 (fun k e => by have := HNW.out k e; omega))
    have HB6 := Lib.hid (below_of_grown HB5.out HB5.out.size hgrow5 (by have := HNB.out; omega))
    clear hown5 hgrow5 hown hkey hval q0 hr2 hrg
    go_wp2_with fail
    go_roundw
    case rel => exact ⟨t + 1, by go_num, by omega, HMT3.out, HBP3.out, HTP3.out, HTV3.out, HB6.out⟩
    case measure => simp [intOf]; omega
   ·have htz : ¬ (t : Int) < (L : Int) := by omega
    have HMT2 : Hid (MapIs wr (w3.heap.size + 1) L pt l) := Lib.hid (by
     have h1 := HMT.out
     rwa [show t = L by omega, List.take_of_length_le (by rw [← HLL.out]; exact Nat.le_refl _)] at h1)
    have hmm := run_makeMap (P := Tryz.prog) 91
    obtain ⟨-, g2, g3, hb4, hsz4⟩ := news3 wr (.map #[] 0) (.cells #[.map (some wr.heap.size)] 91) (.cells #[(.func (.func 33) #[] #[.pointer (some ⟨wr.heap.size + 1, 0, none⟩), .pointer (some ⟨w3.heap.size, 0, none⟩), .pointer (some ⟨w3.heap.size + 1 + 1, 0, none⟩), .pointer (some ⟨wr.heap.size + 1 + 1, 0, none⟩)])] 92)
    have k1 := (mapis_made wr pt).kept (btr ((Below.refl _ _).alloc (Nat.le_refl _) (.cells #[.map (some wr.heap.size)] 91)) ((Below.refl _ _).alloc (Nat.le_refl _) (.cells #[(.func (.func 33) #[] #[.pointer (some ⟨wr.heap.size + 1, 0, none⟩), .pointer (some ⟨w3.heap.size, 0, none⟩), .pointer (some ⟨w3.heap.size + 1 + 1, 0, none⟩), .pointer (some ⟨wr.heap.size + 1 + 1, 0, none⟩)])] 92)))
    have HENV : Hid (WEnv (((wr.alloc (.map #[] 0)).alloc (.cells #[.map (some wr.heap.size)] 91)).alloc (.cells #[(.func (.func 33) #[] #[.pointer (some ⟨wr.heap.size + 1, 0, none⟩), .pointer (some ⟨w3.heap.size, 0, none⟩), .pointer (some ⟨w3.heap.size + 1 + 1, 0, none⟩), .pointer (some ⟨wr.heap.size + 1 + 1, 0, none⟩)])] 92)) (wr.heap.size + 1) w3.heap.size (w3.heap.size + 1 + 1) (wr.heap.size + 1 + 1) wr.heap.size (w3.heap.size + 1) 0 L b pt [] l) := Lib.hid ⟨g2, HBP.out.kept hb4, HTP.out.kept hb4, g3, k1, HMT2.out.kept hb4⟩
    have HTV4 := Lib.hid (HTV.out.kept hb4)
    have HB5 := Lib.hid (btr HB4.out hb4)
    have HNUM : Hid (w3.heap.size + 2 < wr.heap.size ∧ w.heap.size ≤ w3.heap.size ∧ wr.heap.size + 2 < (((wr.alloc (.map #[] 0)).alloc (.cells #[.map (some wr.heap.size)] 91)).alloc (.cells #[(.func (.func 33) #[] #[.pointer (some ⟨wr.heap.size + 1, 0, none⟩), .pointer (some ⟨w3.heap.size, 0, none⟩), .pointer (some ⟨w3.heap.size + 1 + 1, 0, none⟩), .pointer (some ⟨wr.heap.size + 1 + 1, 0, none⟩)])] 92)).heap.size) := Lib.hid ⟨by have := HTP.out.lt; omega, HNB.out, by omega⟩
    clear g2 g3 hb4 hsz4 k1
    go_wp2_with fail
    generalize (((wr.alloc (.map #[] 0)).alloc (.cells #[.map (some wr.heap.size)] 91)).alloc (.cells #[(.func (.func 33) #[] #[.pointer (some ⟨wr.heap.size + 1, 0, none⟩), .pointer (some ⟨w3.heap.size, 0, none⟩), .pointer (some ⟨w3.heap.size + 1 + 1, 0, none⟩), .pointer (some ⟨wr.heap.size + 1 + 1, 0, none⟩)])] 92)) = w5 at *
    have HMN : Hid (∀ e ∈ l, e.1 ≤ b) := Lib.hid (fun e he => by rw [HL.out] at he; exact (hvOut_mem.1 (show (e.1, e.2) ∈ _ from he)).1)
    have PS := Lib.hid (sort_tab pt w.heap.size b _ l (by have := HLS.out; omega) HSM.out HMN.out w5 HTV4.out)
    clear HMT HMT2 HBP HTP HTV HB4 htz htL
    generalize wr.heap.size = kb at *
    generalize w3.heap.size = bp at *
    with_reducible refine PS.out.mono ?_
    rintro e w6 ⟨rfl, htab, htl, hgr⟩
    have HGO : Hid (∀ k, bp ≤ k → some k ≠ (Value.slice ao L cap).ownBlock) := Lib.hid (fun k hk e => by
     have := HNW.out k e.symm
     omega)
    obtain ⟨T, hT⟩ : ∃ T, T = byKey lvK (b + 1) l := ⟨_, rfl⟩
    rw [← hT] at htab htl
    have HT := Lib.hid hT
    have HTT : Hid (T = hiT pt least b) := Lib.hid (by rw [hT, HL.out]; rfl)
    have HTL : Hid (T.length = L) := Lib.hid (by rw [htl, HLL.out])
    have HTB := Lib.hid htab
    have HEV : Hid (WEnv w6 (kb + 1) bp (bp + 1 + 1) (kb + 1 + 1) kb (bp + 1) 0 L b pt [] l) := Lib.hid (HENV.out.grown hgr (fun k hk => HGO.out k (by have := HNUM.out; simp at hk; omega)))
    have HB6 : Hid (Below w.heap.size w w6) := Lib.hid (by
     have h1 := HB5.out
     exact ⟨hgr.os.trans h1.os, hgr.tape.trans h1.tape, hgr.output.trans h1.output, Nat.le_trans h1.size hgr.size, fun k hk => (hgr.block k (Nat.lt_of_lt_of_le hk h1.size) (fun e => by
      rcases HTV4.out with ⟨h2, -⟩ | ⟨g, cp, h2, h3, -⟩
      ·rw [h2] at e; simp [Value.ownBlock] at e
      ·rw [h2] at e; have := Option.some.inj e; simp at this; omega)).trans (h1.block k hk)⟩)
    have HN6 : Hid (kb + 2 < w6.heap.size ∧ w.heap.size ≤ w6.heap.size) := Lib.hid ⟨by have := HNUM.out; have := hgr.size; omega, by have := HB5.out.size; have := hgr.size; omega⟩
    clear htab htl hgr hT HENV HB5 HTV4 PS
    go_wp2_with fail
    go_loopw [16, 55] (fun o i wr => ∃ (t : Nat) (out : List (Nat × Nat × Int)), i = .int .i64 (t : Int) ∧ t ≤ L ∧ keptAt pt least T t = some out ∧ RsOwn wr w6.heap.size o pt out ∧ WEnv wr (kb + 1) bp (bp + 1 + 1) (kb + 1 + 1) kb (bp + 1) t L b pt (out.map fun q => (q.1, q.2.1)) l ∧ TabAt wr w.heap.size (.slice ao L cap) pt T ∧ Below w.heap.size w wr ∧ w6.heap.size ≤ wr.heap.size) (fun _ i _ => L - (intOf i).toNat)
    case atStart => exact ⟨0, [], rfl, Nat.zero_le _, rfl, World.ownsRow_nil _ _ _ _, HEV.out, HTB.out, HB6.out, Nat.le_refl _⟩
    case round =>
     clear HTB HEV HB6
     obtain ⟨t, out, rfl, htL, hka, hro, hev, htb, hbel, hsz⟩ := hrel
     have HKA := Lib.hid hka
     have HRO := Lib.hid hro
     have HEV := Lib.hid hev
     have HTB := Lib.hid htb
     have HB7 := Lib.hid hbel
     have HS7 := Lib.hid hsz
     clear hka hro hev htb hbel hsz
     by_cases hlt : t < L
     ·have htz : (t : Int) < (L : Int) := by omega
      obtain ⟨⟨n, i⟩, hp⟩ : ∃ p, T[t]? = some p := ⟨_, List.getElem?_eq_getElem (by have := HTL.out; omega)⟩
      obtain ⟨g, cp, he, -, hrg⟩ := HTB.out.range hp
      simp only [Value.slice.injEq] at he
      obtain ⟨rfl, -, rfl⟩ := he
      have HPP := Lib.hid hp
      have HML : Hid ((n, i) ∈ l) := Lib.hid (by
       have := List.mem_of_getElem? hp
       rw [HT.out] at this
       exact (byKey_mem.1 this).1)
      have HIN : Hid (n ≤ b ∧ i < 2 ^ (b - n)) := Lib.hid (by have := HML.out; rw [HL.out] at this; exact hv_in this)
      have HSP : Hid (Sml (n, i)) := Lib.hid ⟨(HSM.out (n, i) HML.out).1, (HSM.out (n, i) HML.out).2⟩
      have hbx : Blk (wr.alloc (.cells #[.int .i64 (n : Int), .int .u64 (i : Int), .int .i64 (pt n i)] 66)) wr.heap.size 66 #[.int .i64 (n : Int), .int .u64 (i : Int), .int .i64 (pt n i)] := Blk.new wr _ _
      have hal : Below wr.heap.size wr (wr.alloc (.cells #[.int .i64 (n : Int), .int .u64 (i : Int), .int .i64 (pt n i)] 66)) := (Below.refl _ _).alloc (Nat.le_refl _) _
      have HBX := Lib.hid hbx
      have HR2 := Lib.hid (hbx.range 0 [.int .i64 (n : Int), .int .u64 (i : Int)] (fun j u hu => by
       match j, hu with
       | 0, hu => simpa using hu
       | 1, hu => simpa using hu
       | j + 2, hu => simp at hu))
      have HRO2 := Lib.hid (HRO.out.kept hal)
      have HEV2 := Lib.hid (HEV.out.kept hal)
      have HTB2 := Lib.hid (HTB.out.kept hal)
      have HB8 := Lib.hid (btr HB7.out hal)
      have HS8 : Hid (w6.heap.size ≤ wr.heap.size) := Lib.hid HS7.out
      have hrg : wr.rangeAt g (t * 3) [.int .i64 (n : Int), .int .u64 (i : Int), .int .i64 (pt n i)] := hrg
      clear hp hbx hal
      go_upto_region 19 with (first | refine wpList_load_mid rfl 66 _ rfl g (t * 3) rfl [.int .i64 (n : Int), .int .u64 (i : Int), .int .i64 (pt n i)] _ hrg Tryz.underlying66 rfl (by kernel_rfl) ?_)
      clear hrg HRO HEV HTB HB7 HS7
      generalize wr.alloc (.cells #[.int .i64 (n : Int), .int .u64 (i : Int), .int .i64 (pt n i)] 66) = w0 at *
      obtain ⟨fb, hfb⟩ : ∃ fb, fb = wr.heap.size := ⟨_, rfl⟩
      rw [← hfb] at HBX HR2 ⊢
      have HFB : Hid (w6.heap.size ≤ fb) := Lib.hid (by rw [hfb]; exact HS8.out)
      clear hfb
      obtain ⟨K, hK⟩ : ∃ K, K = out.map fun q => (q.1, q.2.1) := ⟨_, rfl⟩
      rw [← hK] at HEV2
      have HKK := Lib.hid hK
      have HKS : Hid (∀ q ∈ K, q ∈ hvOut pt least b (b + 1)) := Lib.hid (fun q hq => by
       have h1 := (keptAt_sub HKA.out).1
       rw [← hK] at h1
       have h2 := List.mem_of_mem_take (h1.subset hq)
       rw [HT.out, HL.out] at h2
       exact (byKey_mem.1 h2).1)
      have HBD : Hid (W127 (wI pt K n i)) := Lib.hid (by
       have h1 := wI_bd pt K HP64.out n i
       have h2 := two_lt (n := n) (by have := HIN.out.1; omega)
       unfold W127
       omega)
      obtain ⟨x, hx⟩ : ∃ x, x = pt n i - wI pt K n i := ⟨_, rfl⟩
      have HXX : Hid (x = rest pt K (n, i)) := Lib.hid hx
      have HXB : Hid (W127 x) := Lib.hid (by
       have h1 := wI_bd pt K HP64.out n i
       have h2 := two_lt (n := n) (by have := HIN.out.1; omega)
       have h3 := HP64.out n i
       unfold In64 at h3
       unfold W127
       omega)
      have PW := Lib.hid (fun wq (hq : Below w0.heap.size w0 wq) => inside_any _ _ _ _ _ _ t L b pt K l hb1 hb HP64.out (fun n i hn hnot => by rw [HL.out] at hnot; exact hv_none HKS.out n i hn hnot) n i HIN.out.1 HIN.out.2 wq (HEV2.out.kept hq))
      have PO := Lib.hid (fun w => wide_of (pt n i) (HP64.out n i) w)
      have PB := Lib.hid (fun w => wide_sub (pt n i) (wI pt K n i) (by have := HP64.out n i; unfold In64 at this; unfold W127; omega) HBD.out (by rw [← hx]; exact HXB.out) w)
      rw [← hx] at PB
      clear hx hK
      go_cut [19, 20] (fun a19 a20 wx => ∃ A, a19 = .pointer (some ⟨A, 0, none⟩) ∧ Blk wx A 94 #[.int .i64 (wHi x), .int .u64 (wLo x)] ∧ Below w0.heap.size w0 wx)
      case first =>
       refine wp_region_held_drew (S := fun w' => Below w0.heap.size w0 w') (by kernel_rfl) (by exact below_drewN (Below.refl _ _) 1) (fun hHeld => ?_)
       refine tkH (i := 0) (v := ?_) rfl (by kernel_rfl) (fun _ _ _ h => h) (Or.inl ⟨by rfl, ?_⟩) (by assumption) ?_
       rotate_left
       ·intro w hSw
        try dsimp only at hSw
        go_simp
        try with_reducible rfl
       simp only [Act.put, z1, z2, z3, z4, z5, z6]
       refine tkH (i := 1) (v := ?_) rfl (by kernel_rfl) (fun _ _ _ h => h) (Or.inl ⟨by rfl, ?_⟩) (by assumption) ?_
       rotate_left
       ·intro w hSw
        have q1 := (HEV2.out.kept hSw).cw.cell 0
        have q2 := (HBX.out.kept hSw).cell 2
        have q3 := range_block HR2.out (hSw.block _ HBX.out.lt)
        simp at q1 q2
        try (refine (exec_load_mid 64 _ rfl fb 0 rfl [.int .i64 (n : Int), .int .u64 (i : Int)] _ q3 Tryz.underlying64 rfl (by kernel_rfl)).trans ?_)
        go_simp
        try with_reducible rfl
       simp only [Act.put, z1, z2, z3, z4, z5, z6]
       refine tkH (i := 3) (v := ?_) rfl (by kernel_rfl) (fun _ _ _ h => h) (Or.inl ⟨by rfl, ?_⟩) (by assumption) ?_
       rotate_left
       ·intro w hSw
        have q1 := (HEV2.out.kept hSw).cw.cell 0
        have q2 := (HBX.out.kept hSw).cell 2
        have q3 := range_block HR2.out (hSw.block _ HBX.out.lt)
        simp at q1 q2
        try (refine (exec_load_mid 64 _ rfl fb 0 rfl [.int .i64 (n : Int), .int .u64 (i : Int)] _ q3 Tryz.underlying64 rfl (by kernel_rfl)).trans ?_)
        go_simp
        try with_reducible rfl
       simp only [Act.put, z1, z2, z3, z4, z5, z6]
       refine tkH (i := 4) (v := ?_) rfl (by kernel_rfl) (fun _ _ _ h => h) (Or.inl ⟨by rfl, ?_⟩) (by assumption) ?_
       rotate_left
       ·intro w hSw
        try dsimp only at hSw
        go_simp
        try with_reducible rfl
       simp only [Act.put, z1, z2, z3, z4, z5, z6]
       refine tkH (i := 5) (v := ?_) rfl (by kernel_rfl) (fun _ _ _ h => h) (Or.inl ⟨by rfl, ?_⟩) (by assumption) ?_
       rotate_left
       ·intro w hSw
        have q1 := (HEV2.out.kept hSw).cw.cell 0
        have q2 := (HBX.out.kept hSw).cell 2
        have q3 := range_block HR2.out (hSw.block _ HBX.out.lt)
        simp at q1 q2
        try (refine (exec_load_mid 64 _ rfl fb 0 rfl [.int .i64 (n : Int), .int .u64 (i : Int)] _ q3 Tryz.underlying64 rfl (by kernel_rfl)).trans ?_)
        go_simp
        try with_reducible rfl
       simp only [Act.put, z1, z2, z3, z4, z5, z6]
       refine wpAnyH_ready (rs := [2, 11]) (by kernel_rfl) (by simp) ?_
       refine AllReadyH.cons rfl (fun Kc hKc => ?_) (AllReadyH.cons rfl (fun Kc hKc => ?_) AllReadyH.nil)
       ·go_simp
        go_wp2_with (first | (with_reducible refine (PO.out _).mono ?_; rintro e wq ⟨rfl, hb'⟩; try have HAQ := Lib.hid (HAQ.out.kept hb')) | (with_reducible refine (PW.out _ hHeld).mono ?_; rintro e wq ⟨rfl, hb'⟩; try have HAQ := Lib.hid (HAQ.out.kept hb')) | (with_reducible refine (PB.out _).mono ?_; rintro e wq ⟨rfl, hb'⟩; try have HAQ := Lib.hid (HAQ.out.kept hb')))
        refine hKc.out _ _ ?_ (fun hHeld => ?_)
        ·first | assumption | exact hHeld | exact btr hHeld hb' | exact hHeld.alloc hHeld.size _ | exact below_setRow hHeld hPrev.out _
        clear hKc Kc
        refine wpAnyH_ready (rs := [6, 11]) (by kernel_rfl) (by simp) ?_
        refine AllReadyH.cons rfl (fun Kc hKc => ?_) (AllReadyH.cons rfl (fun Kc hKc => ?_) AllReadyH.nil)
        ·go_simp
         go_wp2_with (first | (with_reducible refine (PO.out _).mono ?_; rintro e wq ⟨rfl, hb'⟩; try have HAQ := Lib.hid (HAQ.out.kept hb')) | (with_reducible refine (PW.out _ hHeld).mono ?_; rintro e wq ⟨rfl, hb'⟩; try have HAQ := Lib.hid (HAQ.out.kept hb')) | (with_reducible refine (PB.out _).mono ?_; rintro e wq ⟨rfl, hb'⟩; try have HAQ := Lib.hid (HAQ.out.kept hb')))
         refine hKc.out _ _ ?_ (fun hHeld => ?_)
         ·first | assumption | exact hHeld | exact btr hHeld hb' | exact hHeld.alloc hHeld.size _ | exact below_setRow hHeld hPrev.out _
         clear hKc Kc
         refine wpAnyH_ready (rs := [7, 11]) (by kernel_rfl) (by simp) ?_
         refine AllReadyH.cons rfl (fun Kc hKc => ?_) (AllReadyH.cons rfl (fun Kc hKc => ?_) AllReadyH.nil)
         ·go_simp
          go_wp2_with (first | (with_reducible refine (PO.out _).mono ?_; rintro e wq ⟨rfl, hb'⟩; try have HAQ := Lib.hid (HAQ.out.kept hb')) | (with_reducible refine (PW.out _ hHeld).mono ?_; rintro e wq ⟨rfl, hb'⟩; try have HAQ := Lib.hid (HAQ.out.kept hb')) | (with_reducible refine (PB.out _).mono ?_; rintro e wq ⟨rfl, hb'⟩; try have HAQ := Lib.hid (HAQ.out.kept hb')))
          refine hKc.out _ _ ?_ (fun hHeld => ?_)
          ·first | assumption | exact hHeld | exact btr hHeld hb' | exact hHeld.alloc hHeld.size _ | exact below_setRow hHeld hPrev.out _
          clear hKc Kc
          refine tkH (i := 8) (v := ?_) rfl (by kernel_rfl) (fun _ _ _ h => h) (Or.inl ⟨by rfl, ?_⟩) (by assumption) ?_
          rotate_left
          ·intro w hSw
           try dsimp only at hSw
           go_simp
           try with_reducible rfl
          simp only [Act.put, z1, z2, z3, z4, z5, z6]
          refine tkH (i := 9) (v := ?_) rfl (by kernel_rfl) (fun _ _ _ h => h) (Or.inl ⟨by rfl, ?_⟩) (by assumption) ?_
          rotate_left
          ·intro w hSw
           try dsimp only at hSw
           go_simp
           try with_reducible rfl
          simp only [Act.put, z1, z2, z3, z4, z5, z6]
          refine tkH (i := 10) (v := ?_) rfl (by kernel_rfl) (fun _ _ _ h => h) (Or.inl ⟨by rfl, ?_⟩) (by assumption) ?_
          rotate_left
          ·intro w hSw
           try dsimp only at hSw
           go_simp
           try with_reducible rfl
          simp only [Act.put, z1, z2, z3, z4, z5, z6]
          refine wpAnyH_ready (rs := [11]) (by kernel_rfl) (by simp) ?_
          refine AllReadyH.cons rfl (fun Kc hKc => ?_) AllReadyH.nil
          go_simp
          have hPrev := Lib.hid hHeld.size
          refine hKc.out _ _ ?_ (fun hHeld => ?_)
          ·first | assumption | exact hHeld | exact btr hHeld hb' | exact hHeld.alloc hHeld.size _ | exact below_setRow hHeld hPrev.out _
          clear hKc Kc
          first | have HAQ := Lib.hid (fresh_of hHeld) | have HAQ := Lib.hid (fresh_drew hHeld)
          refine wpAnyH_ready (rs := [12]) (by kernel_rfl) (by simp) ?_
          refine AllReadyH.cons rfl (fun Kc hKc => ?_) AllReadyH.nil
          have HAR := Lib.hid (HAQ.out.rowNew (cs' := #[.int .i64 (wHi x), .int .u64 (wLo x)])); refine wp_store_row 94 _ _ rfl _ #[.int .i64 (wHi x), .int .u64 (wLo x)] rfl (by rfl) 94 _ HAQ.out (by kernel_rfl) rfl (by simp [Value.oneCell']) ?_
          refine hKc.out _ _ ?_ (fun hHeld => ?_)
          ·first | assumption | exact hHeld | exact btr hHeld hb' | exact hHeld.alloc hHeld.size _ | exact below_setRow hHeld hPrev.out _
          clear hKc Kc
          refine tkH (i := 13) (v := ?_) rfl (by kernel_rfl) (fun _ _ _ h => h) (Or.inl ⟨by rfl, ?_⟩) (by assumption) ?_
          rotate_left
          ·intro w hSw
           try dsimp only at hSw
           go_simp
           try with_reducible rfl
          simp only [Act.put, z1, z2, z3, z4, z5, z6]
          refine wpAnyH_done (by kernel_rfl) ?_ _
          have HBZ := Lib.hid hHeld
          clear hHeld
          go_wp2_with fail
          go_meet
          exact ⟨_, rfl, HAR.out, HBZ.out⟩
         ·go_simp
          have hPrev := Lib.hid hHeld.size
          refine hKc.out _ _ ?_ (fun hHeld => ?_)
          ·first | assumption | exact hHeld | exact btr hHeld hb' | exact hHeld.alloc hHeld.size _ | exact below_setRow hHeld hPrev.out _
          clear hKc Kc
          first | have HAQ := Lib.hid (fresh_of hHeld) | have HAQ := Lib.hid (fresh_drew hHeld)
          refine wpAnyH_ready (rs := [7]) (by kernel_rfl) (by simp) ?_
          refine AllReadyH.cons rfl (fun Kc hKc => ?_) AllReadyH.nil
          go_simp
          go_wp2_with (first | (with_reducible refine (PO.out _).mono ?_; rintro e wq ⟨rfl, hb'⟩; try have HAQ := Lib.hid (HAQ.out.kept hb')) | (with_reducible refine (PW.out _ hHeld).mono ?_; rintro e wq ⟨rfl, hb'⟩; try have HAQ := Lib.hid (HAQ.out.kept hb')) | (with_reducible refine (PB.out _).mono ?_; rintro e wq ⟨rfl, hb'⟩; try have HAQ := Lib.hid (HAQ.out.kept hb')))
          refine hKc.out _ _ ?_ (fun hHeld => ?_)
          ·first | assumption | exact hHeld | exact btr hHeld hb' | exact hHeld.alloc hHeld.size _ | exact below_setRow hHeld hPrev.out _
          clear hKc Kc
          refine tkH (i := 8) (v := ?_) rfl (by kernel_rfl) (fun _ _ _ h => h) (Or.inl ⟨by rfl, ?_⟩) (by assumption) ?_
          rotate_left
          ·intro w hSw
           try dsimp only at hSw
           go_simp
           try with_reducible rfl
          simp only [Act.put, z1, z2, z3, z4, z5, z6]
          refine tkH (i := 9) (v := ?_) rfl (by kernel_rfl) (fun _ _ _ h => h) (Or.inl ⟨by rfl, ?_⟩) (by assumption) ?_
          rotate_left
          ·intro w hSw
           try dsimp only at hSw
           go_simp
           try with_reducible rfl
          simp only [Act.put, z1, z2, z3, z4, z5, z6]
          refine tkH (i := 10) (v := ?_) rfl (by kernel_rfl) (fun _ _ _ h => h) (Or.inl ⟨by rfl, ?_⟩) (by assumption) ?_
          rotate_left
          ·intro w hSw
           try dsimp only at hSw
           go_simp
           try with_reducible rfl
          simp only [Act.put, z1, z2, z3, z4, z5, z6]
          refine wpAnyH_ready (rs := [12]) (by kernel_rfl) (by simp) ?_
          refine AllReadyH.cons rfl (fun Kc hKc => ?_) AllReadyH.nil
          have HAR := Lib.hid (HAQ.out.rowNew (cs' := #[.int .i64 (wHi x), .int .u64 (wLo x)])); refine wp_store_row 94 _ _ rfl _ #[.int .i64 (wHi x), .int .u64 (wLo x)] rfl (by rfl) 94 _ HAQ.out (by kernel_rfl) rfl (by simp [Value.oneCell']) ?_
          refine hKc.out _ _ ?_ (fun hHeld => ?_)
          ·first | assumption | exact hHeld | exact btr hHeld hb' | exact hHeld.alloc hHeld.size _ | exact below_setRow hHeld hPrev.out _
          clear hKc Kc
          refine tkH (i := 13) (v := ?_) rfl (by kernel_rfl) (fun _ _ _ h => h) (Or.inl ⟨by rfl, ?_⟩) (by assumption) ?_
          rotate_left
          ·intro w hSw
           try dsimp only at hSw
           go_simp
           try with_reducible rfl
          simp only [Act.put, z1, z2, z3, z4, z5, z6]
          refine wpAnyH_done (by kernel_rfl) ?_ _
          have HBZ := Lib.hid hHeld
          clear hHeld
          go_wp2_with fail
          go_meet
          exact ⟨_, rfl, HAR.out, HBZ.out⟩
        ·go_simp
         have hPrev := Lib.hid hHeld.size
         refine hKc.out _ _ ?_ (fun hHeld => ?_)
         ·first | assumption | exact hHeld | exact btr hHeld hb' | exact hHeld.alloc hHeld.size _ | exact below_setRow hHeld hPrev.out _
         clear hKc Kc
         first | have HAQ := Lib.hid (fresh_of hHeld) | have HAQ := Lib.hid (fresh_drew hHeld)
         refine wpAnyH_ready (rs := [6]) (by kernel_rfl) (by simp) ?_
         refine AllReadyH.cons rfl (fun Kc hKc => ?_) AllReadyH.nil
         go_simp
         go_wp2_with (first | (with_reducible refine (PO.out _).mono ?_; rintro e wq ⟨rfl, hb'⟩; try have HAQ := Lib.hid (HAQ.out.kept hb')) | (with_reducible refine (PW.out _ hHeld).mono ?_; rintro e wq ⟨rfl, hb'⟩; try have HAQ := Lib.hid (HAQ.out.kept hb')) | (with_reducible refine (PB.out _).mono ?_; rintro e wq ⟨rfl, hb'⟩; try have HAQ := Lib.hid (HAQ.out.kept hb')))
         refine hKc.out _ _ ?_ (fun hHeld => ?_)
         ·first | assumption | exact hHeld | exact btr hHeld hb' | exact hHeld.alloc hHeld.size _ | exact below_setRow hHeld hPrev.out _
         clear hKc Kc
         refine wpAnyH_ready (rs := [7]) (by kernel_rfl) (by simp) ?_
         refine AllReadyH.cons rfl (fun Kc hKc => ?_) AllReadyH.nil
         go_simp
         go_wp2_with (first | (with_reducible refine (PO.out _).mono ?_; rintro e wq ⟨rfl, hb'⟩; try have HAQ := Lib.hid (HAQ.out.kept hb')) | (with_reducible refine (PW.out _ hHeld).mono ?_; rintro e wq ⟨rfl, hb'⟩; try have HAQ := Lib.hid (HAQ.out.kept hb')) | (with_reducible refine (PB.out _).mono ?_; rintro e wq ⟨rfl, hb'⟩; try have HAQ := Lib.hid (HAQ.out.kept hb')))
         refine hKc.out _ _ ?_ (fun hHeld => ?_)
         ·first | assumption | exact hHeld | exact btr hHeld hb' | exact hHeld.alloc hHeld.size _ | exact below_setRow hHeld hPrev.out _
         clear hKc Kc
         refine tkH (i := 8) (v := ?_) rfl (by kernel_rfl) (fun _ _ _ h => h) (Or.inl ⟨by rfl, ?_⟩) (by assumption) ?_
         rotate_left
         ·intro w hSw
          try dsimp only at hSw
          go_simp
          try with_reducible rfl
         simp only [Act.put, z1, z2, z3, z4, z5, z6]
         refine tkH (i := 9) (v := ?_) rfl (by kernel_rfl) (fun _ _ _ h => h) (Or.inl ⟨by rfl, ?_⟩) (by assumption) ?_
         rotate_left
         ·intro w hSw
          try dsimp only at hSw
          go_simp
          try with_reducible rfl
         simp only [Act.put, z1, z2, z3, z4, z5, z6]
         refine tkH (i := 10) (v := ?_) rfl (by kernel_rfl) (fun _ _ _ h => h) (Or.inl ⟨by rfl, ?_⟩) (by assumption) ?_
         rotate_left
         ·intro w hSw
          try dsimp only at hSw
          go_simp
          try with_reducible rfl
         simp only [Act.put, z1, z2, z3, z4, z5, z6]
         refine wpAnyH_ready (rs := [12]) (by kernel_rfl) (by simp) ?_
         refine AllReadyH.cons rfl (fun Kc hKc => ?_) AllReadyH.nil
         have HAR := Lib.hid (HAQ.out.rowNew (cs' := #[.int .i64 (wHi x), .int .u64 (wLo x)])); refine wp_store_row 94 _ _ rfl _ #[.int .i64 (wHi x), .int .u64 (wLo x)] rfl (by rfl) 94 _ HAQ.out (by kernel_rfl) rfl (by simp [Value.oneCell']) ?_
         refine hKc.out _ _ ?_ (fun hHeld => ?_)
         ·first | assumption | exact hHeld | exact btr hHeld hb' | exact hHeld.alloc hHeld.size _ | exact below_setRow hHeld hPrev.out _
         clear hKc Kc
         refine tkH (i := 13) (v := ?_) rfl (by kernel_rfl) (fun _ _ _ h => h) (Or.inl ⟨by rfl, ?_⟩) (by assumption) ?_
         rotate_left
         ·intro w hSw
          try dsimp only at hSw
          go_simp
          try with_reducible rfl
         simp only [Act.put, z1, z2, z3, z4, z5, z6]
         refine wpAnyH_done (by kernel_rfl) ?_ _
         have HBZ := Lib.hid hHeld
         clear hHeld
         go_wp2_with fail
         go_meet
         exact ⟨_, rfl, HAR.out, HBZ.out⟩
       ·go_simp
        have hPrev := Lib.hid hHeld.size
        refine hKc.out _ _ ?_ (fun hHeld => ?_)
        ·first | assumption | exact hHeld | exact btr hHeld hb' | exact hHeld.alloc hHeld.size _ | exact below_setRow hHeld hPrev.out _
        clear hKc Kc
        first | have HAQ := Lib.hid (fresh_of hHeld) | have HAQ := Lib.hid (fresh_drew hHeld)
        refine wpAnyH_ready (rs := [2]) (by kernel_rfl) (by simp) ?_
        refine AllReadyH.cons rfl (fun Kc hKc => ?_) AllReadyH.nil
        go_simp
        go_wp2_with (first | (with_reducible refine (PO.out _).mono ?_; rintro e wq ⟨rfl, hb'⟩; try have HAQ := Lib.hid (HAQ.out.kept hb')) | (with_reducible refine (PW.out _ hHeld).mono ?_; rintro e wq ⟨rfl, hb'⟩; try have HAQ := Lib.hid (HAQ.out.kept hb')) | (with_reducible refine (PB.out _).mono ?_; rintro e wq ⟨rfl, hb'⟩; try have HAQ := Lib.hid (HAQ.out.kept hb')))
        refine hKc.out _ _ ?_ (fun hHeld => ?_)
        ·first | assumption | exact hHeld | exact btr hHeld hb' | exact hHeld.alloc hHeld.size _ | exact below_setRow hHeld hPrev.out _
        clear hKc Kc
        refine wpAnyH_ready (rs := [6]) (by kernel_rfl) (by simp) ?_
        refine AllReadyH.cons rfl (fun Kc hKc => ?_) AllReadyH.nil
        go_simp
        go_wp2_with (first | (with_reducible refine (PO.out _).mono ?_; rintro e wq ⟨rfl, hb'⟩; try have HAQ := Lib.hid (HAQ.out.kept hb')) | (with_reducible refine (PW.out _ hHeld).mono ?_; rintro e wq ⟨rfl, hb'⟩; try have HAQ := Lib.hid (HAQ.out.kept hb')) | (with_reducible refine (PB.out _).mono ?_; rintro e wq ⟨rfl, hb'⟩; try have HAQ := Lib.hid (HAQ.out.kept hb')))
        refine hKc.out _ _ ?_ (fun hHeld => ?_)
        ·first | assumption | exact hHeld | exact btr hHeld hb' | exact hHeld.alloc hHeld.size _ | exact below_setRow hHeld hPrev.out _
        clear hKc Kc
        refine wpAnyH_ready (rs := [7]) (by kernel_rfl) (by simp) ?_
        refine AllReadyH.cons rfl (fun Kc hKc => ?_) AllReadyH.nil
        go_simp
        go_wp2_with (first | (with_reducible refine (PO.out _).mono ?_; rintro e wq ⟨rfl, hb'⟩; try have HAQ := Lib.hid (HAQ.out.kept hb')) | (with_reducible refine (PW.out _ hHeld).mono ?_; rintro e wq ⟨rfl, hb'⟩; try have HAQ := Lib.hid (HAQ.out.kept hb')) | (with_reducible refine (PB.out _).mono ?_; rintro e wq ⟨rfl, hb'⟩; try have HAQ := Lib.hid (HAQ.out.kept hb')))
        refine hKc.out _ _ ?_ (fun hHeld => ?_)
        ·first | assumption | exact hHeld | exact btr hHeld hb' | exact hHeld.alloc hHeld.size _ | exact below_setRow hHeld hPrev.out _
        clear hKc Kc
        refine tkH (i := 8) (v := ?_) rfl (by kernel_rfl) (fun _ _ _ h => h) (Or.inl ⟨by rfl, ?_⟩) (by assumption) ?_
        rotate_left
        ·intro w hSw
         try dsimp only at hSw
         go_simp
         try with_reducible rfl
        simp only [Act.put, z1, z2, z3, z4, z5, z6]
        refine tkH (i := 9) (v := ?_) rfl (by kernel_rfl) (fun _ _ _ h => h) (Or.inl ⟨by rfl, ?_⟩) (by assumption) ?_
        rotate_left
        ·intro w hSw
         try dsimp only at hSw
         go_simp
         try with_reducible rfl
        simp only [Act.put, z1, z2, z3, z4, z5, z6]
        refine tkH (i := 10) (v := ?_) rfl (by kernel_rfl) (fun _ _ _ h => h) (Or.inl ⟨by rfl, ?_⟩) (by assumption) ?_
        rotate_left
        ·intro w hSw
         try dsimp only at hSw
         go_simp
         try with_reducible rfl
        simp only [Act.put, z1, z2, z3, z4, z5, z6]
        refine wpAnyH_ready (rs := [12]) (by kernel_rfl) (by simp) ?_
        refine AllReadyH.cons rfl (fun Kc hKc => ?_) AllReadyH.nil
        have HAR := Lib.hid (HAQ.out.rowNew (cs' := #[.int .i64 (wHi x), .int .u64 (wLo x)])); refine wp_store_row 94 _ _ rfl _ #[.int .i64 (wHi x), .int .u64 (wLo x)] rfl (by rfl) 94 _ HAQ.out (by kernel_rfl) rfl (by simp [Value.oneCell']) ?_
        refine hKc.out _ _ ?_ (fun hHeld => ?_)
        ·first | assumption | exact hHeld | exact btr hHeld hb' | exact hHeld.alloc hHeld.size _ | exact below_setRow hHeld hPrev.out _
        clear hKc Kc
        refine tkH (i := 13) (v := ?_) rfl (by kernel_rfl) (fun _ _ _ h => h) (Or.inl ⟨by rfl, ?_⟩) (by assumption) ?_
        rotate_left
        ·intro w hSw
         try dsimp only at hSw
         go_simp
         try with_reducible rfl
        simp only [Act.put, z1, z2, z3, z4, z5, z6]
        refine wpAnyH_done (by kernel_rfl) ?_ _
        have HBZ := Lib.hid hHeld
        clear hHeld
        go_wp2_with fail
        go_meet
        exact ⟨_, rfl, HAR.out, HBZ.out⟩
      case rest =>
       obtain ⟨A, rfl, hA, hB⟩ := hcut
       have HA := Lib.hid hA
       have HBC := Lib.hid hB
       have HRO3 := Lib.hid (HRO2.out.kept HBC.out)
       have HEV3 := Lib.hid (HEV2.out.kept HBC.out)
       have HTB3 := Lib.hid (HTB2.out.kept HBC.out)
       have HB9 := Lib.hid (btr HB8.out HBC.out)
       have HBX3 := Lib.hid (HBX.out.kept HBC.out)
       have HR3 := Lib.hid (range_block HR2.out (HBC.out.block _ HBX.out.lt))
       have HS9 : Hid (w6.heap.size ≤ wc.heap.size) := Lib.hid (by have h1 := HFB.out; have h2 := HBX3.out.lt; omega)
       have HOT : Hid (out.length ≤ t ∧ t ≤ 4096) := Lib.hid (by
        have h1 := (keptAt_sub HKA.out).1.length_le
        rw [List.length_map, List.length_take] at h1
        omega)
       have HNX := Lib.hid (keptAt_next HKA.out HPP.out)
       rw [← HKK.out, ← HXX.out] at HNX
       clear hA hB HRO2 HEV2 HTB2 HB8 HBX HR2 PW PO PB HBC
       generalize wc = w7 at *
       have ha := HA.out
       by_cases hf : In64 x
       ·have PI := Lib.hid (fun w => wide_int_yes x hf w)
        have HFF : Hid (fits x = true) := Lib.hid (fits_iff.2 hf)
        unfold wV at PI
        go_wp2_with (refine wpList_load_row rfl 94 _ rfl A rfl 94 _ (0, 0) _ ha Tryz.underlying94 rfl (by kernel_rfl) ?_)
        with_reducible refine (PI.out _).mono ?_
        rintro e w8 ⟨rfl, hb'⟩
        have HRO4 := Lib.hid (HRO3.out.kept hb')
        have HEV4 := Lib.hid (HEV3.out.kept hb')
        have HTB4 := Lib.hid (HTB3.out.kept hb')
        have HB10 := Lib.hid (btr HB9.out hb')
        have HBX4 := Lib.hid (HBX3.out.kept hb')
        have HR4 := Lib.hid (range_block HR3.out (hb'.block _ HBX3.out.lt))
        have HS10 : Hid (w6.heap.size ≤ w8.heap.size) := Lib.hid (Nat.le_trans HS9.out hb'.size)
        clear hb' ha HRO3 HEV3 HTB3 HB9 HBX3 HR3 HA hf
        by_cases hle : least ≤ x
        ·have HNY : Hid (keptAt pt least T (t + 1) = some (out ++ [(n, i, x)])) := Lib.hid (by rw [HNX.out, if_pos HFF.out, if_pos hle])
         have q0 := HEV4.out.ck.cell 0
         have q2 := HBX4.out.cell 2
         have q3 := HR4.out
         simp at q0 q2
         obtain ⟨D, hown, hD⟩ := HEV4.out.mapK
         have HD := Lib.hid hD
         have HIM := Lib.hid (owns_isMap hown)
         have hval : plainElem (H := Unit) Tryz.prog 2 (.int .i64 (pt n i)) = some (.lit (.int .i64 (pt n i)), []) := plainElem_int Tryz.underlying2 (wf64 (HP64.out n i))
         have hkey := pcKey (n, i) HSP.out
         have hmx : t < maxLen := by unfold maxLen; omega
         clear hD
         go_upto_region 25 with (first | refine wpList_load_mid rfl 64 _ rfl fb 0 rfl [.int .i64 (n : Int), .int .u64 (i : Int)] _ q3 Tryz.underlying64 rfl (by kernel_rfl) ?_ | (at_mapUpdate; refine wpList_mapUpdate_own _ rfl _ _ _ 91 rfl 64 2 pcLaw Tryz.underlying91 _ kb t D rfl hown hmx _ _ (pcL (n, i)) rfl rfl hkey (.lit (.int .i64 (pt n i))) [] hval ?_; intro w9 hown9 hgrow9))
         have HKM9 : Hid (MapIs w9 kb (t + 1) pt (K ++ [(n, i)])) := Lib.hid (MapIs.put HD.out HIM.out (n, i) HSP.out hown9)
         have HEV5 : Hid (WEnv w9 (kb + 1) bp (bp + 1 + 1) (kb + 1 + 1) kb (bp + 1) (t + 1) L b pt (K ++ [(n, i)]) l) := Lib.hid (by
          have h1 := HNUM.out
          have h2 := HEV4.out
          exact ⟨h2.ck.grown hgrow9 (by simp), h2.cb.grown hgrow9 (by simp; omega), h2.ct.grown hgrow9 (by simp; omega), h2.cw.grown hgrow9 (by simp; omega), HKM9.out, h2.mapT.grown hgrow9 (by simp; omega)⟩)
         have HTB5 := Lib.hid (HTB4.out.grown hgrow9 (fun k e => by have := HNW.out k e; have := HNUM.out; omega))
         have HRO5 : Hid (RsOwn w9 w6.heap.size u16 pt out) := Lib.hid (own_gr HRO4.out hgrow9 (fun k e => by
          have h1 := (HRO4.out.lt k e).1
          have h2 := HN6.out.1
          intro e2
          have := Option.some.inj e2
          omega))
         have hfk : fb ≠ kb := by have := HFB.out; have := HN6.out.1; omega
         have HBX5 := Lib.hid (HBX4.out.grown hgrow9 (by simpa using hfk))
         have HR5 := Lib.hid (range_block HR4.out (hgrow9.block _ HBX4.out.lt (by simpa using hfk)))
         have HB11 := Lib.hid (below_of_grown HB10.out (Nat.le_trans HN6.out.2 HS10.out) hgrow9 (by have := HNUM.out; omega))
         have HS11 : Hid (w6.heap.size ≤ w9.heap.size) := Lib.hid (Nat.le_trans HS10.out hgrow9.size)
         obtain ⟨N, hN⟩ : ∃ N, N = out.length := ⟨_, rfl⟩
         have HN := Lib.hid hN
         have HRA : Hid (w9.ownsRow w6.heap.size 68 4 u16 N (rsCells pt out)) := Lib.hid (by rw [hN]; exact HRO5.out)
         obtain ⟨oao, ocap, ho16, -, -⟩ := own_open HRA.out
         have hc1 : N + 1 ≤ maxLen := by have := HOT.out; unfold maxLen; omega
         have hc4 : (N + 1) * 32 ≤ 140737488355328 := by have := HOT.out; omega
         obtain ⟨iR, hR, hR0, hR1, hR2⟩ := info_parts Tryz.infoRs
         have HBA := Lib.hid (HB11.out.alloc HB11.out.size (.cells #[.int .i64 (n : Int), .int .u64 (i : Int), .int .i64 (pt n i), .int .i64 x] 68))
         subst ho16
         clear hown9 hgrow9 hown hval hkey q0 q2 q3 hN hfk hmx HRO4 HEV4 HTB4 HB10 HBX4 HR4 HRO5 HKM9
         have q2 := HBX5.out.cell 2
         have q3 := HR5.out
         simp at q2
         go_wp2_with (first | refine wpList_load_mid rfl 64 _ rfl fb 0 rfl [.int .i64 (n : Int), .int .u64 (i : Int)] _ q3 Tryz.underlying64 rfl (by kernel_rfl) ?_ | (at_builtin; go_loud (refine wpList_append_own_at _ rfl _ _ 45 rfl w6.heap.size 68 iR (.agg #[.int .i64 0, .int .u64 0, .int .i64 0, .int .i64 0]) 4 32 Tryz.underlying45 hR hR0 hR1 hR2 rfl (by decide) _ N _ rfl (World.ownsRow.alloc HRA.out _) ⟨w9.heap.size, 0, none⟩ 1 1 [.int .i64 (n : Int), .int .u64 (i : Int), .int .i64 (pt n i), .int .i64 x] rfl rfl (cells_new _ rfl) ?c2 hc1 hc4 ?c5 ?_)))
         case c2 => simp [Value.oneCell']
         case c5 => exact Nat.le_trans HS11.out (by simp)
         intro v5 w10 hown' hgrow hnil' hq5
         have hal9 : Below w9.heap.size w9 (w9.alloc (.cells #[.int .i64 (n : Int), .int .u64 (i : Int), .int .i64 (pt n i), .int .i64 x] 68)) := (Below.refl _ _).alloc (Nat.le_refl _) _
         have HRO6 := Lib.hid (RsOwn.push (pt := pt) HN.out hown')
         have hfar : ∀ k, k ≤ kb + 2 → some k ≠ (Value.slice oao N ocap).ownBlock := fun k hk e => by
          have h1 := (HRA.out.lt k e.symm).1
          have h2 := HN6.out.1
          omega
         have HEV6 : Hid (WEnv w10 (kb + 1) bp (bp + 1 + 1) (kb + 1 + 1) kb (bp + 1) (t + 1) L b pt ((out ++ [(n, i, x)]).map fun q => (q.1, q.2.1)) l) := Lib.hid (by
          rw [List.map_append, ← HKK.out]
          exact (HEV5.out.kept hal9).grown hgrow (fun k hk => hfar k (by have := HNUM.out; simp at hk; omega)))
         have HTB6 := Lib.hid ((HTB5.out.kept hal9).grown' hgrow (fun k e => hfar k (by have := HNW.out k e; have := HNUM.out; omega)))
         have HB12 := Lib.hid (HBA.out.grown hgrow HBA.out.size (fun k e => Nat.le_trans HN6.out.2 (HRA.out.lt k e).1))
         have HS12 : Hid (w6.heap.size ≤ w10.heap.size) := Lib.hid (by have h1 := hgrow.size; have h2 := HS11.out; simp at h1; omega)
         obtain ⟨zao, zcap, hv5, -, -⟩ := own_open hown'
         subst hv5
         clear hown' hgrow hnil' hq5 hal9 hfar hc1 hc4 q2 q3
         go_wp2_with fail
         go_roundw
         case rel => exact ⟨t + 1, _, by go_num, by omega, HNY.out, HRO6.out, HEV6.out, HTB6.out, HB12.out, HS12.out⟩
         case measure => simp [intOf]; omega
        ·have HNY : Hid (keptAt pt least T (t + 1) = some out) := Lib.hid (by rw [HNX.out, if_pos HFF.out, if_neg hle])
         have HEV5 : Hid (WEnv w8 (kb + 1) bp (bp + 1 + 1) (kb + 1 + 1) kb (bp + 1) (t + 1) L b pt (out.map fun q => (q.1, q.2.1)) l) := Lib.hid (by rw [← HKK.out]; exact ⟨HEV4.out.ck, HEV4.out.cb, HEV4.out.ct, HEV4.out.cw, HEV4.out.mapK.mono (by omega), HEV4.out.mapT⟩)
         go_wp2_with fail
         go_roundw
         case rel => exact ⟨t + 1, out, by go_num, by omega, HNY.out, HRO4.out, HEV5.out, HTB4.out, HB10.out, HS10.out⟩
         case measure => simp [intOf]; omega
       ·have PI := Lib.hid (fun w => wide_int_no x hf w)
        have HFF : Hid (fits x = false) := Lib.hid (by
         cases e : fits x with
         | false => rfl
         | true => exact absurd (fits_iff.1 e) hf)
        have HER : Hid (hiErr pt least budget b = 4) := Lib.hid (by
         have h1 : keptAt pt least T (t + 1) = none := by rw [HNX.out, HFF.out]; rfl
         have h2 := keptAt_none (show t + 1 ≤ T.length by rw [HTL.out]; omega) h1
         unfold hiErr hiKept
         rw [if_pos HE.out, ← HTT.out, h2])
        have HQ : Hid (∀ w', Below w.heap.size w w' → HiPost w pt least budget b (.returned (.tuple #[.slice none 0 0, .int .i64 4])) w') := Lib.hid (fun w' hb' => ⟨_, by rw [HER.out], fun h => absurd (HER.out ▸ h) (by decide), fun _ => rfl, hb'⟩)
        unfold wV at PI
        go_wp2_with (refine wpList_load_row rfl 94 _ rfl A rfl 94 _ (0, 0) _ ha Tryz.underlying94 rfl (by kernel_rfl) ?_)
        with_reducible refine (PI.out _).mono ?_
        rintro e w8 ⟨rfl, hb'⟩
        have HQ2 := Lib.hid (HQ.out _ (btr HB9.out hb'))
        clear hb' ha
        go_wp2
        go_ret2
        exact HQ2.out
     ·have htz : ¬ (t : Int) < (L : Int) := by omega
      have HK : Hid (hiKept pt least b = some out) := Lib.hid (by
       unfold hiKept
       rw [← HTT.out, HTL.out, show L = t by omega]
       exact HKA.out)
      have HER : Hid (hiErr pt least budget b = 0) := Lib.hid (by
       unfold hiErr
       rw [if_pos HE.out, HK.out])
      have HQ : Hid (HiPost w pt least budget b (.returned (.tuple #[u16, .int .i64 0])) wr) := Lib.hid ⟨u16, by rw [HER.out], fun _ => ⟨out, HK.out, own_mono HRO.out HN6.out.2⟩, fun h => absurd HER.out h, HB7.out⟩
      go_wp2
      go_ret2
      exact HQ.out
 ·have HE := Lib.hid hE
  have HQ : Hid (∀ w', Below w.heap.size w w' → HiPost w pt least budget b (.returned (.tuple #[.slice none 0 0, .int .i64 (hvErr pt least budget b)])) w') := Lib.hid (fun w' hb' => by
   have e : hiErr pt least budget b = hvErr pt least budget b := by unfold hiErr; rw [if_neg hE]
   exact ⟨_, by rw [e], fun h => absurd (e ▸ h) hE, fun _ => rfl, hb'⟩)
  obtain ⟨x, hx⟩ : ∃ x, x = hvErr pt least budget b := ⟨_, rfl⟩
  have hx0 : (x != 0) = true := by rw [hx]; simp [hE]
  have HX := Lib.hid hx
  clear hE hx
  go_enter Tryz.func13, Tryz.ntmps13
  go_wp2_with fail
  with_reducible refine PH.out.mono ?_
  rintro e w2 ⟨v, rfl, -, hnil, hb2⟩
  have HB2 := Lib.hid hb2
  rw [← HX.out] at HQ ⊢
  clear hnil hb2
  go_wp2
  go_ret2
  exact HQ.out _ HB2.out
end Go.Proofs.YthbkljeibmkimaaGreat


namespace Go.Proofs.YthbkljeibmkimaaGreat
open Go.RowKit
set_option linter.unusedVariables false
set_option linter.unusedSimpArgs false

section
variable {P : Program}
def noDefer (o : Oper) : Bool := match o.op with
  | .defer _ => false
  | _ => true
theorem noDefer_ne {o : Oper} (h : noDefer o = true) : ∀ c, o.op ≠ .defer c := fun c e => by
  unfold noDefer at h
  rw [e] at h
  cases h
theorem upon_round {l n : Nat} {o : Oper} {a : Act} {next next' : Act → World → Prop} {Q : Exit → Act → World → Prop} {r : Result Next} (hn : ∀ a w, next a w → next' a w) (h : o.upon P a next Q r) : o.uponIn (Fence.wide.inRound l) n P a next' Q r := by
  unfold Oper.upon at h
  split at h
  · exact hn _ _ h
  · exact hn _ _ h
  · exact hn _ _ h
  · refine ⟨(fun hh => by cases hh), CallsIn.inRound l (callsIn_wide.2 (h.mono ?_))⟩
    intro e w' hq
    cases e with
    | returned v => exact hn _ _ hq
    | panicked c => exact hq
    | outgrown => exact hq
  · refine ⟨(fun hh => by cases hh), fun c cs _ => ?_⟩
    obtain ⟨v, w', hr, hs⟩ := h c cs
    exact ⟨v, w', hn _ _ hr, stepsIn_wide.2 hs⟩
  · exact h
  · exact h.elim
theorem wpOps_round {l n : Nat} {ops : Array Oper} {Q : Exit → Act → World → Prop} (hno : ¬ LetsOut Q) (hd : ∀ (i : Nat) (o : Oper), ops[i]? = some o → noDefer o = true) :
    ∀ (is : List Nat) (a : Act) (w : World), wpOps P ops Q is a w → wpOpsIn (Fence.wide.inRound l) n P ops Q is a w := by
  intro is
  induction is with
  | nil => exact fun a w h => h
  | cons i is ih =>
    intro a w h
    simp only [wpOps] at h
    simp only [wpOpsIn]
    cases ho : ops[i]? with
    | none =>
      rw [ho] at h
      exact ih a w h
    | some o =>
      rw [ho] at h
      simp only [] at h ⊢
      by_cases hw : Region.wanted o (yielded ops a.tmps) = true
      · rw [if_pos hw] at h
        rw [if_pos hw]
        rcases h with h | ⟨_, h⟩
        · refine ⟨fun _ _ => trivial, ?_⟩
          show o.uponIn (Fence.wide.inRound l) n P a _ Q ((o.semAt (some l) a.eval).run P w)
          rw [Oper.semAt_some l a.eval o (noDefer_ne (hd i o ho))]
          exact upon_round ih h
        · exact absurd h hno
      · rw [if_neg hw] at h
        rw [if_neg hw]
        exact ⟨fun _ _ => trivial, ih _ _ h⟩
theorem wpIn_round_any {l n id : Nat} {ops : Array Oper} {Q : Exit → Act → World → Prop} {a : Act} {w : World} (hm : P.follows .mixedOrders = true) (hd : ops.all noDefer = true) (hno : ¬ LetsOut Q)
    (h : wpAny P .any ops Q ops.size (Array.replicate ops.size false) a w.drew) : (Code.region id ops true).wpIn (Fence.wide.inRound l) n P Q a w :=
  wpIn_region_draw fun t => by
    simp only [Region.schedule, hm, Bool.true_or, if_true]
    refine wpOps_round hno (fun i o ho => ?_) _ _ _ (wpAny_sound ops.size t _ a _ h)
    have := Array.all_eq_true.1 hd i (Array.getElem?_eq_some_iff.1 ho).1
    rwa [(Array.getElem?_eq_some_iff.1 ho).2] at this
end
def KpB (l : List Nat) (W W' : World) : Prop := W.heap.size ≤ W'.heap.size ∧ ∀ i ∈ l, W'.heap[i]? = W.heap[i]?
theorem KpB.trans {l : List Nat} {A B C : World} (h : KpB l A B) (k : KpB l B C) : KpB l A C := ⟨Nat.le_trans h.1 k.1, fun i hi => (k.2 i hi).trans (h.2 i hi)⟩
theorem KpB.put {l : List Nat} {w : World} (hl : ∀ i ∈ l, i < w.heap.size) (W : World) (k : Nat) (o o' : Obj) (hk : w.heap.size ≤ k) (_ : W.heap[k]? = some o) (_ : o.isCells = false) (_ : o.isWalk = false) : KpB l W (W.putObj k o') :=
  ⟨by simp, fun i hi => World.putObj_heap_other (by have := hl i hi; omega)⟩
theorem KpB.blk {l : List Nat} {W W' : World} (h : KpB l W W') {g : Nat} (hg : g ∈ l) {t : TypeId} {cs : Array Value} (hb : Blk W g t cs) : Blk W' g t cs := (h.2 g hg).trans hb
theorem KpB.of_below {l : List Nat} {n : Nat} {W W' : World} (h : Below n W W') (hl : ∀ i ∈ l, i < n) : KpB l W W' := ⟨h.size, fun i hi => h.block i (hl i hi)⟩
theorem KpB.of_grown {l : List Nat} {row : Option Nat} {W W' : World} (h : W.grownBy W' row) (hl : ∀ i ∈ l, i < W.heap.size ∧ some i ≠ row) : KpB l W W' := ⟨h.size, fun i hi => h.block i (hl i hi).1 (hl i hi).2⟩
theorem kept_others {W W' : World} {row : Option Nat} (h : W.grownBy W' row) (hr : ∀ g, row = some g → ∃ t cs, Blk W g t cs) : KeepsOthers W W' :=
  ⟨h.size, fun k o hk ho => (h.block k (Array.getElem?_eq_some_iff.1 hk).1 (fun e => by
    obtain ⟨t, cs, hb⟩ := hr k e.symm
    unfold Blk at hb
    rw [hb] at hk
    injection hk with hk
    subst hk
    cases ho)).trans hk⟩
theorem Blk.not_other {W : World} {g r : Nat} {t : TypeId} {cs : Array Value} {o : Obj} (h : Blk W g t cs) (hr : W.heap[r]? = some o) (ho : o.isCells = false) : g ≠ r := by
  rintro rfl
  unfold Blk at h
  rw [h] at hr
  injection hr with hr
  subst hr
  cases ho
theorem Blk.walked {W W' : World} {row : Option Nat} {g : Nat} {t : TypeId} {cs : Array Value} (h : Blk W g t cs) (hg : W.grownBy W' row) (hr : ∀ r, row = some r → ∃ o : Obj, W.heap[r]? = some o ∧ o.isCells = false) : Blk W' g t cs :=
  h.grown hg (fun e => by
    obtain ⟨o, ho, hc⟩ := hr g e.symm
    exact h.not_other ho hc rfl)
end Go.Proofs.YthbkljeibmkimaaGreat


namespace Go.Proofs.YthbkljeibmkimaaGreat
open Go.RowKit
set_option linter.unusedVariables false
set_option linter.unusedSimpArgs false

def SkUpPost (w : World) (A G C : Nat) (b r d m s l : Int) (zs : List Int) (k x : Int) (e : Ending) (w' : World) : Prop :=
  e = .returned (.int .i64 (skErr b r d m s l zs k x)) ∧ SkIs w' A G C b r d m s l (skUpd b r d m s l zs k x) ∧ w.grownBy w' (some C)
theorem skErr_ok {b r d m s l : Int} {zs : List Int} {k x : Int} (h : skErr b r d m s l zs k x = 0) : k < keysI b r d m l ∧ (m = 2 → 0 ≤ x ∧ In64 (kthL (readZ d.toNat zs (colsZ d s l k r.toNat)) 0 + x)) ∧ (m ≠ 2 → changeFits d.toNat zs (colsZ d s l k r.toNat) x) := by
  unfold skErr at h
  split at h
  · cases h
  · rename_i h1
    refine ⟨by omega, fun hm => ?_, fun hm => ?_⟩
    · rw [if_pos hm] at h
      split at h
      · cases h
      · split at h
        · rename_i h2 h3; exact ⟨by omega, h3⟩
        · cases h
    · rw [if_neg hm] at h
      split at h
      · assumption
      · cases h
set_option maxRecDepth 100000 in
set_option maxHeartbeats 8000000 in
theorem skupdate (w : World) (A G C : Nat) (b r d m s l : Int) (zs : List Int) (h : SkIs w A G C b r d m s l zs) (hr : rightB b r d m = true) (s0 : 0 ≤ s) (s1 : s ≤ 18446744073709551615) (k x : Int) (k0 : 0 ≤ k) (k1 : k ≤ 18446744073709551615) (hx : In64 x) :
  Calls Tryz.prog 132 #[.pointer (some ⟨A, 0, none⟩), .int .u64 k, .int .i64 x] w (SkUpPost w A G C b r d m s l zs k x) := by
 have PC := Lib.hid (skcheck w A G C b r d m s l zs h hr s0 s1 k x k0 k1 hx)
 have HA := Lib.hid h
 have HNE := Lib.hid h.neA
 by_cases h0 : skErr b r d m s l zs k x = 0
 ·obtain ⟨hk, hc2, hcn⟩ := skErr_ok h0
  obtain ⟨R, W, rfl, rfl, h1, h2, h3, h4⟩ := sk_nat (w := w) (A := A) (G := G) (C := C) (s := s) (l := l) (zs := zs) hr
  rw [h0] at PC
  have H0 := Lib.hid h0
  have PK := Lib.hid (fun w => cols_any b W m s l k R s0 s1 k0 k1 hk w)
  have HM : Hid (meetB R W (colsZ W s l k R) = true) := Lib.hid (by have := colsZ_meet (d := (W : Int)) (s := s) (l := l) (k := k) h1 (by omega); simpa using this)
  rw [Int.toNat_natCast, Int.toNat_natCast] at hc2 hcn
  clear h hk
  by_cases hm : m = 2
  ·have HC2 := Lib.hid (hc2 hm)
   have HU : Hid (skUpd b R W m s l zs k x = raiseZ W zs (colsZ W s l k R) (kthL (readZ W zs (colsZ W s l k R)) 0 + x)) := Lib.hid (by unfold skUpd; rw [if_pos h0, if_pos hm, Int.toNat_natCast, Int.toNat_natCast])
   clear h0 hc2 hcn
   subst hm
   go_enter Tryz.func132, Tryz.ntmps132
   go_wp2_with fail
   with_reducible refine PC.out.mono ?_
   rintro e w2 ⟨rfl, hb⟩
   have HA1 := Lib.hid (HA.out.kept hb)
   have HB1 := Lib.hid hb
   clear hb
   go_wp2_with fail
   refine wp_region_still_tail 9 (by kernel_rfl) (by kernel_rfl) ?_
   simp only [List.take_succ_cons, List.take_zero, List.drop_succ_cons, List.drop_zero]
   have HA2 : Hid (SkIs { heap := w2.heap, tape := w2.tape, drawn := w2.drawn + 1, os := w2.os, output := w2.output } A G C b R W _ s l zs) := Lib.hid (HA1.out.kept (below_drewN (Below.refl _ _) 1))
   have HB2 : Hid (Below w.heap.size w { heap := w2.heap, tape := w2.tape, drawn := w2.drawn + 1, os := w2.os, output := w2.output }) := Lib.hid (below_drewN HB1.out 1)
   generalize ({ heap := w2.heap, tape := w2.tape, drawn := w2.drawn + 1, os := w2.os, output := w2.output } : World) = wd at *
   have q1 := HA2.out.box.cell 1
   have q2 := HA2.out.box.cell 2
   have q3 := HA2.out.box.cell 3
   have q4 := HA2.out.box.cell 4
   have q5 := HA2.out.box.cell 5
   have q6 := HA2.out.box.cell 6
   simp at q1 q2 q3 q4 q5 q6
   repeat still_step
   refine wpStill_nil ?_
   go_wp2_with fail
   with_reducible refine (PK.out _).mono ?_
   intro e w3 hpost
   obtain ⟨gc, rfl, hgc, -, hints, hb⟩ := hpost.ints
   have HA3 := Lib.hid (HA2.out.kept hb)
   have HB3 := Lib.hid (btr HB2.out hb)
   have HGR : Hid (GridIs w3 G C R W zs) := Lib.hid (by
    have h1 := HA3.out.grid
    rw [Int.toNat_natCast, Int.toNat_natCast] at h1
    exact h1)
   have HIN := Lib.hid hints
   have hgC : gc ≠ C := by have := HA2.out.grid.ltC; omega
   have HGC : Hid ((Value.slice (some ⟨gc, 0, none⟩) R R).ownBlock ≠ some C) := Lib.hid (by simpa [Value.ownBlock] using hgC)
   clear hb hpost hints q1 q2 q3 q4 q5 q6 hgc hgC
   have q0 := HA3.out.box.cell 0
   have q4 := HA3.out.box.cell 4
   simp at q0 q4
   go_wp2_with fail
   have PR := Lib.hid (raise_yes w3 G C R W zs (colsZ W s l k R) x _ HGR.out HIN.out HM.out hx HGC.out)
   clear q0 q4
   with_reducible refine PR.out.mono ?_
   rintro e w4 ⟨u, hu, hpost⟩
   have hku := kthL_of hu
   obtain ⟨c0, c1⟩ := HC2.out
   rw [hku] at c1
   have hres : e = .returned (.int .i64 0) ∧ GridIs w4 G C R W (raiseZ W zs (colsZ W s l k R) (u + x)) ∧ w3.grownBy w4 (some C) := by
    rcases hpost with ⟨h1, -⟩ | ⟨-, h1, -⟩ | ⟨-, -, h1, h2, h3⟩
    ·omega
    ·exact absurd c1 h1
    ·exact ⟨h1, h2, h3⟩
   obtain ⟨rfl, hg, hgr⟩ := hres
   have HS4 : Hid (SkIs w4 A G C b R W 2 s l (skUpd b R W 2 s l zs k x)) := Lib.hid (by
    rw [HU.out, hku]
    exact ⟨HA3.out.box.grown hgr (by simpa using HNE.out), by rw [Int.toNat_natCast, Int.toNat_natCast]; exact hg⟩)
   have HG4 : Hid (w.grownBy w4 (some C)) := Lib.hid (gr_trans (below_gr HB3.out) hgr)
   clear hu hpost hku c0 c1 hg hgr
   go_wp2
   go_ret
   exact ⟨ret_err H0.out.symm, HS4.out, HG4.out⟩
  ·have HCN := Lib.hid (hcn hm)
   have HU : Hid (skUpd b R W m s l zs k x = changeZ W zs (colsZ W s l k R) x) := Lib.hid (by unfold skUpd; rw [if_pos h0, if_neg hm, Int.toNat_natCast, Int.toNat_natCast])
   have em : (m == 2) = false := by simp [hm]
   have em' : decide (m = 2) = false := by simp [hm]
   clear h0 hc2 hcn
   go_enter Tryz.func132, Tryz.ntmps132
   go_wp2_with fail
   with_reducible refine PC.out.mono ?_
   rintro e w2 ⟨rfl, hb⟩
   have HA1 := Lib.hid (HA.out.kept hb)
   have HB1 := Lib.hid hb
   clear hb
   go_wp2_with fail
   refine wp_region_still_tail 9 (by kernel_rfl) (by kernel_rfl) ?_
   simp only [List.take_succ_cons, List.take_zero, List.drop_succ_cons, List.drop_zero]
   have HA2 : Hid (SkIs { heap := w2.heap, tape := w2.tape, drawn := w2.drawn + 1, os := w2.os, output := w2.output } A G C b R W _ s l zs) := Lib.hid (HA1.out.kept (below_drewN (Below.refl _ _) 1))
   have HB2 : Hid (Below w.heap.size w { heap := w2.heap, tape := w2.tape, drawn := w2.drawn + 1, os := w2.os, output := w2.output }) := Lib.hid (below_drewN HB1.out 1)
   generalize ({ heap := w2.heap, tape := w2.tape, drawn := w2.drawn + 1, os := w2.os, output := w2.output } : World) = wd at *
   have q1 := HA2.out.box.cell 1
   have q2 := HA2.out.box.cell 2
   have q3 := HA2.out.box.cell 3
   have q4 := HA2.out.box.cell 4
   have q5 := HA2.out.box.cell 5
   have q6 := HA2.out.box.cell 6
   simp at q1 q2 q3 q4 q5 q6
   repeat still_step
   refine wpStill_nil ?_
   go_wp2_with fail
   with_reducible refine (PK.out _).mono ?_
   intro e w3 hpost
   obtain ⟨gc, rfl, hgc, -, hints, hb⟩ := hpost.ints
   have HA3 := Lib.hid (HA2.out.kept hb)
   have HB3 := Lib.hid (btr HB2.out hb)
   have HGR : Hid (GridIs w3 G C R W zs) := Lib.hid (by
    have h1 := HA3.out.grid
    rw [Int.toNat_natCast, Int.toNat_natCast] at h1
    exact h1)
   have HIN := Lib.hid hints
   have hgC : gc ≠ C := by have := HA2.out.grid.ltC; omega
   have HGC : Hid ((Value.slice (some ⟨gc, 0, none⟩) R R).ownBlock ≠ some C) := Lib.hid (by simpa [Value.ownBlock] using hgC)
   clear hb hpost hints q1 q2 q3 q4 q5 q6 hgc hgC
   have q0 := HA3.out.box.cell 0
   have q4 := HA3.out.box.cell 4
   simp at q0 q4
   go_wp2_with fail
   have PR := Lib.hid (change_yes w3 G C R W zs (colsZ W s l k R) x _ HGR.out HIN.out HM.out hx HGC.out)
   clear q0 q4
   with_reducible refine PR.out.mono ?_
   intro e w4 hpost
   have hres : e = .returned (.int .i64 0) ∧ GridIs w4 G C R W (changeZ W zs (colsZ W s l k R) x) ∧ w3.grownBy w4 (some C) := by
    rcases hpost with ⟨-, h1⟩ | ⟨h1, -⟩
    ·exact h1
    ·exact absurd HCN.out h1
   obtain ⟨rfl, hg, hgr⟩ := hres
   have HS4 : Hid (SkIs w4 A G C b R W m s l (skUpd b R W m s l zs k x)) := Lib.hid (by
    rw [HU.out]
    exact ⟨HA3.out.box.grown hgr (by simpa using HNE.out), by rw [Int.toNat_natCast, Int.toNat_natCast]; exact hg⟩)
   have HG4 : Hid (w.grownBy w4 (some C)) := Lib.hid (gr_trans (below_gr HB3.out) hgr)
   clear hpost hg hgr
   go_wp2
   go_ret
   exact ⟨ret_err H0.out.symm, HS4.out, HG4.out⟩
 ·have HU : Hid (skUpd b r d m s l zs k x = zs) := Lib.hid (by unfold skUpd; rw [if_neg h0])
  have e0 : (skErr b r d m s l zs k x != 0) = true := by simp [h0]
  unfold SkUpPost
  generalize skErr b r d m s l zs k x = q at *
  clear h h0
  go_enter Tryz.func132, Tryz.ntmps132
  go_wp2_with fail
  with_reducible refine PC.out.mono ?_
  rintro e w2 ⟨rfl, hb⟩
  have HA1 := Lib.hid (HA.out.kept hb)
  have HB1 := Lib.hid hb
  clear hb
  go_wp2
  go_ret
  exact ⟨rfl, by rw [HU.out]; exact HA1.out, below_gr HB1.out⟩
end Go.Proofs.YthbkljeibmkimaaGreat


namespace Go.Proofs.YthbkljeibmkimaaGreat
open Go.RowKit Go.Shelf
set_option linter.unusedVariables false
set_option linter.unusedSimpArgs false
attribute [local go_sem] Oper.semAt_some

theorem stat (S : Nat) (k : Int) (w : World) :
    Calls Tryz.prog 24 #[.pointer (some ⟨S, 0, none⟩), .int .u64 k] w fun e w' => e = .returned (.func (.func 54) #[] #[.pointer (some ⟨w.heap.size, 0, none⟩), .pointer (some ⟨w.heap.size + 1, 0, none⟩)]) ∧ w' = (w.alloc (.cells #[.pointer (some ⟨S, 0, none⟩)] 30)).alloc (.cells #[.int .u64 k] 22) := by
  go_enter Tryz.func24, Tryz.ntmps24
  go_wp2
  go_ret
  exact ⟨rfl, rfl⟩
abbrev LvN (q : Nat) := { n : Nat // n ≤ q }
def uptoN (q : Nat) : Nat → List (LvN q)
  | 0 => []
  | k + 1 => if h : k ≤ q then uptoN q k ++ [⟨k, h⟩] else uptoN q k
theorem uptoN_succ (q k : Nat) (hk : k ≤ q) : uptoN q (k + 1) = uptoN q k ++ [⟨k, hk⟩] := by
  rw [uptoN, dif_pos hk]
theorem uptoN_map (q k : Nat) (hk : k ≤ q + 1) : (uptoN q k).map (·.1) = List.range k := by
  induction k with
  | zero => rfl
  | succ k ih => rw [uptoN_succ q k (by omega), List.map_append, ih (by omega), List.range_succ]; rfl
theorem uptoN_len (q k : Nat) (hk : k ≤ q + 1) : (uptoN q k).length = k := by
  have := congrArg List.length (uptoN_map q k hk)
  simpa using this
set_option maxRecDepth 100000 in
set_option maxHeartbeats 4000000 in
theorem stat1 (n : Nat) (hn : 1 ≤ n) (l Bs Bk S L q cap k : Nat) (cs : Array Value) (X : Nat → Value) (hq : q ≤ 59) (J Jx : List (LvN q) → World → Prop)
  (hX : ∀ n, n ≤ q → ∃ t a, X n = .iface t (.pointer (some ⟨a, 0, none⟩)))
  (hY : ∀ pre x W, J pre W → pre.length < q + 1 → YieldAt Fence.wide (n - 1) Tryz.prog l #[X x.1, .int .u64 ((k / 2 ^ x.1 : Nat) : Int)] W fun e W' =>
   (e = .returned (.bool true) ∧ J (pre ++ [x]) W' ∧ KpB [Bs, Bk, S, L] W W') ∨ (e = .returned (.bool false) ∧ Jx (pre ++ [x]) W'))
  (W : World) (hBs : Blk W Bs 30 #[.pointer (some ⟨S, 0, none⟩)]) (hBk : Blk W Bk 22 #[.int .u64 (k : Int)]) (hS : ∃ b r d m s, Blk W S 72 #[b, r, d, m, s, .slice (some ⟨L, 0, none⟩) (q + 1) cap])
  (hL : Blk W L 74 cs) (hcs : ∀ n, n ≤ q → cs[n]? = some (X n)) (h0 : J [] W) :
  CallsIn Fence.wide n Tryz.prog 54 #[.func (.yield l) #[] #[], .pointer (some ⟨Bs, 0, none⟩), .pointer (some ⟨Bk, 0, none⟩)] W fun e W' => (∃ v, e = .returned v) ∧
   ((∃ ys, ys = uptoN q (q + 1) ∧ J ys W') ∨ (∃ pre, (∃ j, j ≤ q + 1 ∧ pre = uptoN q j) ∧ Jx pre W')) := by
 obtain ⟨vb, vr, vd, vm, vs, hS⟩ := hS
 have HX := Lib.hid hX
 have HY := Lib.hid hY
 have HCS := Lib.hid hcs
 have HBS := Lib.hid hBs
 have HBK := Lib.hid hBk
 have HL := Lib.hid hL
 have HLT : Hid (Bs < W.heap.size ∧ Bk < W.heap.size ∧ S < W.heap.size ∧ L < W.heap.size) := Lib.hid ⟨hBs.lt, hBk.lt, hS.lt, hL.lt⟩
 have c0 := hBs.cell 0
 have c5 := hS.cell 5
 simp at c0 c5
 clear hX hY hcs hBs hBk hS hL
 refine callsIn_of_wp Tryz.func54 rfl trivial ?_ rfl
 simp only [Tryz.ntmps54, List.size_toArray, List.length_cons, List.length_nil, Nat.reduceAdd, Nat.reduceSub, Array.replicate_succ, Array.replicate_zero, List.push_toArray, List.append_toArray, List.nil_append, List.cons_append]
 gi_wp2
 gi_loopw [11] (fun i wr => ∃ j : Nat, j ≤ q + 1 ∧ i = .int .i64 (j : Int) ∧ J (uptoN q j) wr ∧ KpB [Bs, Bk, S, L] W wr) (fun i _ => q + 1 - (intOf i).toNat)
 case atStart => exact ⟨0, by omega, rfl, by simpa [uptoN] using h0, Nat.le_refl _, fun _ _ => rfl⟩
 case round =>
  obtain ⟨j, hj, rfl, hJs, hkp⟩ := hrel
  clear c0 c5
  have HKP := Lib.hid hkp
  by_cases hlt : j < q + 1
  ·have hjq : j ≤ q := by omega
   have ck := (hkp.blk (by simp) HBK.out).cell 0
   have cx := ((hkp.blk (by simp) HL.out).cell j).trans (HCS.out j hjq)
   simp at ck
   have HSUC := Lib.hid (uptoN_succ q j hjq)
   obtain ⟨t, a, hx⟩ := HX.out j hjq
   rw [hx] at cx
   obtain ⟨fn, tmps, assign, body, hy, hR⟩ := HY.out _ ⟨j, hjq⟩ wr hJs (by rw [uptoN_len q j (by omega)]; exact hlt)
   dsimp only at hy
   rw [hx] at hy
   rw [HSUC.out.symm] at hR
   clear hkp hJs hx
   have i0 : (0 : Int) ≤ (j : Int) := by omega
   have i1 : (j : Int) < (q : Int) + 1 := by omega
   have ed : ((k / 2 ^ j : Nat) : Int) = (k : Int) / 2 ^ j := by rw [Int.natCast_ediv, Int.natCast_pow]; rfl
   rw [ed] at hy
   clear ed
   gi_wp2
   refine hR.mono ?_
   rintro e W3 (⟨rfl, hJ3, hk3⟩ | ⟨rfl, hJx3⟩)
   ·have HJ3 := Lib.hid hJ3
    have HK3 := Lib.hid (KpB.trans HKP.out hk3)
    clear hJ3 hk3 cx ck hy hR
    gi_wp2
    go_roundw
    case rel => exact ⟨j + 1, by omega, by simp, HJ3.out, HK3.out⟩
    case measure => simp [intOf]; omega
   ·have HJ3 := Lib.hid hJx3
    clear hJx3 cx ck hy hR
    gi_wp2
    refine bodyPost_ret (results_none rfl _ _ _) rfl ?_
    exact ⟨⟨_, rfl⟩, .inr ⟨_, ⟨j + 1, by omega, rfl⟩, HJ3.out⟩⟩
  ·obtain rfl : j = q + 1 := by omega
   have HJ := Lib.hid hJs
   clear hJs hkp
   gi_wp2
   go_end0
   exact ⟨⟨_, rfl⟩, .inl ⟨_, rfl, HJ.out⟩⟩
theorem st_stops (n : Nat) (hn : 1 ≤ n) (Bs Bk S L q cap k : Nat) (cs : Array Value) (X : Nat → Value) (hq : q ≤ 59) (w : World)
    (hX : ∀ n, n ≤ q → ∃ t a, X n = .iface t (.pointer (some ⟨a, 0, none⟩)))
    (hBs : Blk w Bs 30 #[.pointer (some ⟨S, 0, none⟩)]) (hBk : Blk w Bk 22 #[.int .u64 (k : Int)]) (hS : ∃ b r d m s, Blk w S 72 #[b, r, d, m, s, .slice (some ⟨L, 0, none⟩) (q + 1) cap])
    (hL : Blk w L 74 cs) (hcs : ∀ n, n ≤ q → cs[n]? = some (X n)) :
    SeqStopsK Fence.wide n Tryz.prog 54 #[.pointer (some ⟨Bs, 0, none⟩), .pointer (some ⟨Bk, 0, none⟩)] (fun x : LvN q => #[X x.1, .int .u64 ((k / 2 ^ x.1 : Nat) : Int)]) (KpB [Bs, Bk, S, L]) (fun ys => ys = uptoN q (q + 1)) (fun pre => ∃ j, j ≤ q + 1 ∧ pre = uptoN q j) (q + 1) w := fun l J Jx W hW _ _ hY h0 => by
  obtain ⟨vb, vr, vd, vm, vs, hS⟩ := hS
  exact stat1 n hn l Bs Bk S L q cap k cs X hq J Jx hX hY W (hBs.kept hW) (hBk.kept hW) ⟨vb, vr, vd, vm, vs, hS.kept hW⟩ (hL.kept hW) hcs h0
end Go.Proofs.YthbkljeibmkimaaGreat


namespace Go.Proofs.YthbkljeibmkimaaGreat
open Go.RowKit
set_option linter.unusedVariables false
set_option linter.unusedSimpArgs false

section
variable {W W' : World} {row : Option Nat}
theorem GridIs.walked {G C R V : Nat} {zs : List Int} (h : GridIs W G C R V zs) (hg : W.grownBy W' row) (hr : ∀ r, row = some r → ∃ o : Obj, W.heap[r]? = some o ∧ o.isCells = false) : GridIs W' G C R V zs := by
  obtain ⟨cap, hG, -⟩ := h.fields
  obtain ⟨cur, hC, -⟩ := h.cells
  have key : ∀ g t cs, Blk W g t cs → some g ≠ row := fun g t cs hb e => by
    obtain ⟨o, ho, hc⟩ := hr g e.symm
    exact hb.not_other ho hc rfl
  exact h.grown hg (key _ _ _ hG) (key _ _ _ hC)
theorem LevIs.walked {x : Value} {A G C : Nat} {b r d m s l : Int} {zs : List Int} (h : LevIs W x A G C b r d m s l zs) (hg : W.grownBy W' row) (hr : ∀ r, row = some r → ∃ o : Obj, W.heap[r]? = some o ∧ o.isCells = false) : LevIs W' x A G C b r d m s l zs := by
  rcases h with ⟨h1, h2, h3⟩ | ⟨h1, h2, h3⟩
  · exact .inl ⟨h1, h2, h3.1.walked hg hr, h3.2.walked hg hr⟩
  · exact .inr ⟨h1, h2, h3.box.walked hg hr, h3.grid.walked hg hr⟩
theorem StIs.walked {base S L : Nat} {b r d m s : Int} {X : Nat → Value} {A G C : Nat → Nat} {Z : Nat → List Int} (h : StIs W base S L b r d m s X A G C Z) (hg : W.grownBy W' row) (hr : ∀ r, row = some r → ∃ o : Obj, W.heap[r]? = some o ∧ o.isCells = false) : StIs W' base S L b r d m s X A G C Z := by
  obtain ⟨cap, h1, h2⟩ := h.box
  obtain ⟨cur, h3, h4⟩ := h.row
  exact ⟨⟨cap, h1.walked hg hr, h2⟩, h.right, ⟨cur, h3.walked hg hr, h4⟩, fun n hn => (h.lev n hn).walked hg hr, h.apart, h.low⟩
end
theorem Tryz.mExCheck (k : Nat) (a : Addr) (w : World) : (method (k + 1) 129 (.pointer (some a)) "Check").run Tryz.prog w = .ok (114, .pointer (some a)) w := by kernel_rfl
theorem Tryz.mSkCheck (k : Nat) (a : Addr) (w : World) : (method (k + 1) 132 (.pointer (some a)) "Check").run Tryz.prog w = .ok (127, .pointer (some a)) w := by kernel_rfl
theorem Tryz.mExUpdate (k : Nat) (a : Addr) (w : World) : (method (k + 1) 129 (.pointer (some a)) "Update").run Tryz.prog w = .ok (119, .pointer (some a)) w := by kernel_rfl
theorem Tryz.mSkUpdate (k : Nat) (a : Addr) (w : World) : (method (k + 1) 132 (.pointer (some a)) "Update").run Tryz.prog w = .ok (132, .pointer (some a)) w := by kernel_rfl
def HasM (x : Value) (A : Nat) (name : String) (f : FuncId) : Prop :=
  ∃ T, x = .iface T (.pointer (some ⟨A, 0, none⟩)) ∧ (∀ (j : Nat) (W : World), (method (j + 1) T (.pointer (some ⟨A, 0, none⟩)) name).run Tryz.prog W = .ok (f, .pointer (some ⟨A, 0, none⟩)) W) ∧
    ∀ (args : Array Value) (W : World), (callFunc f args).run Tryz.prog W = .ok (.enter f args) W
theorem lvcheck (w : World) (x : Value) (A G C : Nat) (b r d m s l : Int) (zs : List Int) (h : LevIs w x A G C b r d m s l zs) (hr : rightB b r d m = true) (s0 : 0 ≤ s) (s1 : s ≤ 18446744073709551615) (k : Nat) (hk : k < 18446744073709551616) (y : Int) (hy : In64 y) :
    ∃ f, HasM x A "Check" f ∧ Calls Tryz.prog f #[.pointer (some ⟨A, 0, none⟩), .int .u64 (k : Int), .int .i64 y] w fun e w' => e = .returned (.int .i64 (lvErr b r d m s l zs k y)) ∧ Below w.heap.size w w' := by
  rcases h with ⟨h1, h2, h3⟩ | ⟨h1, h2, h3⟩
  · refine ⟨_, ⟨_, h2, fun j W => Tryz.mExCheck j _ W, enters_of Tryz.func114 (by kernel_rfl) rfl⟩, ?_⟩
    have e : lvErr b r d m s l zs k y = chkI (keysI b r d m l).toNat m zs k y := by unfold lvErr; rw [if_pos h1]
    rw [e]
    exact excheck w A G C b r d m s l _ k zs y h3 hy hk
  · refine ⟨_, ⟨_, h2, fun j W => Tryz.mSkCheck j _ W, enters_of Tryz.func127 (by kernel_rfl) rfl⟩, ?_⟩
    have e : lvErr b r d m s l zs k y = skErr b r d m s l zs (k : Int) y := by unfold lvErr; rw [if_neg (by rw [h1]; decide)]
    rw [e]
    exact skcheck w A G C b r d m s l zs h3 hr s0 s1 (k : Int) y (by omega) (by omega) hy
def LvUpPost (w : World) (x : Value) (A G C : Nat) (b r d m s l : Int) (zs : List Int) (k : Nat) (y : Int) (e : Ending) (w' : World) : Prop :=
  e = .returned (.int .i64 (lvErr b r d m s l zs k y)) ∧ LevIs w' x A G C b r d m s l (lvUpd b r d m s l zs k y) ∧ w.grownBy w' (some C)
theorem lvupdate (w : World) (x : Value) (A G C : Nat) (b r d m s l : Int) (zs : List Int) (h : LevIs w x A G C b r d m s l zs) (hr : rightB b r d m = true) (s0 : 0 ≤ s) (s1 : s ≤ 18446744073709551615) (k : Nat) (hk : k < 18446744073709551616) (y : Int) (hy : In64 y) :
  ∃ f, HasM x A "Update" f ∧ Calls Tryz.prog f #[.pointer (some ⟨A, 0, none⟩), .int .u64 (k : Int), .int .i64 y] w (LvUpPost w x A G C b r d m s l zs k y) := by
 rcases h with ⟨h1, h2, h3⟩ | ⟨h1, h2, h3⟩
 ·refine ⟨_, ⟨_, h2, fun j W => Tryz.mExUpdate j _ W, enters_of Tryz.func119 (by kernel_rfl) rfl⟩, ?_⟩
  refine (exupdate w A G C b r d m s l _ k zs y h3 hy hk).mono ?_
  rintro e w' ⟨he, ha, hg⟩
  refine ⟨?_, .inl ⟨h1, h2, ?_⟩, hg⟩
  ·rw [he]; unfold lvErr; rw [if_pos h1]
  ·unfold lvUpd; rw [if_pos h1]; exact ha
 ·refine ⟨_, ⟨_, h2, fun j W => Tryz.mSkUpdate j _ W, enters_of Tryz.func132 (by kernel_rfl) rfl⟩, ?_⟩
  refine (skupdate w A G C b r d m s l zs h3 hr s0 s1 (k : Int) y (by omega) (by omega) hy).mono ?_
  rintro e w' ⟨he, ha, hg⟩
  refine ⟨?_, .inr ⟨h1, h2, ?_⟩, hg⟩
  ·rw [he]; unfold lvErr; rw [if_neg (by rw [h1]; decide)]
  ·unfold lvUpd; rw [if_neg (by rw [h1]; decide)]; exact ha
set_option maxRecDepth 100000 in
set_option maxHeartbeats 4000000 in
theorem first_any (g : Nat) (a c : Int) (w : World) (hb : Blk w g 31 #[.int .i64 a, .int .i64 c]) :
  Calls Tryz.prog 25 #[.slice (some ⟨g, 0, none⟩) 2 2] w fun e w' => e = .returned (.int .i64 (firstI a c)) ∧ w = w' := by
 have c0 := hb.cell 0
 have c1 := hb.cell 1
 simp at c0 c1
 have hq : ∃ q, q = firstI a c := ⟨_, rfl⟩
 obtain ⟨q, hq⟩ := hq
 rw [← hq]
 unfold firstI at hq
 have HQ := Lib.hid hq
 clear hb hq
 by_cases ha : a = 0
 ·subst ha
  have HQ : Hid (q = c) := Lib.hid (by rw [HQ.out, if_pos rfl])
  by_cases hc : c = 0
  ·subst hc
   go_enter Tryz.func25, Tryz.ntmps25
   go_wp2
   go_loop [8] (fun i => ∃ j : Nat, j ≤ 2 ∧ i = .int .i64 (j : Int)) (fun i => 2 - (intOf i).toNat)
   case atStart => exact ⟨0, by omega, rfl⟩
   case round =>
    obtain ⟨j, hj, rfl⟩ := hrel
    rcases (show j = 0 ∨ j = 1 ∨ j = 2 by omega) with rfl | rfl | rfl
    ·go_wp2
     go_round
     case rel => exact ⟨1, by omega, rfl⟩
     case measure => simp [intOf]
    ·go_wp2
     go_round
     case rel => exact ⟨2, by omega, rfl⟩
     case measure => simp [intOf]
    ·go_wp2
     go_ret
     exact ⟨ret_err HQ.out.symm, rfl⟩
  ·have n1 : (c != 0) = true := by simp [hc]
   clear hc
   go_enter Tryz.func25, Tryz.ntmps25
   go_wp2
   go_loop [8] (fun i => ∃ j : Nat, j ≤ 1 ∧ i = .int .i64 (j : Int)) (fun i => 2 - (intOf i).toNat)
   case atStart => exact ⟨0, by omega, rfl⟩
   case round =>
    obtain ⟨j, hj, rfl⟩ := hrel
    rcases (show j = 0 ∨ j = 1 by omega) with rfl | rfl
    ·go_wp2
     go_round
     case rel => exact ⟨1, by omega, rfl⟩
     case measure => simp [intOf]
    ·go_wp2
     go_ret
     exact ⟨ret_err HQ.out.symm, rfl⟩
 ·have HQ : Hid (q = a) := Lib.hid (by rw [HQ.out, if_neg ha])
  have n1 : (a != 0) = true := by simp [ha]
  clear ha
  go_enter Tryz.func25, Tryz.ntmps25
  go_wp2
  go_loop [8] (fun i => i = .int .i64 0) (fun i => 2 - (intOf i).toNat)
  case atStart => rfl
  case round =>
   subst hrel
   go_wp2
   go_ret
   exact ⟨ret_err HQ.out.symm, rfl⟩
end Go.Proofs.YthbkljeibmkimaaGreat

