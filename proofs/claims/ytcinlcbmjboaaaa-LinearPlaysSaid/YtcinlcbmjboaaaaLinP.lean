/-
  The walk of LinearPlays: it returns true. Conditions: the arguments are of their types.
-/
import Derived.Test.YtcinlcbmjboaaaaRfG
import Derived.Test.YtcinlcbmjboaaaaLinS
namespace Go.Proofs.Ytcinlcbmjboaaaa
open Go.RowKit
set_option linter.unusedVariables false
set_option linter.unusedSimpArgs false

def shSteps : Sh := .slice shStep
set_option maxRecDepth 100000 in
set_option maxHeartbeats 16000000 in
theorem LinearPlays_walk (v0 v1 v2 : Value) (w : World) (h0 : (Sh.int .i64).Val w v0) (h1 : (Sh.int .i64).Val w v1) (h2 : shSteps.Val w v2) :
    Calls Try.prog 6 #[v0, v1, v2] w fun e w' => e = .returned (.bool true) ∧ Below w.heap.size w w' := by
  obtain ⟨rI, h0, -⟩ := h0
  obtain ⟨cI, h1, -⟩ := h1
  obtain rfl : v0 = .int .i64 rI := by simpa using h0
  obtain rfl : v1 = .int .i64 cI := by simpa using h1
  clear h0 h1
  obtain ⟨n, cs, ds, hl⟩ := steps_of_val h2
  clear h2
  obtain ⟨ao, cap, rfl, hmx, hd64, hcells⟩ := hl
  have HCL := Lib.hid hcells
  have HD64 := Lib.hid hd64
  clear hcells hd64
  have N1 := Lib.hid (new_any rI cI)
  have N2 := Lib.hid (rnew_any rI cI)
  generalize clampN rI 8 = R at *
  generalize clampN cI 128 = W at *
  have PS := Lib.hid shown08
  obtain ⟨m, hmm⟩ : ∃ m, m = min n 100 := ⟨_, rfl⟩
  have HM := Lib.hid hmm
  clear hmm
  obtain ⟨i0, hi, hz0, hz1, hz2⟩ := info_parts Try.infoI
  go_enter Try.func6, Try.ntmps6
  go_wp2_with fail
  with_reducible refine (PS.out _).mono ?_
  rintro e w2 ⟨rfl, hb⟩
  have HB2 := Lib.hid hb
  clear hb
  go_wp2_with fail
  with_reducible refine (N1.out _).mono ?_
  rintro e w3 ⟨G, C, rfl, hG, hC, hg, hb⟩
  have HG3 := Lib.hid hg
  have HB3 := Lib.hid (btr HB2.out hb)
  have HGC : Hid (w.heap.size ≤ G ∧ w.heap.size ≤ C ∧ G < w3.heap.size ∧ C < w3.heap.size) := by
    have h1 := hg.ltG
    have h2 := hg.ltC
    have h3 := HB2.out.size
    exact ⟨by omega, by omega, h1, h2⟩
  clear hG hC hg hb
  go_wp2_with fail
  with_reducible refine (N2.out _).mono ?_
  rintro e w4 ⟨H, v, B, K, rfl, hr, hb⟩
  have HG4 := Lib.hid (HG3.out.kept hb)
  have HR4 := Lib.hid hr
  have HB4 := Lib.hid (btr HB3.out hb)
  have HN : Hid (w.heap.size ≤ w3.heap.size) := Lib.hid HB3.out.size
  clear hr hb
  generalize hN : w3.heap.size = N at *
  clear hN
  go_wp2_with fail
  go_loopw [10] (fun i wr => ∃ (j : Nat) (zs : List Int), j ≤ m ∧ i = .int .i64 (j : Int) ∧ GridIs wr G C R W zs ∧ RefIs wr N H v B K R W zs ∧ Below w.heap.size w wr) (fun i _ => m - (intOf i).toNat)
  case atStart => exact ⟨0, _, by omega, rfl, HG4.out, HR4.out, HB4.out⟩
  case round =>
    obtain ⟨j, zs, hj, rfl, hg, hr, hbel⟩ := hrel
    clear HG4 HR4
    have HG := Lib.hid hg
    have HR := Lib.hid hr
    have HB := Lib.hid hbel
    clear hg hr hbel
    by_cases hlt : j < m
    · have hjn : j < n := by have := HM.out; omega
      have hj2 : j < 100 := by have := HM.out; omega
      obtain ⟨bb, off, rfl, hbb, hcc⟩ := HCL.out (by omega)
      obtain ⟨⟨vj, c1, c2⟩, c3⟩ := hcc j hjn
      have HC2 := Lib.hid c2
      obtain ⟨ao2, cap2, rfl, hcp2, hmx2, -⟩ := c2
      have HC1 := Lib.hid c1
      have HC3 := Lib.hid c3
      have HDJ := Lib.hid (HD64.out j hjn)
      obtain ⟨nj, hnj⟩ : ∃ nj, nj = (cs j).length := ⟨_, rfl⟩
      rw [← hnj] at HC1 HC2 hcp2
      obtain ⟨q, hq⟩ : ∃ q, q = min nj 20 := ⟨_, rfl⟩
      have hqn : q ≤ nj := by omega
      have hq2 : q ≤ 20 := by omega
      have emin : (if (20 : Int) < (nj : Int) then (20 : Int) else (nj : Int)) = (q : Int) := by split <;> omega
      have iq : (0 : Int) ≤ (q : Int) := by omega
      have iq2 : (q : Int) ≤ (cap2 : Int) := by omega
      obtain ⟨ls, hls⟩ : ∃ ls, ls = (cs j).take q := ⟨_, rfl⟩
      have HLQ : Hid (ls.length = q) := Lib.hid (by rw [hls, List.length_take]; omega)
      have HNEWS := Lib.hid (fun w' (hb : Below w.heap.size w w') => cols_news HC2.out hnj hqn hls hb)
      have i0' : (0 : Int) ≤ (j : Int) := by omega
      have i1 : (j : Int) < (n : Int) := by omega
      have i2 : (j : Int) < 100 := by omega
      have HBB := Lib.hid hbb
      generalize ds j = dj at *
      clear c1 c3 hcc hbb hnj hls hq hcp2 hmx2
      go_wp2_with fail
      have hown0 := World.ownsRow_lit (base := wr.heap.size) (e := 3) (size := 1) (wr.drewN 1) #[] 0 (by exact Nat.le_refl _) (by unfold maxLen; omega) (by simp)
      have HO := Lib.hid hown0
      clear hown0
      refine wp_region_held_drew (S := fun w' => Below w.heap.size w w') (by kernel_rfl) (by exact below_drewN HB.out 1) (fun hHeld => ?_)
      refine wpAnyH_take (i := 1) (v := ?_) rfl (by kernel_rfl) (by kernel_rfl) (by kernel_rfl) (fun _ _ _ h => h) (Or.inl ⟨by rfl, ?_⟩) (by assumption) ?_
      rotate_left
      · intro w hSw
        try dsimp only at hSw
        go_simp
        try with_reducible rfl
      simp only [Act.put, List.setIfInBounds_toArray, List.set_cons_zero, List.set_cons_succ, List.getElem_toArray, List.getElem_cons_zero, List.getElem_cons_succ]
      refine wpAnyH_take (i := 2) (v := ?_) rfl (by kernel_rfl) (by kernel_rfl) (by kernel_rfl) (fun _ _ _ h => h) (Or.inl ⟨by rfl, ?_⟩) (by assumption) ?_
      rotate_left
      · intro w hSw
        try dsimp only at hSw
        go_simp
        try with_reducible rfl
      simp only [Act.put, List.setIfInBounds_toArray, List.set_cons_zero, List.set_cons_succ, List.getElem_toArray, List.getElem_cons_zero, List.getElem_cons_succ]
      refine wpAnyH_take (i := 3) (v := ?_) rfl (by kernel_rfl) (by kernel_rfl) (by kernel_rfl) (fun _ _ _ h => h) (Or.inl ⟨by rfl, ?_⟩) (by assumption) ?_
      rotate_left
      · intro w hSw
        try dsimp only at hSw
        go_simp
        try with_reducible rfl
      simp only [Act.put, List.setIfInBounds_toArray, List.set_cons_zero, List.set_cons_succ, List.getElem_toArray, List.getElem_cons_zero, List.getElem_cons_succ]
      refine wpAnyH_take (i := 4) (v := ?_) rfl (by kernel_rfl) (by kernel_rfl) (by kernel_rfl) (fun _ _ _ h => h) (Or.inl ⟨by rfl, ?_⟩) (by assumption) ?_
      rotate_left
      · intro w hSw
        try dsimp only at hSw
        go_simp
        try with_reducible rfl
      simp only [Act.put, List.setIfInBounds_toArray, List.set_cons_zero, List.set_cons_succ, List.getElem_toArray, List.getElem_cons_zero, List.getElem_cons_succ]
      refine wpAnyH_take (i := 5) (v := ?_) rfl (by kernel_rfl) (by kernel_rfl) (by kernel_rfl) (fun _ _ _ h => h) (Or.inl ⟨by rfl, ?_⟩) (by assumption) ?_
      rotate_left
      · intro w hSw
        have p0 := (hSw.cell (p := ⟨bb, off + j * 2, none⟩) HBB.out).trans HC1.out
        go_simp
        try with_reducible rfl
      simp only [Act.put, List.setIfInBounds_toArray, List.set_cons_zero, List.set_cons_succ, List.getElem_toArray, List.getElem_cons_zero, List.getElem_cons_succ]
      refine wpAnyH_take (i := 6) (v := ?_) rfl (by kernel_rfl) (by kernel_rfl) (by kernel_rfl) (fun _ _ _ h => h) (Or.inl ⟨by rfl, ?_⟩) (by assumption) ?_
      rotate_left
      · intro w hSw
        try dsimp only at hSw
        go_simp
        try with_reducible rfl
      simp only [Act.put, List.setIfInBounds_toArray, List.set_cons_zero, List.set_cons_succ, List.getElem_toArray, List.getElem_cons_zero, List.getElem_cons_succ]
      refine wpAnyH_take (i := 7) (v := ?_) rfl (by kernel_rfl) (by kernel_rfl) (by kernel_rfl) (fun _ _ _ h => h) (Or.inl ⟨by rfl, ?_⟩) (by assumption) ?_
      rotate_left
      · intro w hSw
        try dsimp only at hSw
        go_simp
        try with_reducible rfl
      simp only [Act.put, List.setIfInBounds_toArray, List.set_cons_zero, List.set_cons_succ, List.getElem_toArray, List.getElem_cons_zero, List.getElem_cons_succ]
      refine wpAnyH_take (i := 8) (v := ?_) rfl (by kernel_rfl) (by kernel_rfl) (by kernel_rfl) (fun _ _ _ h => h) (Or.inl ⟨by rfl, ?_⟩) (by assumption) ?_
      rotate_left
      · intro w hSw
        try dsimp only at hSw
        go_simp
        try with_reducible rfl
      simp only [Act.put, List.setIfInBounds_toArray, List.set_cons_zero, List.set_cons_succ, List.getElem_toArray, List.getElem_cons_zero, List.getElem_cons_succ]
      refine wpAnyH_take (i := 9) (v := ?_) rfl (by kernel_rfl) (by kernel_rfl) (by kernel_rfl) (fun _ _ _ h => h) (Or.inl ⟨by rfl, ?_⟩) (by assumption) ?_
      rotate_left
      · intro w hSw
        try dsimp only at hSw
        go_simp
        try with_reducible rfl
      simp only [Act.put, List.setIfInBounds_toArray, List.set_cons_zero, List.set_cons_succ, List.getElem_toArray, List.getElem_cons_zero, List.getElem_cons_succ]
      refine wpAnyH_take (i := 10) (v := ?_) rfl (by kernel_rfl) (by kernel_rfl) (by kernel_rfl) (fun _ _ _ h => h) (Or.inl ⟨by rfl, ?_⟩) (by assumption) ?_
      rotate_left
      · intro w hSw
        have p0 := (hSw.cell (p := ⟨bb, off + j * 2, none⟩) HBB.out).trans HC1.out
        go_simp
        try with_reducible rfl
      simp only [Act.put, List.setIfInBounds_toArray, List.set_cons_zero, List.set_cons_succ, List.getElem_toArray, List.getElem_cons_zero, List.getElem_cons_succ]
      refine wpAnyH_take (i := 11) (v := ?_) rfl (by kernel_rfl) (by kernel_rfl) (by kernel_rfl) (fun _ _ _ h => h) (Or.inl ⟨by rfl, ?_⟩) (by assumption) ?_
      rotate_left
      · intro w hSw
        try dsimp only at hSw
        go_simp
        try with_reducible rfl
      simp only [Act.put, List.setIfInBounds_toArray, List.set_cons_zero, List.set_cons_succ, List.getElem_toArray, List.getElem_cons_zero, List.getElem_cons_succ]
      refine wpAnyH_take (i := 12) (v := ?_) rfl (by kernel_rfl) (by kernel_rfl) (by kernel_rfl) (fun _ _ _ h => h) (Or.inl ⟨by rfl, ?_⟩) (by assumption) ?_
      rotate_left
      · intro w hSw
        try dsimp only at hSw
        go_simp
        try with_reducible rfl
      simp only [Act.put, List.setIfInBounds_toArray, List.set_cons_zero, List.set_cons_succ, List.getElem_toArray, List.getElem_cons_zero, List.getElem_cons_succ]
      refine wpAnyH_take (i := 13) (v := ?_) rfl (by kernel_rfl) (by kernel_rfl) (by kernel_rfl) (fun _ _ _ h => h) (Or.inl ⟨by rfl, ?_⟩) (by assumption) ?_
      rotate_left
      · intro w hSw
        try dsimp only at hSw
        go_simp
        try with_reducible rfl
      simp only [Act.put, List.setIfInBounds_toArray, List.set_cons_zero, List.set_cons_succ, List.getElem_toArray, List.getElem_cons_zero, List.getElem_cons_succ]
      refine wpAnyH_ready (rs := [0]) (by kernel_rfl) (by simp) ?_
      refine AllReadyH.cons rfl (fun Kc hKc => ?_) AllReadyH.nil
      go_simp
      refine hKc.out _ _ ?_ (fun hHeld => ?_)
      · first | exact hHeld.alloc hHeld.size _ | exact hHeld.grown hgrow hHeld.size (fun k e => by have := Option.some.inj e; have := HB.out.size; omega)
      clear hKc Kc
      refine wpAnyH_ready (rs := [14]) (by kernel_rfl) (by simp) ?_
      refine AllReadyH.cons rfl (fun Kc hKc => ?_) AllReadyH.nil
      refine wp_append_lit _ _ 32 rfl wr.heap.size 3 i0 (.int .i64 0) 8 Try.underlying32 hi hz0 hz1 hz2 rfl wr.heap.size 0 rfl HO.out ao2 q cap2 (ls.map (Value.int .i64)) rfl (by rw [List.length_map]; exact HLQ.out) (HNEWS.out _ hHeld) (fun u hu => by obtain ⟨z, -, rfl⟩ := List.mem_map.1 hu; rfl) (by unfold maxLen; omega) (by omega) (by simp) ?_; intro v' w5 hown' hgrow hnil' hq9
      refine hKc.out _ _ ?_ (fun hHeld => ?_)
      · first | exact hHeld.alloc hHeld.size _ | exact hHeld.grown hgrow hHeld.size (fun k e => by have := Option.some.inj e; have := HB.out.size; omega)
      clear hKc Kc
      refine wpAnyH_take (i := 15) (v := ?_) rfl (by kernel_rfl) (by kernel_rfl) (by kernel_rfl) (fun _ _ _ h => h) (Or.inl ⟨by rfl, ?_⟩) (by assumption) ?_
      rotate_left
      · intro w hSw
        try dsimp only at hSw
        go_simp
        try with_reducible rfl
      simp only [Act.put, List.setIfInBounds_toArray, List.set_cons_zero, List.set_cons_succ, List.getElem_toArray, List.getElem_cons_zero, List.getElem_cons_succ]
      refine wpAnyH_done (by kernel_rfl) ?_ _
      have hown2 : w5.ownsRow wr.heap.size 3 1 v' ls.length (ls.map (Value.int .i64)) := by rw [HLQ.out]; exact hown'
      have HV5 := Lib.hid (own_rowI hown2 hnil')
      have h65 : Below wr.heap.size wr w5 := (below_drewN (Below.refl wr.heap.size wr) 1 |>.alloc (by exact Nat.le_refl _) _).grown hgrow (by simp) (fun k e => by have := Option.some.inj e; omega)
      have HG5 := Lib.hid (HG.out.kept h65)
      have HR5 := Lib.hid (HR.out.kept h65)
      have HB5 := Lib.hid hHeld
      have p1 := (hHeld.cell (p := ⟨bb, off + j * 2 + 1, none⟩) HBB.out).trans HC3.out
      clear hown' hown2 hgrow hnil' hq9 hHeld h65 HO
      have P := Lib.hid (change_all w5 G C R W zs ls dj v' HG5.out HV5.out (by have := HLQ.out; omega) HDJ.out)
      go_wp2_with fail
      with_reducible refine P.out.mono ?_
      rintro e w6 ⟨err, zs1, rfl, hsp, hg, hgr⟩
      have HSP := Lib.hid hsp
      have HG6 := Lib.hid hg
      obtain ⟨curC5, hC5, -⟩ := HG5.out.cells
      have HV6 := Lib.hid (HV5.out.far hgr hC5 (by decide))
      clear hC5
      have HR6 := Lib.hid (HR5.out.grown hgr (fun k e => by cases e; exact HGC.out.2.2.2))
      have HB6 := Lib.hid (HB5.out.grown hgr HB5.out.size (fun k e => by have := Option.some.inj e; have := HGC.out; omega))
      have HFIT := Lib.hid HG5.out.fit
      clear hsp hg hgr P p1 HG5 HV5 HR5 HB5
      have p1 := (HB6.out.cell (p := ⟨bb, off + j * 2 + 1, none⟩) HBB.out).trans HC3.out
      have P := Lib.hid (rchange_all w6 N H v B K R W zs ls dj v' HR6.out HV6.out (by have := HLQ.out; omega) HDJ.out HFIT.out)
      go_wp2_with fail
      with_reducible refine P.out.mono ?_
      rintro e w7 ⟨err2, zs2, rfl, hsp, hr, hgr⟩
      obtain ⟨rfl, rfl⟩ := HSP.out.unique hsp
      have HR7 := Lib.hid hr
      have HV7 := Lib.hid (hgr.row HR6.out HV6.out)
      have hb : Below N w6 w7 := hgr.below HR6.out
      have HG7 := Lib.hid (HG6.out.below hb HGC.out.2.2.1 HGC.out.2.2.2)
      have HB7 := Lib.hid (HB6.out.trans (hb.mono (by have := HN.out; omega)))
      clear hsp hr hb hgr P p1 HG6 HV6 HR6 HB6 HSP
      have HLS : Hid (ls.length ≤ 100000) := Lib.hid (by have := HLQ.out; omega)
      have HL8 := Lib.hid (rdL_len (cs := ls) HG7.out)
      obtain ⟨rl, hrl⟩ : ∃ rl, rl = rdL R W zs2 ls := ⟨_, rfl⟩
      obtain ⟨re, hre⟩ : ∃ re, re = rdE R W ls := ⟨_, rfl⟩
      obtain ⟨km, hkm⟩ : ∃ km, km = (ls.length - 1) / 2 := ⟨_, rfl⟩
      have HRL := Lib.hid hrl
      have HRE := Lib.hid hre
      have HKM := Lib.hid hkm
      rw [← hrl] at HL8
      clear hrl hre hkm
      have P := Lib.hid (read_all w7 G C R W zs2 ls v' HG7.out HV7.out.ints HLS.out)
      go_wp2_with fail
      with_reducible refine P.out.mono ?_
      rintro e w8 ⟨xa, rfl, hia, hb⟩
      have HR8 := Lib.hid (HR7.out.kept hb)
      have HV8 := Lib.hid (HV7.out.kept hb)
      have HG8 := Lib.hid (HG7.out.kept hb)
      have HB8 := Lib.hid (btr HB7.out hb)
      rw [← HRL.out] at hia
      have HIA8 := Lib.hid hia
      rw [← HRE.out]
      clear hia hb P HG7 HR7 HB7 HV7
      have P := Lib.hid (least_all w8 G C R W zs2 ls v' HG8.out HV8.out.ints HLS.out)
      go_wp2_with fail
      with_reducible refine P.out.mono ?_
      rintro e w9 ⟨un, ue, rfl, hun, hb⟩
      have HR9 := Lib.hid (HR8.out.kept hb)
      have HV9 := Lib.hid (HV8.out.kept hb)
      have HG9 := Lib.hid (HG8.out.kept hb)
      have HB9 := Lib.hid (btr HB8.out hb)
      have HUN := Lib.hid hun
      have HIA9 := Lib.hid (HIA8.out.kept hb)
      clear HIA8
      clear hun hb P HG8 HR8 HB8 HV8
      have P := Lib.hid (middle_all w9 G C R W zs2 ls v' HG9.out HV9.out.ints HLS.out)
      go_wp2_with fail
      with_reducible refine P.out.mono ?_
      rintro e w10 ⟨um, ume, rfl, hum, hb⟩
      have HR10 := Lib.hid (HR9.out.kept hb)
      have HV10 := Lib.hid (HV9.out.kept hb)
      have HG10 := Lib.hid (HG9.out.kept hb)
      have HB10 := Lib.hid (btr HB9.out hb)
      rw [← HKM.out] at hum
      have HUM := Lib.hid hum
      have HIA10 := Lib.hid (HIA9.out.kept hb)
      clear HIA9
      clear hum hb P HG9 HR9 HB9 HV9
      have P := Lib.hid (rread_all w10 N H v B K R W zs2 ls v' HR10.out HV10.out.ints HLS.out)
      go_wp2_with fail
      with_reducible refine P.out.mono ?_
      rintro e w11 ⟨xd, rfl, hid, hb⟩
      have HR11 := Lib.hid (HR10.out.kept hb)
      have HV11 := Lib.hid (HV10.out.kept hb)
      have HG11 := Lib.hid (HG10.out.kept hb)
      have HB11 := Lib.hid (btr HB10.out hb)
      rw [← HRL.out] at hid
      have HID11 := Lib.hid hid
      rw [← HRE.out]
      have HIA11 := Lib.hid (HIA10.out.kept hb)
      clear HIA10
      clear hid hb P HG10 HR10 HB10 HV10
      have P := Lib.hid (rleast_all w11 N H v B K R W zs2 ls v' HR11.out HV11.out.ints HLS.out)
      go_wp2_with fail
      with_reducible refine P.out.mono ?_
      rintro e w12 ⟨un2, ue2, rfl, hun, hb⟩
      have HR12 := Lib.hid (HR11.out.kept hb)
      have HV12 := Lib.hid (HV11.out.kept hb)
      have HG12 := Lib.hid (HG11.out.kept hb)
      have HB12 := Lib.hid (btr HB11.out hb)
      obtain ⟨rfl, rfl⟩ := HUN.out.unique hun
      have HIA12 := Lib.hid (HIA11.out.kept hb)
      have HID12 := Lib.hid (HID11.out.kept hb)
      clear HIA11 HID11
      clear hun hb P HG11 HR11 HB11 HV11
      have P := Lib.hid (rmiddle_all w12 N H v B K R W zs2 ls v' HR12.out HV12.out.ints HLS.out)
      go_wp2_with fail
      with_reducible refine P.out.mono ?_
      rintro e w13 ⟨um2, ume2, rfl, hum, hb⟩
      have HR13 := Lib.hid (HR12.out.kept hb)
      have HV13 := Lib.hid (HV12.out.kept hb)
      have HG13 := Lib.hid (HG12.out.kept hb)
      have HB13 := Lib.hid (btr HB12.out hb)
      rw [← HKM.out] at hum
      obtain ⟨rfl, rfl⟩ := HUM.out.unique hum
      have HIA13 := Lib.hid (HIA12.out.kept hb)
      have HID13 := Lib.hid (HID12.out.kept hb)
      clear HIA12 HID12
      clear hum hb P HG12 HR12 HB12 HV12
      have P := Lib.hid (same_yes HIA13.out HID13.out (by have := HL8.out; omega))
      go_wp2_with fail
      with_reducible refine P.out.mono ?_
      rintro e w14 ⟨rfl, hb⟩
      have HR14 := Lib.hid (HR13.out.kept hb)
      have HG14 := Lib.hid (HG13.out.kept hb)
      have HB14 := Lib.hid (btr HB13.out hb)
      clear hb P
      go_wp2
      go_roundw
      case rel => exact ⟨j + 1, zs2, by omega, by go_num, HG14.out, HR14.out, HB14.out⟩
      case measure => simp [intOf]; omega
    · obtain rfl : j = m := by omega
      have hd : (decide (j < n) = false ∧ decide ((j : Int) < (n : Int)) = false) ∨ ((decide (j < n) = true ∧ decide ((j : Int) < (n : Int)) = true) ∧ decide ((j : Int) < 100) = false ∧ decide (j < 100) = false) := by
        have := HM.out
        by_cases h1 : j < n
        · exact .inr ⟨⟨decide_eq_true h1, decide_eq_true (by omega)⟩, decide_eq_false (by omega), decide_eq_false (by omega)⟩
        · exact .inl ⟨decide_eq_false h1, decide_eq_false (by omega)⟩
      have PA := Lib.hid (cells_ints wr G C R W zs HG.out)
      have HZ : Hid (zs.length ≤ 1024) := Lib.hid (by rw [HG.out.len]; exact Nat.mul_le_mul HG.out.rows HG.out.width)
      rcases hd with ⟨d3, d5⟩ | ⟨⟨d3, d5⟩, d4, d6⟩
      all_goals
        go_wp2_with fail
        with_reducible refine PA.out.mono ?_
        rintro e w8 ⟨ga, ca, rfl, -, -, hia, hb⟩
        have HIA := Lib.hid hia
        have HR8 := Lib.hid (HR.out.kept hb)
        have HB8 := Lib.hid (btr HB.out hb)
        clear hia hb
        have P := Lib.hid (rcells_any w8 N H v B K R W zs HR8.out)
        go_wp2_with fail
        with_reducible refine P.out.mono ?_
        rintro e w9 ⟨gc, cc, rfl, -, -, hib, hb⟩
        have HIB := Lib.hid hib
        have HIA9 := Lib.hid (HIA.out.kept hb)
        have HB9 := Lib.hid (btr HB8.out hb)
        clear hib hb P
        have P := Lib.hid (same_yes HIA9.out HIB.out (by have := HZ.out; omega))
        go_wp2_with fail
        with_reducible refine P.out.mono ?_
        rintro e wa ⟨rfl, hb⟩
        have HBa := Lib.hid (btr HB9.out hb)
        clear hb P
        go_wp2
        go_ret
        exact ⟨rfl, HBa.out⟩
end Go.Proofs.Ytcinlcbmjboaaaa
