/-
  A slice of bytes as an argument; the walk of WireOne. Conditions: none beyond those stated at each theorem.
-/
import Derived.Test.YtbghchgmoiniiaaWirI
namespace Go.Proofs.Ytbghchgmoiniiaa
open Go.RowKit
set_option linter.unusedVariables false
set_option linter.unusedSimpArgs false

def shBytes : Sh := .slice (.int .u8)
/-- a slice of bytes that came in -/
def ArgB (w : World) (v : Value) (bs : List Int) : Prop :=
  ∃ (ao : Option Addr) (cap : Nat), v = .slice ao bs.length cap ∧ bs.length ≤ cap ∧ cap ≤ maxLen ∧ (0 < bs.length → ∃ g off, ao = some ⟨g, off, none⟩ ∧ g < w.heap.size ∧ ∀ (i : Nat) (u : Int), bs[i]? = some u → w.cell? ⟨g, off + i, none⟩ = some (.int .u8 u))
theorem bytes_of_val {w : World} {v : Value} (h : shBytes.Val w v) : ∃ bs, ArgB w v bs ∧ Byts bs := by
  obtain ⟨ao, len, cap, h1, hl, hm, hx⟩ := h
  have h1 : v = .slice ao len cap := by simpa using h1
  subst h1
  by_cases h0 : 0 < len
  · obtain ⟨b, off, rfl, hb, hc⟩ := hx h0
    have key : ∀ i, i < len → ∃ x : Int, (0 ≤ x ∧ x ≤ 255) ∧ w.cell? ⟨b, off + i, none⟩ = some (.int .u8 x) := by
      intro i hi
      obtain ⟨cs', hcl, hcell, hr⟩ := hc i hi
      obtain ⟨n, rfl, hn⟩ := hr
      have := hcell 0 (by decide)
      refine ⟨n, ?_, by simpa [Sh.size] using this⟩
      have h2 := hn
      simp [Lit.wf, IntKind.min, IntKind.max, IntKind.signed, IntKind.bits] at h2
      omega
    refine ⟨(List.range len).map fun i => if h : i < len then (key i h).choose else 0, ⟨some ⟨b, off, none⟩, cap, by simp, by simpa using hl, hm, fun _ => ⟨b, off, rfl, hb, fun i u hu => ?_⟩⟩, fun u hu => ?_⟩
    · have hi : i < len := by
        have := (List.getElem?_eq_some_iff.1 hu).1
        simpa using this
      simp [hi] at hu
      subst hu
      exact (key i hi).choose_spec.2
    · simp at hu
      obtain ⟨i, hi, rfl⟩ := hu
      simp only [dif_pos hi]
      exact (key i hi).choose_spec.1
  · obtain rfl : len = 0 := by omega
    exact ⟨[], ⟨ao, cap, rfl, by simp, hm, fun h => by simp at h⟩, fun u hu => by simp at hu⟩
theorem ArgB.kept {w w' : World} {v : Value} {bs : List Int} (h : ArgB w v bs) (hb : Below w.heap.size w w') : ArgB w' v bs := by
  obtain ⟨ao, cap, e, hc, hm, h⟩ := h
  refine ⟨ao, cap, e, hc, hm, fun h0 => ?_⟩
  obtain ⟨b, off, e2, hg, hc⟩ := h h0
  exact ⟨b, off, e2, Nat.lt_of_lt_of_le hg hb.size, fun i u hu => (hb.cell (p := ⟨b, off + i, none⟩) hg).trans (hc i u hu)⟩
theorem ArgB.news {w : World} {ao : Option Addr} {n cap : Nat} {bs : List Int} (h : ArgB w (.slice ao n cap) bs) (k : Nat) (hk : k ≤ n) :
    0 < k → ∃ ad, ao = some ad ∧ ∀ j u, ((bs.take k).map (Value.int .u8))[j]? = some u → w.cell? (ad.add j) = some u := by
  intro h0
  obtain ⟨ao2, cap2, e, h1, h2, h3⟩ := h
  simp only [Value.slice.injEq] at e
  obtain ⟨rfl, rfl, rfl⟩ := e
  obtain ⟨g, off, rfl, hg, hcc⟩ := h3 (by omega)
  refine ⟨_, rfl, fun j u hu => ?_⟩
  rw [List.getElem?_map, List.getElem?_take] at hu
  split at hu
  · cases hz : bs[j]? with
    | none => rw [hz] at hu; simp at hu
    | some z =>
      rw [hz] at hu
      simp at hu
      subst hu
      rw [addr_add]
      exact hcc j z hz
  · simp at hu
/-- how many of the bytes are taken -/
def cutN (n : Nat) : Nat := min n 1000
def cutB (bs : List Int) (sg : Bool) : List Int := if sg then signB (bs.take (cutN bs.length)) else bs.take (cutN bs.length)
theorem cutB_byts {bs : List Int} (h : Byts bs) (sg : Bool) : Byts (cutB bs sg) := by
  unfold cutB
  split
  · exact signB_byts (h.take _)
  · exact h.take _
theorem cutB_len (bs : List Int) (sg : Bool) : (cutB bs sg).length ≤ 1004 := by
  unfold cutB cutN
  split
  · rw [signB_len]; simp; omega
  · simp; omega
theorem errOf_two (bs : List Int) : errOf bs = 8 ∨ (errOf bs = 9 ∧ 4 ≤ bs.length ∧ signB (bs.take (bs.length - 4)) ≠ bs) := by
  unfold errOf
  split
  · exact .inl rfl
  · split
    · exact .inl rfl
    · rename_i h1 h2; exact .inr ⟨rfl, by omega, h2⟩
theorem sign_own (bs : List Int) : signB ((signB bs).take ((signB bs).length - 4)) = signB bs := by
  have : (signB bs).take ((signB bs).length - 4) = bs := by
    rw [signB_len, Nat.add_sub_cancel, signB, List.take_left]
  rw [this]
theorem errOf_signed (bs : List Int) : errOf (signB bs) = 8 := by
  rcases errOf_two (signB bs) with h | ⟨-, -, h⟩
  · exact h
  · exact absurd (sign_own bs) h
set_option maxRecDepth 100000 in
set_option maxHeartbeats 8000000 in
theorem WireOne_walk (v0 v1 : Value) (w : World) (h0 : shBytes.Val w v0) (h1 : Sh.bool.Val w v1) :
    Calls Try.prog 5 #[v0, v1] w fun e w' => e = .returned (.bool true) ∧ Below w.heap.size w w' := by
  obtain ⟨i0', hi, hz0, hz1, hz2⟩ := info_parts Try.info8
  obtain ⟨bs, hab, hby⟩ := bytes_of_val h0
  obtain ⟨sg, hsg⟩ : ∃ sg, v1 = .bool sg := by obtain ⟨b, hb⟩ := h1; exact ⟨b, by simpa using hb⟩
  subst hsg
  clear h0 h1
  have PS := Lib.hid (fun w => shown23 w)
  have HAB := Lib.hid hab
  have HBY := Lib.hid hby
  obtain ⟨ao, cap, rfl, hcap, hmx, -⟩ := hab
  obtain ⟨n, hn⟩ : ∃ n, n = bs.length := ⟨_, rfl⟩
  have HN := Lib.hid hn
  rw [← hn] at hcap ⊢
  clear hn hby
  obtain ⟨k, hk⟩ : ∃ k, k = cutN n := ⟨_, rfl⟩
  have hkn : k ≤ n := by rw [hk]; exact Nat.min_le_left _ _
  have hk1 : k ≤ 1000 := by rw [hk]; exact Nat.min_le_right _ _
  have hmin : min (n : Int) 1000 = (k : Int) := by rw [hk]; unfold cutN; omega
  have hkc : k ≤ cap := by omega
  have hkci : (k : Int) ≤ (cap : Int) := by omega
  have HTL : Hid ((bs.take k).length = k) := Lib.hid (by simp; have := HN.out; omega)
  have HCB : Hid (cutB bs sg = if sg then signB (bs.take k) else bs.take k) := Lib.hid (by unfold cutB; rw [← HN.out, ← hk])
  have HCL := Lib.hid (cutB_len bs sg)
  have HCY := Lib.hid (cutB_byts HBY.out sg)
  have HK := Lib.hid hk
  clear hk
  go_enter Try.func5, Try.ntmps5
  go_wp2_with fail
  with_reducible refine (PS.out _).mono ?_
  rintro e w2 ⟨rfl, hb⟩
  have HB2 := Lib.hid hb
  have HAB2 := Lib.hid (HAB.out.kept hb)
  rw [← HN.out] at HAB2
  clear hb PS
  have hown0 := World.ownsRow_lit (base := w.heap.size) (e := 5) (size := 1) w2 #[] 0 HB2.out.size (by unfold maxLen; omega) (by simp)
  have HO1 := Lib.hid hown0
  have HB3 : Hid (Below w2.heap.size w2 (w2.alloc (.cells #[] 5))) := Lib.hid ((Below.refl _ _).alloc (Nat.le_refl _) _)
  have HNEWS := Lib.hid ((HAB2.out.kept HB3.out).news k hkn)
  clear hown0
  go_wp2_with (at_builtin; refine wpList_append_lit rfl _ _ 22 rfl w.heap.size 5 i0' (.int .u8 0) 1 Try.underlying22 hi hz0 hz1 hz2 rfl w2.heap.size 0 rfl HO1.out ao k cap ((bs.take k).map (Value.int .u8)) rfl (by rw [List.length_map]; exact HTL.out) HNEWS.out (fun u hu => by obtain ⟨z, -, rfl⟩ := List.mem_map.1 hu; rfl) (by unfold maxLen; omega) (by omega) (by have := HB2.out.size; simp; omega) ?_)
  intro v5 w5 o5 g5 n5 q5
  have hlz := HTL.out
  have HO5 : Hid (OwnB w5 w.heap.size v5 (bs.take k)) := Lib.hid (by unfold OwnB; rw [hlz, List.map_take]; exact o5)
  have HB5 : Hid (Below w.heap.size w w5) := Lib.hid ((btr HB2.out HB3.out).grown g5 (by have := HB2.out.size; simp; omega) (fun q e => by have := Option.some.inj e; have := HB2.out.size; omega))
  obtain ⟨xo, xl, xc, rfl⟩ := HO5.out.open2
  clear o5 g5 n5 q5 HO1 HB2 HB3 HAB2 HNEWS hlz
  have PSG := Lib.hid (signed_any w5 (.slice xo xl xc) (bs.take k) HO5.out.at (HBY.out.take k) (by rw [HTL.out]; omega))
  cases sg
  rotate_left
  go_wp2_with fail
  with_reducible refine PSG.out.mono ?_
  rintro e w6 ⟨v6, rfl, ho6, -, hb6⟩
  have HV6 : Hid (BytesAt w6 v6 (cutB bs true)) := Lib.hid (by rw [HCB.out]; exact ho6.at)
  have HB6 := Lib.hid (btr HB5.out hb6)
  have HER : Hid (errOf (cutB bs true) = 8 ∨ (errOf (cutB bs true) = 9 ∧ 4 ≤ (cutB bs true).length ∧ true = false)) := Lib.hid (.inl (by rw [HCB.out]; exact errOf_signed _))
  obtain ⟨yo, yl, yc, rfl⟩ := ho6.open2
  clear ho6 hb6 HO5 HB5
  rotate_left
  obtain ⟨w6, hw6⟩ : ∃ w6, w6 = w5 := ⟨_, rfl⟩
  obtain ⟨yo, yl, yc, hyo, hyl, hyc⟩ : ∃ yo yl yc, yo = xo ∧ yl = xl ∧ yc = xc := ⟨_, _, _, rfl, rfl, rfl⟩
  subst hw6 hyo hyl hyc
  have HV6 : Hid (BytesAt w6 (.slice yo yl yc) (cutB bs false)) := Lib.hid (by rw [HCB.out]; exact HO5.out.at)
  have HB6 := HB5
  have HER : Hid (errOf (cutB bs false) = 8 ∨ (errOf (cutB bs false) = 9 ∧ 4 ≤ (cutB bs false).length ∧ false = false)) := Lib.hid (by
    rcases errOf_two (cutB bs false) with h | ⟨h1, h2, -⟩
    · exact .inl h
    · exact .inr ⟨h1, h2, rfl⟩)
  clear HO5 HB5
  all_goals
    clear PSG HCB
    generalize cutB bs _ = l at *
    have PD := Lib.hid (decode_any w6 (.slice yo yl yc) l HV6.out HCY.out (by have := HCL.out; omega))
    have hyl : yl = l.length := by obtain ⟨ao2, cap2, e, -⟩ := HV6.out; simp only [Value.slice.injEq] at e; exact e.2.1
    have HYL := Lib.hid hyl
    clear hyl
    go_wp2_with fail
    with_reducible refine PD.out.mono ?_
    rintro e w7 ⟨⟨b, r, d, m, s, Z, S, L, X, A, G, C, hds, rfl, hS, hst⟩ | ⟨hno, rfl⟩, hb7⟩
    rotate_left
    · have HB7 := Lib.hid (btr HB6.out hb7)
      clear hb7 hno PD
      rcases HER.out with h8 | ⟨h9, h4, hf⟩
      · rw [h8]
        clear h8
        go_wp2
        go_ret
        exact ⟨rfl, HB7.out⟩
      · first
        | (exact absurd hf (by decide))
        | (rw [h9]
           have hy4 : 4 ≤ yl := by rw [HYL.out]; exact h4
           have hy4i : (4 : Int) ≤ (yl : Int) := by omega
           clear h9 h4 hf
           go_wp2
           go_ret
           exact ⟨rfl, HB7.out⟩)
    · have HB7 := Lib.hid (btr HB6.out hb7)
      have HDS := Lib.hid hds
      have HST7 := Lib.hid hst
      have HV7 := Lib.hid (HV6.out.kept hb7)
      clear hds hst hb7 hS PD
      have HEN : Hid (encB b r d m s Z = l) := Lib.hid HDS.out.2.2.2.2.symm
      have PE := Lib.hid (fun wq hq => encode_any wq w6.heap.size S L b r d m s X A G C Z hq HDS.out.2.1 HDS.out.2.2.1 (by
        have h1 := HCL.out
        have h2 := congrArg List.length HEN.out
        rw [encB, signB_len] at h2
        omega))
      rw [HEN.out] at PE
      have HCV := Lib.hid (fun (wq : World) (v : Value) (hq : BytesAt wq v l) => strB_conv (P := Try.prog) hq 22 5 9 Try.underlying22 Try.underlying5 Try.underlying9)
      go_wp2_with fail
      refine wp_region_held_drew (S := fun w' => StIs w' w6.heap.size S L b r d m s X A G C Z ∧ BytesAt w' (.slice yo yl yc) l ∧ Sem.run Try.prog (convert 22 9 (.slice yo yl yc)) w' = .ok (.string (strB l)) w' ∧ Below w.heap.size w w') (by kernel_rfl) (by exact ⟨HST7.out.kept (below_drewN (Below.refl _ _) 1), HV7.out.kept (below_drewN (Below.refl _ _) 1), HCV.out _ _ (HV7.out.kept (below_drewN (Below.refl _ _) 1)), below_drewN HB7.out 1⟩) (fun hHeld => ?_)
      refine wpAnyH_take (i := 0) (v := ?_) rfl (by kernel_rfl) (by kernel_rfl) (by kernel_rfl) (fun _ _ _ h => h) (Or.inl ⟨by rfl, ?_⟩) (by assumption) ?_
      rotate_left
      · intro w hSw
        try dsimp only at hSw
        go_simp
        try with_reducible rfl
      simp only [Act.put, List.setIfInBounds_toArray, List.set_cons_zero, List.set_cons_succ, List.getElem_toArray, List.getElem_cons_zero, List.getElem_cons_succ]
      refine wpAnyH_take (i := 1) (v := ?_) rfl (by kernel_rfl) (by kernel_rfl) (by kernel_rfl) (fun _ _ _ h => h) (Or.inl ⟨by rfl, ?_⟩) (by assumption) ?_
      rotate_left
      · intro w hSw
        try dsimp only at hSw
        go_simp
        try with_reducible rfl
      simp only [Act.put, List.setIfInBounds_toArray, List.set_cons_zero, List.set_cons_succ, List.getElem_toArray, List.getElem_cons_zero, List.getElem_cons_succ]
      refine wpAnyH_take (i := 2) (v := ?_) rfl (by kernel_rfl) (by kernel_rfl) (by kernel_rfl) (fun _ _ _ h => h) (Or.inl ⟨by rfl, ?_⟩) (by assumption) ?_
      rotate_left
      · intro w hSw
        try dsimp only at hSw
        go_simp
        try with_reducible rfl
      simp only [Act.put, List.setIfInBounds_toArray, List.set_cons_zero, List.set_cons_succ, List.getElem_toArray, List.getElem_cons_zero, List.getElem_cons_succ]
      refine wpAnyH_take (i := 5) (v := ?_) rfl (by kernel_rfl) (by kernel_rfl) (by kernel_rfl) (fun _ _ _ h => h) (Or.inl ⟨by rfl, ?_⟩) (by assumption) ?_
      rotate_left
      · intro w hSw
        try dsimp only at hSw
        go_simp
        try with_reducible rfl
      simp only [Act.put, List.setIfInBounds_toArray, List.set_cons_zero, List.set_cons_succ, List.getElem_toArray, List.getElem_cons_zero, List.getElem_cons_succ]
      refine wpAnyH_take (i := 6) (v := ?_) rfl (by kernel_rfl) (by kernel_rfl) (by kernel_rfl) (fun _ _ _ h => h) (Or.inl ⟨by rfl, ?_⟩) (by assumption) ?_
      rotate_left
      · intro w hSw
        try dsimp only at hSw
        go_simp
        try with_reducible rfl
      simp only [Act.put, List.setIfInBounds_toArray, List.set_cons_zero, List.set_cons_succ, List.getElem_toArray, List.getElem_cons_zero, List.getElem_cons_succ]
      refine wpAnyH_ready (rs := [3]) (by kernel_rfl) (by simp) ?_
      refine AllReadyH.cons rfl (fun Kc hKc => ?_) AllReadyH.nil
      go_simp
      go_wp2_with (go_at_call 13; refine (PE.out _ hHeld.1).mono ?_; rintro e w8 ⟨v8, rfl, ho8, hb'⟩; have cv8 := HCV.out _ _ ho8.at; clear ho8)
      refine hKc.out _ _ ?_ (fun hHeld => ?_)
      · first | assumption | exact ⟨hHeld.1.kept hb', hHeld.2.1.kept hb', HCV.out _ _ (hHeld.2.1.kept hb'), btr hHeld.2.2.2 hb'⟩
      clear hKc Kc
      refine wpAnyH_ready (rs := [4]) (by kernel_rfl) (by simp) ?_
      refine AllReadyH.cons rfl (fun Kc hKc => ?_) AllReadyH.nil
      go_simp
      refine hKc.out _ _ ?_ (fun hHeld => ?_)
      · first | assumption | exact ⟨hHeld.1.kept hb', hHeld.2.1.kept hb', HCV.out _ _ (hHeld.2.1.kept hb'), btr hHeld.2.2.2 hb'⟩
      clear hKc Kc
      refine wpAnyH_take (i := 7) (v := ?_) rfl (by kernel_rfl) (by kernel_rfl) (by kernel_rfl) (fun _ _ _ h => h) (Or.inl ⟨by rfl, ?_⟩) (by assumption) ?_
      rotate_left
      · intro w hSw
        try dsimp only at hSw
        go_simp
        try with_reducible rfl
      simp only [Act.put, List.setIfInBounds_toArray, List.set_cons_zero, List.set_cons_succ, List.getElem_toArray, List.getElem_cons_zero, List.getElem_cons_succ]
      refine wpAnyH_take (i := 8) (v := ?_) rfl (by kernel_rfl) (by kernel_rfl) (by kernel_rfl) (fun _ _ _ h => h) (Or.inl ⟨by rfl, ?_⟩) (by assumption) ?_
      rotate_left
      · intro w hSw
        try dsimp only at hSw
        go_simp
        try with_reducible rfl
      simp only [Act.put, List.setIfInBounds_toArray, List.set_cons_zero, List.set_cons_succ, List.getElem_toArray, List.getElem_cons_zero, List.getElem_cons_succ]
      refine wpAnyH_take (i := 9) (v := ?_) rfl (by kernel_rfl) (by kernel_rfl) (by kernel_rfl) (fun _ _ _ h => h) (Or.inl ⟨by rfl, ?_⟩) (by assumption) ?_
      rotate_left
      · intro w hSw
        try dsimp only at hSw
        go_simp
        try with_reducible rfl
      simp only [Act.put, List.setIfInBounds_toArray, List.set_cons_zero, List.set_cons_succ, List.getElem_toArray, List.getElem_cons_zero, List.getElem_cons_succ]
      refine wpAnyH_done (by kernel_rfl) ?_ _
      go_wp2
      go_ret
      exact ⟨rfl, hHeld.2.2.2⟩
end Go.Proofs.Ytbghchgmoiniiaa
