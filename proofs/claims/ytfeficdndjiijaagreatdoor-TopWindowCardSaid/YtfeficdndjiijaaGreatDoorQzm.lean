import Derived.Test.YtfeficdndjiijaaGreatDoorQzl
import Derived.Lib.SmallJoins
import Derived.Test.YtfeficdndjiijaaGreatDoorQzk
import Derived.Test.YtfeficdndjiijaaGreatDoorQzf
import Derived.Test.YtfeficdndjiijaaGreatDoorQza
import Derived.Test.YtfeficdndjiijaaGreatDoorQzc
/-
  Contracts of the functions that TopWindow reaches, and the plain laws that it leans on. Conditions: none beyond those stated at each theorem.
-/
namespace Go.Proofs.YtfeficdndjiijaaGreatDoor
open Go.RowKit
set_option linter.unusedVariables false
set_option linter.unusedSimpArgs false

def numsB (ns : List Nat) : List Int := ns.flatMap putN
theorem numsB_snoc (ns : List Nat) (k : Nat) : numsB (ns ++ [k]) = numsB ns ++ putN k := by simp [numsB]
theorem numsB_le {ns : List Nat} (h : ∀ k ∈ ns, k ≤ 128) : (numsB ns).length ≤ 10 * ns.length := by
  induction ns with
  | nil => simp [numsB]
  | cons k ns ih =>
    have e : numsB (k :: ns) = putN k ++ numsB ns := by simp [numsB]
    rw [e, List.length_append, List.length_cons]
    have := putN_len10 (u := k) (by have := h k (by simp); omega)
    have := ih (fun k hk => h k (by simp [hk]))
    omega
theorem four_step {nb nr nd nm j : Nat} (hb : nb ≤ 59) (hr : nr ≤ 8) (hd : nd ≤ 128) (hm : nm ≤ 3) (hj : j < 4) : ∃ q : Nat, q ≤ 128 ∧ [nb, nr, nd, nm].take (j + 1) = [nb, nr, nd, nm].take j ++ [q] ∧ (#[.int .i64 (nb : Int), .int .i64 (nr : Int), .int .i64 (nd : Int), .int .i64 (nm : Int)] : Array Value)[j]? = some (.int .i64 (q : Int)) ∧ (numsB ([nb, nr, nd, nm].take j)).length ≤ 1000 := by
  have hall : ∀ k ∈ [nb, nr, nd, nm], k ≤ 128 := by
    intro k hk
    simp at hk
    omega
  have hle : (numsB ([nb, nr, nd, nm].take j)).length ≤ 1000 := by
    have := numsB_le (ns := [nb, nr, nd, nm].take j) (fun k hk => hall k (List.mem_of_mem_take hk))
    have h2 : ([nb, nr, nd, nm].take j).length ≤ 4 := by simp; omega
    omega
  rcases (show j = 0 ∨ j = 1 ∨ j = 2 ∨ j = 3 by omega) with rfl | rfl | rfl | rfl
  · exact ⟨nb, by omega, rfl, rfl, hle⟩
  · exact ⟨nr, by omega, rfl, rfl, hle⟩
  · exact ⟨nd, by omega, rfl, rfl, hle⟩
  · exact ⟨nm, by omega, rfl, rfl, hle⟩
set_option maxRecDepth 100000 in
set_option maxHeartbeats 8000000 in
theorem encode_any (w : World) (base S L : Nat) (b r d m s : Int) (X : Nat → Value) (A G C : Nat → Nat) (Z : Nat → List Int) (h : StIs w base S L b r d m s X A G C Z) (s0 : 0 ≤ s) (s1 : s < 18446744073709551616) (hl : (headB b r d m s ++ rowsB Z (b.toNat + 1)).length ≤ 100000) :
  Calls Tryz.prog 92 #[.pointer (some ⟨S, 0, none⟩)] w (PostC w (encB b r d m s Z)) := by
 obtain ⟨i0', hi, hz0, hz1, hz2⟩ := info_parts Tryz.info8
 have HST := Lib.hid h
 have HL := Lib.hid hl
 have hR := right_of h.right
 have PC := Lib.hid (stconfig w base S L b r d m s X A G C Z h)
 obtain ⟨nb, nr, nd, nm, rfl, rfl, rfl, rfl⟩ : ∃ nb nr nd nm : Nat, b = (nb : Int) ∧ r = (nr : Int) ∧ d = (nd : Int) ∧ m = (nm : Int) := ⟨b.toNat, r.toNat, d.toNat, m.toNat, by omega, by omega, by omega, by omega⟩
 have hb59 : nb ≤ 59 := by omega
 have hr8 : nr ≤ 8 := by omega
 have hd128 : nd ≤ 128 := by omega
 have hm3 : nm ≤ 3 := by omega
 clear h hl hR
 go_enter Tryz.func92, Tryz.ntmps92
 go_wp2_with fail
 with_reducible refine PC.out.mono ?_
 rintro e w2 ⟨rfl, hb2⟩
 have HB2 := Lib.hid hb2
 have HST2 := Lib.hid (HST.out.kept hb2)
 clear hb2 PC
 have kc := Joins.run_convert_bytes_const_at (P := Tryz.prog) (w2.alloc (.cells #[.int .i64 (nb : Int), .int .i64 (nr : Int), .int .i64 (nd : Int), .int .i64 (nm : Int), .int .u64 s] 24)) 41 5 #[.int .u8 71, .int .u8 65] 2 2 (w2.heap.size + 1) (by simp) Tryz.underlying41 Tryz.underlying5
 go_upto_region 3 with fail
 clear kc
 obtain ⟨g1, g2, hb3, hsz3⟩ := news2 w2 (.cells #[.int .i64 (nb : Int), .int .i64 (nr : Int), .int .i64 (nd : Int), .int .i64 (nm : Int), .int .u64 s] 24) (.cells #[.int .u8 71, .int .u8 65] 5 (2, 3))
 have HC3 : Hid (Blk _ w2.heap.size 24 #[.int .i64 (nb : Int), .int .i64 (nr : Int), .int .i64 (nd : Int), .int .i64 (nm : Int), .int .u64 s]) := Lib.hid g1
 have HB3 := Lib.hid (btr HB2.out hb3)
 have HST3 := Lib.hid (HST2.out.kept hb3)
 have HMK : Hid (BytesAt ((w2.alloc (.cells #[.int .i64 (nb : Int), .int .i64 (nr : Int), .int .i64 (nd : Int), .int .i64 (nm : Int), .int .u64 s] 24)).alloc (.cells #[.int .u8 71, .int .u8 65] 5 (2, 3))) (.slice (some ⟨w2.heap.size + 1, 0, none⟩) 2 2) [71, 65]) := Lib.hid ⟨_, 2, rfl, by simp, by unfold maxLen; omega, .inr ⟨w2.heap.size + 1, 0, rfl, by simp, fun i u hu => by
  have hc := Joins.cell_alloc_mark_at (w2.alloc (.cells #[.int .i64 (nb : Int), .int .i64 (nr : Int), .int .i64 (nd : Int), .int .i64 (nm : Int), .int .u64 s] 24)) #[.int .u8 71, .int .u8 65] 5 (2, 3) (w2.heap.size + 1) i (by simp)
  rw [Nat.zero_add, hc]
  have : ([71, 65] : List Int)[i]? = some u := hu
  match i, this with
  | 0, h => simpa using h
  | 1, h => simpa using h⟩⟩
 have HCL : Hid (w.heap.size ≤ w2.heap.size) := Lib.hid HB2.out.size
 clear g1 g2 hb3 hsz3 HST2 HB2
 generalize (w2.alloc (.cells #[.int .i64 (nb : Int), .int .i64 (nr : Int), .int .i64 (nd : Int), .int .i64 (nm : Int), .int .u64 s] 24)).alloc (.cells #[.int .u8 71, .int .u8 65] 5 (2, 3)) = w3 at *
 generalize w2.heap.size = CB at *
 have k0 := HC3.out.cell 0
 have k1 := HC3.out.cell 1
 have k2 := HC3.out.cell 2
 have k3 := HC3.out.cell 3
 simp at k0 k1 k2 k3
 have HLB := Lib.hid (Blk.new w3 3 #[.int .i64 (nb : Int), .int .i64 (nr : Int), .int .i64 (nd : Int), .int .i64 (nm : Int)])
 have HAL : Hid (Below w3.heap.size w3 (w3.alloc (.cells #[.int .i64 (nb : Int), .int .i64 (nr : Int), .int .i64 (nd : Int), .int .i64 (nm : Int)] 3))) := Lib.hid ((Below.refl _ _).alloc (Nat.le_refl _) _)
 have HC4 := Lib.hid (HC3.out.kept HAL.out)
 have HB4 := Lib.hid (btr HB3.out HAL.out)
 have HST4 := Lib.hid (HST3.out.kept HAL.out)
 have HMK4 := Lib.hid (HMK.out.kept HAL.out)
 have hsz4 := HB3.out.size
 go_wp2_with fail
 clear k0 k1 k2 k3 HC3 HB3 HST3 HMK HAL
 generalize w3.alloc (.cells #[.int .i64 (nb : Int), .int .i64 (nr : Int), .int .i64 (nd : Int), .int .i64 (nm : Int)] 3) = w4 at *
 generalize w3.heap.size = LB at *
 go_loopw [4, 22] (fun x i wr => ∃ j : Nat, j ≤ 4 ∧ i = .int .i64 (j : Int) ∧ BytesAt wr x ([71, 65] ++ numsB ([nb, nr, nd, nm].take j)) ∧ (0 < j → OwnB wr w.heap.size x ([71, 65] ++ numsB ([nb, nr, nd, nm].take j))) ∧ Blk wr LB 3 #[.int .i64 (nb : Int), .int .i64 (nr : Int), .int .i64 (nd : Int), .int .i64 (nm : Int)] ∧ Blk wr CB 24 #[.int .i64 (nb : Int), .int .i64 (nr : Int), .int .i64 (nd : Int), .int .i64 (nm : Int), .int .u64 s] ∧ StIs wr base S L nb nr nd nm s X A G C Z ∧ Below w.heap.size w wr) (fun _ i _ => 4 - (intOf i).toNat)
 case atStart => exact ⟨0, by omega, rfl, by simpa [numsB] using HMK4.out, fun h => by omega, HLB.out, HC4.out, HST4.out, HB4.out⟩
 case round =>
  obtain ⟨j, hj, rfl, hx, hox, hlb, hcb, hst, hbel⟩ := hrel
  obtain ⟨xo, xl, xc, rfl⟩ : ∃ xo xl xc, u4 = .slice xo xl xc := by obtain ⟨xo, xc, e, -⟩ := hx; exact ⟨xo, _, xc, e⟩
  have HX := Lib.hid hx
  have HOX := Lib.hid hox
  have HLB5 := Lib.hid hlb
  have HC5 := Lib.hid hcb
  have HST5 := Lib.hid hst
  have HB5 := Lib.hid hbel
  clear hx hox hlb hcb hst hbel HMK4 HLB HC4 HST4 HB4
  by_cases hlt : j < 4
  ·obtain ⟨q, hq1, hq2, hq3, hq4⟩ := four_step hb59 hr8 hd128 hm3 hlt
   have HQ := Lib.hid hq2
   have cx := (HLB5.out.cell j).trans hq3
   have i0 : (0 : Int) ≤ (j : Int) := by omega
   have i1 : (j : Int) < 4 := by omega
   have PP := Lib.hid (put_any' wr _ _ q HX.out (by omega) (by simp; omega))
   have e1 : IntKind.u64.wrap (q : Int) = (q : Int) := by rw [wrapU_mod]; omega
   clear hq2 hq3
   go_wp2_with fail
   with_reducible refine PP.out.mono ?_
   rintro e w6 ⟨v6, rfl, ho6, hb6⟩
   have HO6 : Hid (OwnB w6 w.heap.size v6 ([71, 65] ++ numsB ([nb, nr, nd, nm].take (j + 1)))) := Lib.hid (by rw [HQ.out, numsB_snoc, ← List.append_assoc]; exact ho6.pre HB5.out.size)
   have HB6 := Lib.hid (btr HB5.out hb6)
   have HLB6 := Lib.hid (HLB5.out.kept hb6)
   have HC6 := Lib.hid (HC5.out.kept hb6)
   have HST6 := Lib.hid (HST5.out.kept hb6)
   obtain ⟨vo, vl, vc, rfl⟩ := ho6.open2
   clear ho6 hb6 PP HX HOX HLB5 HC5 HST5 HB5
   go_wp2
   go_roundw
   case rel => exact ⟨j + 1, by omega, by go_num, HO6.out.at, fun _ => HO6.out, HLB6.out, HC6.out, HST6.out, HB6.out⟩
   case measure => simp [intOf]; omega
  ·obtain rfl : j = 4 := by omega
   have HO5 : Hid (OwnB wr w.heap.size (.slice xo xl xc) ([71, 65] ++ numsB [nb, nr, nd, nm])) := Lib.hid (HOX.out (by omega))
   have HLN : Hid (([71, 65] ++ numsB [nb, nr, nd, nm]).length ≤ 1000) := Lib.hid (by
    have := numsB_le (ns := [nb, nr, nd, nm]) (fun k hk => by simp at hk; omega)
    simp only [List.length_append, List.length_cons, List.length_nil] at this ⊢
    omega)
   have HHD : Hid ([71, 65] ++ numsB [nb, nr, nd, nm] ++ leB s 8 = headB (nb : Int) nr nd nm s) := Lib.hid (by simp [headB, numsB])
   have k4 := HC5.out.cell 4
   simp at k4
   have PLW : Hid (Calls Tryz.prog 31 #[.slice xo xl xc, .int .u64 s, .int .i64 8] wr (OwnPost wr w.heap.size (.slice xo xl xc) ([71, 65] ++ numsB [nb, nr, nd, nm] ++ leB s 8))) := Lib.hid (low_any wr w.heap.size _ _ s 8 HO5.out HB5.out.size s0 (by omega) (by decide) (by have := HLN.out; omega))
   have i1 : ¬ ((4 : Nat) : Int) < 4 := by omega
   rw [HHD.out] at PLW
   clear hlt HX HOX HLN
   go_wp2_with fail
   with_reducible refine PLW.out.mono ?_
   rintro e w6 ⟨v6, rfl, ho6, hg6, -⟩
   have HO6 := Lib.hid ho6
   have HB6 : Hid (Below w.heap.size w w6) := Lib.hid (HB5.out.grown hg6 HB5.out.size (fun k e => (HO5.out.lt k e).1))
   have HC6 : Hid (Blk w6 CB 24 #[.int .i64 (nb : Int), .int .i64 (nr : Int), .int .i64 (nd : Int), .int .i64 (nm : Int), .int .u64 s]) := Lib.hid (HC5.out.grown hg6 (HO5.out.far HC5.out (by decide)))
   obtain ⟨vo, vl, vc, rfl⟩ := ho6.open2
   have k0 := HC6.out.cell 0
   simp at k0
   have HLT : Hid (∀ j, j ≤ nb + 1 → (headB (nb : Int) nr nd nm s ++ rowsB Z j).length ≤ 100000) := Lib.hid (fun j hj => by
    have h1 := HL.out
    have h2 : ∀ i, (rowsB Z j).length ≤ (rowsB Z (j + i)).length := fun i => by
     induction i with
     | zero => exact Nat.le_refl _
     | succ i ih => rw [← Nat.add_assoc, rowsB, List.length_append]; omega
    have h3 := h2 (nb + 1 - j)
    rw [show j + (nb + 1 - j) = nb + 1 by omega] at h3
    rw [List.length_append] at h1 ⊢
    simp only [Int.toNat_natCast] at h1
    omega)
   clear ho6 hg6 PLW HO5 HC5 HB5 HST5 HLB5 HHD
   go_wp2_with fail
   clear k0 k4
   generalize wr = wo at *
   go_loopw [4, 38] (fun x i wr => ∃ j : Nat, j ≤ nb + 1 ∧ i = .int .i64 (j : Int) ∧ OwnB wr w.heap.size x (headB (nb : Int) nr nd nm s ++ rowsB Z j) ∧ Blk wr CB 24 #[.int .i64 (nb : Int), .int .i64 (nr : Int), .int .i64 (nd : Int), .int .i64 (nm : Int), .int .u64 s] ∧ Below w.heap.size w wr) (fun _ i _ => nb + 1 - (intOf i).toNat)
   case atStart => exact ⟨0, by omega, rfl, by simpa [rowsB] using HO6.out, HC6.out, HB6.out⟩
   case round =>
    obtain ⟨j, hj, rfl, hox, hcb, hbel⟩ := hrel
    have HO7 := Lib.hid hox
    have HC7 := Lib.hid hcb
    have HB7 := Lib.hid hbel
    obtain ⟨xo, xl, xc, rfl⟩ := hox.open2
    clear hox hcb hbel HO6 HC6 HB6
    by_cases hlt : j < nb + 1
    ·have i0 : (0 : Int) ≤ (j : Int) := by omega
     have i1 : (j : Int) < (nb : Int) + 1 := by omega
     have hlev := HST.out.lev j (by simp; omega)
     have hzf := hlev.fit
     have hzl := hlev.le
     have hz0' : 0 < (Z j).length := by rw [hlev.len]; exact cellsN_pos HST.out.right (by omega) (by omega)
     have HZF := Lib.hid hzf
     have HZL := Lib.hid hzl
     have HRP : Hid (0 < (rowB (Z j)).length) := Lib.hid (by have := rowB_ge (Z j); omega)
     have HRL : Hid ((rowB (Z j)).length ≤ 10240) := Lib.hid (by have := rowB_le (Z j) hzf; omega)
     have PCE := Lib.hid (stcells wr base S L nb nr nd nm s X A G C Z (HST.out.kept HB7.out) j (by simp; omega))
     have HLJ := Lib.hid (HLT.out j (by omega))
     clear hlev hzf hzl hz0'
     go_wp2_with fail
     with_reducible refine PCE.out.mono ?_
     rintro e w8 ⟨v8, rfl, ho8, -, hb8⟩
     have HB8 := Lib.hid (btr HB7.out hb8)
     have HO8 := Lib.hid (HO7.out.kept hb8)
     have HC8 := Lib.hid (HC7.out.kept hb8)
     have hints : IntsAt w8 v8 (Z j) := IntsAt.of_own ho8 rfl
     have PPR : Hid (Calls Tryz.prog 133 #[.slice none 0 0, v8] w8 (PostC w8 (rowB (Z j)))) := Lib.hid (by simpa using putrow_any w8 (.slice none 0 0) v8 [] (Z j) ⟨none, 0, rfl, by simp, by unfold maxLen; omega, .inl ⟨rfl, rfl⟩⟩ hints HZF.out (by simp) (by have := HZL.out; omega))
     obtain ⟨yo, yl, yc, rfl⟩ : ∃ yo yl yc, v8 = .slice yo yl yc := by obtain ⟨yo, yc, e, -⟩ := hints; exact ⟨yo, _, yc, e⟩
     clear ho8 hb8 hints PCE HO7 HC7 HB7
     go_wp2_with fail
     with_reducible refine PPR.out.mono ?_
     rintro e w9 ⟨v9, rfl, ho9, hb9⟩
     have HB9 := Lib.hid (btr HB8.out hb9)
     have HO9 := Lib.hid (HO8.out.kept hb9)
     have HC9 := Lib.hid (HC8.out.kept hb9)
     obtain ⟨ao9, cap9, e9, hc9, hm9, -⟩ := ho9.at
     have HNW := Lib.hid (BytesAt.news (n := (rowB (Z j)).length) (by rw [← e9]; exact ho9.at) rfl w9 (Below.refl _ _))
     subst e9
     obtain ⟨ad9, ead, hnw⟩ := HNW.out HRP.out
     subst ead
     have HNW2 := Lib.hid hnw
     obtain ⟨rl, hrl⟩ : ∃ rl, rl = (rowB (Z j)).length := ⟨_, rfl⟩
     have HRLQ := Lib.hid hrl
     rw [← hrl] at hc9 HRL HRP HNW ⊢
     have hc1 : (headB (nb : Int) nr nd nm s ++ rowsB Z j).length + rl ≤ maxLen := by have := HLJ.out; have := HRL.out; unfold maxLen; omega
     have hc4 : ((headB (nb : Int) nr nd nm s ++ rowsB Z j).length + rl) * 1 ≤ 140737488355328 := by have := HLJ.out; have := HRL.out; omega
     clear hnw ho9 hb9 hrl PPR HO8 HC8 HB8
     go_wp2_with (at_builtin; go_loud (refine wpList_append_own_at _ rfl _ _ 41 rfl w.heap.size 5 i0' (.int .u8 0) 1 1 Tryz.underlying41 hi hz0 hz1 hz2 rfl (by decide) _ (headB (nb : Int) nr nd nm s ++ rowsB Z j).length _ rfl HO9.out ad9 rl cap9 ((rowB (Z j)).map (Value.int .u8)) rfl (by rw [List.length_map, Nat.mul_one]; exact HRLQ.out.symm) HNW2.out ?c2 hc1 hc4 ?c5 ?_))
     case c2 => exact fun u hu => by obtain ⟨z, -, rfl⟩ := List.mem_map.1 hu; rfl
     case c5 => exact HB9.out.size
     intro va wa hown' hgrow hnil' hq9
     have HOA : Hid (OwnB wa w.heap.size va (headB (nb : Int) nr nd nm s ++ rowsB Z (j + 1))) := Lib.hid (by
      unfold OwnB
      rw [rowsB, ← List.append_assoc, List.length_append (bs := rowB (Z j)), ← HRLQ.out, List.map_append]
      simpa using hown')
     have HBA : Hid (Below w.heap.size w wa) := Lib.hid (HB9.out.grown hgrow HB9.out.size (fun k e => (HO9.out.lt k e).1))
     have HCA : Hid (Blk wa CB 24 #[.int .i64 (nb : Int), .int .i64 (nr : Int), .int .i64 (nd : Int), .int .i64 (nm : Int), .int .u64 s]) := Lib.hid (HC9.out.grown hgrow (HO9.out.far HC9.out (by decide)))
     obtain ⟨zo, zl, zc, rfl⟩ := HOA.out.open2
     clear hown' hgrow hnil' hq9 HO9 HC9 HB9 hc1 hc4
     go_wp2
     go_roundw
     case rel => exact ⟨j + 1, by omega, by go_num, HOA.out, HCA.out, HBA.out⟩
     case measure => simp [intOf]; omega
    ·obtain rfl : j = nb + 1 := by omega
     have i1 : ¬ (((nb + 1 : Nat) : Int) < (nb : Int) + 1) := by omega
     have HLJ := Lib.hid (HLT.out (nb + 1) (by omega))
     have HBY : Hid (Byts (headB (nb : Int) nr nd nm s ++ rowsB Z (nb + 1))) := Lib.hid ((headB_byts _ _ _ _ _).append (rowsB_byts _ _))
     have HEN : Hid (encB (nb : Int) nr nd nm s Z = (headB (nb : Int) nr nd nm s ++ rowsB Z (nb + 1)) ++ leB (sumI 0 (headB (nb : Int) nr nd nm s ++ rowsB Z (nb + 1))) 4) := Lib.hid rfl
     have PSU := Lib.hid (sum_any (.slice xo xl xc) _ wr HO7.out.at HBY.out HLJ.out)
     have hsb := sumI_bd 0 (headB (nb : Int) nr nd nm s ++ rowsB Z (nb + 1))
     generalize headB (nb : Int) nr nd nm s ++ rowsB Z (nb + 1) = body at *
     generalize sumI 0 body = sm at *
     have e5 : IntKind.u64.wrap sm = sm := u32_u64 sm hsb.1 hsb.2
     clear hlt HLT
     go_wp2_with fail
     with_reducible refine PSU.out.mono ?_
     rintro e w8 ⟨rfl, hb8⟩
     have HB8 := Lib.hid (btr HB7.out hb8)
     have HO8 := Lib.hid (HO7.out.kept hb8)
     have PLW : Hid (Calls Tryz.prog 31 #[.slice xo xl xc, .int .u64 sm, .int .i64 4] w8 (OwnPost w8 w.heap.size (.slice xo xl xc) (body ++ leB sm 4))) := Lib.hid (low_any w8 w.heap.size _ _ sm 4 HO8.out HB8.out.size hsb.1 (by omega) (by decide) (by have := HLJ.out; omega))
     clear hb8 PSU HO7 HB7 HC7
     go_wp2_with fail
     with_reducible refine PLW.out.mono ?_
     rintro e w9 ⟨v9, rfl, ho9, hg9, -⟩
     have HO9 := Lib.hid ho9
     have HB9 : Hid (Below w.heap.size w w9) := Lib.hid (HB8.out.grown hg9 HB8.out.size (fun k e => (HO8.out.lt k e).1))
     clear ho9 hg9 PLW
     go_wp2
     go_ret
     exact ⟨_, rfl, by rw [HEN.out]; exact HO9.out, HB9.out⟩
end Go.Proofs.YtfeficdndjiijaaGreatDoor


namespace Go.Proofs.YtfeficdndjiijaaGreatDoor
open Go.RowKit
set_option linter.unusedVariables false
set_option linter.unusedSimpArgs false

def wTick : List UInt8 := [116, 105, 99, 107]
end Go.Proofs.YtfeficdndjiijaaGreatDoor


namespace Go.Proofs.YtfeficdndjiijaaGreatDoor
open Go.RowKit
set_option linter.unusedVariables false
set_option linter.unusedSimpArgs false

def txM (s z : Value) : Nat := match z with
  | .bool true => 0
  | _ => match s with
    | .string b => 30 - b.size
    | _ => 0
theorem digit9 (x : Int) (x0 : -9223372036854775808 ≤ x) (x1 : x ≤ 9223372036854775807) : decide (32768 ≤ digit x 9) = decide (x < 0) := by
  rw [digit_hi x x0 x1 9 (by decide)]
  by_cases h : x < 0
  · simp [h]
  · simp [h]
set_option maxRecDepth 100000 in
set_option maxHeartbeats 2000000 in
theorem lbelow_any (x : Int) (x0 : -9223372036854775808 ≤ x) (x1 : x ≤ 9223372036854775807) (w : World) :
    Calls Tryz.prog 106 #[.agg (longA x)] w fun e w' => e = .returned (.bool (decide (x < 0))) ∧ Below w.heap.size w w' := by
  have HD := Lib.hid (digit9 x x0 x1)
  have hb := digit_bd x 9
  obtain ⟨g1, hb1, hsz1⟩ := news1 w (.cells (longA x) 163)
  have hx : Blk _ w.heap.size 163 (longA x) := g1
  have c9 := (hx.cell 9).trans (longA_get x 9 (by decide))
  have HB := Lib.hid hb1
  clear g1 hb1 hsz1 hx x0 x1
  generalize digit x 9 = q at *
  go_enter Tryz.func106, Tryz.ntmps106
  go_wp2
  go_ret
  refine ⟨?_, HB.out⟩
  rw [← HD.out]
  rfl
set_option maxRecDepth 100000 in
set_option maxHeartbeats 8000000 in
theorem ltext_any (x : Int) (x0 : -9223372036854775808 ≤ x) (x1 : x ≤ 9223372036854775807) (w : World) :
  Calls Tryz.prog 59 #[.agg (longA x)] w fun e w' => e = .returned (.string (sB (Lib.itoa x))) ∧ Below w.heap.size w w' := by
 have PB := Lib.hid (fun w => lbelow_any x x0 x1 w)
 have PM := Lib.hid (fun w => lminus_any x w)
 obtain ⟨g1, hb1, hsz1⟩ := news1 w (.cells (longA x) 163)
 have hx : Blk _ w.heap.size 163 (longA x) := g1
 have HX := Lib.hid hx
 have HB := Lib.hid hb1
 have HI := long_info x
 have HX01 := Lib.hid (And.intro x0 x1)
 clear g1 hx hb1 hsz1 x0 x1
 obtain ⟨X0, hX0⟩ : ∃ X0 : Nat, X0 = x.natAbs := ⟨_, rfl⟩
 have HX0 := Lib.hid hX0
 obtain ⟨sg, hsg⟩ : ∃ sg : List UInt8, sg = if x < 0 then [45] else [] := ⟨_, rfl⟩
 have HSG := Lib.hid hsg
 clear hX0 hsg
 go_enter Tryz.func59, Tryz.ntmps59
 go_wp2_with (refine wpList_load_row rfl 163 _ rfl w.heap.size rfl 163 (longA x) (0, 0) _ HX.out Tryz.underlying163 rfl HI ?_)
 generalize (w.alloc (.cells (longA x) 163)) = w1 at *
 generalize hA : w.heap.size = A at *
 have HA := Lib.hid hA
 clear hA
 with_reducible refine (PB.out _).mono ?_
 rintro e w2 ⟨rfl, hb⟩
 have HX2 := Lib.hid (HX.out.kept hb)
 have HB2 : Hid (Below A w w2) := Lib.hid (HB.out.trans (hb.mono (by have := HX.out.lt; omega)))
 clear hb HX HB PB
 go_upto_if 10 with fail
 go_cut [3] (fun v wx => v = .string (sB sg) ∧ Blk wx A 163 (longA (X0 : Int)) ∧ Below A w wx)
 case first =>
  by_cases hn : x < 0
  ·have e1 : -x = (X0 : Int) := by have := HX0.out; omega
   have PM2 := Lib.hid (fun w => PM.out w)
   rw [e1] at PM2
   have HI2 := long_info (X0 : Int)
   clear e1 PM
   go_wp2_with (refine wpList_load_row rfl 163 _ rfl A rfl 163 (longA x) (0, 0) _ HX2.out Tryz.underlying163 rfl HI ?_)
   with_reducible refine (PM2.out _).mono ?_
   rintro e w3 ⟨rfl, hb⟩
   have HX3 := Lib.hid (HX2.out.kept hb)
   have HB3 : Hid (Below A w w3) := Lib.hid (HB2.out.trans (hb.mono (by have := HX2.out.lt; omega)))
   clear hb
   go_wp2_with (refine wpList_store_row rfl 163 _ _ rfl A (longA (X0 : Int)) rfl rfl 163 _ HX3.out HI2 (by rw [longA_size]; rfl) (longA_one _) ?_)
   go_meet
   exact ⟨by rw [HSG.out, if_pos hn]; rfl, setRow_heap w3 _ _ _ _ _ HX3.out, below_setRow HB3.out (Nat.le_refl _) _⟩
  ·have e1 : Hid (x = (X0 : Int)) := Lib.hid (by have := HX0.out; omega)
   go_wp2_with fail
   go_meet
   exact ⟨by rw [HSG.out, if_neg (by omega)]; rfl, by rw [← e1.out]; exact HX2.out, HB2.out⟩
 case rest =>
  obtain ⟨rfl, hx, hb⟩ := hcut
  have HX3 := Lib.hid hx
  have HB3 := Lib.hid hb
  have hXB : X0 ≤ 9223372036854775808 := by have := HX0.out; have := HX01.out; omega
  have HXB := Lib.hid hXB
  clear hx hb HX2 HB2 PM HI hXB
  go_wp2_with fail
  go_loopw [4, 5] (fun s z wr => ∃ (X : Nat) (l : List UInt8) (zb : Bool), X ≤ X0 ∧ s = .string (sB l) ∧ z = .bool zb ∧ Blk wr A 163 (longA (X : Int)) ∧ Below A w wr ∧ ((zb = false ∧ Lib.decDigits X0 = Lib.decDigits X ++ l) ∨ (zb = true ∧ l = Lib.decDigits X0))) (fun s z _ => txM s z)
  case atStart => exact ⟨X0, [], false, by omega, rfl, rfl, HX3.out, HB3.out, .inl ⟨rfl, by simp⟩⟩
  case round =>
   obtain ⟨X, l, zb, hXX, rfl, rfl, hx, hb, hd⟩ := hrel
   have HX := Lib.hid hx
   have HB := Lib.hid hb
   have HXX := Lib.hid hXX
   clear hx hb hXX HX3 HB3
   rcases hd with ⟨rfl, hd⟩ | ⟨rfl, rfl⟩
   ·have HD := Lib.hid hd
    clear hd
    go_wp2_with fail
    generalize wr = wo at *
    go_loopw [5, 6, 7] (fun z r i wr => ∃ (k : Nat) (iv : Int), iv = (k : Int) - 1 ∧ k ≤ 10 ∧ i = .int .i64 iv ∧ r = .int .i64 ((X : Int) / 65536 ^ k % 10) ∧ z = .bool (decide ((X : Int) / 10 / 65536 ^ k = 0)) ∧ wr.rowIs A 163 10 (fun j => .int .i64 (if j < k then digit X j else digit ((X : Int) / 10) j)) ∧ Below A w wr) (fun _ _ i _ => (intOf i + 1).toNat)
    case atStart => 
     have h := digit_start X (Nat.le_trans HXX.out HXB.out)
     refine ⟨10, 9, rfl, by omega, rfl, by rw [h.1], by rw [h.2], ?_, HB.out⟩
     have h1 := Blk.row (f := fun j => .int .i64 (if j < 10 then digit (X : Int) j else digit ((X : Int) / 10) j)) HX.out (fun i hi => by rw [longA_size] at hi; rw [longA_get _ _ hi]; simp [hi])
     rw [longA_size] at h1
     exact h1
    case round =>
     obtain ⟨k, iv, hiv, hk, rfl, rfl, rfl, hrow, hb⟩ := hrel
     have HROW := Lib.hid hrow
     have HB1 := Lib.hid hb
     clear hrow hb HX HB
     cases k with
     | succ k =>
      obtain rfl : iv = (k : Int) := by omega
      clear hiv
      have hk9 : k < 10 := by omega
      have c1 := HROW.out.cell hk9
      have hf := HROW.out.frozen k
      simp only [Nat.lt_succ_self, if_true] at c1
      have H1 := Lib.hid (digit_div (X : Int) k (by omega))
      have H2 := Lib.hid (zero_div (X : Int) k (by omega))
      have hd := digit_bd (X : Int) k
      obtain ⟨r, hr⟩ : ∃ r, r = (X : Int) / 65536 ^ (k + 1) % 10 := ⟨_, rfl⟩
      have hr0 : 0 ≤ r ∧ r ≤ 9 := by omega
      obtain ⟨d, hdd⟩ : ∃ d, d = digit (X : Int) k := ⟨_, rfl⟩
      rw [← hr, ← hdd] at H1
      rw [← hdd] at c1 hd
      rw [← hr]
      obtain ⟨zb, hzb⟩ : ∃ zb, zb = decide ((X : Int) / 10 / 65536 ^ (k + 1) = 0) := ⟨_, rfl⟩
      rw [← hzb] at H2 ⊢
      have HN : Hid (∀ wq : World, wq.rowIs A 163 10 (fun j => .int .i64 (if j < k + 1 then digit X j else digit ((X : Int) / 10) j)) → (wq.setCell ⟨A, k, none⟩ (.int .i64 ((r * 65536 + d) / 10))).rowIs A 163 10 (fun j => .int .i64 (if j < k then digit X j else digit ((X : Int) / 10) j))) := Lib.hid (fun wq hq => (hq.set k _).congr (fun j hj => by
       rw [H1.out.1]
       by_cases e : j = k
       ·subst e; simp
       ·have : j < k + 1 ↔ j < k := by omega
        simp [e, this]))
      have HN2 := Lib.hid (HN.out wr HROW.out)
      have HB2 := Lib.hid (HB1.out.setCell (p := ⟨A, k, none⟩) (Nat.le_refl _) (.int .i64 ((r * 65536 + d) / 10)))
      have i0 : (0 : Int) ≤ (k : Int) := by omega
      have i1 : (k : Int) < 10 := by omega
      have w1 : IntKind.i64.wrap (r * 65536) = r * 65536 := wrapI_of _ (by omega) (by omega)
      have w2 : IntKind.i64.wrap (r * 65536 + d) = r * 65536 + d := wrapI_of _ (by omega) (by omega)
      have hn0 : 0 ≤ r * 65536 + d := by omega
      clear hr hdd hzb HN
      cases zb with
      | true =>
       go_wp2_with fail
       refine ⟨⟨k, (k : Int) - 1, rfl, by omega, rfl, by rw [H1.out.2], ?_, HN2.out, HB2.out⟩, by simp [intOf]⟩
       refine congrArg Value.bool (by
        have e := H2.out
        rw [← H1.out.1] at e
        rw [← e]
        simp [Bool.beq_eq_decide_eq])
      | false =>
       go_wp2_with fail
       refine ⟨⟨k, (k : Int) - 1, rfl, by omega, rfl, by rw [H1.out.2], ?_, HN2.out, HB2.out⟩, by simp [intOf]⟩
       refine congrArg Value.bool (by
        have e := H2.out
        rw [← e]
        rfl)
     | zero =>
      obtain rfl : iv = -1 := by omega
      have d1 : ¬ ((0 : Int) ≤ -1) := by omega
      have e0 : (X : Int) / 65536 ^ 0 % 10 = ((X % 10 : Nat) : Int) := by rw [Int.pow_zero, Int.ediv_one]; rfl
      have e1 : (X : Int) / 10 / 65536 ^ 0 = ((X / 10 : Nat) : Int) := by rw [Int.pow_zero, Int.ediv_one]; rfl
      have e2 : decide (((X / 10 : Nat) : Int) = 0) = decide (X / 10 = 0) := by by_cases h : X / 10 = 0 <;> simp [h] <;> omega
      rw [e0, e1, e2]
      have HBLK : Hid (Blk wr A 163 (longA ((X / 10 : Nat) : Int))) := Lib.hid (Blk.of_digits _ HROW.out (fun i hi => rfl))
      clear e0 e1 e2 hiv hk
      have HDS := Lib.hid (dec_step X0 X l HD.out)
      obtain ⟨u, hu⟩ : ∃ u : Nat, u = X % 10 := ⟨_, rfl⟩
      have hu9 : u < 10 := by omega
      have HLL : Hid (l.length ≤ 20) := Lib.hid (by
       have h := dec_len X0 (by have := HXB.out; omega)
       rw [HD.out, List.length_append] at h
       omega)
      rw [← hu] at HDS ⊢
      have HXX2 : Hid (X / 10 ≤ X0) := Lib.hid (by have := HXX.out; omega)
      have HWB : Hid (BytesAt (wr.alloc (.cells #[.int .u8 (48 + (u : Int))] 5)) (.slice (some ⟨wr.heap.size, 0, none⟩) 1 1) [48 + (u : Int)]) := Lib.hid ⟨_, 1, rfl, by simp, by unfold maxLen; omega, .inr ⟨wr.heap.size, 0, rfl, by simp, fun i v hv => by
       match i with
       | 0 =>
        simp at hv
        subst hv
        exact (Blk.new wr _ _).cell 0
       | (i + 1) => simp at hv⟩⟩
      have hcv := strB_conv (P := Tryz.prog) HWB.out 41 5 9 Tryz.underlying41 Tryz.underlying5 Tryz.underlying9
      obtain ⟨c, hc⟩ : ∃ c : UInt8, c = UInt8.ofNat (48 + u) := ⟨_, rfl⟩
      rw [← hc] at HDS
      have es : strB [48 + (u : Int)] = sB [c] := by
       have : (48 + (u : Int)).toNat = 48 + u := by omega
       unfold strB strOfNums sB
       simp only [List.map_cons, List.map_nil, this, ← hc]
      rw [es] at hcv
      have wu : IntKind.i64.wrap (48 + (u : Int)) = 48 + (u : Int) := wrapI_of _ (by omega) (by omega)
      have wu8 : IntKind.u8.wrap (48 + (u : Int)) = 48 + (u : Int) := by simp [IntKind.wrap, IntKind.bits, IntKind.signed]; omega
      have hsz : ¬ 9223372036854775807 < (sB [c]).size + (sB l).size := by rw [sB_size, sB_size]; have := HLL.out; simp; omega
      obtain ⟨zb, hzb⟩ : ∃ zb, zb = decide (X / 10 = 0) := ⟨_, rfl⟩
      have HZB := Lib.hid hzb
      rw [← hzb]
      have HAL := Lib.hid (Blk.alloc HBLK.out (.cells #[.int .u8 (48 + (u : Int))] 5))
      have HBB : Hid (Below A w (wr.alloc (.cells #[.int .u8 (48 + (u : Int))] 5))) := Lib.hid (HB1.out.alloc (by have := HBLK.out.lt; omega) _)
      clear es hu hzb hc
      go_wp2_with fail
      rw [sB_append]
      have hmz : txM (.string (sB ([c] ++ l))) (.bool zb) < txM (.string (sB l)) (.bool false) := by
       have := HLL.out
       cases zb <;> simp [txM, sB_size] <;> omega
      refine ⟨⟨X / 10, [c] ++ l, zb, HXX2.out, rfl, rfl, HAL.out, HBB.out, ?_⟩, hmz⟩
      by_cases h0 : X / 10 = 0
      ·right
       exact ⟨by rw [HZB.out]; exact decide_eq_true h0, (HDS.out.1 h0).symm⟩
      ·left
       exact ⟨by rw [HZB.out]; exact decide_eq_false h0, HDS.out.2 h0⟩
   ·have hne : (sB (Lib.decDigits X0)).toList.isEmpty = false := by
     rw [sB_list]
     have := dec_ne X0
     cases h : Lib.decDigits X0 with
     | nil => exact absurd h this
     | cons a b => rfl
    have hsz : ¬ 9223372036854775807 < (sB sg).size + (sB (Lib.decDigits X0)).size := by
     rw [sB_size, sB_size, HSG.out]
     have := dec_len X0 (by have := HXB.out; omega)
     split <;> simp <;> omega
    have HB' : Hid (Below w.heap.size w wr) := Lib.hid (by rw [HA.out]; exact HB.out)
    go_wp2_with fail
    go_ret
    refine ⟨?_, HB'.out⟩
    show Ending.returned (.string (sB sg ++ sB (Lib.decDigits X0))) = _
    rw [sB_append]
    have e : sg ++ Lib.decDigits X0 = Lib.itoa x := by
     rw [HSG.out]
     unfold Lib.itoa
     have := HX0.out
     by_cases hn : x < 0
     ·rw [if_pos hn, if_pos hn, this]; rfl
     ·rw [if_neg hn, if_neg hn, show X0 = x.toNat by omega]; rfl
    rw [e]
end Go.Proofs.YtfeficdndjiijaaGreatDoor


namespace Go.Proofs.YtfeficdndjiijaaGreatDoor
open Go.RowKit
set_option linter.unusedVariables false
set_option linter.unusedSimpArgs false

theorem rtext (n : Int) (h : In64 n) (w : World) : Calls Tryz.prog 26 #[.int .i64 n] w fun e w' => e = .returned (.string (sB (Lib.itoa n))) ∧ Below w.heap.size w w' := by
  have P1 := Lib.hid (fun w => ofint_any n h.1 h.2 w)
  have P2 := Lib.hid (fun w => ltext_any n h.1 h.2 w)
  clear h
  go_enter Tryz.func26, Tryz.ntmps26
  go_wp2_with fail
  with_reducible refine (P1.out _).mono ?_
  rintro e w1 ⟨rfl, hb1⟩
  have HB1 := Lib.hid hb1
  clear hb1
  go_wp2_with fail
  with_reducible refine (P2.out _).mono ?_
  rintro e w2 ⟨rfl, hb2⟩
  have HB2 := Lib.hid (btr HB1.out hb2)
  clear hb2
  go_wp2_with fail
  go_ret
  exact ⟨rfl, HB2.out⟩
theorem gtext (n : Int) (h : In64 n) (w : World) : Calls Tryz.prog 9 #[.int .i64 n] w fun e w' => e = .returned (.string (sB (Lib.itoa n))) ∧ Below w.heap.size w w' := by
  have P1 := Lib.hid (fun w => rtext n h w)
  clear h
  go_enter Tryz.func9, Tryz.ntmps9
  go_wp2_with fail
  with_reducible refine (P1.out _).mono ?_
  rintro e w1 ⟨rfl, hb1⟩
  have HB1 := Lib.hid hb1
  clear hb1
  go_wp2_with fail
  go_ret
  exact ⟨rfl, HB1.out⟩
end Go.Proofs.YtfeficdndjiijaaGreatDoor


namespace Go.Proofs.YtfeficdndjiijaaGreatDoor
open Go.RowKit
set_option linter.unusedVariables false
set_option linter.unusedSimpArgs false

def OpsAt (w : World) (l : Value) (n : Nat) (kn hs os : Nat → Int) (ks : Nat → Nat) (ds : Nat → Int) : Prop :=
  ∃ (ao : Option Addr) (cap : Nat), l = .slice ao n cap ∧ n ≤ maxLen ∧ (∀ i, i < n → In64 (kn i) ∧ In64 (hs i) ∧ In64 (os i) ∧ In64 (ds i) ∧ ks i < 18446744073709551616) ∧
    (0 < n → ∃ b off, ao = some ⟨b, off, none⟩ ∧ b < w.heap.size ∧ ∀ i, i < n → w.cell? ⟨b, off + i * 5, none⟩ = some (.int .i64 (kn i)) ∧ w.cell? ⟨b, off + i * 5 + 1, none⟩ = some (.int .i64 (hs i)) ∧ w.cell? ⟨b, off + i * 5 + 2, none⟩ = some (.int .i64 (os i)) ∧ w.cell? ⟨b, off + i * 5 + 3, none⟩ = some (.int .u64 (ks i : Int)) ∧ w.cell? ⟨b, off + i * 5 + 4, none⟩ = some (.int .i64 (ds i)))
theorem OpsAt.kept {w w' : World} {l : Value} {n : Nat} {kn hs os : Nat → Int} {ks : Nat → Nat} {ds : Nat → Int} (h : OpsAt w l n kn hs os ks ds) (hb : Below w.heap.size w w') : OpsAt w' l n kn hs os ks ds := by
  obtain ⟨ao, cap, e, hm, hu, h⟩ := h
  refine ⟨ao, cap, e, hm, hu, fun h0 => ?_⟩
  obtain ⟨b, off, e2, hlt, hc⟩ := h h0
  refine ⟨b, off, e2, Nat.lt_of_lt_of_le hlt hb.size, fun i hi => ?_⟩
  obtain ⟨c1, c2, c3, c4, c5⟩ := hc i hi
  exact ⟨(hb.cell (p := ⟨b, off + i * 5, none⟩) hlt).trans c1, (hb.cell (p := ⟨b, off + i * 5 + 1, none⟩) hlt).trans c2, (hb.cell (p := ⟨b, off + i * 5 + 2, none⟩) hlt).trans c3, (hb.cell (p := ⟨b, off + i * 5 + 3, none⟩) hlt).trans c4, (hb.cell (p := ⟨b, off + i * 5 + 4, none⟩) hlt).trans c5⟩
def shOp : Sh := .agg (.cons (.int .i64) (.cons (.int .i64) (.cons (.int .i64) (.cons (.int .u64) (.cons (.int .i64) .unit)))))
theorem ops_of_val {w : World} {v : Value} (h : (Sh.slice shOp).Val w v) : ∃ n kn hs os ks ds, OpsAt w v n kn hs os ks ds := by
 obtain ⟨ao, len, cap, h1, hl, hm, hx⟩ := h
 have h1 : v = .slice ao len cap := by simpa using h1
 subst h1
 by_cases h0 : 0 < len
 ·obtain ⟨b, off, rfl, hb, hc⟩ := hx h0
  have key : ∀ i, i < len → ∃ c : Int × Int × Int × Nat × Int, (In64 c.1 ∧ In64 c.2.1 ∧ In64 c.2.2.1 ∧ In64 c.2.2.2.2 ∧ c.2.2.2.1 < 18446744073709551616) ∧ w.cell? ⟨b, off + i * 5, none⟩ = some (.int .i64 c.1) ∧ w.cell? ⟨b, off + i * 5 + 1, none⟩ = some (.int .i64 c.2.1) ∧ w.cell? ⟨b, off + i * 5 + 2, none⟩ = some (.int .i64 c.2.2.1) ∧ w.cell? ⟨b, off + i * 5 + 3, none⟩ = some (.int .u64 (c.2.2.2.1 : Int)) ∧ w.cell? ⟨b, off + i * 5 + 4, none⟩ = some (.int .i64 c.2.2.2.2) := by
   intro i hi
   obtain ⟨c0, hcl, hcell, hr⟩ := hc i hi
   obtain ⟨x1, d1, rfl, h1, hr⟩ := Sh.reads_int hr
   obtain ⟨x2, d2, rfl, h2, hr⟩ := Sh.reads_int hr
   obtain ⟨x3, d3, rfl, h3, hr⟩ := Sh.reads_int hr
   obtain ⟨x4, d4, rfl, h4, hr⟩ := Sh.reads_int hr
   obtain ⟨x5, d5, rfl, h5, hr⟩ := Sh.reads_int hr
   have e : shOp.size = 5 := rfl
   have a0 := hcell 0 (by decide)
   have a1 := hcell 1 (by decide)
   have a2 := hcell 2 (by decide)
   have a3 := hcell 3 (by decide)
   have a4 := hcell 4 (by decide)
   rw [e] at a0 a1 a2 a3 a4
   simp [Lit.wf, IntKind.min, IntKind.max, IntKind.signed, IntKind.bits] at h1 h2 h3 h4 h5
   refine ⟨(x1, x2, x3, x4.toNat, x5), ⟨⟨by show _ ≤ x1; omega, by show x1 ≤ _; omega⟩, ⟨by show _ ≤ x2; omega, by show x2 ≤ _; omega⟩, ⟨by show _ ≤ x3; omega, by show x3 ≤ _; omega⟩, ⟨by show _ ≤ x5; omega, by show x5 ≤ _; omega⟩, by show x4.toNat < _; omega⟩, by simpa using a0, by simpa [Nat.add_assoc] using a1, by simpa [Nat.add_assoc] using a2, ?_, by simpa [Nat.add_assoc] using a4⟩
   simp only [Int.toNat_of_nonneg (show 0 ≤ x4 by omega)]
   simpa [Nat.add_assoc] using a3
  have key2 : ∃ c : Nat → Int × Int × Int × Nat × Int, ∀ i, i < len → (In64 (c i).1 ∧ In64 (c i).2.1 ∧ In64 (c i).2.2.1 ∧ In64 (c i).2.2.2.2 ∧ (c i).2.2.2.1 < 18446744073709551616) ∧ w.cell? ⟨b, off + i * 5, none⟩ = some (.int .i64 (c i).1) ∧ w.cell? ⟨b, off + i * 5 + 1, none⟩ = some (.int .i64 (c i).2.1) ∧ w.cell? ⟨b, off + i * 5 + 2, none⟩ = some (.int .i64 (c i).2.2.1) ∧ w.cell? ⟨b, off + i * 5 + 3, none⟩ = some (.int .u64 ((c i).2.2.2.1 : Int)) ∧ w.cell? ⟨b, off + i * 5 + 4, none⟩ = some (.int .i64 (c i).2.2.2.2) := by
   refine ⟨fun i => if h : i < len then (key i h).choose else (0, 0, 0, 0, 0), fun i hi => ?_⟩
   simp only [dif_pos hi]; exact (key i hi).choose_spec
  obtain ⟨c, hc2⟩ := key2
  exact ⟨len, fun i => (c i).1, fun i => (c i).2.1, fun i => (c i).2.2.1, fun i => (c i).2.2.2.1, fun i => (c i).2.2.2.2, some ⟨b, off, none⟩, cap, rfl, by omega, fun i hi => (hc2 i hi).1, fun _ => ⟨b, off, rfl, hb, fun i hi => (hc2 i hi).2⟩⟩
 ·obtain rfl : len = 0 := by omega
  exact ⟨0, fun _ => 0, fun _ => 0, fun _ => 0, fun _ => 0, fun _ => 0, ao, cap, rfl, by omega, fun i hi => by omega, fun h => by omega⟩
end Go.Proofs.YtfeficdndjiijaaGreatDoor

