/-
  The walk of wire.Encode; Decode of any bytes. Conditions: none beyond those stated at each theorem.
-/
import Derived.Test.YtbghchgmoiniiaaWirF
import Derived.Lib.SmallJoins
namespace Go.Proofs.Ytbghchgmoiniiaa
open Go.RowKit
set_option linter.unusedVariables false
set_option linter.unusedSimpArgs false

theorem decode_any (w : World) (v : Value) (bs : List Int) (hv : BytesAt w v bs) (hb : Byts bs) (hl : bs.length ≤ 100000) :
    Calls Try.prog 8 #[v] w (DecRes w bs) := by
  by_cases h4 : bs.length < 4
  · exact dec_few w v bs hv h4
  · obtain ⟨ao, cap, rfl, hcap, hmx, hc⟩ := hv
    rcases hc with ⟨rfl, rfl⟩ | ⟨g, off, rfl, hg, hcc⟩
    · simp at h4
    · exact dec_many w g off cap bs ⟨_, cap, rfl, hcap, hmx, .inr ⟨g, off, rfl, hg, hcc⟩⟩ hb (by omega) hl
/-- the bytes of numbers, one behind the other -/
def numsB (ns : List Nat) : List Int := ns.flatMap putN
theorem numsB_snoc (ns : List Nat) (k : Nat) : numsB (ns ++ [k]) = numsB ns ++ putN k := by simp [numsB]
theorem numsB_le {ns : List Nat} (h : ∀ k ∈ ns, k ≤ 128) : (numsB ns).length ≤ 10 * ns.length := by
  induction ns with
  | nil => simp [numsB]
  | cons k ns ih =>
    have e : numsB (k :: ns) = putN k ++ numsB ns := by simp [numsB]
    rw [e, List.length_append, List.length_cons]
    have := putN_len10 (u := k) (by have := h k (by simp); omega)
    have := ih (fun k hk => h k (by simp [hk]))
    omega
theorem four_step {nb nr nd nm j : Nat} (hb : nb ≤ 59) (hr : nr ≤ 8) (hd : nd ≤ 128) (hm : nm ≤ 3) (hj : j < 4) : ∃ q : Nat, q ≤ 128 ∧ [nb, nr, nd, nm].take (j + 1) = [nb, nr, nd, nm].take j ++ [q] ∧ (#[.int .i64 (nb : Int), .int .i64 (nr : Int), .int .i64 (nd : Int), .int .i64 (nm : Int)] : Array Value)[j]? = some (.int .i64 (q : Int)) ∧ (numsB ([nb, nr, nd, nm].take j)).length ≤ 1000 := by
  have hall : ∀ k ∈ [nb, nr, nd, nm], k ≤ 128 := by
    intro k hk
    simp at hk
    omega
  have hle : (numsB ([nb, nr, nd, nm].take j)).length ≤ 1000 := by
    have := numsB_le (ns := [nb, nr, nd, nm].take j) (fun k hk => hall k (List.mem_of_mem_take hk))
    have h2 : ([nb, nr, nd, nm].take j).length ≤ 4 := by simp; omega
    omega
  rcases (show j = 0 ∨ j = 1 ∨ j = 2 ∨ j = 3 by omega) with rfl | rfl | rfl | rfl
  · exact ⟨nb, by omega, rfl, rfl, hle⟩
  · exact ⟨nr, by omega, rfl, rfl, hle⟩
  · exact ⟨nd, by omega, rfl, rfl, hle⟩
  · exact ⟨nm, by omega, rfl, rfl, hle⟩
set_option maxRecDepth 100000 in
set_option maxHeartbeats 8000000 in
theorem encode_any (w : World) (base S L : Nat) (b r d m s : Int) (X : Nat → Value) (A G C : Nat → Nat) (Z : Nat → List Int) (h : StIs w base S L b r d m s X A G C Z) (s0 : 0 ≤ s) (s1 : s < 18446744073709551616) (hl : (headB b r d m s ++ rowsB Z (b.toNat + 1)).length ≤ 100000) :
    Calls Try.prog 13 #[.pointer (some ⟨S, 0, none⟩)] w (PostC w (encB b r d m s Z)) := by
  obtain ⟨i0', hi, hz0, hz1, hz2⟩ := info_parts Try.info8
  have HST := Lib.hid h
  have HL := Lib.hid hl
  have hR := right_of h.right
  have PC := Lib.hid (stconfig w base S L b r d m s X A G C Z h)
  obtain ⟨nb, nr, nd, nm, rfl, rfl, rfl, rfl⟩ : ∃ nb nr nd nm : Nat, b = (nb : Int) ∧ r = (nr : Int) ∧ d = (nd : Int) ∧ m = (nm : Int) := ⟨b.toNat, r.toNat, d.toNat, m.toNat, by omega, by omega, by omega, by omega⟩
  have hb59 : nb ≤ 59 := by omega
  have hr8 : nr ≤ 8 := by omega
  have hd128 : nd ≤ 128 := by omega
  have hm3 : nm ≤ 3 := by omega
  clear h hl hR
  go_enter Try.func13, Try.ntmps13
  go_wp2_with fail
  with_reducible refine PC.out.mono ?_
  rintro e w2 ⟨rfl, hb2⟩
  have HB2 := Lib.hid hb2
  have HST2 := Lib.hid (HST.out.kept hb2)
  clear hb2 PC
  have kc := Joins.run_convert_bytes_const_at (P := Try.prog) (w2.alloc (.cells #[.int .i64 (nb : Int), .int .i64 (nr : Int), .int .i64 (nd : Int), .int .i64 (nm : Int), .int .u64 s] 36)) 22 5 #[.int .u8 71, .int .u8 65] 2 2 (w2.heap.size + 1) (by simp) Try.underlying22 Try.underlying5
  go_upto_region 3 with fail
  clear kc
  obtain ⟨g1, g2, hb3, hsz3⟩ := news2 w2 (.cells #[.int .i64 (nb : Int), .int .i64 (nr : Int), .int .i64 (nd : Int), .int .i64 (nm : Int), .int .u64 s] 36) (.cells #[.int .u8 71, .int .u8 65] 5 (2, 3))
  have HC3 : Hid (Blk _ w2.heap.size 36 #[.int .i64 (nb : Int), .int .i64 (nr : Int), .int .i64 (nd : Int), .int .i64 (nm : Int), .int .u64 s]) := Lib.hid g1
  have HB3 := Lib.hid (btr HB2.out hb3)
  have HST3 := Lib.hid (HST2.out.kept hb3)
  have HMK : Hid (BytesAt ((w2.alloc (.cells #[.int .i64 (nb : Int), .int .i64 (nr : Int), .int .i64 (nd : Int), .int .i64 (nm : Int), .int .u64 s] 36)).alloc (.cells #[.int .u8 71, .int .u8 65] 5 (2, 3))) (.slice (some ⟨w2.heap.size + 1, 0, none⟩) 2 2) [71, 65]) := Lib.hid ⟨_, 2, rfl, by simp, by unfold maxLen; omega, .inr ⟨w2.heap.size + 1, 0, rfl, by simp, fun i u hu => by
    have hc := Joins.cell_alloc_mark_at (w2.alloc (.cells #[.int .i64 (nb : Int), .int .i64 (nr : Int), .int .i64 (nd : Int), .int .i64 (nm : Int), .int .u64 s] 36)) #[.int .u8 71, .int .u8 65] 5 (2, 3) (w2.heap.size + 1) i (by simp)
    rw [Nat.zero_add, hc]
    have : ([71, 65] : List Int)[i]? = some u := hu
    match i, this with
    | 0, h => simpa using h
    | 1, h => simpa using h⟩⟩
  have HCL : Hid (w.heap.size ≤ w2.heap.size) := Lib.hid HB2.out.size
  clear g1 g2 hb3 hsz3 HST2 HB2
  generalize (w2.alloc (.cells #[.int .i64 (nb : Int), .int .i64 (nr : Int), .int .i64 (nd : Int), .int .i64 (nm : Int), .int .u64 s] 36)).alloc (.cells #[.int .u8 71, .int .u8 65] 5 (2, 3)) = w3 at *
  generalize w2.heap.size = CB at *
  have k0 := HC3.out.cell 0
  have k1 := HC3.out.cell 1
  have k2 := HC3.out.cell 2
  have k3 := HC3.out.cell 3
  simp at k0 k1 k2 k3
  have HLB := Lib.hid (Blk.new w3 3 #[.int .i64 (nb : Int), .int .i64 (nr : Int), .int .i64 (nd : Int), .int .i64 (nm : Int)])
  have HAL : Hid (Below w3.heap.size w3 (w3.alloc (.cells #[.int .i64 (nb : Int), .int .i64 (nr : Int), .int .i64 (nd : Int), .int .i64 (nm : Int)] 3))) := Lib.hid ((Below.refl _ _).alloc (Nat.le_refl _) _)
  have HC4 := Lib.hid (HC3.out.kept HAL.out)
  have HB4 := Lib.hid (btr HB3.out HAL.out)
  have HST4 := Lib.hid (HST3.out.kept HAL.out)
  have HMK4 := Lib.hid (HMK.out.kept HAL.out)
  have hsz4 := HB3.out.size
  go_wp2_with fail
  clear k0 k1 k2 k3 HC3 HB3 HST3 HMK HAL
  generalize w3.alloc (.cells #[.int .i64 (nb : Int), .int .i64 (nr : Int), .int .i64 (nd : Int), .int .i64 (nm : Int)] 3) = w4 at *
  generalize w3.heap.size = LB at *
  go_loopw [4, 22] (fun x i wr => ∃ j : Nat, j ≤ 4 ∧ i = .int .i64 (j : Int) ∧ BytesAt wr x ([71, 65] ++ numsB ([nb, nr, nd, nm].take j)) ∧ (0 < j → OwnB wr w.heap.size x ([71, 65] ++ numsB ([nb, nr, nd, nm].take j))) ∧ Blk wr LB 3 #[.int .i64 (nb : Int), .int .i64 (nr : Int), .int .i64 (nd : Int), .int .i64 (nm : Int)] ∧ Blk wr CB 36 #[.int .i64 (nb : Int), .int .i64 (nr : Int), .int .i64 (nd : Int), .int .i64 (nm : Int), .int .u64 s] ∧ StIs wr base S L nb nr nd nm s X A G C Z ∧ Below w.heap.size w wr) (fun _ i _ => 4 - (intOf i).toNat)
  case atStart => exact ⟨0, by omega, rfl, by simpa [numsB] using HMK4.out, fun h => by omega, HLB.out, HC4.out, HST4.out, HB4.out⟩
  case round =>
    obtain ⟨j, hj, rfl, hx, hox, hlb, hcb, hst, hbel⟩ := hrel
    obtain ⟨xo, xl, xc, rfl⟩ : ∃ xo xl xc, u4 = .slice xo xl xc := by obtain ⟨xo, xc, e, -⟩ := hx; exact ⟨xo, _, xc, e⟩
    have HX := Lib.hid hx
    have HOX := Lib.hid hox
    have HLB5 := Lib.hid hlb
    have HC5 := Lib.hid hcb
    have HST5 := Lib.hid hst
    have HB5 := Lib.hid hbel
    clear hx hox hlb hcb hst hbel HMK4 HLB HC4 HST4 HB4
    by_cases hlt : j < 4
    · obtain ⟨q, hq1, hq2, hq3, hq4⟩ := four_step hb59 hr8 hd128 hm3 hlt
      have HQ := Lib.hid hq2
      have cx := (HLB5.out.cell j).trans hq3
      have i0 : (0 : Int) ≤ (j : Int) := by omega
      have i1 : (j : Int) < 4 := by omega
      have PP := Lib.hid (put_any' wr _ _ q HX.out (by omega) (by simp; omega))
      have e1 : IntKind.u64.wrap (q : Int) = (q : Int) := by rw [wrapU_mod]; omega
      clear hq2 hq3
      go_wp2_with fail
      with_reducible refine PP.out.mono ?_
      rintro e w6 ⟨v6, rfl, ho6, hb6⟩
      have HO6 : Hid (OwnB w6 w.heap.size v6 ([71, 65] ++ numsB ([nb, nr, nd, nm].take (j + 1)))) := Lib.hid (by rw [HQ.out, numsB_snoc, ← List.append_assoc]; exact ho6.pre HB5.out.size)
      have HB6 := Lib.hid (btr HB5.out hb6)
      have HLB6 := Lib.hid (HLB5.out.kept hb6)
      have HC6 := Lib.hid (HC5.out.kept hb6)
      have HST6 := Lib.hid (HST5.out.kept hb6)
      obtain ⟨vo, vl, vc, rfl⟩ := ho6.open2
      clear ho6 hb6 PP HX HOX HLB5 HC5 HST5 HB5
      go_wp2
      go_roundw
      case rel => exact ⟨j + 1, by omega, by go_num, HO6.out.at, fun _ => HO6.out, HLB6.out, HC6.out, HST6.out, HB6.out⟩
      case measure => simp [intOf]; omega
    · obtain rfl : j = 4 := by omega
      have HO5 : Hid (OwnB wr w.heap.size (.slice xo xl xc) ([71, 65] ++ numsB [nb, nr, nd, nm])) := Lib.hid (HOX.out (by omega))
      have HLN : Hid (([71, 65] ++ numsB [nb, nr, nd, nm]).length ≤ 1000) := Lib.hid (by
        have := numsB_le (ns := [nb, nr, nd, nm]) (fun k hk => by simp at hk; omega)
        simp only [List.length_append, List.length_cons, List.length_nil] at this ⊢
        omega)
      have HHD : Hid ([71, 65] ++ numsB [nb, nr, nd, nm] ++ leB s 8 = headB (nb : Int) nr nd nm s) := Lib.hid (by simp [headB, numsB])
      have k4 := HC5.out.cell 4
      simp at k4
      have PLW : Hid (Calls Try.prog 18 #[.slice xo xl xc, .int .u64 s, .int .i64 8] wr (OwnPost wr w.heap.size (.slice xo xl xc) ([71, 65] ++ numsB [nb, nr, nd, nm] ++ leB s 8))) := Lib.hid (low_any wr w.heap.size _ _ s 8 HO5.out HB5.out.size s0 (by omega) (by decide) (by have := HLN.out; omega))
      have i1 : ¬ ((4 : Nat) : Int) < 4 := by omega
      rw [HHD.out] at PLW
      clear hlt HX HOX HLN
      go_wp2_with fail
      with_reducible refine PLW.out.mono ?_
      rintro e w6 ⟨v6, rfl, ho6, hg6, -⟩
      have HO6 := Lib.hid ho6
      have HB6 : Hid (Below w.heap.size w w6) := Lib.hid (HB5.out.grown hg6 HB5.out.size (fun k e => (HO5.out.lt k e).1))
      have HC6 : Hid (Blk w6 CB 36 #[.int .i64 (nb : Int), .int .i64 (nr : Int), .int .i64 (nd : Int), .int .i64 (nm : Int), .int .u64 s]) := Lib.hid (HC5.out.grown hg6 (HO5.out.far HC5.out (by decide)))
      obtain ⟨vo, vl, vc, rfl⟩ := ho6.open2
      have k0 := HC6.out.cell 0
      simp at k0
      have HLT : Hid (∀ j, j ≤ nb + 1 → (headB (nb : Int) nr nd nm s ++ rowsB Z j).length ≤ 100000) := Lib.hid (fun j hj => by
        have h1 := HL.out
        have h2 : ∀ i, (rowsB Z j).length ≤ (rowsB Z (j + i)).length := fun i => by
          induction i with
          | zero => exact Nat.le_refl _
          | succ i ih => rw [← Nat.add_assoc, rowsB, List.length_append]; omega
        have h3 := h2 (nb + 1 - j)
        rw [show j + (nb + 1 - j) = nb + 1 by omega] at h3
        rw [List.length_append] at h1 ⊢
        simp only [Int.toNat_natCast] at h1
        omega)
      clear ho6 hg6 PLW HO5 HC5 HB5 HST5 HLB5 HHD
      go_wp2_with fail
      clear k0 k4
      generalize wr = wo at *
      go_loopw [4, 38] (fun x i wr => ∃ j : Nat, j ≤ nb + 1 ∧ i = .int .i64 (j : Int) ∧ OwnB wr w.heap.size x (headB (nb : Int) nr nd nm s ++ rowsB Z j) ∧ Blk wr CB 36 #[.int .i64 (nb : Int), .int .i64 (nr : Int), .int .i64 (nd : Int), .int .i64 (nm : Int), .int .u64 s] ∧ Below w.heap.size w wr) (fun _ i _ => nb + 1 - (intOf i).toNat)
      case atStart => exact ⟨0, by omega, rfl, by simpa [rowsB] using HO6.out, HC6.out, HB6.out⟩
      case round =>
        obtain ⟨j, hj, rfl, hox, hcb, hbel⟩ := hrel
        have HO7 := Lib.hid hox
        have HC7 := Lib.hid hcb
        have HB7 := Lib.hid hbel
        obtain ⟨xo, xl, xc, rfl⟩ := hox.open2
        clear hox hcb hbel HO6 HC6 HB6
        by_cases hlt : j < nb + 1
        · have i0 : (0 : Int) ≤ (j : Int) := by omega
          have i1 : (j : Int) < (nb : Int) + 1 := by omega
          have hlev := HST.out.lev j (by simp; omega)
          have hzf := hlev.fit
          have hzl := hlev.le
          have hz0' : 0 < (Z j).length := by rw [hlev.len]; exact cellsN_pos HST.out.right (by omega) (by omega)
          have HZF := Lib.hid hzf
          have HZL := Lib.hid hzl
          have HRP : Hid (0 < (rowB (Z j)).length) := Lib.hid (by have := rowB_ge (Z j); omega)
          have HRL : Hid ((rowB (Z j)).length ≤ 10240) := Lib.hid (by have := rowB_le (Z j) hzf; omega)
          have PCE := Lib.hid (stcells wr base S L nb nr nd nm s X A G C Z (HST.out.kept HB7.out) j (by simp; omega))
          have HLJ := Lib.hid (HLT.out j (by omega))
          clear hlev hzf hzl hz0'
          go_wp2_with fail
          with_reducible refine PCE.out.mono ?_
          rintro e w8 ⟨v8, rfl, ho8, -, hb8⟩
          have HB8 := Lib.hid (btr HB7.out hb8)
          have HO8 := Lib.hid (HO7.out.kept hb8)
          have HC8 := Lib.hid (HC7.out.kept hb8)
          have hints : IntsAt w8 v8 (Z j) := IntsAt.of_own ho8 rfl
          have PPR : Hid (Calls Try.prog 38 #[.slice none 0 0, v8] w8 (PostC w8 (rowB (Z j)))) := Lib.hid (by simpa using putrow_any w8 (.slice none 0 0) v8 [] (Z j) ⟨none, 0, rfl, by simp, by unfold maxLen; omega, .inl ⟨rfl, rfl⟩⟩ hints HZF.out (by simp) (by have := HZL.out; omega))
          obtain ⟨yo, yl, yc, rfl⟩ : ∃ yo yl yc, v8 = .slice yo yl yc := by obtain ⟨yo, yc, e, -⟩ := hints; exact ⟨yo, _, yc, e⟩
          clear ho8 hb8 hints PCE HO7 HC7 HB7
          go_wp2_with fail
          with_reducible refine PPR.out.mono ?_
          rintro e w9 ⟨v9, rfl, ho9, hb9⟩
          have HB9 := Lib.hid (btr HB8.out hb9)
          have HO9 := Lib.hid (HO8.out.kept hb9)
          have HC9 := Lib.hid (HC8.out.kept hb9)
          obtain ⟨ao9, cap9, e9, hc9, hm9, -⟩ := ho9.at
          have HNW := Lib.hid (BytesAt.news (n := (rowB (Z j)).length) (by rw [← e9]; exact ho9.at) rfl w9 (Below.refl _ _))
          subst e9
          obtain ⟨ad9, ead, hnw⟩ := HNW.out HRP.out
          subst ead
          have HNW2 := Lib.hid hnw
          obtain ⟨rl, hrl⟩ : ∃ rl, rl = (rowB (Z j)).length := ⟨_, rfl⟩
          have HRLQ := Lib.hid hrl
          rw [← hrl] at hc9 HRL HRP HNW ⊢
          have hc1 : (headB (nb : Int) nr nd nm s ++ rowsB Z j).length + rl ≤ maxLen := by have := HLJ.out; have := HRL.out; unfold maxLen; omega
          have hc4 : ((headB (nb : Int) nr nd nm s ++ rowsB Z j).length + rl) * 1 ≤ 140737488355328 := by have := HLJ.out; have := HRL.out; omega
          clear hnw ho9 hb9 hrl PPR HO8 HC8 HB8
          go_wp2_with (at_builtin; go_loud (refine wpList_append_own_at _ rfl _ _ 22 rfl w.heap.size 5 i0' (.int .u8 0) 1 1 Try.underlying22 hi hz0 hz1 hz2 rfl (by decide) _ (headB (nb : Int) nr nd nm s ++ rowsB Z j).length _ rfl HO9.out ad9 rl cap9 ((rowB (Z j)).map (Value.int .u8)) rfl (by rw [List.length_map, Nat.mul_one]; exact HRLQ.out.symm) HNW2.out ?c2 hc1 hc4 ?c5 ?_))
          case c2 => exact fun u hu => by obtain ⟨z, -, rfl⟩ := List.mem_map.1 hu; rfl
          case c5 => exact HB9.out.size
          intro va wa hown' hgrow hnil' hq9
          have HOA : Hid (OwnB wa w.heap.size va (headB (nb : Int) nr nd nm s ++ rowsB Z (j + 1))) := Lib.hid (by
            unfold OwnB
            rw [rowsB, ← List.append_assoc, List.length_append (bs := rowB (Z j)), ← HRLQ.out, List.map_append]
            simpa using hown')
          have HBA : Hid (Below w.heap.size w wa) := Lib.hid (HB9.out.grown hgrow HB9.out.size (fun k e => (HO9.out.lt k e).1))
          have HCA : Hid (Blk wa CB 36 #[.int .i64 (nb : Int), .int .i64 (nr : Int), .int .i64 (nd : Int), .int .i64 (nm : Int), .int .u64 s]) := Lib.hid (HC9.out.grown hgrow (HO9.out.far HC9.out (by decide)))
          obtain ⟨zo, zl, zc, rfl⟩ := HOA.out.open2
          clear hown' hgrow hnil' hq9 HO9 HC9 HB9 hc1 hc4
          go_wp2
          go_roundw
          case rel => exact ⟨j + 1, by omega, by go_num, HOA.out, HCA.out, HBA.out⟩
          case measure => simp [intOf]; omega
        · obtain rfl : j = nb + 1 := by omega
          have i1 : ¬ (((nb + 1 : Nat) : Int) < (nb : Int) + 1) := by omega
          have HLJ := Lib.hid (HLT.out (nb + 1) (by omega))
          have HBY : Hid (Byts (headB (nb : Int) nr nd nm s ++ rowsB Z (nb + 1))) := Lib.hid ((headB_byts _ _ _ _ _).append (rowsB_byts _ _))
          have HEN : Hid (encB (nb : Int) nr nd nm s Z = (headB (nb : Int) nr nd nm s ++ rowsB Z (nb + 1)) ++ leB (sumI 0 (headB (nb : Int) nr nd nm s ++ rowsB Z (nb + 1))) 4) := Lib.hid rfl
          have PSU := Lib.hid (sum_any (.slice xo xl xc) _ wr HO7.out.at HBY.out HLJ.out)
          have hsb := sumI_bd 0 (headB (nb : Int) nr nd nm s ++ rowsB Z (nb + 1))
          generalize headB (nb : Int) nr nd nm s ++ rowsB Z (nb + 1) = body at *
          generalize sumI 0 body = sm at *
          have e5 : IntKind.u64.wrap sm = sm := u32_u64 sm hsb.1 hsb.2
          clear hlt HLT
          go_wp2_with fail
          with_reducible refine PSU.out.mono ?_
          rintro e w8 ⟨rfl, hb8⟩
          have HB8 := Lib.hid (btr HB7.out hb8)
          have HO8 := Lib.hid (HO7.out.kept hb8)
          have PLW : Hid (Calls Try.prog 18 #[.slice xo xl xc, .int .u64 sm, .int .i64 4] w8 (OwnPost w8 w.heap.size (.slice xo xl xc) (body ++ leB sm 4))) := Lib.hid (low_any w8 w.heap.size _ _ sm 4 HO8.out HB8.out.size hsb.1 (by omega) (by decide) (by have := HLJ.out; omega))
          clear hb8 PSU HO7 HB7 HC7
          go_wp2_with fail
          with_reducible refine PLW.out.mono ?_
          rintro e w9 ⟨v9, rfl, ho9, hg9, -⟩
          have HO9 := Lib.hid ho9
          have HB9 : Hid (Below w.heap.size w w9) := Lib.hid (HB8.out.grown hg9 HB8.out.size (fun k e => (HO8.out.lt k e).1))
          clear ho9 hg9 PLW
          go_wp2
          go_ret
          exact ⟨_, rfl, by rw [HEN.out]; exact HO9.out, HB9.out⟩
end Go.Proofs.Ytbghchgmoiniiaa
