/-
  The walks of check and its reference. Conditions: none beyond those stated at each theorem.
-/
import Derived.Test.YtbghchgmoiniiaaByt
namespace Go.Proofs.Ytbghchgmoiniiaa
open Go.RowKit
set_option linter.unusedVariables false
set_option linter.unusedSimpArgs false

theorem nw_ofInt (x : BitVec 32) : BitVec.ofInt 32 (nw x) = x := bw_nw x
theorem wrap_nw (x : BitVec 32) : IntKind.u32.wrap (nw x) = nw x := by rw [wrap_bw, bw_nw]
theorem xor_nw (x y : BitVec 32) : bits BinOp.xor IntKind.u32 (nw x) (nw y) = nw (x ^^^ y) := by
  show IntKind.u32.wrap ((BitVec.ofInt 32 (nw x) ^^^ BitVec.ofInt 32 (nw y)).toNat : Int) = _
  rw [nw_ofInt, nw_ofInt]
  exact wrap_nw (x ^^^ y)
theorem and_nw (x y : BitVec 32) : bits BinOp.and IntKind.u32 (nw x) (nw y) = nw (x &&& y) := by
  show IntKind.u32.wrap ((BitVec.ofInt 32 (nw x) &&& BitVec.ofInt 32 (nw y)).toNat : Int) = _
  rw [nw_ofInt, nw_ofInt]
  exact wrap_nw (x &&& y)
theorem shr_nw (x : BitVec 32) (k : Nat) : nw x / ((2 ^ k : Nat) : Int) = nw (x >>> k) := by
  unfold nw
  rw [BitVec.toNat_ushiftRight, Nat.shiftRight_eq_div_pow]
  exact (Int.natCast_ediv ..).symm
theorem lsb_nw (x : BitVec 32) : nw x % 2 = if x.getLsbD 0 then 1 else 0 := by
  unfold nw
  rw [show ((x.toNat : Int) % 2) = ((x.toNat % 2 : Nat) : Int) by omega]
  have : x.getLsbD 0 = decide (x.toNat % 2 = 1) := by simp [BitVec.getLsbD, Nat.testBit_zero]
  rw [this]
  by_cases h : x.toNat % 2 = 1
  · simp [h]
  · simp [h]; omega
theorem byte_nw (u : Int) (h : 0 ≤ u ∧ u ≤ 255) : u = nw (bw u) := (nw_bw u (by omega) (by omega)).symm
theorem step1_if (y : BitVec 32) (h : y.getLsbD 0 = true) : step1 y = y >>> 1 ^^^ PO := by unfold step1; rw [if_pos h]
theorem step1_else (y : BitVec 32) (h : y.getLsbD 0 = false) : step1 y = y >>> 1 := by unfold step1; rw [h]; simp
theorem po_nw : (3988292384 : Int) = nw PO := by decide +kernel
theorem ones_nw : (4294967295 : Int) = nw (~~~ 0#32) := by decide +kernel
theorem not_nw (x : BitVec 32) : bits BinOp.xor IntKind.u32 (nw x) 4294967295 = nw (~~~ x) := by
  rw [ones_nw, xor_nw]
  congr 1
  apply BitVec.eq_of_getLsbD_eq
  intro i hi
  have h : ∀ i, i < 32 → (~~~ 0#32).getLsbD i = true := by decide +kernel
  rw [BitVec.getLsbD_xor, h i hi, BitVec.getLsbD_not]
  simp [hi]
theorem crcL_take {bs : List Int} {r : BitVec 32} {j : Nat} (h : j < bs.length) : crcL r (bs.take (j + 1)) = stepN 8 (crcL r (bs.take j) ^^^ bw (cellD bs j)) := by
  have e : bs[j]? = some (cellD bs j) := by simp [cellD, h]
  rw [List.take_add_one, e, crcL_append]
  rfl
theorem BytesAt.cell {w : World} {ao : Option Addr} {n cap : Nat} {bs : List Int} (h : BytesAt w (.slice ao n cap) bs) {j : Nat} (hj : j < bs.length) : ∃ g off, ao = some ⟨g, off, none⟩ ∧ g < w.heap.size ∧ w.cell? ⟨g, off + j, none⟩ = some (.int .u8 (cellD bs j)) := by
  obtain ⟨ao2, cap2, e, h1, h2, h3⟩ := h
  simp only [Value.slice.injEq] at e
  obtain ⟨rfl, -, rfl⟩ := e
  rcases h3 with ⟨rfl, rfl⟩ | ⟨g, off, rfl, hg, hcc⟩
  · simp at hj
  · exact ⟨g, off, rfl, hg, hcc j _ (by simp [cellD, hj])⟩
set_option maxRecDepth 100000 in
set_option maxHeartbeats 4000000 in
theorem rext_any (s : Int) (v : Value) (bs : List Int) (w : World) (hv : BytesAt w v bs) (hb : Byts bs) (h0 : 0 ≤ s) (h1 : s ≤ 4294967295) (hlen : bs.length ≤ 100000) :
    Calls Try.prog 17 #[.int .u32 s, v] w fun e w' => e = .returned (.int .u32 (sumI s bs)) ∧ w = w' := by
  have HV := Lib.hid hv
  obtain ⟨ao, cap, rfl, hcap, hmx, hc⟩ := hv
  have HC := Lib.hid hc
  obtain ⟨n, hn⟩ : ∃ n, n = bs.length := ⟨_, rfl⟩
  have HN := Lib.hid hn
  rw [← hn] at hcap hlen ⊢
  clear hc hn
  have HB := Lib.hid hb
  have e0 : bits BinOp.xor IntKind.u32 s 4294967295 = nw (~~~ (bw s)) := by
    conv => lhs; rw [← nw_bw s h0 h1]
    exact not_nw _
  go_enter Try.func17, Try.ntmps17
  go_wp2_with fail
  go_loop [5, 6] (fun r i => ∃ j : Nat, j ≤ n ∧ i = .int .i64 (j : Int) ∧ r = .int .u32 (nw (crcL (~~~ (bw s)) (bs.take j)))) (fun _ i => n - (intOf i).toNat)
  case atStart => exact ⟨0, by omega, rfl, by first | rfl | rw [e0]; rfl⟩
  case round =>
    obtain ⟨j, hj, rfl, rfl⟩ := hrel
    by_cases hlt : j < n
    · have hjl : j < bs.length := by have := HN.out; omega
      have HNX := Lib.hid (crcL_take (r := ~~~ (bw s)) hjl)
      obtain ⟨g, off, rfl, hg, cx⟩ := HV.out.cell hjl
      have hb8 := hb.cellD j
      generalize crcL (~~~ (bw s)) (bs.take j) = x at *
      have i0 : (0 : Int) ≤ (j : Int) := by omega
      have i1 : (j : Int) < (n : Int) := by omega
      generalize cellD bs j = u at *
      have hx : bits BinOp.xor IntKind.u32 (nw x) u = nw (x ^^^ bw u) := by
        conv => lhs; rw [byte_nw u hb8]
        exact xor_nw _ _
      clear hjl hb HB e0
      go_wp2_with fail
      go_loop [5, 7] (fun r i => ∃ k : Nat, k ≤ 8 ∧ i = .int .i64 (k : Int) ∧ r = .int .u32 (nw (stepN k (x ^^^ bw u)))) (fun _ i => 8 - (intOf i).toNat)
      case atStart => exact ⟨0, by omega, rfl, by first | rfl | rw [hx]; rfl⟩
      case round =>
        obtain ⟨k, hk, rfl, rfl⟩ := hrel
        by_cases hlk : k < 8
        · have hst : stepN (k + 1) (x ^^^ bw u) = step1 (stepN k (x ^^^ bw u)) := rfl
          have HST := Lib.hid hst
          clear hst hx
          generalize stepN k (x ^^^ bw u) = y at *
          have hyb := nw_bd y
          have f1 : (nw y).tdiv 2 % (4294967296 : Int) = nw (y >>> 1) := by
            rw [Int.tdiv_eq_ediv_of_nonneg hyb.1, ← shr_nw y 1]; omega
          have f2 : bits BinOp.xor IntKind.u32 (nw (y >>> 1)) 3988292384 = nw (y >>> 1 ^^^ PO) := by
            conv => lhs; rw [po_nw]
            exact xor_nw _ _
          by_cases hl : y.getLsbD 0 = true
          · have f3 : ((nw y).tmod 2 == 1) = true := by rw [Int.tmod_eq_emod_of_nonneg hyb.1, lsb_nw, hl]; rfl
            have HS := Lib.hid (step1_if y hl)
            clear hl hyb
            go_wp2
            go_round
            case rel => exact ⟨k + 1, by omega, by go_num, by rw [HST.out, HS.out]⟩
            case measure => simp [intOf]; omega
          · have hl : y.getLsbD 0 = false := by simpa using hl
            have f3 : ((nw y).tmod 2 == 1) = false := by rw [Int.tmod_eq_emod_of_nonneg hyb.1, lsb_nw, hl]; rfl
            have HS := Lib.hid (step1_else y hl)
            clear hl hyb
            go_wp2
            go_round
            case rel => exact ⟨k + 1, by omega, by go_num, by rw [HST.out, HS.out, f1]⟩
            case measure => simp [intOf]; omega
        · obtain rfl : k = 8 := by omega
          go_wp2
          go_round
          case rel => exact ⟨j + 1, by omega, by go_num, by rw [HNX.out]⟩
          case measure => simp [intOf]; omega
    · obtain rfl : j = n := by omega
      have ht : bs.take j = bs := List.take_of_length_le (by have := HN.out; omega)
      rw [ht]
      have hnn := not_nw (crcL (~~~ (bw s)) bs)
      have HS : Hid (sumI s bs = nw (~~~ (crcL (~~~ (bw s)) bs))) := Lib.hid rfl
      generalize crcL (~~~ (bw s)) bs = x at *
      clear ht e0
      go_wp2
      go_ret
      exact ⟨congrArg (fun z => Ending.returned (.int .u32 z)) HS.out.symm, rfl⟩
theorem and1_nw (y : BitVec 32) : bits BinOp.and IntKind.u32 (nw y) 1 = if y.getLsbD 0 then 1 else 0 := by
  have h1 : (1 : Int) = nw 1#32 := by decide +kernel
  conv => lhs; rw [h1]
  rw [and_nw]
  have h2 : y &&& 1#32 = if y.getLsbD 0 then 1#32 else 0#32 := by
    apply BitVec.eq_of_getLsbD_eq
    intro i hi
    rw [BitVec.getLsbD_and]
    by_cases hi0 : i = 0
    · subst hi0
      cases h : y.getLsbD 0 <;> simp
    · have : (1#32).getLsbD i = false := by simp [hi0]
      rw [this, Bool.and_false]
      split <;> simp [hi0]
  rw [h2]
  split <;> decide +kernel
theorem step_mul (y : BitVec 32) : bits BinOp.xor IntKind.u32 (nw y / 2) (3988292384 * bits BinOp.and IntKind.u32 (nw y) 1 % 4294967296) = nw (step1 y) := by
  have h2 : nw y / (2 : Int) = nw (y >>> 1) := by have := shr_nw y 1; simpa using this
  rw [and1_nw, h2]
  unfold step1
  split
  · rw [show (3988292384 : Int) * 1 % 4294967296 = nw PO by decide +kernel, xor_nw]
  · rw [show (3988292384 : Int) * 0 % 4294967296 = nw 0#32 by decide +kernel, xor_nw]
def tabI (k : Nat) : Int := nw (stepN 8 (BitVec.ofNat 32 k))
def tabA : Array Value := ((List.range 256).map fun k => Value.int .u32 (tabI k)).toArray
theorem tabA_size : tabA.size = 256 := by simp [tabA]
theorem tabA_get (i : Nat) (h : i < 256) : tabA[i]? = some (.int .u32 (tabI i)) := by simp [tabA, h]
theorem tabA_one : tabA.all (·.oneCell') = true := by
  rw [Array.all_eq_true_iff_forall_mem]
  intro v hv
  simp [tabA] at hv
  obtain ⟨a, _, rfl⟩ := hv
  rfl
theorem tab_info : (Try.prog.info? 115).map (·.size) = some tabA.size := by rw [tabA_size]; kernel_rfl
theorem zero_row (w : World) : (w.alloc (.cells Try.zeroCells115 115)).rowIs w.heap.size 115 256 (fun _ => .int .u32 0) := by
  have h : Try.zeroCells115 = Array.replicate 256 (.int .u32 0) := by kernel_rfl
  refine ⟨_, Blk.new w _ _, Try.zeroCells115_size, fun i hi => ?_⟩
  rw [h]
  simp [hi]
set_option maxRecDepth 100000 in
set_option maxHeartbeats 4000000 in
theorem steps_any (w : World) :
    Calls Try.prog 57 #[] w fun e w' => e = .returned (.agg tabA) ∧ Below w.heap.size w w' := by
  have hz := zero_row w
  have hb : Below w.heap.size w (w.alloc (.cells Try.zeroCells115 115)) := (Below.refl _ _).alloc (Nat.le_refl _) _
  go_enter Try.func57, Try.ntmps57
  go_wp2_with fail
  generalize (w.alloc (.cells Try.zeroCells115 115)) = wz at *
  generalize hA : w.heap.size = A at *
  have HA := Lib.hid hA
  have HZ := Lib.hid hz
  have HB := Lib.hid hb
  clear hA hz hb
  go_loopw [3] (fun i wr => ∃ j : Nat, j ≤ 256 ∧ i = .int .i64 (j : Int) ∧ wr.rowIs A 115 256 (fun k => .int .u32 (if k < j then tabI k else 0)) ∧ Below A w wr) (fun i _ => 256 - (intOf i).toNat)
  case atStart => exact ⟨0, by omega, rfl, HZ.out.congr (fun k _ => by simp), HB.out⟩
  case round =>
    obtain ⟨j, hj, rfl, hrow, hbel⟩ := hrel
    clear HZ HB
    have HR := Lib.hid hrow
    have HB := Lib.hid hbel
    clear hrow hbel
    by_cases hlt : j < 256
    · have e1 : IntKind.u32.wrap (j : Int) = nw (BitVec.ofNat 32 j) := by rw [wrap_bw]; rfl
      have i0 : (0 : Int) ≤ (j : Int) := by omega
      have i1 : (j : Int) < 256 := by omega
      have ht : nw (stepN 8 (BitVec.ofNat 32 j)) = tabI j := rfl
      have HT := Lib.hid ht
      clear ht
      generalize BitVec.ofNat 32 j = x at *
      go_wp2_with fail
      go_loop [2, 8] (fun r i => ∃ k : Nat, k ≤ 8 ∧ i = .int .i64 (k : Int) ∧ r = .int .u32 (nw (stepN k x))) (fun _ i => 8 - (intOf i).toNat)
      case atStart => exact ⟨0, by omega, rfl, by first | rfl | (rw [e1]; rfl)⟩
      case round =>
        obtain ⟨k, hk, rfl, rfl⟩ := hrel
        by_cases hlk : k < 8
        · have HS : Hid (stepN (k + 1) x = step1 (stepN k x)) := Lib.hid rfl
          have g1 := step_mul (stepN k x)
          generalize stepN k x = y at *
          go_wp2
          go_round
          case rel => exact ⟨k + 1, by omega, by go_num, by first | rw [HS.out] | rw [HS.out, g1]⟩
          case measure => simp [intOf]; omega
        · obtain rfl : k = 8 := by omega
          have hfz := HR.out.frozen j
          have hcz := HR.out.cell hlt
          have HSET := Lib.hid (HR.out.set j (.int .u32 (nw (stepN 8 x))))
          generalize nw (stepN 8 x) = z at *
          clear e1
          go_wp2
          go_roundw
          case rel => exact ⟨j + 1, by omega, by go_num, HSET.out.congr (fun k hk => by
            by_cases e : k = j
            · subst e; simp [HT.out]
            · rw [if_neg e]; by_cases h : k < j
              · rw [if_pos h, if_pos (by omega)]
              · rw [if_neg h, if_neg (by omega)]), HB.out.setCell (Nat.le_refl _) _⟩
          case measure => simp [intOf]; omega
    · obtain rfl : j = 256 := by omega
      have hblk : Blk wr A 115 tabA := Blk.of_row (by rw [tabA_size]; exact HR.out) (fun i hi => by rw [tabA_size] at hi; rw [tabA_get i hi, if_pos hi])
      have HBK := Lib.hid hblk
      have HIn := tab_info
      go_wp2_with (first | refine wpList_load_row rfl 115 _ rfl A rfl 115 tabA (0, 0) _ HBK.out Try.underlying115 rfl HIn ?_ | refine wpList_store_row rfl 115 _ _ rfl A tabA rfl rfl 115 _ HBK.out HIn (by rfl) tabA_one ?_)
      have HZ9 : (wr.setRow A tabA).heap[A]? = some (.cells tabA 115 (0, 0)) := setRow_heap wr A _ _ _ _ HBK.out
      have HB9 : Below A w (wr.setRow A tabA) := HB.out.trans ⟨rfl, rfl, rfl, by simp, fun k hk => setRow_other wr A k tabA (by omega)⟩
      generalize wr.setRow A tabA = w9 at *
      exact bodyPost_ret (results_cell_row rfl _ _ A 115 tabA (0, 0) _ rfl HZ9 Try.underlying115 rfl HIn) rfl ⟨rfl, by rw [HA.out]; exact HB9⟩
end Go.Proofs.Ytbghchgmoiniiaa
