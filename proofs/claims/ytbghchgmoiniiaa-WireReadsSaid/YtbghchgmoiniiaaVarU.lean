/-
  The walk of varint.Take. Conditions: none beyond those stated at each theorem.
-/
import Derived.Test.YtbghchgmoiniiaaVarT
namespace Go.Proofs.Ytbghchgmoiniiaa
open Go.RowKit
set_option linter.unusedVariables false
set_option linter.unusedSimpArgs false

def TakeRes (bs : List Int) (e : Ending) : Prop :=
  (∃ u n : Nat, TakeS bs u n ∧ e = .returned (.tuple #[.int .u64 (u : Int), .int .i64 (n : Int), .int .i64 0])) ∨ (TakeNo bs ∧ e = .returned (.tuple #[.int .u64 0, .int .i64 0, .int .i64 8]))
theorem and127 (u : Int) (h : 0 ≤ u ∧ u ≤ 255) : bits BinOp.and IntKind.u8 u 127 = ((u.toNat % 128 : Nat) : Int) := by
  obtain ⟨n, rfl⟩ := Int.eq_ofNat_of_zero_le h.1
  have hn : n ≤ 255 := by omega
  have hb : (BitVec.ofInt 8 (n : Int) &&& BitVec.ofInt 8 127).toNat = n % 128 := by
    have e1 : BitVec.ofInt 8 (n : Int) = BitVec.ofNat 8 n := BitVec.ofInt_natCast ..
    have e2 : BitVec.ofInt 8 127 = BitVec.ofNat 8 127 := by decide
    rw [e1, e2, BitVec.toNat_and, BitVec.toNat_ofNat, BitVec.toNat_ofNat]
    have h : ∀ m, m < 256 → (m % 2 ^ 8 &&& 127 % 2 ^ 8) = m % 128 := by decide +kernel
    exact h n (by omega)
  show IntKind.u8.wrap ((BitVec.ofInt 8 (n : Int) &&& BitVec.ofInt 8 127).toNat : Int) = _
  rw [hb]
  simp [IntKind.wrap, IntKind.bits, IntKind.signed]
  omega
theorem shift_pow (q j : Nat) : q * 2 ^ (7 * j) = 128 ^ j * q := by
  rw [Nat.pow_mul, Nat.mul_comm]
theorem lift_lt {r j : Nat} (hq : r < 128) (h : Lib.bitLen r + 7 * j ≤ 64) : j ≤ 9 ∧ 128 ^ j * r + 128 ^ j ≤ 18446744073709551616 := by
  have hc : j = 0 ∨ j = 1 ∨ j = 2 ∨ j = 3 ∨ j = 4 ∨ j = 5 ∨ j = 6 ∨ j = 7 ∨ j = 8 ∨ j = 9 := by omega
  have hr : j = 9 → r ≤ 1 := fun e => by
    rcases Nat.lt_or_ge 1 r with h9 | h9
    · have h10 : ∀ n : Fin 128, 1 < n.val → 2 ≤ Lib.bitLen n.val := by decide +kernel
      have := h10 ⟨r, hq⟩ h9
      simp only at this
      omega
    · exact h9
  refine ⟨by omega, ?_⟩
  rcases hc with rfl | rfl | rfl | rfl | rfl | rfl | rfl | rfl | rfl | rfl
  all_goals first | omega | (have := hr rfl; omega)
theorem or_lift {U q j : Nat} (hj : j ≤ 9) (hU : U < 128 ^ j) (h : 128 ^ j * q + 128 ^ j ≤ 18446744073709551616) : bits BinOp.or IntKind.u64 (U : Int) (IntKind.u64.wrap ((q : Int) * 2 ^ (7 * j))) = ((U + 128 ^ j * q : Nat) : Int) := by
  have e : (128 : Nat) ^ j = 2 ^ (7 * j) := by rw [Nat.pow_mul]
  have e2 : ((2 : Int) ^ (7 * j)) = ((128 ^ j : Nat) : Int) := by rw [e]; exact (Int.natCast_pow ..).symm
  have e3 : ((128 ^ j : Nat) : Int) * (q : Int) = ((128 ^ j * q : Nat) : Int) := (Int.natCast_mul ..).symm
  have h9 : (128 : Nat) ^ j ≤ 128 ^ 9 := Nat.pow_le_pow_right (by decide) hj
  have h9' : (128 : Nat) ^ 9 = 9223372036854775808 := by decide
  have hp : 1 ≤ (128 : Nat) ^ j := Nat.pow_pos (by decide)
  have hw : IntKind.u64.wrap ((q : Int) * 2 ^ (7 * j)) = (q : Int) * 2 ^ (7 * j) := by
    rw [wrapU_mod, e2, Int.mul_comm, e3]; omega
  rw [hw]
  have h1 := or_at (U : Int) (q : Int) (7 * j) (by omega) (by rw [e2]; omega) (by omega) (by rw [e2, e3]; omega) (by rw [e2]; omega)
  rw [h1, e2, e3]; omega
set_option maxRecDepth 100000 in
set_option maxHeartbeats 8000000 in
theorem take_any (w : World) (v : Value) (bs : List Int) (hv : BytesAt w v bs) (hb : Byts bs) (hlen : bs.length ≤ 100000) :
    Calls Try.prog 42 #[v] w fun e w' => TakeRes bs e ∧ w = w' := by
  have HV := Lib.hid hv
  have HB := Lib.hid hb
  obtain ⟨ao, cap, rfl, hcap, hmx, hc⟩ := hv
  obtain ⟨n, hn⟩ : ∃ n, n = bs.length := ⟨_, rfl⟩
  have HN := Lib.hid hn
  rw [← hn] at hcap hlen ⊢
  clear hc hn hb
  go_enter Try.func42, Try.ntmps42
  go_wp2_with fail
  go_loop [5, 11] (fun u i => ∃ j : Nat, j ≤ n ∧ j ≤ 10 ∧ i = .int .i64 (j : Int) ∧ u = .int .u64 (valL (bs.take j) : Int) ∧ (∀ k, k < j → 128 ≤ cellD bs k) ∧ valL (bs.take j) < 18446744073709551616) (fun _ i => n - (intOf i).toNat)
  case atStart => exact ⟨0, by omega, by omega, rfl, by simp [valL], fun k hk => by omega, by simp [valL]⟩
  case round =>
    obtain ⟨j, hj, hj10, rfl, rfl, hmk, hvl⟩ := hrel
    have HMK := Lib.hid hmk
    have HVL := Lib.hid hvl
    clear hmk hvl
    by_cases hlt : j < n
    · have hjl : j < bs.length := by have := HN.out; omega
      obtain ⟨g, off, rfl, hg, cx⟩ := HV.out.cell hjl
      have hb8 := HB.out.cellD j
      have HST := Lib.hid (take_step hjl)
      have HBIG := Lib.hid (take_big HMK.out hjl)
      have HZERO := Lib.hid (fun h => take_zero (bs := bs) (j := j) HMK.out h)
      have HYES := Lib.hid (take_yes HB.out hjl HMK.out)
      have HTL : Hid ((bs.take j).length = j) := Lib.hid (by simp; omega)
      have HVN : Hid (valL (bs.take (j + 1)) = valL (bs.take j) + 128 ^ j * ((cellD bs j).toNat % 128)) := Lib.hid (by rw [HST.out, valL_append, HTL.out])
      have HVJ := Lib.hid (by have := valL_lt (bs.take j); rwa [HTL.out] at this)
      have HMK2 : Hid (128 ≤ cellD bs j → ∀ k, k < j + 1 → 128 ≤ cellD bs k) := Lib.hid (fun h k hk => by
        by_cases e : k = j
        · subst e; exact h
        · exact HMK.out k (by omega))
      generalize cellD bs j = x at *
      obtain ⟨q, hq⟩ : ∃ q, q = x.toNat % 128 := ⟨_, rfl⟩
      have e1 : bits BinOp.and IntKind.u8 x 127 = (q : Int) := by rw [and127 x hb8, hq]
      rw [← hq] at HBIG HVN
      have hq128 : q < 128 := by omega
      have PL := Lib.hid (len7 q w hq128)
      have HQ := Lib.hid hq
      have HLIFT := Lib.hid (fun h => lift_lt (j := j) hq128 h)
      have i0 : (0 : Int) ≤ (j : Int) := by omega
      have i1 : (j : Int) < (n : Int) := by omega
      have hbl : Lib.bitLen q ≤ 7 := len_le7 ⟨q, hq128⟩
      clear hjl hq
      generalize Lib.bitLen q = bl at *
      go_wp2_with fail
      with_reducible refine PL.out.mono ?_
      rintro e w2 ⟨rfl, hw2⟩
      subst hw2
      by_cases hover : 64 < bl + 7 * j
      · have d1 : decide ((64 : Int) < (bl : Int) + 7 * (j : Int)) = true := decide_eq_true (by omega)
        have HP : Hid (TakeRes bs (.returned (.tuple #[.int .u64 0, .int .i64 0, .int .i64 8]))) := Lib.hid (.inr ⟨HBIG.out hover, rfl⟩)
        go_wp2
        go_ret3
        exact ⟨HP.out, rfl⟩
      · have d1 : decide ((64 : Int) < (bl : Int) + 7 * (j : Int)) = false := decide_eq_false (by omega)
        obtain ⟨hj9, hlift⟩ := HLIFT.out (by omega)
        have hor := or_lift hj9 HVJ.out hlift
        have HNV : Hid (valL (bs.take (j + 1)) = valL (bs.take j) + 128 ^ j * q) := Lib.hid (by rw [HVN.out])
        have HLT : Hid (valL (bs.take j) + 128 ^ j * q < 18446744073709551616) := Lib.hid (by have := HVJ.out; omega)
        generalize valL (bs.take j) + 128 ^ j * q = nv at *
        generalize valL (bs.take j) = ov at *
        by_cases hx : 128 ≤ x
        · have d2 : decide ((128 : Int) ≤ x) = true := decide_eq_true hx
          have HMK3 := Lib.hid (HMK2.out hx)
          go_wp2
          go_round
          case rel => exact ⟨j + 1, by omega, by omega, by go_num, by rw [HNV.out], HMK3.out, by rw [HNV.out]; exact HLT.out⟩
          case measure => simp [intOf]; omega
        · have d2 : decide ((128 : Int) ≤ x) = false := decide_eq_false hx
          by_cases hx0 : x = 0 ∧ 0 < j
          · obtain ⟨rfl, hj0⟩ := hx0
            have d3 : decide ((0 : Int) < (j : Int)) = true := decide_eq_true (by omega)
            have d4 : decide (0 < j) = true := decide_eq_true hj0
            have HP : Hid (TakeRes bs (.returned (.tuple #[.int .u64 0, .int .i64 0, .int .i64 8]))) := Lib.hid (.inr ⟨HZERO.out hj0 rfl, rfl⟩)
            go_wp2
            go_ret3
            exact ⟨HP.out, rfl⟩
          · have HP : Hid (TakeRes bs (.returned (.tuple #[.int .u64 (nv : Int), .int .i64 ((j : Int) + 1), .int .i64 0]))) := Lib.hid (.inl ⟨nv, j + 1, by
              have := HYES.out (by omega) (by omega) (by rw [HNV.out]; exact HLT.out)
              rwa [HNV.out] at this, rfl⟩)
            have d3 : (x == 0) = false ∨ (decide ((0 : Int) < (j : Int)) = false ∧ decide (0 < j) = false) := by
              by_cases h : x = 0
              · exact .inr ⟨decide_eq_false (fun h2 => hx0 ⟨h, by omega⟩), decide_eq_false (fun h2 => hx0 ⟨h, h2⟩)⟩
              · exact .inl (by simp [h])
            rcases d3 with d3 | ⟨d3, d4⟩
            · go_wp2
              go_ret3
              exact ⟨HP.out, rfl⟩
            · by_cases h0 : x = 0
              · have d5 : (x == 0) = true := by simp [h0]
                clear h0 hx0
                go_wp2
                go_ret3
                exact ⟨HP.out, rfl⟩
              · have d5 : (x == 0) = false := by simp [h0]
                clear h0 hx0
                go_wp2
                go_ret3
                exact ⟨HP.out, rfl⟩
    · obtain rfl : j = n := by omega
      have HP : Hid (TakeRes bs (.returned (.tuple #[.int .u64 0, .int .i64 0, .int .i64 8]))) := Lib.hid (.inr ⟨take_end (by rw [← HN.out]; exact HMK.out), rfl⟩)
      go_wp2
      go_ret3
      exact ⟨HP.out, rfl⟩
end Go.Proofs.Ytbghchgmoiniiaa
