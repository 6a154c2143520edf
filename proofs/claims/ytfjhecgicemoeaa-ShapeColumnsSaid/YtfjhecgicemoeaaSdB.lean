/-
  The walks of package gaugerref03's loops. Conditions: the arguments fit their kinds; the shifts are from 22 to 63; the divisor is odd.
-/
import Derived.Test.YtfjhecgicemoeaaSdA
import Derived.Test.YtfjhecgicemoeaaProg
import Derived.WalkKit
import Derived.ProofKit
import Derived.Lib.Hide
import Derived.Outline
namespace Go.Proofs.Ytfjhecgicemoeaa
open Go.RowKit
set_option linter.unusedVariables false
set_option linter.unusedSimpArgs false

theorem ret_u64' {a b : Int} (h : a = b) : Ending.returned (.int .u64 a) = .returned (.int .u64 b) := by rw [h]

def timesI (a b : Int) : Int := nv (bv a * bv b)
def TRel (a b O A B : Int) : Prop := 0 ≤ O ∧ O ≤ 18446744073709551615 ∧ 0 ≤ A ∧ A ≤ 18446744073709551615 ∧ 0 ≤ B ∧ B ≤ 18446744073709551615 ∧ bv O + bv A * bv B = bv a * bv b
theorem bv_two (B : Int) : bv B = bv (B / 2) + bv (B / 2) + bv (B % 2) := by
  rw [← bv_add, ← bv_add]; congr 1; omega
theorem times_step (O A B : Int) :
    (B % 2 = 1 → bv (IntKind.u64.wrap (O + A)) + bv (IntKind.u64.wrap (A + A)) * bv (B / 2) = bv O + bv A * bv B) ∧
    (B % 2 = 0 → bv O + bv (IntKind.u64.wrap (A + A)) * bv (B / 2) = bv O + bv A * bv B) := by
  have e1 : bv (1 : Int) = 1#64 := rfl
  have e0 : bv (0 : Int) = 0#64 := rfl
  constructor <;> intro h <;> rw [bv_two B, h] <;> simp only [bv_wrap, bv_add, e1, e0, BitVec.mul_add, BitVec.add_mul, BitVec.mul_one, BitVec.mul_zero, BitVec.add_zero]
  rw [BitVec.add_assoc, BitVec.add_comm (bv A)]
theorem wrap_bd (a : Int) : 0 ≤ IntKind.u64.wrap a ∧ IntKind.u64.wrap a ≤ 18446744073709551615 := by rw [wrap_bv]; exact nv_bd _

theorem times_any (a b : Int) (h0 : 0 ≤ a) (h1 : a ≤ 18446744073709551615) (g0 : 0 ≤ b) (g1 : b ≤ 18446744073709551615) (w : World) :
    Calls Try.prog 72 #[.int .u64 a, .int .u64 b] w fun e w' => e = .returned (.int .u64 (timesI a b)) ∧ w = w' := by
  have start : TRel a b 0 a b := ⟨by omega, by omega, h0, h1, g0, g1, by rw [show bv 0 = 0#64 from rfl, BitVec.zero_add]⟩
  go_enter Try.func72, Try.ntmps72
  go_wp2
  go_loop [0, 1, 5] (fun x y o => ∃ O A B : Int, TRel a b O A B ∧ x = .int .u64 A ∧ y = .int .u64 B ∧ o = .int .u64 O) (fun _ y _ => (intOf y).toNat)
  case atStart => exact ⟨_, _, _, start, rfl, rfl, rfl⟩
  case round =>
    obtain ⟨O, A, B, hR, rfl, rfl, rfl⟩ := hrel
    obtain ⟨o0, o1, x0, x1, y0, y1, hmid⟩ := hR
    have HM := Lib.hid hmid
    clear hmid start
    by_cases hy : 0 < B
    · have w1 := wrap_bd (O + A)
      have w2 := wrap_bd (A + A)
      have hs1 := Lib.hid w1
      have hs2 := Lib.hid w2
      clear w1 w2
      by_cases ho : B % 2 = 1
      · have hob : (B % 2 == 1) = true := by simp [ho]
        have HS := Lib.hid ((times_step O A B).1 ho)
        clear ho
        go_wp2
        go_round
        case rel => exact ⟨_, _, _, ⟨hs1.out.1, hs1.out.2, hs2.out.1, hs2.out.2, by omega, by omega, by rw [HS.out]; exact HM.out⟩, rfl, rfl, rfl⟩
        case measure => simp [intOf]; omega
      · have hob : (B % 2 == 1) = false := by simp [ho]
        have HS := Lib.hid ((times_step O A B).2 (by omega))
        clear ho
        go_wp2
        go_round
        case rel => exact ⟨_, _, _, ⟨o0, o1, hs2.out.1, hs2.out.2, by omega, by omega, by rw [HS.out]; exact HM.out⟩, rfl, rfl, rfl⟩
        case measure => simp [intOf]; omega
    · obtain rfl : B = 0 := by omega
      go_wp2
      go_ret
      refine ⟨ret_u64' ?_, rfl⟩
      have := HM.out
      rw [show bv 0 = 0#64 from rfl, BitVec.mul_zero, BitVec.add_zero] at this
      unfold timesI
      rw [← this, nv_bv _ o0 o1]

theorem shaken_any (z : Int) (k : Nat) (h0 : 0 ≤ z) (h1 : z ≤ 18446744073709551615) (g0 : 22 ≤ k) (g1 : k ≤ 63) (w : World) :
    Calls Try.prog 80 #[.int .u64 z, .int .i64 (k : Int)] w fun e w' => e = .returned (.int .u64 (nv (sx k (bv z)))) ∧ w = w' := by
  obtain ⟨x, rfl⟩ : ∃ x : BitVec 64, z = nv x := ⟨bv z, (nv_bv z h0 h1).symm⟩
  rw [bv_nv]
  go_enter Try.func80, Try.ntmps80
  go_wp2
  go_loop [5, 6] (fun o i => ∃ i' : Nat, i' ≤ 64 ∧ o = .int .u64 (((sx k x).toNat % 2 ^ i' : Nat) : Int) ∧ i = .int .i64 (i' : Int)) (fun _ i => 64 - (intOf i).toNat)
  case atStart => exact ⟨0, by omega, by simp [Nat.mod_one], rfl⟩
  case round =>
    obtain ⟨i, hi, rfl, rfl⟩ := hrel
    generalize hS : (((sx k x).toNat % 2 ^ i : Nat) : Int) = S
    have HS := Lib.hid hS
    clear hS
    by_cases hlt : i < 64
    · by_cases hk : i + k < 64
      · have H := Lib.hid (shaken_step1 x k i hlt)
        go_wp2
        go_round
        case rel => exact ⟨i + 1, by omega, by rw [← HS.out]; exact congrArg (Value.int IntKind.u64) H.out, by go_num⟩
        case measure => simp [intOf]; omega
      · have H := Lib.hid (shaken_step2 x k i hlt (by omega))
        go_wp2
        go_round
        case rel => exact ⟨i + 1, by omega, by rw [← HS.out]; exact congrArg (Value.int IntKind.u64) H.out, by go_num⟩
        case measure => simp [intOf]; omega
    · obtain rfl : i = 64 := by omega
      go_wp2
      go_ret
      refine ⟨ret_u64' ?_, rfl⟩
      rw [← HS.out, Nat.mod_eq_of_lt (sx k x).isLt]; rfl

theorem or_one (o i : Nat) (hi : i < 64) (h : o < 2 ^ i) : bits BinOp.or IntKind.u64 (o : Int) (2 ^ i) = ((o + 2 ^ i : Nat) : Int) := by
  have := orB o true i hi h
  have e : ((2 ^ i * true.toNat : Nat) : Int) = 2 ^ i := by
    show ((2 ^ i * 1 : Nat) : Int) = 2 ^ i
    rw [Nat.mul_one, Int.natCast_pow]; rfl
  rw [e] at this
  rw [this]
  show ((o + 2 ^ i * 1 : Nat) : Int) = _
  rw [Nat.mul_one]

theorem sub_shl (r y : BitVec 64) (i : Nat) : IntKind.u64.wrap (nv r - IntKind.u64.wrap (nv y * 2 ^ i)) = nv (r - y * BitVec.ofNat 64 (2 ^ i)) := by
  rw [wrap_bv, bv_sub, bv_wrap, bv_mul, bv_nv, bv_nv]
  have e : bv ((2 : Int) ^ i) = BitVec.ofNat 64 (2 ^ i) := by
    unfold bv
    rw [show (2 : Int) ^ i = ((2 ^ i : Nat) : Int) from (Int.natCast_pow ..).symm, BitVec.ofInt_natCast]
  rw [e]

end Go.Proofs.Ytfjhecgicemoeaa
