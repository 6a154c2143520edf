/-
  The walks of the loops of package field and of gaugerref01: products by doubling, powers, inverses by Euclid's steps. Conditions: the arguments fit 64 bits.
-/
import Derived.Test.YtfjhecgicemoeaaFldW
import Derived.Outline
namespace Go.Proofs.Ytfjhecgicemoeaa
open Go.RowKit
set_option linter.unusedVariables false

theorem rmul_step (O X Y : Int) (h : 0 ≤ Y) :
    (Y % 2 = 1 → ((O + X) % P + (X + X) % P * (Y / 2)) % P = (O + X * Y) % P) ∧ (Y % 2 = 0 → (O + (X + X) % P * (Y / 2)) % P = (O + X * Y) % P) := by
  have key : ∀ Z : Int, (Z + (X + X) % P * (Y / 2)) % P = (Z + X * (2 * (Y / 2))) % P := by
    intro Z
    rw [← add_r Z ((X + X) % P * (Y / 2)), mul_l, add_r]
    congr 2
    rw [← Int.mul_assoc, show X + X = X * 2 by omega]
  constructor
  · intro e
    rw [key, add_l, Int.add_assoc]
    congr 2
    rw [show X * Y = X * (1 + 2 * (Y / 2)) by congr 1; omega, Int.mul_add, Int.mul_one]
  · intro e
    rw [key]
    congr 3
    omega

def RMulRel (a b O X Y : Int) : Prop := 0 ≤ O ∧ O ≤ 2305843009213693950 ∧ 0 ≤ X ∧ X ≤ 2305843009213693950 ∧ 0 ≤ Y ∧ Y ≤ 2305843009213693950 ∧ (O + X * Y) % P = fmul a b

theorem rmul_any (a b : Int) (h0 : 0 ≤ a) (h1 : a ≤ 18446744073709551615) (g0 : 0 ≤ b) (g1 : b ≤ 18446744073709551615) (w : World) :
    Calls Try.prog 74 #[.int .u64 a, .int .u64 b] w fun e w' => e = .returned (.int .u64 (fmul a b)) ∧ w = w' := by
  have start : RMulRel a b 0 (a % 2305843009213693951) (b % 2305843009213693951) := by
    refine ⟨by omega, by omega, by omega, by omega, by omega, by omega, ?_⟩
    rw [← P_eq, Int.zero_add, mul_l, mul_r]; rfl
  go_enter Try.func74, Try.ntmps74
  go_wp2
  go_loop [5, 6, 7] (fun x y o => ∃ O X Y : Int, RMulRel a b O X Y ∧ x = .int .u64 X ∧ y = .int .u64 Y ∧ o = .int .u64 O) (fun _ y _ => (intOf y).toNat)
  case atStart => exact ⟨_, _, _, start, rfl, rfl, rfl⟩
  case round =>
    obtain ⟨O, X, Y, hR, rfl, rfl, rfl⟩ := hrel
    have HR := Lib.hid hR
    obtain ⟨o0, o1, x0, x1, y0, y1, hmid⟩ := hR
    have HM := Lib.hid hmid
    clear hmid start
    by_cases hy : 0 < Y
    · by_cases ho : Y % 2 = 1
      · have hob : (Y % 2 == 1) = true := by simp [ho]
        have HS := Lib.hid ((rmul_step O X Y y0).1 ho)
        go_wp2
        go_round
        case rel => exact ⟨_, _, _, ⟨by omega, by omega, by omega, by omega, by omega, by omega, by have := HS.out; rw [P_eq] at *; rw [this, ← P_eq]; exact HM.out⟩, rfl, rfl, rfl⟩
        case measure => simp [intOf]; omega
      · have hob : (Y % 2 == 1) = false := by simp [ho]
        have HS := Lib.hid ((rmul_step O X Y y0).2 (by omega))
        go_wp2
        go_round
        case rel => exact ⟨_, _, _, ⟨by omega, by omega, by omega, by omega, by omega, by omega, by have := HS.out; rw [P_eq] at *; rw [this, ← P_eq]; exact HM.out⟩, rfl, rfl, rfl⟩
        case measure => simp [intOf]; omega
    · obtain rfl : Y = 0 := by omega
      go_wp2
      go_ret
      refine ⟨ret_u64 ?_, rfl⟩
      have := HM.out
      rw [Int.mul_zero, Int.add_zero] at this
      rw [← this]; unfold P; omega

def PowRel (a n O A N : Int) : Prop := 0 ≤ O ∧ O ≤ 2305843009213693950 ∧ 0 ≤ A ∧ A ≤ 18446744073709551615 ∧ 0 ≤ N ∧ N ≤ 18446744073709551615 ∧ fmul O (fpow' A N.toNat) = fpw a n

theorem pow_step (O A : Int) (N : Int) (h : 0 ≤ N) :
    (N % 2 = 1 → fmul (fmul O A) (fpow' (fmul A A) (N / 2).toNat) = fmul O (fpow' A N.toNat)) ∧ (N % 2 = 0 → fmul O (fpow' (fmul A A) (N / 2).toNat) = fmul O (fpow' A N.toNat)) := by
  constructor
  · intro e
    rw [fpow'_sq, fmul_assoc, fmul_comm A, ← fpow'_succ]
    congr 2; omega
  · intro e
    rw [fpow'_sq]
    congr 2; omega

/-! ### The reference's inverse: by Euclid's steps -/
def InvRel (a R0 R1 S0 S1 : Int) : Prop :=
  0 ≤ R0 ∧ R0 ≤ 2305843009213693951 ∧ 0 ≤ R1 ∧ R1 ≤ 2305843009213693951 ∧ 0 ≤ S0 ∧ S0 ≤ 2305843009213693950 ∧ 0 ≤ S1 ∧ S1 ≤ 2305843009213693950 ∧
  ffold R0 = fmul S0 a ∧ ffold R1 = fmul S1 a ∧ (ffold a ≠ 0 → Nat.gcd R0.toNat R1.toNat = 1)

theorem inv_start (a : Int) : InvRel a 2305843009213693951 (a % 2305843009213693951) 0 1 := by
  refine ⟨by omega, by omega, by omega, by omega, by omega, by omega, by omega, by omega, ?_, ?_, ?_⟩
  · rw [fmul_comm, fmul_zero]; rfl
  · rw [one_fmul, ← P_eq]; exact mod_idem a
  · intro ha
    have h1 := inv_mul (ffold a) (by rw [ffold_fold]; exact ha)
    have hb := ffold_bd a
    have hc := finv_bd (ffold a)
    have e : a % 2305843009213693951 = ffold a := rfl
    rw [e]
    generalize ffold a = x at *
    generalize finv x = y at *
    obtain ⟨x, rfl⟩ := Int.eq_ofNat_of_zero_le hb.1
    obtain ⟨y, rfl⟩ := Int.eq_ofNat_of_zero_le hc.1
    unfold fmul at h1
    have h2 : (x * y) % PN = 1 := by
      have : ((x * y % PN : Nat) : Int) = 1 := by rw [Int.natCast_emod, Int.natCast_mul, ← P_nat]; exact h1
      omega
    rw [Int.toNat_natCast, show (2305843009213693951 : Int).toNat = PN from rfl]
    refine Nat.dvd_one.1 ?_
    have d1 : Nat.gcd PN x ∣ x * y := Nat.dvd_trans (Nat.gcd_dvd_right _ _) (Nat.dvd_mul_right _ _)
    have d2 : Nat.gcd PN x ∣ PN := Nat.gcd_dvd_left _ _
    have := (Nat.dvd_mod_iff d2).2 d1
    rw [h2] at this
    exact this

theorem inv_step (a R0 R1 S0 S1 : Int) (h : InvRel a R0 R1 S0 S1) (hp : 0 < R1) :
    InvRel a R1 (R0 - R0 / R1 * R1) S1 (fsub S0 (fmul (R0 / R1) S1)) := by
  obtain ⟨a0, a1, b0, b1, c0, c1, d0, d1, e1, e2, e3⟩ := h
  have hm : R0 - R0 / R1 * R1 = R0 % R1 := by rw [Int.emod_def, Int.mul_comm]
  have m0 : 0 ≤ R0 % R1 := Int.emod_nonneg _ (by omega)
  have m1 : R0 % R1 < R1 := Int.emod_lt_of_pos _ hp
  have fb := fsub_bd S0 (fmul (R0 / R1) S1)
  refine ⟨b0, b1, by omega, by omega, d0, d1, fb.1, fb.2, e2, ?_, ?_⟩
  · have : ffold (R0 - R0 / R1 * R1) = fsub (ffold R0) (fmul (R0 / R1) (ffold R1)) := by
      rw [fsub_fold_l, fmul_fold_r]
      unfold ffold fsub fmul; rw [sub_r]
    rw [this, e1, e2, fmul_comm S0, fmul_comm S1, fmul_comm _ a, fmul_sub, fmul_comm a S1, ← fmul_assoc, fmul_comm (fmul _ _) a]
  · intro ha
    have g := e3 ha
    rw [hm]
    obtain ⟨x, rfl⟩ := Int.eq_ofNat_of_zero_le a0
    obtain ⟨y, rfl⟩ := Int.eq_ofNat_of_zero_le b0
    have : ((x : Int) % (y : Int)).toNat = x % y := by rw [← Int.natCast_emod]; rfl
    rw [this]
    rw [Int.toNat_natCast, Int.toNat_natCast] at *
    rw [Nat.gcd_comm, Nat.gcd_rec, Nat.gcd_comm] at g
    exact g

theorem inv_end (a R0 S0 S1 : Int) (h : InvRel a R0 0 S0 S1) (ha : ffold a ≠ 0) : S0 = finv a := by
  obtain ⟨a0, a1, b0, b1, c0, c1, d0, d1, e1, e2, e3⟩ := h
  have g := e3 ha
  rw [show (0 : Int).toNat = 0 from rfl, Nat.gcd_zero_right] at g
  have : R0 = 1 := by omega
  subst this
  rw [inv_unique a S0 (by rw [fmul_comm, ← e1]; rfl), ffold_of _ c0 (by omega)]

end Go.Proofs.Ytfjhecgicemoeaa
