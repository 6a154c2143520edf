import Derived.RangeFuncNested
import Derived.RangeFuncBound
import Derived.RangeFuncCalls
import Derived.RangeFuncLeaves
import Derived.RangeFuncWrites
import Derived.Shelf.Abstract
import Derived.Shelf.RegionOpen
import Derived.WalkKit
import Derived.OwnWalkIn
import Derived.TacticsInMore
import Derived.LoopNIn
import Derived.LoopIn
import Derived.Deep.RegionHeld3
import Derived.StillTailTactics
import Derived.Test.YtbghchgmoiniiaaGreatQaa
import Derived.Test.YtbghchgmoiniiaaGreatProg
import Derived.ProofKit
import Derived.Lib.Hide
import Derived.Outline
import Derived.Test.YtbghchgmoiniiaaGreatQac
import Derived.Test.YtbghchgmoiniiaaGreatQab
/-
  No program: a region that draws its order, in a round of a range over a function. Conditions: none beyond those stated at each theorem.
-/
namespace Go.Proofs.YtbghchgmoiniiaaGreat
open Go.RowKit
set_option linter.unusedVariables false
set_option linter.unusedSimpArgs false

section
variable {P : Program}
def noDefer (o : Oper) : Bool := match o.op with
  | .defer _ => false
  | _ => true
theorem noDefer_ne {o : Oper} (h : noDefer o = true) : ∀ c, o.op ≠ .defer c := fun c e => by
  unfold noDefer at h
  rw [e] at h
  cases h
theorem upon_round {l n : Nat} {o : Oper} {a : Act} {next next' : Act → World → Prop} {Q : Exit → Act → World → Prop} {r : Result Next} (hn : ∀ a w, next a w → next' a w) (h : o.upon P a next Q r) : o.uponIn (Fence.wide.inRound l) n P a next' Q r := by
  unfold Oper.upon at h
  split at h
  · exact hn _ _ h
  · exact hn _ _ h
  · exact hn _ _ h
  · refine ⟨(fun hh => by cases hh), CallsIn.inRound l (callsIn_wide.2 (h.mono ?_))⟩
    intro e w' hq
    cases e with
    | returned v => exact hn _ _ hq
    | panicked c => exact hq
    | outgrown => exact hq
  · refine ⟨(fun hh => by cases hh), fun c cs _ => ?_⟩
    obtain ⟨v, w', hr, hs⟩ := h c cs
    exact ⟨v, w', hn _ _ hr, stepsIn_wide.2 hs⟩
  · exact h
  · exact h.elim
theorem wpOps_round {l n : Nat} {ops : Array Oper} {Q : Exit → Act → World → Prop} (hno : ¬ LetsOut Q) (hd : ∀ (i : Nat) (o : Oper), ops[i]? = some o → noDefer o = true) :
    ∀ (is : List Nat) (a : Act) (w : World), wpOps P ops Q is a w → wpOpsIn (Fence.wide.inRound l) n P ops Q is a w := by
  intro is
  induction is with
  | nil => exact fun a w h => h
  | cons i is ih =>
    intro a w h
    simp only [wpOps] at h
    simp only [wpOpsIn]
    cases ho : ops[i]? with
    | none =>
      rw [ho] at h
      exact ih a w h
    | some o =>
      rw [ho] at h
      simp only [] at h ⊢
      by_cases hw : Region.wanted o (yielded ops a.tmps) = true
      · rw [if_pos hw] at h
        rw [if_pos hw]
        rcases h with h | ⟨_, h⟩
        · refine ⟨fun _ _ => trivial, ?_⟩
          show o.uponIn (Fence.wide.inRound l) n P a _ Q ((o.semAt (some l) a.eval).run P w)
          rw [Oper.semAt_some l a.eval o (noDefer_ne (hd i o ho))]
          exact upon_round ih h
        · exact absurd h hno
      · rw [if_neg hw] at h
        rw [if_neg hw]
        exact ⟨fun _ _ => trivial, ih _ _ h⟩
theorem wpIn_round_held {l n id : Nat} {ops : Array Oper} {S : World → Prop} {Q : Exit → Act → World → Prop} {a : Act} {w : World} (hm : P.follows .mixedOrders = true) (hd : ops.all noDefer = true) (hno : ¬ LetsOut Q) (hS : S w.drew)
    (h : S w.drew → wpAnyH P .any ops Q S ops.size (Array.replicate ops.size false) a w.drew) : (Code.region id ops true).wpIn (Fence.wide.inRound l) n P Q a w :=
  wpIn_region_draw fun t => by
    simp only [Region.schedule, hm, Bool.true_or, if_true]
    refine wpOps_round hno (fun i o ho => ?_) _ _ _ (wpAny_sound ops.size t _ a _ (wpAny_of_held _ _ _ _ (h hS)))
    have := Array.all_eq_true.1 hd i (Array.getElem?_eq_some_iff.1 ho).1
    rwa [(Array.getElem?_eq_some_iff.1 ho).2] at this
theorem wpIn_round_any {l n id : Nat} {ops : Array Oper} {Q : Exit → Act → World → Prop} {a : Act} {w : World} (hm : P.follows .mixedOrders = true) (hd : ops.all noDefer = true) (hno : ¬ LetsOut Q)
    (h : wpAny P .any ops Q ops.size (Array.replicate ops.size false) a w.drew) : (Code.region id ops true).wpIn (Fence.wide.inRound l) n P Q a w :=
  wpIn_region_draw fun t => by
    simp only [Region.schedule, hm, Bool.true_or, if_true]
    refine wpOps_round hno (fun i o ho => ?_) _ _ _ (wpAny_sound ops.size t _ a _ h)
    have := Array.all_eq_true.1 hd i (Array.getElem?_eq_some_iff.1 ho).1
    rwa [(Array.getElem?_eq_some_iff.1 ho).2] at this
/-- in a round: what only reads first, then the rest, one behind the other -/
theorem wpIn_round_tail {l n id : Nat} {L : List Oper} {Q : Exit → Act → World → Prop} {a : Act} {w : World} (k : Nat) (hm : P.follows .mixedOrders = true) (hd : L.toArray.all noDefer = true) (hno : ¬ LetsOut Q) (hB : Region.lexTailB .any L.toArray k = true)
    (h : wpStill P L.toArray w.drew (fun a' => wpList P L.toArray Q (L.drop k) a' w.drew) (L.take k) a) : (Code.region id L.toArray true).wpIn (Fence.wide.inRound l) n P Q a w := by
  unfold Region.lexTailB at hB
  simp only [Bool.and_eq_true, decide_eq_true_eq] at hB
  obtain ⟨⟨⟨⟨b1, b2⟩, b3⟩, b4⟩, b5⟩ := hB
  have hk : k < L.length := by simpa using b2
  have e1 : (L.take k).length = k := by rw [List.length_take]; omega
  have e2 : (L.drop k).length = L.toArray.size - k := by rw [List.length_drop]; rfl
  have first : wpAnyL P .any L.toArray w.drew k (fun listed a' => Region.seqB .any L.toArray (L.toArray.size - k) k listed = true ∧ wpList P L.toArray Q (L.drop k) a' w.drew) (L.take k).length (Array.replicate L.toArray.size false) a := by
    refine wpAnyL_lex b1 b3 b4 b2 (L.take k) 0 _ a (fun j hj => ?_) (by omega) ⟨Array.size_replicate, ?_, ?_⟩ (by rw [e1]; exact b5) h
    · rw [e1] at hj
      rw [Nat.zero_add, List.getElem?_toArray, List.getElem?_take, if_pos hj]
    · intro j oj _ hl
      rw [getD_replicate_false] at hl
      cases hl
    · intro t _ ht
      exact getD_in (by rw [Array.size_replicate]; exact ht) (getD_replicate_false _ _)
  have both : wpAny P .any L.toArray Q ((L.take k).length + (L.toArray.size - k)) (Array.replicate L.toArray.size false) a w.drew := by
    refine wpAny_of_head (g := L.toArray.size - k) (fun listed a' hL => ?_) _ _ _ first
    rw [← e2]
    refine wpAny_of_seq (L.drop k) k listed a' w.drew (fun j => ?_) (by rw [e2]; exact hL.1) hL.2
    rw [List.getElem?_drop, List.getElem?_toArray]
  have e3 : (L.take k).length + (L.toArray.size - k) = L.toArray.size := by rw [e1]; omega
  rw [e3] at both
  exact wpIn_round_any hm hd hno both
end
/-- some blocks lie as they lay -/
def KpB (l : List Nat) (W W' : World) : Prop := W.heap.size ≤ W'.heap.size ∧ ∀ i ∈ l, W'.heap[i]? = W.heap[i]?
theorem KpB.trans {l : List Nat} {A B C : World} (h : KpB l A B) (k : KpB l B C) : KpB l A C := ⟨Nat.le_trans h.1 k.1, fun i hi => (k.2 i hi).trans (h.2 i hi)⟩
theorem KpB.put {l : List Nat} {w : World} (hl : ∀ i ∈ l, i < w.heap.size) (W : World) (k : Nat) (o o' : Obj) (hk : w.heap.size ≤ k) (_ : W.heap[k]? = some o) (_ : o.isCells = false) (_ : o.isWalk = false) : KpB l W (W.putObj k o') :=
  ⟨by simp, fun i hi => World.putObj_heap_other (by have := hl i hi; omega)⟩
theorem KpB.blk {l : List Nat} {W W' : World} (h : KpB l W W') {g : Nat} (hg : g ∈ l) {t : TypeId} {cs : Array Value} (hb : Blk W g t cs) : Blk W' g t cs := (h.2 g hg).trans hb
theorem KpB.of_below {l : List Nat} {n : Nat} {W W' : World} (h : Below n W W') (hl : ∀ i ∈ l, i < n) : KpB l W W' := ⟨h.size, fun i hi => h.block i (hl i hi)⟩
theorem KpB.of_grown {l : List Nat} {row : Option Nat} {W W' : World} (h : W.grownBy W' row) (hl : ∀ i ∈ l, i < W.heap.size ∧ some i ≠ row) : KpB l W W' := ⟨h.size, fun i hi => h.block i (hl i hi).1 (hl i hi).2⟩
/-- what is no cells lies as it lay, if a change is one of cells and of what is new -/
theorem kept_others {W W' : World} {row : Option Nat} (h : W.grownBy W' row) (hr : ∀ g, row = some g → ∃ t cs, Blk W g t cs) : KeepsOthers W W' :=
  ⟨h.size, fun k o hk ho => (h.block k (Array.getElem?_eq_some_iff.1 hk).1 (fun e => by
    obtain ⟨t, cs, hb⟩ := hr k e.symm
    unfold Blk at hb
    rw [hb] at hk
    injection hk with hk
    subst hk
    cases ho)).trans hk⟩
/-- a block of cells is none of those that are none -/
theorem Blk.not_other {W : World} {g r : Nat} {t : TypeId} {cs : Array Value} {o : Obj} (h : Blk W g t cs) (hr : W.heap[r]? = some o) (ho : o.isCells = false) : g ≠ r := by
  rintro rfl
  unfold Blk at h
  rw [h] at hr
  injection hr with hr
  subst hr
  cases ho
theorem Blk.walked {W W' : World} {row : Option Nat} {g : Nat} {t : TypeId} {cs : Array Value} (h : Blk W g t cs) (hg : W.grownBy W' row) (hr : ∀ r, row = some r → ∃ o : Obj, W.heap[r]? = some o ∧ o.isCells = false) : Blk W' g t cs :=
  h.grown hg (fun e => by
    obtain ⟨o, ho, hc⟩ := hr g e.symm
    exact h.not_other ho hc rfl)
end Go.Proofs.YtbghchgmoiniiaaGreat

/-
  The walks of package gaugerref03's loops. Conditions: the arguments fit their kinds; the shifts are from 22 to 63; the divisor is odd.
-/
namespace Go.Proofs.YtbghchgmoiniiaaGreat
open Go.RowKit
set_option linter.unusedVariables false
set_option linter.unusedSimpArgs false

theorem ret_u64' {a b : Int} (h : a = b) : Ending.returned (.int .u64 a) = .returned (.int .u64 b) := by rw [h]

def timesI (a b : Int) : Int := nv (bv a * bv b)
def TRel (a b O A B : Int) : Prop := 0 ≤ O ∧ O ≤ 18446744073709551615 ∧ 0 ≤ A ∧ A ≤ 18446744073709551615 ∧ 0 ≤ B ∧ B ≤ 18446744073709551615 ∧ bv O + bv A * bv B = bv a * bv b
theorem bv_two (B : Int) : bv B = bv (B / 2) + bv (B / 2) + bv (B % 2) := by
  rw [← bv_add, ← bv_add]; congr 1; omega
theorem times_step (O A B : Int) :
    (B % 2 = 1 → bv (IntKind.u64.wrap (O + A)) + bv (IntKind.u64.wrap (A + A)) * bv (B / 2) = bv O + bv A * bv B) ∧
    (B % 2 = 0 → bv O + bv (IntKind.u64.wrap (A + A)) * bv (B / 2) = bv O + bv A * bv B) := by
  have e1 : bv (1 : Int) = 1#64 := rfl
  have e0 : bv (0 : Int) = 0#64 := rfl
  constructor <;> intro h <;> rw [bv_two B, h] <;> simp only [bv_wrap, bv_add, e1, e0, BitVec.mul_add, BitVec.add_mul, BitVec.mul_one, BitVec.mul_zero, BitVec.add_zero]
  rw [BitVec.add_assoc, BitVec.add_comm (bv A)]
theorem wrap_bd (a : Int) : 0 ≤ IntKind.u64.wrap a ∧ IntKind.u64.wrap a ≤ 18446744073709551615 := by rw [wrap_bv]; exact nv_bd _

theorem times_any (a b : Int) (h0 : 0 ≤ a) (h1 : a ≤ 18446744073709551615) (g0 : 0 ≤ b) (g1 : b ≤ 18446744073709551615) (w : World) :
    Calls Tryz.prog 93 #[.int .u64 a, .int .u64 b] w fun e w' => e = .returned (.int .u64 (timesI a b)) ∧ w = w' := by
  have start : TRel a b 0 a b := ⟨by omega, by omega, h0, h1, g0, g1, by rw [show bv 0 = 0#64 from rfl, BitVec.zero_add]⟩
  go_enter Tryz.func93, Tryz.ntmps93
  go_wp2
  go_loop [0, 1, 5] (fun x y o => ∃ O A B : Int, TRel a b O A B ∧ x = .int .u64 A ∧ y = .int .u64 B ∧ o = .int .u64 O) (fun _ y _ => (intOf y).toNat)
  case atStart => exact ⟨_, _, _, start, rfl, rfl, rfl⟩
  case round =>
    obtain ⟨O, A, B, hR, rfl, rfl, rfl⟩ := hrel
    obtain ⟨o0, o1, x0, x1, y0, y1, hmid⟩ := hR
    have HM := Lib.hid hmid
    clear hmid start
    by_cases hy : 0 < B
    · have w1 := wrap_bd (O + A)
      have w2 := wrap_bd (A + A)
      have hs1 := Lib.hid w1
      have hs2 := Lib.hid w2
      clear w1 w2
      by_cases ho : B % 2 = 1
      · have hob : (B % 2 == 1) = true := by simp [ho]
        have HS := Lib.hid ((times_step O A B).1 ho)
        clear ho
        go_wp2
        go_round
        case rel => exact ⟨_, _, _, ⟨hs1.out.1, hs1.out.2, hs2.out.1, hs2.out.2, by omega, by omega, by rw [HS.out]; exact HM.out⟩, rfl, rfl, rfl⟩
        case measure => simp [intOf]; omega
      · have hob : (B % 2 == 1) = false := by simp [ho]
        have HS := Lib.hid ((times_step O A B).2 (by omega))
        clear ho
        go_wp2
        go_round
        case rel => exact ⟨_, _, _, ⟨o0, o1, hs2.out.1, hs2.out.2, by omega, by omega, by rw [HS.out]; exact HM.out⟩, rfl, rfl, rfl⟩
        case measure => simp [intOf]; omega
    · obtain rfl : B = 0 := by omega
      go_wp2
      go_ret
      refine ⟨ret_u64' ?_, rfl⟩
      have := HM.out
      rw [show bv 0 = 0#64 from rfl, BitVec.mul_zero, BitVec.add_zero] at this
      unfold timesI
      rw [← this, nv_bv _ o0 o1]

theorem shaken_any (z : Int) (k : Nat) (h0 : 0 ≤ z) (h1 : z ≤ 18446744073709551615) (g0 : 22 ≤ k) (g1 : k ≤ 63) (w : World) :
    Calls Tryz.prog 96 #[.int .u64 z, .int .i64 (k : Int)] w fun e w' => e = .returned (.int .u64 (nv (sx k (bv z)))) ∧ w = w' := by
  obtain ⟨x, rfl⟩ : ∃ x : BitVec 64, z = nv x := ⟨bv z, (nv_bv z h0 h1).symm⟩
  rw [bv_nv]
  go_enter Tryz.func96, Tryz.ntmps96
  go_wp2
  go_loop [5, 6] (fun o i => ∃ i' : Nat, i' ≤ 64 ∧ o = .int .u64 (((sx k x).toNat % 2 ^ i' : Nat) : Int) ∧ i = .int .i64 (i' : Int)) (fun _ i => 64 - (intOf i).toNat)
  case atStart => exact ⟨0, by omega, by simp [Nat.mod_one], rfl⟩
  case round =>
    obtain ⟨i, hi, rfl, rfl⟩ := hrel
    generalize hS : (((sx k x).toNat % 2 ^ i : Nat) : Int) = S
    have HS := Lib.hid hS
    clear hS
    by_cases hlt : i < 64
    · by_cases hk : i + k < 64
      · have H := Lib.hid (shaken_step1 x k i hlt)
        go_wp2
        go_round
        case rel => exact ⟨i + 1, by omega, by rw [← HS.out]; exact congrArg (Value.int IntKind.u64) H.out, by go_num⟩
        case measure => simp [intOf]; omega
      · have H := Lib.hid (shaken_step2 x k i hlt (by omega))
        go_wp2
        go_round
        case rel => exact ⟨i + 1, by omega, by rw [← HS.out]; exact congrArg (Value.int IntKind.u64) H.out, by go_num⟩
        case measure => simp [intOf]; omega
    · obtain rfl : i = 64 := by omega
      go_wp2
      go_ret
      refine ⟨ret_u64' ?_, rfl⟩
      rw [← HS.out, Nat.mod_eq_of_lt (sx k x).isLt]; rfl

theorem or_one (o i : Nat) (hi : i < 64) (h : o < 2 ^ i) : bits BinOp.or IntKind.u64 (o : Int) (2 ^ i) = ((o + 2 ^ i : Nat) : Int) := by
  have := orB o true i hi h
  have e : ((2 ^ i * true.toNat : Nat) : Int) = 2 ^ i := by
    show ((2 ^ i * 1 : Nat) : Int) = 2 ^ i
    rw [Nat.mul_one, Int.natCast_pow]; rfl
  rw [e] at this
  rw [this]
  show ((o + 2 ^ i * 1 : Nat) : Int) = _
  rw [Nat.mul_one]

theorem sub_shl (r y : BitVec 64) (i : Nat) : IntKind.u64.wrap (nv r - IntKind.u64.wrap (nv y * 2 ^ i)) = nv (r - y * BitVec.ofNat 64 (2 ^ i)) := by
  rw [wrap_bv, bv_sub, bv_wrap, bv_mul, bv_nv, bv_nv]
  have e : bv ((2 : Int) ^ i) = BitVec.ofNat 64 (2 ^ i) := by
    unfold bv
    rw [show (2 : Int) ^ i = ((2 ^ i : Nat) : Int) from (Int.natCast_pow ..).symm, BitVec.ofInt_natCast]
  rw [e]

end Go.Proofs.YtbghchgmoiniiaaGreat

/-
  The walks of package gaugerref03: Mix, Unmix, Draw and Pair (the reference). Conditions: the arguments fit their kinds.
-/
namespace Go.Proofs.YtbghchgmoiniiaaGreat
open Go.RowKit
set_option linter.unusedVariables false
set_option linter.unusedSimpArgs false

theorem shaken_i (z k : Int) (h0 : 0 ≤ z) (h1 : z ≤ 18446744073709551615) (g0 : 22 ≤ k) (g1 : k ≤ 63) (w : World) :
    Calls Tryz.prog 96 #[.int .u64 z, .int .i64 k] w fun e w' => e = .returned (.int .u64 (nv (sx k.toNat (bv z)))) ∧ w = w' := by
  obtain ⟨K, rfl⟩ := Int.eq_ofNat_of_zero_le (show 0 ≤ k by omega)
  rw [Int.toNat_natCast]
  exact shaken_any z K h0 h1 (by omega) (by omega) w
theorem shaken_c (z k : Int) (x : BitVec 64) (K : Nat) (hz : z = nv x) (hk : k = (K : Int)) (g0 : 22 ≤ K) (g1 : K ≤ 63) (w : World) :
    Calls Tryz.prog 96 #[.int .u64 z, .int .i64 k] w fun e w' => e = .returned (.int .u64 (nv (sx K x))) ∧ w = w' := by
  subst hz; subst hk
  have := shaken_any (nv x) K (nv_bd x).1 (nv_bd x).2 g0 g1 w
  rw [bv_nv] at this; exact this
theorem times_c (a b : Int) (x y : BitVec 64) (hx : a = nv x) (hy : b = nv y) (w : World) :
    Calls Tryz.prog 93 #[.int .u64 a, .int .u64 b] w fun e w' => e = .returned (.int .u64 (nv (x * y))) ∧ w = w' := by
  subst hx; subst hy
  have := times_any (nv x) (nv y) (nv_bd x).1 (nv_bd x).2 (nv_bd y).1 (nv_bd y).2 w
  unfold timesI at this
  rw [bv_nv, bv_nv] at this; exact this
theorem rmix_any (a : Int) (h0 : 0 ≤ a) (h1 : a ≤ 18446744073709551615) (w : World) :
    Calls Tryz.prog 92 #[.int .u64 a] w fun e w' => e = .returned (.int .u64 (mixI a)) ∧ w = w' := by
  have ha : Hid (a = nv (bv a)) := Lib.hid (nv_bv a h0 h1).symm
  go_enter Tryz.func92, Tryz.ntmps92
  go_wp2_with fail
  refine (shaken_c _ _ (bv a) 30 ha.out rfl (by omega) (by omega) _).mono ?_; rintro e w' ⟨rfl, rfl⟩
  go_wp2_with fail
  refine (times_c _ _ (sx 30 (bv a)) C1 rfl (by decide) _).mono ?_; rintro e w' ⟨rfl, rfl⟩
  go_wp2_with fail
  refine (shaken_c _ _ (sx 30 (bv a) * C1) 27 rfl rfl (by omega) (by omega) _).mono ?_; rintro e w' ⟨rfl, rfl⟩
  go_wp2_with fail
  refine (times_c _ _ (sx 27 (sx 30 (bv a) * C1)) C2 rfl (by decide) _).mono ?_; rintro e w' ⟨rfl, rfl⟩
  go_wp2_with fail
  refine (shaken_c _ _ (sx 27 (sx 30 (bv a) * C1) * C2) 31 rfl rfl (by omega) (by omega) _).mono ?_; rintro e w' ⟨rfl, rfl⟩
  go_wp2_with fail
  go_ret
  exact ⟨ret_u64s rfl, rfl⟩

theorem rdraw_any (s i : Int) (h0 : 0 ≤ s) (h1 : s ≤ 18446744073709551615) (g0 : 0 ≤ i) (g1 : i ≤ 18446744073709551615) (w : World) :
    Calls Tryz.prog 88 #[.int .u64 s, .int .u64 i] w fun e w' => e = .returned (.int .u64 (drawI s i)) ∧ w = w' := by
  have hn : Hid (IntKind.u64.wrap (i + 1) = nv (bv i + 1#64)) := Lib.hid (by rw [wrap_bv, bv_add]; rfl)
  have hw : Hid (0 ≤ IntKind.u64.wrap (s + nv ((bv i + 1#64) * G)) ∧ IntKind.u64.wrap (s + nv ((bv i + 1#64) * G)) ≤ 18446744073709551615) := Lib.hid (by rw [wrap_bv]; exact nv_bd _)
  have HE : Hid (mixI (IntKind.u64.wrap (s + nv ((bv i + 1#64) * G))) = drawI s i) := Lib.hid (by
    unfold mixI drawI drawB; rw [bv_wrap, bv_add, bv_nv])
  go_enter Tryz.func88, Tryz.ntmps88
  go_wp2_with fail
  refine (times_c _ _ (bv i + 1#64) G hn.out (by decide) _).mono ?_; rintro e w' ⟨rfl, rfl⟩
  go_wp2_with fail
  refine (rmix_any _ hw.out.1 hw.out.2 _).mono ?_; rintro e w' ⟨rfl, rfl⟩
  go_wp2_with fail
  go_ret
  exact ⟨ret_u64s HE.out, rfl⟩

theorem rpair_any (s l r : Int) (h0 : 0 ≤ s) (h1 : s ≤ 18446744073709551615) (l0 : 0 ≤ l) (l1 : l ≤ 59) (r0 : 0 ≤ r) (r1 : r ≤ 7) (w : World) :
    Calls Tryz.prog 84 #[.int .u64 s, .int .i64 l, .int .i64 r] w fun e w' => e = .returned (.tuple #[.int .u64 (pairA s l r), .int .u64 (pairB s l r)]) ∧ w = w' := by
  have b1 := drawI_bd s (16 * l + 2 * r)
  have b2 := drawI_bd s (16 * l + 2 * r + 1)
  go_enter Tryz.func84, Tryz.ntmps84
  go_wp2_with fail
  refine (rdraw_any _ _ h0 h1 (by omega) (by omega) _).mono ?_
  rintro e w' ⟨rfl, rfl⟩
  go_wp2_with fail
  refine (rdraw_any _ _ h0 h1 (by omega) (by omega) _).mono ?_
  rintro e w2 ⟨rfl, rfl⟩
  go_wp2_with fail
  go_ret2
  exact ⟨ret_u64s2 rfl rfl, rfl⟩

theorem rpair_none (s l r : Int) (h : l < 0 ∨ 59 < l ∨ r < 0 ∨ 7 < r) (w : World) :
    Calls Tryz.prog 84 #[.int .u64 s, .int .i64 l, .int .i64 r] w fun e w' => e = .returned (.tuple #[.int .u64 0, .int .u64 0]) ∧ w = w' := by
  by_cases c1 : l < 0
  · clear h
    go_enter Tryz.func84, Tryz.ntmps84
    go_wp2
    go_ret2
    exact ⟨rfl, rfl⟩
  · by_cases c2 : 59 < l
    · clear h
      go_enter Tryz.func84, Tryz.ntmps84
      go_wp2
      go_ret2
      exact ⟨rfl, rfl⟩
    · by_cases c3 : r < 0
      · clear h
        go_enter Tryz.func84, Tryz.ntmps84
        go_wp2
        go_ret2
        exact ⟨rfl, rfl⟩
      · have c4 : 7 < r := by omega
        clear h
        go_enter Tryz.func84, Tryz.ntmps84
        go_wp2
        go_ret2
        exact ⟨rfl, rfl⟩
end Go.Proofs.YtbghchgmoiniiaaGreat

/-
  The walk of gaugerref07.Columns, and of the statement ShapeColumns of layer 7: it returns true. Conditions: the arguments are of their types.
-/
namespace Go.Proofs.YtbghchgmoiniiaaGreat
open Go.RowKit Go.ChangeShapes Go.WideShapes Go.ChangeAt
set_option linter.unusedVariables false
set_option linter.unusedSimpArgs false

def RColsPost (w : World) (R : Nat) (d s l k : Int) (e : Ending) (w' : World) : Prop :=
  ∃ v, e = .returned v ∧ IntsAt w' v ((List.range R).map fun (i : Nat) => colI d s l k (i : Int)) ∧ Below w.heap.size w w'
theorem range_map_succ (f : Nat → Int) (j : Nat) : ((List.range (j + 1)).map f).map (Value.int .i64) = ((List.range j).map f).map (Value.int .i64) ++ [Value.int .i64 (f j)] := by
  rw [List.range_succ]; simp

set_option maxRecDepth 100000 in
set_option maxHeartbeats 1000000 in
/-- and it is a row of its own -/
def RColsPost2 (w : World) (R : Nat) (d s l k : Int) (e : Ending) (w' : World) : Prop :=
  ∃ v, e = .returned v ∧ IntsAt w' v ((List.range R).map fun (i : Nat) => colI d s l k (i : Int)) ∧ Below w.heap.size w w' ∧ w'.ownsRow (w.heap.size + 1) 3 1 v R (((List.range R).map fun (i : Nat) => colI d s l k (i : Int)).map (Value.int .i64))
theorem rcols_own (b d m s l k : Int) (R : Nat) (s0 : 0 ≤ s) (s1 : s ≤ 18446744073709551615) (k0 : 0 ≤ k) (k1 : k ≤ 18446744073709551615) (hk : k < keysI b (R : Int) d m l) (w : World) :
    Calls Tryz.prog 78 #[.agg #[.int .i64 b, .int .i64 (R : Int), .int .i64 d, .int .i64 m, .int .u64 s], .int .i64 l, .int .u64 k] w (RColsPost2 w R d s l k) := by
  obtain ⟨j0, j1⟩ := keysI_bd b (R : Int) d m l
  have HR := keys_right (b := b) (r := (R : Int)) (d := d) (m := m) (l := l) (by omega)
  obtain ⟨d0, d1, b0, b1, l0, l1, r0, r1, _⟩ := HR
  have e1 : decide (keysI b (R : Int) d m l ≤ k) = false := decide_eq_false (by omega)
  obtain ⟨i0, hi, hz0, hz1, hz2⟩ := info_parts Tryz.infoInt
  go_enter Tryz.func78, Tryz.ntmps78
  go_wp2_with fail
  refine (rkeys_any b (R : Int) d m s l _).mono ?_; rintro e w1 ⟨rfl, hb'⟩
  have hk := (Blk.new w 24 #[.int .i64 b, .int .i64 (R : Int), .int .i64 d, .int .i64 m, .int .u64 s]).alloc (.cells #[] 3) |>.kept hb'
  have hown0 := World.ownsRow_lit (base := w.heap.size + 1) (e := 3) (size := 1) (w.alloc (.cells #[.int .i64 b, .int .i64 (R : Int), .int .i64 d, .int .i64 m, .int .u64 s] 24)) #[] 0 (by simp) (by unfold maxLen; omega) (by simp)
  have hown : w1.ownsRow (w.heap.size + 1) 3 1 (.slice (some ⟨w.heap.size + 1, 0, none⟩) 0 0) 0 [] := by
    have hg : ((w.alloc (.cells #[.int .i64 b, .int .i64 (R : Int), .int .i64 d, .int .i64 m, .int .u64 s] 24)).alloc (.cells #[] 3)).grownBy w1 none := ⟨hb'.os, hb'.tape, hb'.output, hb'.size, fun i hi _ => hb'.block i hi⟩
    have := hown0.kept hg (Or.inr (by simp [Value.ownBlock]))
    simpa using this
  have hbel : Below w.heap.size w w1 := (((Below.refl _ _).alloc (Nat.le_refl _) _).alloc (by simp) _).trans (hb'.mono (by simp; omega))
  have hsz : w.heap.size + 1 < w1.heap.size := by have := hb'.size; simp at this; omega
  clear hown0 hb'
  obtain ⟨q0, q1, q2, q3, q4⟩ := box_cells hk
  generalize hA : w.heap.size = A at *
  have HA := Lib.hid hA
  clear hA
  go_wp2_with fail
  clear q0 q1 q2 q3 q4
  have HK := Lib.hid hk
  have HO := Lib.hid hown
  have HBL := Lib.hid hbel
  clear hk hown hbel
  go_loopw [7, 8] (fun v i wr => ∃ j : Nat, j ≤ R ∧ i = .int .i64 (j : Int) ∧ wr.ownsRow (A + 1) 3 1 v j (((List.range j).map fun (i : Nat) => colI d s l k (i : Int)).map (Value.int .i64)) ∧ Blk wr A 24 #[.int .i64 b, .int .i64 (R : Int), .int .i64 d, .int .i64 m, .int .u64 s] ∧ Below A w wr ∧ A + 1 < wr.heap.size) (fun _ i _ => R - (intOf i).toNat)
  case atStart => exact ⟨0, by omega, rfl, HO.out, HK.out, HBL.out, hsz⟩
  case round =>
    obtain ⟨j, hj, rfl, hown, hk, hbel, hsz⟩ := hrel
    clear HO HK HBL
    obtain ⟨q0, q1, q2, q3, q4⟩ := box_cells hk
    have HK := Lib.hid hk
    have HO := Lib.hid hown
    have HBL := Lib.hid hbel
    clear hk hown hbel
    obtain ⟨pa0, pa1⟩ := pairA_bd s l (j : Int)
    obtain ⟨pb0, pb1⟩ := pairB_bd s l (j : Int)
    by_cases hlt : j < R
    · go_wp2_with fail
      refine (rpair_any s l (j : Int) s0 s1 l0 (by omega) (by omega) (by omega) _).mono ?_; rintro e w2 ⟨rfl, rfl⟩
      go_wp2_with fail
      refine (rbucket_any _ _ k d (by omega) (by omega) (by omega) (by omega) k0 k1 d0 (by omega) _).mono ?_; rintro e w2 ⟨rfl, rfl⟩
      rw [show lineI (pairA s l (j : Int)) (pairB s l (j : Int)) k % d = colI d s l k (j : Int) from rfl]
      have hlen : j + 1 ≤ maxLen := by unfold maxLen; omega
      go_wp2_with (at_builtin; refine wpList_append_own _ rfl _ _ 58 rfl (A + 1) 3 i0 (.int .i64 0) 1 8 Tryz.underlying58 hi hz0 hz1 hz2 rfl (by decide) _ _ _ rfl (HO.out.alloc _) ⟨wr.heap.size, 0, none⟩ 1 1 [.int .i64 (colI d s l k (j : Int))] rfl rfl (cell_one_new _ _ _) ?c2 hlen ?c4 ?c5 ?_)
      case c2 => simp [Value.oneCell']
      case c4 => omega
      case c5 => simp; omega
      intro v' w3 hown' hgrow _
      have hA1 : some A ≠ Value.ownBlock u7 := by
        intro h
        have := (HO.out.lt A h.symm).1
        omega
      have HK3 := Lib.hid ((HK.out.alloc (.cells #[.int .i64 (colI d s l k (j : Int))] 3)).grown hgrow hA1)
      have HB3 : Hid (Below A w w3) := Lib.hid ((HBL.out.alloc (by omega) _).grown hgrow (by simp; omega) (fun g hg => by have := (HO.out.lt g hg).1; omega))
      have HO3 : Hid (w3.ownsRow (A + 1) 3 1 v' (j + 1) (((List.range (j + 1)).map fun (i : Nat) => colI d s l k (i : Int)).map (Value.int .i64))) := Lib.hid (by rw [range_map_succ, List.map_map]; exact hown')
      have hsz3 : A + 1 < w3.heap.size := by have := hgrow.size; simp at this; omega
      clear hown' hgrow hA1 q0 q1 q2 q3 q4
      go_wp2
      go_roundw
      case rel => exact ⟨j + 1, by omega, by go_num, HO3.out, HK3.out, HB3.out, hsz3⟩
      case measure => simp [intOf]; omega
    · obtain rfl : j = R := by omega
      go_wp2
      go_ret
      exact ⟨_, rfl, IntsAt.of_own HO.out (by simp), by rw [HA.out]; exact HBL.out, by rw [HA.out]; exact HO.out⟩
theorem rcols_any (b d m s l k : Int) (R : Nat) (s0 : 0 ≤ s) (s1 : s ≤ 18446744073709551615) (k0 : 0 ≤ k) (k1 : k ≤ 18446744073709551615) (hk : k < keysI b (R : Int) d m l) (w : World) :
    Calls Tryz.prog 78 #[.agg #[.int .i64 b, .int .i64 (R : Int), .int .i64 d, .int .i64 m, .int .u64 s], .int .i64 l, .int .u64 k] w (RColsPost w R d s l k) := (rcols_own b d m s l k R s0 s1 k0 k1 hk w).mono fun e w' ⟨v, h1, h2, h3, _⟩ => ⟨v, h1, h2, h3⟩

theorem rcols_none (b r d m s l k : Int) (hk : ¬ k < keysI b r d m l) (w : World) :
    Calls Tryz.prog 78 #[.agg #[.int .i64 b, .int .i64 r, .int .i64 d, .int .i64 m, .int .u64 s], .int .i64 l, .int .u64 k] w (RColsPost w 0 d s l k) := by
  have e1 : decide (keysI b r d m l ≤ k) = true := decide_eq_true (by omega)
  go_enter Tryz.func78, Tryz.ntmps78
  go_wp2_with fail
  refine (rkeys_any b r d m s l _).mono ?_; rintro e w1 ⟨rfl, hb'⟩
  have hbel : Below w.heap.size w w1 := (((Below.refl _ _).alloc (Nat.le_refl _) _).alloc (by simp) _).trans (hb'.mono (by simp; omega))
  clear hb'
  go_wp2
  go_ret
  exact ⟨_, rfl, ⟨_, _, rfl, Nat.le_refl _, fun h => by simp at h⟩, hbel⟩

theorem colsL_yes {b d m s l k : Int} {R : Nat} (hk : k < keysI b (R : Int) d m l) : colsL b (R : Int) d m s l k = (List.range R).map fun (i : Nat) => colI d s l k (i : Int) := by
  unfold colsL; rw [if_pos hk, Int.toNat_natCast]

end Go.Proofs.YtbghchgmoiniiaaGreat

/-
  The walks of the document's sketch: Copy, Update. Conditions: none beyond those stated at each theorem.
-/
namespace Go.Proofs.YtbghchgmoiniiaaGreat
open Go.RowKit
set_option linter.unusedVariables false
set_option linter.unusedSimpArgs false

/-- a row's slice is laid anew -/
theorem RefIs.newrow {w : World} {N G L vcap : Nat} {B K : Nat → Nat} {R W : Nat} {zs zs' : List Int} {r g cp : Nat} {cur : Array Value} (h : RefIs w N G (.slice (some ⟨L, 0, none⟩) R vcap) B K R W zs) (hr : r < R) (hg : Blk w g 2 cur)
    (hcur : ∀ (c : Nat) (u : Int), c < W → zs'[r * W + c]? = some u → cur[c]? = some (Value.int .i64 u)) (hW : W ≤ cp) (hN : N ≤ g) (hne : ∀ i, i < R → B i ≠ g) (hlen : zs'.length = R * W) (hsame : ∀ i c, i < R → i ≠ r → c < W → zs'[i * W + c]? = zs[i * W + c]?) :
    RefIs (w.setCell ⟨L, r, none⟩ (.slice (some ⟨g, 0, none⟩) W cp)) N G (.slice (some ⟨L, 0, none⟩) R vcap) (upN B r g) (upN K r cp) R W zs' := by
  obtain ⟨hl, hx⟩ := h.own
  rcases hx with ⟨hx, -⟩ | ⟨L', cap', curL, e, hb, hL, hnc, hcm, hsz, htake⟩
  · cases hx
  · simp only [Value.slice.injEq, Option.some.injEq, Addr.mk.injEq, and_true, true_and] at e
    obtain ⟨rfl, rfl⟩ := e
    have hL' : Blk w L 62 curL := hL
    have hfarI : ∀ {q : Nat} {cs : Array Value}, Blk w q 2 cs → Blk (w.setCell ⟨L, r, none⟩ (.slice (some ⟨g, 0, none⟩) W cp)) q 2 cs := fun hq => hq.far (by simpa using hq.ne_ hL' (by decide)) _
    refine ⟨h.box.far (by simpa using h.box.ne_ hL' (by decide)) _, ⟨by simp, .inr ⟨L, vcap, curL.setIfInBounds r (.slice (some ⟨g, 0, none⟩) W cp), rfl, hb, hL'.set_ r _, hnc, hcm, by simpa using hsz, ?_⟩⟩, fun i hi => ?_, fun i hi => ?_, fun i j hi hj e => ?_, ⟨h.lo.1, fun i hi => ?_⟩, hlen, h.rows, h.width⟩
    · apply List.ext_getElem?
      intro i
      rw [List.getElem?_take, List.getElem?_map]
      by_cases hi : i < R
      · rw [if_pos (by omega), List.getElem?_range hi, Array.getElem?_toList, Array.getElem?_setIfInBounds]
        have h1 : (curL.toList.take (R * 1))[i]? = ((List.range R).map fun r => Value.slice (some ⟨B r, 0, none⟩) W (K r))[i]? := by rw [htake]
        rw [List.getElem?_take, if_pos (by omega), Array.getElem?_toList, List.getElem?_map, List.getElem?_range hi] at h1
        by_cases e : r = i
        · subst e
          rw [if_pos rfl, if_pos (by omega)]
          simp [upN_same]
        · rw [if_neg e, h1]
          simp [upN_other _ _ (Ne.symm e)]
      · rw [if_neg (by omega), List.getElem?_eq_none (by simp; omega)]
        rfl
    · by_cases e : i = r
      · subst e; rw [upN_same]; exact hW
      · rw [upN_other _ _ e]; exact h.cap i hi
    · by_cases e : i = r
      · subst e; rw [upN_same]; exact ⟨cur, hfarI hg, hcur⟩
      · rw [upN_other _ _ e]
        obtain ⟨c2, h2, h3⟩ := h.cells i hi
        exact ⟨c2, hfarI h2, fun c u hc hu => h3 c u hc (by rw [← hsame i c hi e hc]; exact hu)⟩
    · by_cases e1 : i = r
      · by_cases e2 : j = r
        · omega
        · rw [e1, upN_same, upN_other _ _ e2] at e
          exact absurd e.symm (hne j hj)
      · by_cases e2 : j = r
        · rw [e2, upN_same, upN_other _ _ e1] at e
          exact absurd e (hne i hi)
        · rw [upN_other _ _ e1, upN_other _ _ e2] at e
          exact h.inj i j hi hj e
    · by_cases e : i = r
      · subst e; rw [upN_same]; exact hN
      · rw [upN_other _ _ e]; exact h.lo.2 i hi
/-- the first rows are those of the one, the others noughts -/
def rowsTo (zs : List Int) (R W j : Nat) : List Int := zs.take (j * W) ++ List.replicate (R * W - j * W) 0
theorem rowsTo_len {zs : List Int} {R W j : Nat} (h : zs.length = R * W) (hj : j ≤ R) : (rowsTo zs R W j).length = R * W := by
  have : j * W ≤ R * W := Nat.mul_le_mul_right W hj
  unfold rowsTo
  rw [List.length_append, List.length_take, List.length_replicate, h]
  omega
theorem rowsTo_get {zs : List Int} {R W j i : Nat} (h : zs.length = R * W) (hj : j ≤ R) (hi : i < R * W) : (rowsTo zs R W j)[i]? = if i < j * W then zs[i]? else some 0 := by
  have hjw : j * W ≤ R * W := Nat.mul_le_mul_right W hj
  have hl : (zs.take (j * W)).length = j * W := by rw [List.length_take, h]; omega
  unfold rowsTo
  by_cases e : i < j * W
  · rw [if_pos e, List.getElem?_append_left (by omega), List.getElem?_take, if_pos e]
  · rw [if_neg e, List.getElem?_append_right (by omega), hl, List.getElem?_replicate, if_pos (by omega)]
theorem rowsTo_zero (zs : List Int) (R W : Nat) : rowsTo zs R W 0 = List.replicate (R * W) 0 := by simp [rowsTo]
theorem rowsTo_all {zs : List Int} {R W : Nat} (h : zs.length = R * W) : rowsTo zs R W R = zs := by
  unfold rowsTo
  rw [List.take_of_length_le (by omega)]
  simp
theorem place_lt {i c W R : Nat} (hi : i < R) (hc : c < W) : i * W + c < R * W := by
  have h1 : (i + 1) * W ≤ R * W := Nat.mul_le_mul_right W (by omega)
  rw [Nat.add_mul] at h1
  omega
theorem place_row {i j c W : Nat} (hc : c < W) : i * W + c < j * W ↔ i < j := by
  constructor
  · intro h
    rcases Nat.lt_or_ge i j with h1 | h1
    · exact h1
    · have := Nat.mul_le_mul_right W h1
      omega
  · intro h
    exact place_lt h hc
def RSkCopyPost (w : World) (b r d m s l : Int) (zs : List Int) (e : Ending) (w' : World) : Prop :=
  ∃ SA G v B K, e = .returned (.pointer (some ⟨SA, 0, none⟩)) ∧ w.heap.size ≤ SA ∧ Blk w' SA 109 #[.int .i64 b, .int .i64 r, .int .i64 d, .int .i64 m, .int .u64 s, .int .i64 l, .pointer (some ⟨G, 0, none⟩)] ∧ RefIs w' w.heap.size G v B K r.toNat d.toNat zs ∧ Below w.heap.size w w'
set_option maxRecDepth 100000 in
set_option maxHeartbeats 8000000 in
theorem rskcopy (w : World) (SA G N0 : Nat) (v : Value) (B K : Nat → Nat) (b m s l : Int) (R W : Nat) (zs : List Int) (hr : rightB b R W m = true) (hSA : Blk w SA 109 #[.int .i64 b, .int .i64 (R : Int), .int .i64 (W : Int), .int .i64 m, .int .u64 s, .int .i64 l, .pointer (some ⟨G, 0, none⟩)]) (hG : RefIs w N0 G v B K R W zs) :
    Calls Tryz.prog 76 #[.pointer (some ⟨SA, 0, none⟩)] w (RSkCopyPost w b R W m s l zs) := by
  have hR := right_of hr
  have hR0 : 0 < R := by omega
  have hR8 : R ≤ 8 := by omega
  have hW128 : W ≤ 128 := by omega
  have PN := Lib.hid (fun w => rsknew b R W m s l hr w)
  have HLEN := Lib.hid hG.len
  obtain ⟨L, vc, rfl⟩ := hG.openL hR0
  have HG := Lib.hid hG
  have HSA := Lib.hid hSA
  clear hr hR hSA hG
  unfold RSkCopyPost
  rw [Int.toNat_natCast, Int.toNat_natCast]
  obtain ⟨i0, hi, hz0, hz1, hz2⟩ := info_parts Tryz.info64
  go_enter Tryz.func76, Tryz.ntmps76
  go_wp2_with fail
  refine wp_region_still_tail 8 (by kernel_rfl) (by kernel_rfl) ?_
  simp only [List.take_succ_cons, List.take_zero, List.drop_succ_cons, List.drop_zero]
  have HB2 : Hid (Below w.heap.size w { heap := w.heap, tape := w.tape, drawn := w.drawn + 1, os := w.os, output := w.output }) := Lib.hid (below_drewN (Below.refl _ _) 1)
  generalize ({ heap := w.heap, tape := w.tape, drawn := w.drawn + 1, os := w.os, output := w.output } : World) = wd at *
  have q0 := (HSA.out.kept HB2.out).cell 0
  have q1 := (HSA.out.kept HB2.out).cell 1
  have q2 := (HSA.out.kept HB2.out).cell 2
  have q3 := (HSA.out.kept HB2.out).cell 3
  have q4 := (HSA.out.kept HB2.out).cell 4
  have q5 := (HSA.out.kept HB2.out).cell 5
  simp at q0 q1 q2 q3 q4 q5
  repeat still_step
  refine wpStill_nil ?_
  go_wp2_with fail
  with_reducible refine (PN.out _).mono ?_
  rintro e w2 ⟨SA2, G2, v2, B2, K2, rfl, hS2, hbx, hg, hb⟩
  rw [Int.toNat_natCast, Int.toNat_natCast] at hg
  obtain ⟨L2, vc2, rfl⟩ := hg.openL hR0
  have HBX := Lib.hid hbx
  have HB3 := Lib.hid (btr HB2.out hb)
  have HLO : Hid (w.heap.size ≤ wd.heap.size ∧ w.heap.size ≤ SA2) := Lib.hid ⟨HB2.out.size, Nat.le_trans HB2.out.size hS2⟩
  have HG2 := Lib.hid (hg.base HLO.out.1)
  obtain ⟨ao0, c0, e0, hRc, hLL⟩ := hg.openG
  obtain ⟨L3, curL, e1, hL2N, hL2, -⟩ := hLL hR0
  rw [e1] at e0
  simp only [Value.slice.injEq, Option.some.injEq, Addr.mk.injEq, and_true, true_and] at e0
  obtain ⟨rfl, rfl⟩ := e0
  have HL2 : Hid (Blk w2 L2 62 curL) := Lib.hid hL2
  have HL2N : Hid (w.heap.size ≤ L2) := Lib.hid (Nat.le_trans HB2.out.size hL2N)
  clear hbx hg hb hS2 q0 q1 q2 q3 q4 q5 hRc hLL hL2N hL2 e1
  go_wp2_with fail
  go_loopw [4] (fun i wr => ∃ (j : Nat) (B' K' : Nat → Nat), j ≤ R ∧ i = .int .i64 (j : Int) ∧ RefIs wr w.heap.size G2 (.slice (some ⟨L2, 0, none⟩) R vc2) B' K' R W (rowsTo zs R W j) ∧ Blk wr SA2 109 #[.int .i64 b, .int .i64 (R : Int), .int .i64 (W : Int), .int .i64 m, .int .u64 s, .int .i64 l, .pointer (some ⟨G2, 0, none⟩)] ∧ Below w.heap.size w wr) (fun i _ => R - (intOf i).toNat)
  case atStart => exact ⟨0, B2, K2, by omega, rfl, by rw [rowsTo_zero]; exact HG2.out, HBX.out, HB3.out⟩
  case round =>
    obtain ⟨j, B', K', hj, rfl, hg, hbx, hbel⟩ := hrel
    have HGR := Lib.hid hg
    have HBR := Lib.hid hbel
    have HBXR := Lib.hid hbx
    clear HBX HB3 HG2
    have hSAr := HSA.out.kept hbel
    have hGr := HG.out.below hbel (Nat.le_refl _)
    have q6 := hSAr.cell 6
    have qG := hGr.box.cell 0
    simp at q6 qG
    by_cases hlt : j < R
    · obtain ⟨cB, hBj, hcB⟩ := hGr.cells j hlt
      obtain ⟨-, hLj⟩ := hGr.lookR hlt
      obtain ⟨curS, hLS⟩ : ∃ curS, Blk wr L 62 curS := by
        obtain ⟨ao1, c1, e2, -, hh⟩ := hGr.openG
        obtain ⟨L4, cu, e3, -, h5, -⟩ := hh hR0
        rw [e3] at e2
        simp only [Value.slice.injEq, Option.some.injEq, Addr.mk.injEq, and_true, true_and] at e2
        obtain ⟨rfl, rfl⟩ := e2
        exact ⟨cu, h5⟩
      have HKJ := Lib.hid (hGr.cap j hlt)
      have hlen := HLEN.out
      obtain ⟨zl, hzl⟩ : ∃ zl, zl = rowZ zs W j := ⟨_, rfl⟩
      have HZL := Lib.hid hzl
      have HZN : Hid (zl.length = W) := Lib.hid (by rw [hzl]; exact rowZ_len hlen hlt)
      have HN : Hid (L2 ≠ L ∧ j * W ≤ R * W) := Lib.hid ⟨by
        have h1 := hLS.lt
        have h2 := HL2N.out
        intro e
        have h3 : L < w.heap.size := by
          obtain ⟨ao1, c1, e2, -, hh⟩ := HG.out.openG
          obtain ⟨L4, cu, e3, -, h5, -⟩ := hh hR0
          rw [e3] at e2
          simp only [Value.slice.injEq, Option.some.injEq, Addr.mk.injEq, and_true, true_and] at e2
          obtain ⟨rfl, rfl⟩ := e2
          exact h5.lt
        omega, Nat.mul_le_mul_right W (by omega)⟩
      have HCB : Hid (∀ i u, zl[i]? = some u → cB[i]? = some (Value.int .i64 u)) := Lib.hid (fun i u hu => by
        have hiW : i < W := by
          have := (List.getElem?_eq_some_iff.1 hu).1
          rw [HZN.out] at this; exact this
        rw [HZL.out, rowZ_get hiW] at hu
        exact hcB i u hiW hu)
      have HLTS : Hid (∀ k ∈ [SA2, G2, SA, G, L, B j], k < wr.heap.size) := Lib.hid (fun k hk => by
        simp at hk
        have h1 := HBXR.out.lt
        have h2 := HGR.out.ltG
        have h3 := hSAr.lt
        have h4 := hGr.ltG
        have h5 := hLS.lt
        have h6 := hBj.lt
        omega)
      have HNEL : Hid (∀ k ∈ [SA2, G2, SA, G, L, B j], k ≠ L2) := Lib.hid (by
        obtain ⟨ao1, c1, e2, -, hh⟩ := HGR.out.openG
        obtain ⟨L4, cu, e3, -, h5, -⟩ := hh hR0
        rw [e3] at e2
        simp only [Value.slice.injEq, Option.some.injEq, Addr.mk.injEq, and_true, true_and] at e2
        obtain ⟨rfl, rfl⟩ := e2
        have n1 := HBXR.out.ne_ h5 (by decide)
        have n2 := HGR.out.box.ne_ h5 (by decide)
        have n3 := hSAr.ne_ h5 (by decide)
        have n4 := hGr.box.ne_ h5 (by decide)
        have n5 := HN.out.1
        have n6 := hBj.ne_ h5 (by decide)
        intro k hk
        simp at hk
        omega)
      have HSAr := Lib.hid hSAr
      have HGBr := Lib.hid hGr.box
      have HLSr := Lib.hid hLS
      have HBJ := Lib.hid hBj
      have HLJ := Lib.hid hLj
      obtain ⟨kj, hkj⟩ : ∃ kj, kj = K j := ⟨_, rfl⟩
      have HLJ2 : Hid (∀ w', KpB [SA2, G2, SA, G, L, B j] wr w' → w'.cell? ⟨L, j, none⟩ = some (.slice (some ⟨B j, 0, none⟩) W kj)) := Lib.hid (fun w' hk => by
        rw [hkj, ← HLJ.out]
        exact ((hk.blk (by simp) HLSr.out).cell j).trans (HLSr.out.cell j).symm)
      have HNEWS : Hid (∀ w', KpB [SA2, G2, SA, G, L, B j] wr w' → (0 < W → ∃ ad, (some ⟨B j, 0, none⟩ : Option Addr) = some ad ∧ ∀ i u, (zl.map (Value.int .i64))[i]? = some u → w'.cell? (ad.add i) = some u)) := Lib.hid (fun w' hk _ => ⟨_, rfl, fun i u hu => by
        rw [addr_add, Nat.zero_add]
        rw [List.getElem?_map] at hu
        cases hz : zl[i]? with
        | none => rw [hz] at hu; simp at hu
        | some z =>
          rw [hz] at hu
          simp at hu
          subst hu
          exact ((hk.blk (by simp) HBJ.out).cell i).trans (HCB.out i z hz)⟩)
      have hown0 := World.ownsRow_lit (base := wr.heap.size) (e := 2) (size := 1) (wr.drewN 1) #[] 0 (by exact Nat.le_refl _) (by unfold maxLen; omega) (by simp)
      have HO := Lib.hid hown0
      have HKJ2 : Hid (W ≤ kj) := Lib.hid (by rw [hkj]; exact HKJ.out)
      have hkm : W ≤ maxLen := by unfold maxLen; omega
      have j0 : (0 : Int) ≤ (j : Int) := by omega
      have j1 : (j : Int) < (R : Int) := by omega
      have HFIN : Hid (∀ (w5 : World) (g cp : Nat) (cur : Array Value), (∀ k, k < wr.heap.size → w5.heap[k]? = wr.heap[k]?) → Below w.heap.size w w5 → wr.heap.size ≤ g → Blk w5 g 2 cur → (∀ (i : Nat) (u : Int), zl[i]? = some u → cur[i]? = some (Value.int .i64 u)) → W ≤ cp →
          RefIs (w5.setCell ⟨L2, j, none⟩ (.slice (some ⟨g, 0, none⟩) W cp)) w.heap.size G2 (.slice (some ⟨L2, 0, none⟩) R vc2) (upN B' j g) (upN K' j cp) R W (rowsTo zs R W (j + 1)) ∧
          Blk (w5.setCell ⟨L2, j, none⟩ (.slice (some ⟨g, 0, none⟩) W cp)) SA2 109 #[.int .i64 b, .int .i64 (R : Int), .int .i64 (W : Int), .int .i64 m, .int .u64 s, .int .i64 l, .pointer (some ⟨G2, 0, none⟩)] ∧ Below w.heap.size w (w5.setCell ⟨L2, j, none⟩ (.slice (some ⟨g, 0, none⟩) W cp))) := Lib.hid (fun w5 g cp cur hfr hbl hge hgb hgc hcp => by
        have hR5 : RefIs w5 w.heap.size G2 (.slice (some ⟨L2, 0, none⟩) R vc2) B' K' R W (rowsTo zs R W j) := HGR.out.frame (hfr _ HGR.out.ltG) (fun k hk => hfr k (HGR.out.own.lt k hk).2) (fun i hi => by
          obtain ⟨c2, h2, -⟩ := HGR.out.cells i hi
          exact hfr _ h2.lt)
        have hS5 : Blk w5 SA2 109 #[.int .i64 b, .int .i64 (R : Int), .int .i64 (W : Int), .int .i64 m, .int .u64 s, .int .i64 l, .pointer (some ⟨G2, 0, none⟩)] := (hfr _ HBXR.out.lt).trans HBXR.out
        have hL5 : ∃ c5, Blk w5 L2 62 c5 := by
          obtain ⟨ao1, c1, e2, -, hh⟩ := hR5.openG
          obtain ⟨L4, cu, e3, -, h5, -⟩ := hh hR0
          rw [e3] at e2
          simp only [Value.slice.injEq, Option.some.injEq, Addr.mk.injEq, and_true, true_and] at e2
          obtain ⟨rfl, rfl⟩ := e2
          exact ⟨cu, h5⟩
        obtain ⟨c5, hL5⟩ := hL5
        refine ⟨hR5.newrow hlt hgb (fun c u hc hu => ?_) hcp (by have := HBR.out.size; omega) (fun i hi e => ?_) (rowsTo_len HLEN.out (by omega)) (fun i c hi hne hc => ?_), hS5.far (by simpa using hS5.ne_ hL5 (by decide)) _, hbl.setCell (p := ⟨L2, j, none⟩) HL2N.out _⟩
        · refine hgc c u ?_
          rw [rowsTo_get HLEN.out (by omega) (place_lt hlt hc), if_pos ((place_row hc).2 (by omega))] at hu
          rw [HZL.out, rowZ_get hc]
          exact hu
        · obtain ⟨c2, h2, -⟩ := HGR.out.cells i hi
          have := h2.lt
          omega
        · rw [rowsTo_get HLEN.out (by omega) (place_lt hi hc), rowsTo_get HLEN.out (by omega) (place_lt hi hc)]
          by_cases e : i < j
          · rw [if_pos ((place_row hc).2 (by omega)), if_pos ((place_row hc).2 e)]
          · rw [if_neg (fun h => by have := (place_row hc).1 h; omega), if_neg (fun h => by have := (place_row hc).1 h; omega)])
      have HLK : Hid (∀ w5 : World, (∀ k, k < wr.heap.size → w5.heap[k]? = wr.heap[k]?) → (∃ x, w5.cell? ⟨L2, j, none⟩ = some x) ∧ w5.frozen? ⟨L2, j, none⟩ = false) := Lib.hid (fun w5 hfr => by
        obtain ⟨ao1, c1, e2, hRc, hh⟩ := HGR.out.openG
        obtain ⟨L4, cu, e3, -, h5, h6⟩ := hh hR0
        rw [e3] at e2
        simp only [Value.slice.injEq, Option.some.injEq, Addr.mk.injEq, and_true, true_and] at e2
        obtain ⟨rfl, rfl⟩ := e2
        have h7 : Blk w5 L2 62 cu := (hfr _ h5.lt).trans h5
        exact ⟨⟨_, (h7.cell j).trans (h6 j hlt)⟩, h7.frozen j⟩)
      clear hg hbx hbel hSAr hGr hcB hBj hLj hLS hzl hown0 hlen hkj
      go_wp2_with fail
      clear q6 qG
      refine wp_region_held_drew (S := fun w' => KpB [SA2, G2, SA, G, L, B j] wr w') (by kernel_rfl) (by exact KpB.of_below (below_drewN (Below.refl wr.heap.size _) 1) HLTS.out) (fun hHeld => ?_)
      refine wpAnyH_take (i := 0) (v := ?_) rfl (by kernel_rfl) (by kernel_rfl) (by kernel_rfl) (fun _ _ _ h => h) (Or.inl ⟨by rfl, ?_⟩) (by assumption) ?_
      rotate_left
      · intro w hSw
        try dsimp only at hSw
        go_simp
        try with_reducible rfl
      simp only [Act.put, List.setIfInBounds_toArray, List.set_cons_zero, List.set_cons_succ, List.getElem_toArray, List.getElem_cons_zero, List.getElem_cons_succ]
      refine wpAnyH_take (i := 1) (v := ?_) rfl (by kernel_rfl) (by kernel_rfl) (by kernel_rfl) (fun _ _ _ h => h) (Or.inl ⟨by rfl, ?_⟩) (by assumption) ?_
      rotate_left
      · intro w hSw
        try dsimp only at hSw
        go_simp
        try with_reducible rfl
      simp only [Act.put, List.setIfInBounds_toArray, List.set_cons_zero, List.set_cons_succ, List.getElem_toArray, List.getElem_cons_zero, List.getElem_cons_succ]
      refine wpAnyH_take (i := 2) (v := ?_) rfl (by kernel_rfl) (by kernel_rfl) (by kernel_rfl) (fun _ _ _ h => h) (Or.inl ⟨by rfl, ?_⟩) (by assumption) ?_
      rotate_left
      · intro w hSw
        try dsimp only at hSw
        go_simp
        try with_reducible rfl
      simp only [Act.put, List.setIfInBounds_toArray, List.set_cons_zero, List.set_cons_succ, List.getElem_toArray, List.getElem_cons_zero, List.getElem_cons_succ]
      refine wpAnyH_take (i := 3) (v := ?_) rfl (by kernel_rfl) (by kernel_rfl) (by kernel_rfl) (fun _ _ _ h => h) (Or.inl ⟨by rfl, ?_⟩) (by assumption) ?_
      rotate_left
      · intro w hSw
        have q0 := (hSw.blk (by simp) HBXR.out).cell 6
        have q1 := (hSw.blk (by simp) HGR.out.box).cell 0
        have q2 := (hSw.blk (by simp) HSAr.out).cell 6
        have q3 := (hSw.blk (by simp) HGBr.out).cell 0
        have q4 := HLJ2.out _ hSw
        simp at q0 q1 q2 q3 q4
        go_simp
        try with_reducible rfl
      simp only [Act.put, List.setIfInBounds_toArray, List.set_cons_zero, List.set_cons_succ, List.getElem_toArray, List.getElem_cons_zero, List.getElem_cons_succ]
      refine wpAnyH_take (i := 4) (v := ?_) rfl (by kernel_rfl) (by kernel_rfl) (by kernel_rfl) (fun _ _ _ h => h) (Or.inl ⟨by rfl, ?_⟩) (by assumption) ?_
      rotate_left
      · intro w hSw
        try dsimp only at hSw
        go_simp
        try with_reducible rfl
      simp only [Act.put, List.setIfInBounds_toArray, List.set_cons_zero, List.set_cons_succ, List.getElem_toArray, List.getElem_cons_zero, List.getElem_cons_succ]
      refine wpAnyH_take (i := 5) (v := ?_) rfl (by kernel_rfl) (by kernel_rfl) (by kernel_rfl) (fun _ _ _ h => h) (Or.inl ⟨by rfl, ?_⟩) (by assumption) ?_
      rotate_left
      · intro w hSw
        try dsimp only at hSw
        go_simp
        try with_reducible rfl
      simp only [Act.put, List.setIfInBounds_toArray, List.set_cons_zero, List.set_cons_succ, List.getElem_toArray, List.getElem_cons_zero, List.getElem_cons_succ]
      refine wpAnyH_take (i := 6) (v := ?_) rfl (by kernel_rfl) (by kernel_rfl) (by kernel_rfl) (fun _ _ _ h => h) (Or.inl ⟨by rfl, ?_⟩) (by assumption) ?_
      rotate_left
      · intro w hSw
        have q0 := (hSw.blk (by simp) HBXR.out).cell 6
        have q1 := (hSw.blk (by simp) HGR.out.box).cell 0
        have q2 := (hSw.blk (by simp) HSAr.out).cell 6
        have q3 := (hSw.blk (by simp) HGBr.out).cell 0
        have q4 := HLJ2.out _ hSw
        simp at q0 q1 q2 q3 q4
        go_simp
        try with_reducible rfl
      simp only [Act.put, List.setIfInBounds_toArray, List.set_cons_zero, List.set_cons_succ, List.getElem_toArray, List.getElem_cons_zero, List.getElem_cons_succ]
      refine wpAnyH_take (i := 7) (v := ?_) rfl (by kernel_rfl) (by kernel_rfl) (by kernel_rfl) (fun _ _ _ h => h) (Or.inl ⟨by rfl, ?_⟩) (by assumption) ?_
      rotate_left
      · intro w hSw
        try dsimp only at hSw
        go_simp
        try with_reducible rfl
      simp only [Act.put, List.setIfInBounds_toArray, List.set_cons_zero, List.set_cons_succ, List.getElem_toArray, List.getElem_cons_zero, List.getElem_cons_succ]
      refine wpAnyH_take (i := 9) (v := ?_) rfl (by kernel_rfl) (by kernel_rfl) (by kernel_rfl) (fun _ _ _ h => h) (Or.inl ⟨by rfl, ?_⟩) (by assumption) ?_
      rotate_left
      · intro w hSw
        try dsimp only at hSw
        go_simp
        try with_reducible rfl
      simp only [Act.put, List.setIfInBounds_toArray, List.set_cons_zero, List.set_cons_succ, List.getElem_toArray, List.getElem_cons_zero, List.getElem_cons_succ]
      refine wpAnyH_take (i := 10) (v := ?_) rfl (by kernel_rfl) (by kernel_rfl) (by kernel_rfl) (fun _ _ _ h => h) (Or.inl ⟨by rfl, ?_⟩) (by assumption) ?_
      rotate_left
      · intro w hSw
        try dsimp only at hSw
        go_simp
        try with_reducible rfl
      simp only [Act.put, List.setIfInBounds_toArray, List.set_cons_zero, List.set_cons_succ, List.getElem_toArray, List.getElem_cons_zero, List.getElem_cons_succ]
      refine wpAnyH_take (i := 11) (v := ?_) rfl (by kernel_rfl) (by kernel_rfl) (by kernel_rfl) (fun _ _ _ h => h) (Or.inl ⟨by rfl, ?_⟩) (by assumption) ?_
      rotate_left
      · intro w hSw
        try dsimp only at hSw
        go_simp
        try with_reducible rfl
      simp only [Act.put, List.setIfInBounds_toArray, List.set_cons_zero, List.set_cons_succ, List.getElem_toArray, List.getElem_cons_zero, List.getElem_cons_succ]
      refine wpAnyH_take (i := 12) (v := ?_) rfl (by kernel_rfl) (by kernel_rfl) (by kernel_rfl) (fun _ _ _ h => h) (Or.inl ⟨by rfl, ?_⟩) (by assumption) ?_
      rotate_left
      · intro w hSw
        have q0 := (hSw.blk (by simp) HBXR.out).cell 6
        have q1 := (hSw.blk (by simp) HGR.out.box).cell 0
        have q2 := (hSw.blk (by simp) HSAr.out).cell 6
        have q3 := (hSw.blk (by simp) HGBr.out).cell 0
        have q4 := HLJ2.out _ hSw
        simp at q0 q1 q2 q3 q4
        go_simp
        try with_reducible rfl
      simp only [Act.put, List.setIfInBounds_toArray, List.set_cons_zero, List.set_cons_succ, List.getElem_toArray, List.getElem_cons_zero, List.getElem_cons_succ]
      refine wpAnyH_take (i := 13) (v := ?_) rfl (by kernel_rfl) (by kernel_rfl) (by kernel_rfl) (fun _ _ _ h => h) (Or.inl ⟨by rfl, ?_⟩) (by assumption) ?_
      rotate_left
      · intro w hSw
        try dsimp only at hSw
        go_simp
        try with_reducible rfl
      simp only [Act.put, List.setIfInBounds_toArray, List.set_cons_zero, List.set_cons_succ, List.getElem_toArray, List.getElem_cons_zero, List.getElem_cons_succ]
      refine wpAnyH_take (i := 14) (v := ?_) rfl (by kernel_rfl) (by kernel_rfl) (by kernel_rfl) (fun _ _ _ h => h) (Or.inl ⟨by rfl, ?_⟩) (by assumption) ?_
      rotate_left
      · intro w hSw
        try dsimp only at hSw
        go_simp
        try with_reducible rfl
      simp only [Act.put, List.setIfInBounds_toArray, List.set_cons_zero, List.set_cons_succ, List.getElem_toArray, List.getElem_cons_zero, List.getElem_cons_succ]
      refine wpAnyH_take (i := 15) (v := ?_) rfl (by kernel_rfl) (by kernel_rfl) (by kernel_rfl) (fun _ _ _ h => h) (Or.inl ⟨by rfl, ?_⟩) (by assumption) ?_
      rotate_left
      · intro w hSw
        have q0 := (hSw.blk (by simp) HBXR.out).cell 6
        have q1 := (hSw.blk (by simp) HGR.out.box).cell 0
        have q2 := (hSw.blk (by simp) HSAr.out).cell 6
        have q3 := (hSw.blk (by simp) HGBr.out).cell 0
        have q4 := HLJ2.out _ hSw
        simp at q0 q1 q2 q3 q4
        go_simp
        try with_reducible rfl
      simp only [Act.put, List.setIfInBounds_toArray, List.set_cons_zero, List.set_cons_succ, List.getElem_toArray, List.getElem_cons_zero, List.getElem_cons_succ]
      refine wpAnyH_take (i := 16) (v := ?_) rfl (by kernel_rfl) (by kernel_rfl) (by kernel_rfl) (fun _ _ _ h => h) (Or.inl ⟨by rfl, ?_⟩) (by assumption) ?_
      rotate_left
      · intro w hSw
        try dsimp only at hSw
        go_simp
        try with_reducible rfl
      simp only [Act.put, List.setIfInBounds_toArray, List.set_cons_zero, List.set_cons_succ, List.getElem_toArray, List.getElem_cons_zero, List.getElem_cons_succ]
      refine wpAnyH_take (i := 17) (v := ?_) rfl (by kernel_rfl) (by kernel_rfl) (by kernel_rfl) (fun _ _ _ h => h) (Or.inl ⟨by rfl, ?_⟩) (by assumption) ?_
      rotate_left
      · intro w hSw
        try dsimp only at hSw
        go_simp
        try with_reducible rfl
      simp only [Act.put, List.setIfInBounds_toArray, List.set_cons_zero, List.set_cons_succ, List.getElem_toArray, List.getElem_cons_zero, List.getElem_cons_succ]
      refine wpAnyH_take (i := 18) (v := ?_) rfl (by kernel_rfl) (by kernel_rfl) (by kernel_rfl) (fun _ _ _ h => h) (Or.inl ⟨by rfl, ?_⟩) (by assumption) ?_
      rotate_left
      · intro w hSw
        have q0 := (hSw.blk (by simp) HBXR.out).cell 6
        have q1 := (hSw.blk (by simp) HGR.out.box).cell 0
        have q2 := (hSw.blk (by simp) HSAr.out).cell 6
        have q3 := (hSw.blk (by simp) HGBr.out).cell 0
        have q4 := HLJ2.out _ hSw
        simp at q0 q1 q2 q3 q4
        go_simp
        try with_reducible rfl
      simp only [Act.put, List.setIfInBounds_toArray, List.set_cons_zero, List.set_cons_succ, List.getElem_toArray, List.getElem_cons_zero, List.getElem_cons_succ]
      refine wpAnyH_ready (rs := [8]) (by kernel_rfl) (by simp) ?_
      refine AllReadyH.cons rfl (fun Kc hKc => ?_) AllReadyH.nil
      go_simp
      refine hKc.out _ _ ?_ (fun hHeld => ?_)
      · first | exact hHeld | exact ⟨Nat.le_trans hHeld.1 (by simp), fun k hk => (Below.heap_alloc _ _ k (Nat.lt_of_lt_of_le (HLTS.out k hk) hHeld.1)).trans (hHeld.2 k hk)⟩ | exact ⟨Nat.le_trans (by simp) hgrow.size, fun k hk => HFR.out k (HLTS.out k hk)⟩ | exact ⟨Nat.le_trans (by simp) (Nat.le_trans hgrow.size (by simp)), fun k hk => (Below.heap_setCell _ _ _ k (by simpa using HNEL.out k hk)).trans (HFR.out k (HLTS.out k hk))⟩
      clear hKc Kc
      refine wpAnyH_ready (rs := [19]) (by kernel_rfl) (by simp) ?_
      refine AllReadyH.cons rfl (fun Kc hKc => ?_) AllReadyH.nil
      refine wp_append_lit _ _ 62 rfl wr.heap.size 2 i0 (.int .i64 0) 8 Tryz.underlying62 hi hz0 hz1 hz2 rfl wr.heap.size 0 rfl HO.out (some ⟨B j, 0, none⟩) W kj (zl.map (Value.int .i64)) rfl (by rw [List.length_map]; exact HZN.out) (HNEWS.out _ hHeld) (fun u hu => by obtain ⟨z, -, rfl⟩ := List.mem_map.1 hu; rfl) hkm (by omega) (by simp) ?_; intro v' w5 hown' hgrow hnil' hq9; have HLO : Hid (w5.ownsRow wr.heap.size 2 1 v' zl.length (zl.map (Value.int .i64))) := Lib.hid (by rw [HZN.out]; exact hown'); obtain ⟨g', cp', rfl, hg', hcp', curL, hcL, hcLz⟩ := own_row HLO.out hnil'; have HFR : Hid (∀ k, k < wr.heap.size → w5.heap[k]? = wr.heap[k]?) := Lib.hid (fun k hk => (hgrow.block k (by simp; omega) (by simp; omega)).trans (Below.heap_alloc _ _ k (by simpa using hk))); have HB5 : Hid (Below w.heap.size w w5) := Lib.hid (((below_drewN HBR.out 1).alloc (by have := HBR.out.size; simpa using this) _).grown hgrow (by have := HBR.out.size; simp; omega) (fun k e => by have := Option.some.inj e; have := HBR.out.size; omega)); rw [HZN.out] at hcp' ⊢; have HFN := Lib.hid (HFIN.out w5 g' cp' curL HFR.out HB5.out hg' hcL hcLz hcp'); have HCP := Lib.hid hcp'; clear hcL hcLz hown' hnil' hq9 hcp'
      refine hKc.out _ _ ?_ (fun hHeld => ?_)
      · first | exact hHeld | exact ⟨Nat.le_trans hHeld.1 (by simp), fun k hk => (Below.heap_alloc _ _ k (Nat.lt_of_lt_of_le (HLTS.out k hk) hHeld.1)).trans (hHeld.2 k hk)⟩ | exact ⟨Nat.le_trans (by simp) hgrow.size, fun k hk => HFR.out k (HLTS.out k hk)⟩ | exact ⟨Nat.le_trans (by simp) (Nat.le_trans hgrow.size (by simp)), fun k hk => (Below.heap_setCell _ _ _ k (by simpa using HNEL.out k hk)).trans (HFR.out k (HLTS.out k hk))⟩
      clear hKc Kc
      refine wpAnyH_take (i := 20) (v := ?_) rfl (by kernel_rfl) (by kernel_rfl) (by kernel_rfl) (fun _ _ _ h => h) (Or.inl ⟨by rfl, ?_⟩) (by assumption) ?_
      rotate_left
      · intro w hSw
        try dsimp only at hSw
        go_simp
        try with_reducible rfl
      simp only [Act.put, List.setIfInBounds_toArray, List.set_cons_zero, List.set_cons_succ, List.getElem_toArray, List.getElem_cons_zero, List.getElem_cons_succ]
      refine wpAnyH_ready (rs := [21]) (by kernel_rfl) (by simp) ?_
      refine AllReadyH.cons rfl (fun Kc hKc => ?_) AllReadyH.nil
      obtain ⟨⟨xo, k7⟩, fz7⟩ := HLK.out w5 HFR.out; go_simp
      refine hKc.out _ _ ?_ (fun hHeld => ?_)
      · first | exact hHeld | exact ⟨Nat.le_trans hHeld.1 (by simp), fun k hk => (Below.heap_alloc _ _ k (Nat.lt_of_lt_of_le (HLTS.out k hk) hHeld.1)).trans (hHeld.2 k hk)⟩ | exact ⟨Nat.le_trans (by simp) hgrow.size, fun k hk => HFR.out k (HLTS.out k hk)⟩ | exact ⟨Nat.le_trans (by simp) (Nat.le_trans hgrow.size (by simp)), fun k hk => (Below.heap_setCell _ _ _ k (by simpa using HNEL.out k hk)).trans (HFR.out k (HLTS.out k hk))⟩
      clear hKc Kc
      refine wpAnyH_done (by kernel_rfl) ?_ _
      clear hHeld
      go_wp2
      go_roundw
      case rel => exact ⟨j + 1, _, _, by omega, by go_num, HFN.out.1, HFN.out.2.1, HFN.out.2.2⟩
      case measure => simp [intOf]; omega
    · obtain rfl : j = R := by omega
      have HE := Lib.hid (rowsTo_all (zs := zs) HLEN.out)
      clear hg hbx hbel hSAr hGr
      go_wp2
      go_ret
      exact ⟨SA2, G2, _, B', K', rfl, HLO.out.2, HBXR.out, by have h := HGR.out; rw [HE.out] at h; exact h, HBR.out⟩
end Go.Proofs.YtbghchgmoiniiaaGreat

/-
  The walk of the document's sketch: Update. Conditions: none beyond those stated at each theorem.
-/
namespace Go.Proofs.YtbghchgmoiniiaaGreat
open Go.RowKit
set_option linter.unusedVariables false
set_option linter.unusedSimpArgs false

def RSkUpPost (w : World) (N G : Nat) (v : Value) (B K : Nat → Nat) (b m s l : Int) (R W : Nat) (zs : List Int) (k x : Int) (e : Ending) (w' : World) : Prop :=
  e = .returned (.int .i64 (skErr b R W m s l zs k x)) ∧ RefIs w' N G v B K R W (skUpd b R W m s l zs k x) ∧ RGr w w' B R
set_option maxRecDepth 100000 in
set_option maxHeartbeats 8000000 in
theorem rskupdate_none (w : World) (SA N G : Nat) (v : Value) (B K : Nat → Nat) (b m s l : Int) (R W : Nat) (zs : List Int) (hSA : Blk w SA 109 #[.int .i64 b, .int .i64 (R : Int), .int .i64 (W : Int), .int .i64 m, .int .u64 s, .int .i64 l, .pointer (some ⟨G, 0, none⟩)]) (k x : Int) (hk : keysI b R W m l ≤ k) :
    Calls Tryz.prog 69 #[.pointer (some ⟨SA, 0, none⟩), .int .u64 k, .int .i64 x] w fun e w' => e = .returned (.int .i64 2) ∧ Below w.heap.size w w' := by
  have PK := Lib.hid (fun w => rkeys_any b R W m s l w)
  have e1 : decide (keysI b R W m l ≤ k) = true := decide_eq_true hk
  have HSA := Lib.hid hSA
  clear hSA hk
  go_enter Tryz.func69, Tryz.ntmps69
  go_wp2_with fail
  refine wp_region_held_drew (S := fun w' => Below w.heap.size w w') (by kernel_rfl) (by exact below_drewN (Below.refl _ _) 1) (fun hHeld => ?_)
  refine wpAnyH_take (i := 0) (v := ?_) rfl (by kernel_rfl) (by kernel_rfl) (by kernel_rfl) (fun _ _ _ h => h) (Or.inl ⟨by rfl, ?_⟩) (by assumption) ?_
  rotate_left
  · intro w hSw
    try dsimp only at hSw
    go_simp
    try with_reducible rfl
  simp only [Act.put, List.setIfInBounds_toArray, List.set_cons_zero, List.set_cons_succ, List.getElem_toArray, List.getElem_cons_zero, List.getElem_cons_succ]
  refine wpAnyH_take (i := 1) (v := ?_) rfl (by kernel_rfl) (by kernel_rfl) (by kernel_rfl) (fun _ _ _ h => h) (Or.inl ⟨by rfl, ?_⟩) (by assumption) ?_
  rotate_left
  · intro w hSw
    try dsimp only at hSw
    go_simp
    try with_reducible rfl
  simp only [Act.put, List.setIfInBounds_toArray, List.set_cons_zero, List.set_cons_succ, List.getElem_toArray, List.getElem_cons_zero, List.getElem_cons_succ]
  refine wpAnyH_take (i := 2) (v := ?_) rfl (by kernel_rfl) (by kernel_rfl) (by kernel_rfl) (fun _ _ _ h => h) (Or.inl ⟨by rfl, ?_⟩) (by assumption) ?_
  rotate_left
  · intro w hSw
    try dsimp only at hSw
    go_simp
    try with_reducible rfl
  simp only [Act.put, List.setIfInBounds_toArray, List.set_cons_zero, List.set_cons_succ, List.getElem_toArray, List.getElem_cons_zero, List.getElem_cons_succ]
  refine wpAnyH_take (i := 3) (v := ?_) rfl (by kernel_rfl) (by kernel_rfl) (by kernel_rfl) (fun _ _ _ h => h) (Or.inl ⟨by rfl, ?_⟩) (by assumption) ?_
  rotate_left
  · intro w hSw
    try dsimp only at hSw
    go_simp
    try with_reducible rfl
  simp only [Act.put, List.setIfInBounds_toArray, List.set_cons_zero, List.set_cons_succ, List.getElem_toArray, List.getElem_cons_zero, List.getElem_cons_succ]
  refine wpAnyH_take (i := 4) (v := ?_) rfl (by kernel_rfl) (by kernel_rfl) (by kernel_rfl) (fun _ _ _ h => h) (Or.inl ⟨by rfl, ?_⟩) (by assumption) ?_
  rotate_left
  · intro w hSw
    have q0 := (HSA.out.kept hSw).cell 0
    have q1 := (HSA.out.kept hSw).cell 1
    have q2 := (HSA.out.kept hSw).cell 2
    have q3 := (HSA.out.kept hSw).cell 3
    have q4 := (HSA.out.kept hSw).cell 4
    have q5 := (HSA.out.kept hSw).cell 5
    simp at q0 q1 q2 q3 q4 q5
    go_simp
    try with_reducible rfl
  simp only [Act.put, List.setIfInBounds_toArray, List.set_cons_zero, List.set_cons_succ, List.getElem_toArray, List.getElem_cons_zero, List.getElem_cons_succ]
  refine wpAnyH_take (i := 5) (v := ?_) rfl (by kernel_rfl) (by kernel_rfl) (by kernel_rfl) (fun _ _ _ h => h) (Or.inl ⟨by rfl, ?_⟩) (by assumption) ?_
  rotate_left
  · intro w hSw
    try dsimp only at hSw
    go_simp
    try with_reducible rfl
  simp only [Act.put, List.setIfInBounds_toArray, List.set_cons_zero, List.set_cons_succ, List.getElem_toArray, List.getElem_cons_zero, List.getElem_cons_succ]
  refine wpAnyH_take (i := 6) (v := ?_) rfl (by kernel_rfl) (by kernel_rfl) (by kernel_rfl) (fun _ _ _ h => h) (Or.inl ⟨by rfl, ?_⟩) (by assumption) ?_
  rotate_left
  · intro w hSw
    try dsimp only at hSw
    go_simp
    try with_reducible rfl
  simp only [Act.put, List.setIfInBounds_toArray, List.set_cons_zero, List.set_cons_succ, List.getElem_toArray, List.getElem_cons_zero, List.getElem_cons_succ]
  refine wpAnyH_take (i := 7) (v := ?_) rfl (by kernel_rfl) (by kernel_rfl) (by kernel_rfl) (fun _ _ _ h => h) (Or.inl ⟨by rfl, ?_⟩) (by assumption) ?_
  rotate_left
  · intro w hSw
    try dsimp only at hSw
    go_simp
    try with_reducible rfl
  simp only [Act.put, List.setIfInBounds_toArray, List.set_cons_zero, List.set_cons_succ, List.getElem_toArray, List.getElem_cons_zero, List.getElem_cons_succ]
  refine wpAnyH_take (i := 8) (v := ?_) rfl (by kernel_rfl) (by kernel_rfl) (by kernel_rfl) (fun _ _ _ h => h) (Or.inl ⟨by rfl, ?_⟩) (by assumption) ?_
  rotate_left
  · intro w hSw
    have q0 := (HSA.out.kept hSw).cell 0
    have q1 := (HSA.out.kept hSw).cell 1
    have q2 := (HSA.out.kept hSw).cell 2
    have q3 := (HSA.out.kept hSw).cell 3
    have q4 := (HSA.out.kept hSw).cell 4
    have q5 := (HSA.out.kept hSw).cell 5
    simp at q0 q1 q2 q3 q4 q5
    go_simp
    try with_reducible rfl
  simp only [Act.put, List.setIfInBounds_toArray, List.set_cons_zero, List.set_cons_succ, List.getElem_toArray, List.getElem_cons_zero, List.getElem_cons_succ]
  refine wpAnyH_ready (rs := [9]) (by kernel_rfl) (by simp) ?_
  refine AllReadyH.cons rfl (fun Kc hKc => ?_) AllReadyH.nil
  go_simp
  go_wp2_with (go_at_call 33; refine (PK.out _).mono ?_; rintro e w4 ⟨rfl, hb'⟩)
  refine hKc.out _ _ ?_ (fun hHeld => ?_)
  · first | exact btr hHeld hb' | exact hHeld
  clear hKc Kc
  refine wpAnyH_take (i := 10) (v := ?_) rfl (by kernel_rfl) (by kernel_rfl) (by kernel_rfl) (fun _ _ _ h => h) (Or.inl ⟨by rfl, ?_⟩) (by assumption) ?_
  rotate_left
  · intro w hSw
    try dsimp only at hSw
    go_simp
    try with_reducible rfl
  simp only [Act.put, List.setIfInBounds_toArray, List.set_cons_zero, List.set_cons_succ, List.getElem_toArray, List.getElem_cons_zero, List.getElem_cons_succ]
  refine wpAnyH_done (by kernel_rfl) ?_ _
  have HB4 := Lib.hid hHeld
  clear hHeld hb'
  go_wp2
  go_ret
  exact ⟨rfl, HB4.out⟩
theorem rcols_rowI (b d m s l k : Int) (R : Nat) (hR : 0 < R) (s0 : 0 ≤ s) (s1 : s ≤ 18446744073709551615) (k0 : 0 ≤ k) (k1 : k ≤ 18446744073709551615) (hk : k < keysI b (R : Int) d m l) (w : World) :
    Calls Tryz.prog 78 #[.agg #[.int .i64 b, .int .i64 (R : Int), .int .i64 d, .int .i64 m, .int .u64 s], .int .i64 l, .int .u64 k] w fun e w' => ∃ g cap, e = .returned (.slice (some ⟨g, 0, none⟩) R cap) ∧ RowI w' (.slice (some ⟨g, 0, none⟩) R cap) (colsZ d s l k R) ∧ Below w.heap.size w w' := by
  refine (rcols_own b d m s l k R s0 s1 k0 k1 hk w).mono fun e w' ⟨v, h1, h2, h3, h4⟩ => ?_
  have hl : (colsZ d s l k R).length = R := colsZ_len ..
  have h5 : RowI w' v (colsZ d s l k R) := own_rowI (base := w.heap.size + 1) (by rw [hl]; exact h4) (by
    rintro rfl
    rcases h4.2 with ⟨-, h⟩ | ⟨_, _, _, h, -⟩
    · omega
    · cases h)
  have h6 := h5
  obtain ⟨g, cap, cur, rfl, -, -, -⟩ := h6
  rw [hl] at h1 h5
  exact ⟨g, cap, h1, h5, h3⟩
set_option maxRecDepth 100000 in
set_option maxHeartbeats 8000000 in
theorem rskupdate_in (w : World) (SA N G : Nat) (v : Value) (B K : Nat → Nat) (b m s l : Int) (R W : Nat) (zs : List Int) (hSA : Blk w SA 109 #[.int .i64 b, .int .i64 (R : Int), .int .i64 (W : Int), .int .i64 m, .int .u64 s, .int .i64 l, .pointer (some ⟨G, 0, none⟩)]) (hG : RefIs w N G v B K R W zs) (hfit : Fit zs)
    (hR : 0 < R) (hW : 0 < W) (s0 : 0 ≤ s) (s1 : s ≤ 18446744073709551615) (k x : Int) (k0 : 0 ≤ k) (k1 : k ≤ 18446744073709551615) (hx : In64 x) (hk : k < keysI b R W m l) :
    Calls Tryz.prog 69 #[.pointer (some ⟨SA, 0, none⟩), .int .u64 k, .int .i64 x] w (RSkUpPost w N G v B K b m s l R W zs k x) := by
  have PK := Lib.hid (fun w => rkeys_any b R W m s l w)
  have PC := Lib.hid (fun w => rcols_rowI b W m s l k R hR s0 s1 k0 k1 hk w)
  have HM : Hid (meetB R W (colsZ W s l k R) = true) := Lib.hid (by have := colsZ_meet (d := (W : Int)) (s := s) (l := l) (k := k) hR (by omega); simpa using this)
  have e1 : decide (keysI b R W m l ≤ k) = false := decide_eq_false (by omega)
  have HSA := Lib.hid hSA
  have HG := Lib.hid hG
  have HFIT := Lib.hid hfit
  have hE : skErr b R W m s l zs k x = (open Classical in if m = 2 then (if x < 0 then 3 else if In64 (kthL (readZ W zs (colsZ W s l k R)) 0 + x) then 0 else 4) else if changeFits W zs (colsZ W s l k R) x then 0 else 4) := by
    unfold skErr
    rw [if_neg (by omega), Int.toNat_natCast, Int.toNat_natCast]
  have hU : skUpd b R W m s l zs k x = if skErr b R W m s l zs k x = 0 then (if m = 2 then raiseZ W zs (colsZ W s l k R) (kthL (readZ W zs (colsZ W s l k R)) 0 + x) else changeZ W zs (colsZ W s l k R) x) else zs := by
    unfold skUpd
    rw [Int.toNat_natCast, Int.toNat_natCast]
  unfold RSkUpPost
  generalize skErr b R W m s l zs k x = qe at *
  generalize skUpd b R W m s l zs k x = qu at *
  clear hSA hk hG hfit
  by_cases hm : m = 2
  · rw [if_pos hm] at hE hU
    have HE := Lib.hid hE
    have HU := Lib.hid hU
    clear hE hU
    subst hm
    go_enter Tryz.func69, Tryz.ntmps69
    go_wp2_with fail
    refine wp_region_held_drew (S := fun w' => Below w.heap.size w w') (by kernel_rfl) (by exact below_drewN (Below.refl _ _) 1) (fun hHeld => ?_)
    refine wpAnyH_take (i := 0) (v := ?_) rfl (by kernel_rfl) (by kernel_rfl) (by kernel_rfl) (fun _ _ _ h => h) (Or.inl ⟨by rfl, ?_⟩) (by assumption) ?_
    rotate_left
    · intro w hSw
      try dsimp only at hSw
      go_simp
      try with_reducible rfl
    simp only [Act.put, List.setIfInBounds_toArray, List.set_cons_zero, List.set_cons_succ, List.getElem_toArray, List.getElem_cons_zero, List.getElem_cons_succ]
    refine wpAnyH_take (i := 1) (v := ?_) rfl (by kernel_rfl) (by kernel_rfl) (by kernel_rfl) (fun _ _ _ h => h) (Or.inl ⟨by rfl, ?_⟩) (by assumption) ?_
    rotate_left
    · intro w hSw
      try dsimp only at hSw
      go_simp
      try with_reducible rfl
    simp only [Act.put, List.setIfInBounds_toArray, List.set_cons_zero, List.set_cons_succ, List.getElem_toArray, List.getElem_cons_zero, List.getElem_cons_succ]
    refine wpAnyH_take (i := 2) (v := ?_) rfl (by kernel_rfl) (by kernel_rfl) (by kernel_rfl) (fun _ _ _ h => h) (Or.inl ⟨by rfl, ?_⟩) (by assumption) ?_
    rotate_left
    · intro w hSw
      try dsimp only at hSw
      go_simp
      try with_reducible rfl
    simp only [Act.put, List.setIfInBounds_toArray, List.set_cons_zero, List.set_cons_succ, List.getElem_toArray, List.getElem_cons_zero, List.getElem_cons_succ]
    refine wpAnyH_take (i := 3) (v := ?_) rfl (by kernel_rfl) (by kernel_rfl) (by kernel_rfl) (fun _ _ _ h => h) (Or.inl ⟨by rfl, ?_⟩) (by assumption) ?_
    rotate_left
    · intro w hSw
      try dsimp only at hSw
      go_simp
      try with_reducible rfl
    simp only [Act.put, List.setIfInBounds_toArray, List.set_cons_zero, List.set_cons_succ, List.getElem_toArray, List.getElem_cons_zero, List.getElem_cons_succ]
    refine wpAnyH_take (i := 4) (v := ?_) rfl (by kernel_rfl) (by kernel_rfl) (by kernel_rfl) (fun _ _ _ h => h) (Or.inl ⟨by rfl, ?_⟩) (by assumption) ?_
    rotate_left
    · intro w hSw
      have q0 := (HSA.out.kept hSw).cell 0
      have q1 := (HSA.out.kept hSw).cell 1
      have q2 := (HSA.out.kept hSw).cell 2
      have q3 := (HSA.out.kept hSw).cell 3
      have q4 := (HSA.out.kept hSw).cell 4
      have q5 := (HSA.out.kept hSw).cell 5
      simp at q0 q1 q2 q3 q4 q5
      go_simp
      try with_reducible rfl
    simp only [Act.put, List.setIfInBounds_toArray, List.set_cons_zero, List.set_cons_succ, List.getElem_toArray, List.getElem_cons_zero, List.getElem_cons_succ]
    refine wpAnyH_take (i := 5) (v := ?_) rfl (by kernel_rfl) (by kernel_rfl) (by kernel_rfl) (fun _ _ _ h => h) (Or.inl ⟨by rfl, ?_⟩) (by assumption) ?_
    rotate_left
    · intro w hSw
      try dsimp only at hSw
      go_simp
      try with_reducible rfl
    simp only [Act.put, List.setIfInBounds_toArray, List.set_cons_zero, List.set_cons_succ, List.getElem_toArray, List.getElem_cons_zero, List.getElem_cons_succ]
    refine wpAnyH_take (i := 6) (v := ?_) rfl (by kernel_rfl) (by kernel_rfl) (by kernel_rfl) (fun _ _ _ h => h) (Or.inl ⟨by rfl, ?_⟩) (by assumption) ?_
    rotate_left
    · intro w hSw
      try dsimp only at hSw
      go_simp
      try with_reducible rfl
    simp only [Act.put, List.setIfInBounds_toArray, List.set_cons_zero, List.set_cons_succ, List.getElem_toArray, List.getElem_cons_zero, List.getElem_cons_succ]
    refine wpAnyH_take (i := 7) (v := ?_) rfl (by kernel_rfl) (by kernel_rfl) (by kernel_rfl) (fun _ _ _ h => h) (Or.inl ⟨by rfl, ?_⟩) (by assumption) ?_
    rotate_left
    · intro w hSw
      try dsimp only at hSw
      go_simp
      try with_reducible rfl
    simp only [Act.put, List.setIfInBounds_toArray, List.set_cons_zero, List.set_cons_succ, List.getElem_toArray, List.getElem_cons_zero, List.getElem_cons_succ]
    refine wpAnyH_take (i := 8) (v := ?_) rfl (by kernel_rfl) (by kernel_rfl) (by kernel_rfl) (fun _ _ _ h => h) (Or.inl ⟨by rfl, ?_⟩) (by assumption) ?_
    rotate_left
    · intro w hSw
      have q0 := (HSA.out.kept hSw).cell 0
      have q1 := (HSA.out.kept hSw).cell 1
      have q2 := (HSA.out.kept hSw).cell 2
      have q3 := (HSA.out.kept hSw).cell 3
      have q4 := (HSA.out.kept hSw).cell 4
      have q5 := (HSA.out.kept hSw).cell 5
      simp at q0 q1 q2 q3 q4 q5
      go_simp
      try with_reducible rfl
    simp only [Act.put, List.setIfInBounds_toArray, List.set_cons_zero, List.set_cons_succ, List.getElem_toArray, List.getElem_cons_zero, List.getElem_cons_succ]
    refine wpAnyH_ready (rs := [9]) (by kernel_rfl) (by simp) ?_
    refine AllReadyH.cons rfl (fun Kc hKc => ?_) AllReadyH.nil
    go_simp
    go_wp2_with (go_at_call 33; refine (PK.out _).mono ?_; rintro e w4 ⟨rfl, hb'⟩)
    refine hKc.out _ _ ?_ (fun hHeld => ?_)
    · first | exact btr hHeld hb' | exact hHeld
    clear hKc Kc
    refine wpAnyH_take (i := 10) (v := ?_) rfl (by kernel_rfl) (by kernel_rfl) (by kernel_rfl) (fun _ _ _ h => h) (Or.inl ⟨by rfl, ?_⟩) (by assumption) ?_
    rotate_left
    · intro w hSw
      try dsimp only at hSw
      go_simp
      try with_reducible rfl
    simp only [Act.put, List.setIfInBounds_toArray, List.set_cons_zero, List.set_cons_succ, List.getElem_toArray, List.getElem_cons_zero, List.getElem_cons_succ]
    refine wpAnyH_done (by kernel_rfl) ?_ _
    have HB4 := Lib.hid hHeld
    clear hHeld hb'
    go_wp2_with fail
    refine wp_region_still_tail 9 (by kernel_rfl) (by kernel_rfl) ?_
    simp only [List.take_succ_cons, List.take_zero, List.drop_succ_cons, List.drop_zero]
    have HB5 : Hid (Below w.heap.size w { heap := w4.heap, tape := w4.tape, drawn := w4.drawn + 1, os := w4.os, output := w4.output }) := Lib.hid (below_drewN HB4.out 1)
    generalize ({ heap := w4.heap, tape := w4.tape, drawn := w4.drawn + 1, os := w4.os, output := w4.output } : World) = wd at *
    have q0 := (HSA.out.kept HB5.out).cell 0
    have q1 := (HSA.out.kept HB5.out).cell 1
    have q2 := (HSA.out.kept HB5.out).cell 2
    have q3 := (HSA.out.kept HB5.out).cell 3
    have q4 := (HSA.out.kept HB5.out).cell 4
    have q5 := (HSA.out.kept HB5.out).cell 5
    simp at q0 q1 q2 q3 q4 q5
    repeat still_step
    refine wpStill_nil ?_
    go_wp2_with fail
    with_reducible refine (PC.out _).mono ?_
    rintro e w5 ⟨gc, cc, rfl, hrow, hb⟩
    have HB6 := Lib.hid (btr HB5.out hb)
    have HG6 : Hid (RefIs w5 N G v B K R W zs) := Lib.hid (HG.out.kept HB6.out)
    have PR := Lib.hid (rraise_yes w5 N G v B K R W zs (colsZ W s l k R) x _ HG6.out hrow HM.out hx HFIT.out)
    clear hrow hb q0 q1 q2 q3 q4 q5
    have q3 := (HSA.out.kept HB6.out).cell 3
    have q6 := (HSA.out.kept HB6.out).cell 6
    simp at q3 q6
    go_wp2_with fail
    with_reducible refine PR.out.mono ?_
    rintro e w6 ⟨u, hu, hpost⟩
    have hku := kthL_of hu
    have hres : e = .returned (.int .i64 qe) ∧ RefIs w6 N G v B K R W qu ∧ RGr w w6 B R := by
      rcases hpost with ⟨h1, h2, h3⟩ | ⟨h1, h2, h3, h4⟩ | ⟨h1, h2, h3, h4, h5⟩
      · have e0 : qe = 3 := by rw [HE.out, if_pos h1]
        exact ⟨by rw [h2, e0], by rw [HU.out, if_neg (by omega)]; exact HG6.out.kept h3, RGr.of_below (btr HB6.out h3)⟩
      · have e0 : qe = 4 := by rw [HE.out, if_neg (by omega), hku, if_neg h2]
        exact ⟨by rw [h3, e0], by rw [HU.out, if_neg (by omega)]; exact HG6.out.kept h4, RGr.of_below (btr HB6.out h4)⟩
      · have e0 : qe = 0 := by rw [HE.out, if_neg (by omega), hku, if_pos h2]
        exact ⟨by rw [h3, e0], by rw [HU.out, if_pos e0, hku]; exact h4, (RGr.of_below HB6.out).trans h5⟩
    obtain ⟨rfl, hr1, hr2⟩ := hres
    have HR1 := Lib.hid hr1
    have HR2 := Lib.hid hr2
    clear hr1 hr2 hpost hu hku q3 q6
    go_wp2
    go_ret
    exact ⟨rfl, HR1.out, HR2.out⟩
  · rw [if_neg hm] at hE hU
    have HE := Lib.hid hE
    have HU := Lib.hid hU
    have em : (m == 2) = false := by simp [hm]
    have em' : decide (m = 2) = false := by simp [hm]
    clear hE hU
    go_enter Tryz.func69, Tryz.ntmps69
    go_wp2_with fail
    refine wp_region_held_drew (S := fun w' => Below w.heap.size w w') (by kernel_rfl) (by exact below_drewN (Below.refl _ _) 1) (fun hHeld => ?_)
    refine wpAnyH_take (i := 0) (v := ?_) rfl (by kernel_rfl) (by kernel_rfl) (by kernel_rfl) (fun _ _ _ h => h) (Or.inl ⟨by rfl, ?_⟩) (by assumption) ?_
    rotate_left
    · intro w hSw
      try dsimp only at hSw
      go_simp
      try with_reducible rfl
    simp only [Act.put, List.setIfInBounds_toArray, List.set_cons_zero, List.set_cons_succ, List.getElem_toArray, List.getElem_cons_zero, List.getElem_cons_succ]
    refine wpAnyH_take (i := 1) (v := ?_) rfl (by kernel_rfl) (by kernel_rfl) (by kernel_rfl) (fun _ _ _ h => h) (Or.inl ⟨by rfl, ?_⟩) (by assumption) ?_
    rotate_left
    · intro w hSw
      try dsimp only at hSw
      go_simp
      try with_reducible rfl
    simp only [Act.put, List.setIfInBounds_toArray, List.set_cons_zero, List.set_cons_succ, List.getElem_toArray, List.getElem_cons_zero, List.getElem_cons_succ]
    refine wpAnyH_take (i := 2) (v := ?_) rfl (by kernel_rfl) (by kernel_rfl) (by kernel_rfl) (fun _ _ _ h => h) (Or.inl ⟨by rfl, ?_⟩) (by assumption) ?_
    rotate_left
    · intro w hSw
      try dsimp only at hSw
      go_simp
      try with_reducible rfl
    simp only [Act.put, List.setIfInBounds_toArray, List.set_cons_zero, List.set_cons_succ, List.getElem_toArray, List.getElem_cons_zero, List.getElem_cons_succ]
    refine wpAnyH_take (i := 3) (v := ?_) rfl (by kernel_rfl) (by kernel_rfl) (by kernel_rfl) (fun _ _ _ h => h) (Or.inl ⟨by rfl, ?_⟩) (by assumption) ?_
    rotate_left
    · intro w hSw
      try dsimp only at hSw
      go_simp
      try with_reducible rfl
    simp only [Act.put, List.setIfInBounds_toArray, List.set_cons_zero, List.set_cons_succ, List.getElem_toArray, List.getElem_cons_zero, List.getElem_cons_succ]
    refine wpAnyH_take (i := 4) (v := ?_) rfl (by kernel_rfl) (by kernel_rfl) (by kernel_rfl) (fun _ _ _ h => h) (Or.inl ⟨by rfl, ?_⟩) (by assumption) ?_
    rotate_left
    · intro w hSw
      have q0 := (HSA.out.kept hSw).cell 0
      have q1 := (HSA.out.kept hSw).cell 1
      have q2 := (HSA.out.kept hSw).cell 2
      have q3 := (HSA.out.kept hSw).cell 3
      have q4 := (HSA.out.kept hSw).cell 4
      have q5 := (HSA.out.kept hSw).cell 5
      simp at q0 q1 q2 q3 q4 q5
      go_simp
      try with_reducible rfl
    simp only [Act.put, List.setIfInBounds_toArray, List.set_cons_zero, List.set_cons_succ, List.getElem_toArray, List.getElem_cons_zero, List.getElem_cons_succ]
    refine wpAnyH_take (i := 5) (v := ?_) rfl (by kernel_rfl) (by kernel_rfl) (by kernel_rfl) (fun _ _ _ h => h) (Or.inl ⟨by rfl, ?_⟩) (by assumption) ?_
    rotate_left
    · intro w hSw
      try dsimp only at hSw
      go_simp
      try with_reducible rfl
    simp only [Act.put, List.setIfInBounds_toArray, List.set_cons_zero, List.set_cons_succ, List.getElem_toArray, List.getElem_cons_zero, List.getElem_cons_succ]
    refine wpAnyH_take (i := 6) (v := ?_) rfl (by kernel_rfl) (by kernel_rfl) (by kernel_rfl) (fun _ _ _ h => h) (Or.inl ⟨by rfl, ?_⟩) (by assumption) ?_
    rotate_left
    · intro w hSw
      try dsimp only at hSw
      go_simp
      try with_reducible rfl
    simp only [Act.put, List.setIfInBounds_toArray, List.set_cons_zero, List.set_cons_succ, List.getElem_toArray, List.getElem_cons_zero, List.getElem_cons_succ]
    refine wpAnyH_take (i := 7) (v := ?_) rfl (by kernel_rfl) (by kernel_rfl) (by kernel_rfl) (fun _ _ _ h => h) (Or.inl ⟨by rfl, ?_⟩) (by assumption) ?_
    rotate_left
    · intro w hSw
      try dsimp only at hSw
      go_simp
      try with_reducible rfl
    simp only [Act.put, List.setIfInBounds_toArray, List.set_cons_zero, List.set_cons_succ, List.getElem_toArray, List.getElem_cons_zero, List.getElem_cons_succ]
    refine wpAnyH_take (i := 8) (v := ?_) rfl (by kernel_rfl) (by kernel_rfl) (by kernel_rfl) (fun _ _ _ h => h) (Or.inl ⟨by rfl, ?_⟩) (by assumption) ?_
    rotate_left
    · intro w hSw
      have q0 := (HSA.out.kept hSw).cell 0
      have q1 := (HSA.out.kept hSw).cell 1
      have q2 := (HSA.out.kept hSw).cell 2
      have q3 := (HSA.out.kept hSw).cell 3
      have q4 := (HSA.out.kept hSw).cell 4
      have q5 := (HSA.out.kept hSw).cell 5
      simp at q0 q1 q2 q3 q4 q5
      go_simp
      try with_reducible rfl
    simp only [Act.put, List.setIfInBounds_toArray, List.set_cons_zero, List.set_cons_succ, List.getElem_toArray, List.getElem_cons_zero, List.getElem_cons_succ]
    refine wpAnyH_ready (rs := [9]) (by kernel_rfl) (by simp) ?_
    refine AllReadyH.cons rfl (fun Kc hKc => ?_) AllReadyH.nil
    go_simp
    go_wp2_with (go_at_call 33; refine (PK.out _).mono ?_; rintro e w4 ⟨rfl, hb'⟩)
    refine hKc.out _ _ ?_ (fun hHeld => ?_)
    · first | exact btr hHeld hb' | exact hHeld
    clear hKc Kc
    refine wpAnyH_take (i := 10) (v := ?_) rfl (by kernel_rfl) (by kernel_rfl) (by kernel_rfl) (fun _ _ _ h => h) (Or.inl ⟨by rfl, ?_⟩) (by assumption) ?_
    rotate_left
    · intro w hSw
      try dsimp only at hSw
      go_simp
      try with_reducible rfl
    simp only [Act.put, List.setIfInBounds_toArray, List.set_cons_zero, List.set_cons_succ, List.getElem_toArray, List.getElem_cons_zero, List.getElem_cons_succ]
    refine wpAnyH_done (by kernel_rfl) ?_ _
    have HB4 := Lib.hid hHeld
    clear hHeld hb'
    go_wp2_with fail
    refine wp_region_still_tail 9 (by kernel_rfl) (by kernel_rfl) ?_
    simp only [List.take_succ_cons, List.take_zero, List.drop_succ_cons, List.drop_zero]
    have HB5 : Hid (Below w.heap.size w { heap := w4.heap, tape := w4.tape, drawn := w4.drawn + 1, os := w4.os, output := w4.output }) := Lib.hid (below_drewN HB4.out 1)
    generalize ({ heap := w4.heap, tape := w4.tape, drawn := w4.drawn + 1, os := w4.os, output := w4.output } : World) = wd at *
    have q0 := (HSA.out.kept HB5.out).cell 0
    have q1 := (HSA.out.kept HB5.out).cell 1
    have q2 := (HSA.out.kept HB5.out).cell 2
    have q3 := (HSA.out.kept HB5.out).cell 3
    have q4 := (HSA.out.kept HB5.out).cell 4
    have q5 := (HSA.out.kept HB5.out).cell 5
    simp at q0 q1 q2 q3 q4 q5
    repeat still_step
    refine wpStill_nil ?_
    go_wp2_with fail
    with_reducible refine (PC.out _).mono ?_
    rintro e w5 ⟨gc, cc, rfl, hrow, hb⟩
    have HB6 := Lib.hid (btr HB5.out hb)
    have HG6 : Hid (RefIs w5 N G v B K R W zs) := Lib.hid (HG.out.kept HB6.out)
    have PR := Lib.hid (rchange_yes w5 N G v B K R W zs (colsZ W s l k R) x _ HG6.out hrow HM.out hx HFIT.out)
    clear hrow hb q0 q1 q2 q3 q4 q5
    have q3 := (HSA.out.kept HB6.out).cell 3
    have q6 := (HSA.out.kept HB6.out).cell 6
    simp at q3 q6
    go_wp2_with fail
    with_reducible refine PR.out.mono ?_
    intro e w6 hpost
    have hres : e = .returned (.int .i64 qe) ∧ RefIs w6 N G v B K R W qu ∧ RGr w w6 B R := by
      rcases hpost with ⟨h1, h2, h3, h4⟩ | ⟨h1, h2, h3⟩
      · have e0 : qe = 0 := by rw [HE.out, if_pos h1]
        exact ⟨by rw [h2, e0], by rw [HU.out, if_pos e0]; exact h3, (RGr.of_below HB6.out).trans h4⟩
      · have e0 : qe = 4 := by rw [HE.out, if_neg h1]
        exact ⟨by rw [h2, e0], by rw [HU.out, if_neg (by omega)]; exact HG6.out.kept h3, RGr.of_below (btr HB6.out h3)⟩
    obtain ⟨rfl, hr1, hr2⟩ := hres
    have HR1 := Lib.hid hr1
    have HR2 := Lib.hid hr2
    clear hr1 hr2 hpost q3 q6
    go_wp2
    go_ret
    exact ⟨rfl, HR1.out, HR2.out⟩
theorem rskupdate (w : World) (SA N G : Nat) (v : Value) (B K : Nat → Nat) (b m s l : Int) (R W : Nat) (zs : List Int) (hSA : Blk w SA 109 #[.int .i64 b, .int .i64 (R : Int), .int .i64 (W : Int), .int .i64 m, .int .u64 s, .int .i64 l, .pointer (some ⟨G, 0, none⟩)]) (hG : RefIs w N G v B K R W zs) (hfit : Fit zs)
    (hR : 0 < R) (hW : 0 < W) (s0 : 0 ≤ s) (s1 : s ≤ 18446744073709551615) (k x : Int) (k0 : 0 ≤ k) (k1 : k ≤ 18446744073709551615) (hx : In64 x) :
    Calls Tryz.prog 69 #[.pointer (some ⟨SA, 0, none⟩), .int .u64 k, .int .i64 x] w (RSkUpPost w N G v B K b m s l R W zs k x) := by
  by_cases hk : keysI b R W m l ≤ k
  · refine (rskupdate_none w SA N G v B K b m s l R W zs hSA k x hk).mono fun e w' ⟨h1, h2⟩ => ?_
    have e0 : skErr b R W m s l zs k x = 2 := by unfold skErr; rw [if_pos hk]
    have e1 : skUpd b R W m s l zs k x = zs := by unfold skUpd; rw [if_neg (by omega)]
    exact ⟨by rw [h1, e0], by rw [e1]; exact hG.kept h2, RGr.of_below h2⟩
  · exact rskupdate_in w SA N G v B K b m s l R W zs hSA hG hfit hR hW s0 s1 k x k0 k1 hx (by omega)
end Go.Proofs.YtbghchgmoiniiaaGreat

/-
  The walks of the document's level: Copy, Update. Conditions: none beyond those stated at each theorem.
-/
namespace Go.Proofs.YtbghchgmoiniiaaGreat
open Go.RowKit
set_option linter.unusedVariables false
set_option linter.unusedSimpArgs false

theorem nat_of_right {b r d m : Int} (hr : rightB b r d m = true) : ∃ R W : Nat, r = (R : Int) ∧ d = (W : Int) ∧ 0 < R ∧ R ≤ 8 ∧ 0 < W ∧ W ≤ 128 := by
  have h := right_of hr
  exact ⟨r.toNat, d.toNat, by omega, by omega, by omega, by omega, by omega, by omega⟩
def RLvCPost (w : World) (b r d m s l : Int) (zs : List Int) (e : Ending) (w' : World) : Prop :=
  ∃ P, e = .returned (.pointer (some ⟨P, 0, none⟩)) ∧ RLevIs w' (Btw w.heap.size w'.heap.size) P b r d m s l zs ∧ Below w.heap.size w w'
set_option maxRecDepth 100000 in
set_option maxHeartbeats 4000000 in
theorem rlcopy (w : World) (F : Nat → Prop) (P : Nat) (b r d m s l : Int) (zs : List Int) (h : RLevIs w F P b r d m s l zs) (hr : rightB b r d m = true) :
    Calls Tryz.prog 67 #[.pointer (some ⟨P, 0, none⟩)] w (RLvCPost w b r d m s l zs) := by
  rcases h with ⟨hex, RA, LA, hP, hA, hlen, -, -, -⟩ | ⟨hex, SA, G, v, B, K, N, hP, hS, hG, -, -, -, -, -⟩
  · have hK : zs.length ≤ 128 := by
      have := of_decide_eq_true hex
      have := right_of hr
      omega
    have c0 := hP.cell 0
    simp at c0
    have PC := Lib.hid (rxcopy w RA LA b r d m s l zs hA hK)
    have HEX := Lib.hid hex
    have HLEN := Lib.hid hlen
    clear hex hlen hP hA hK hr
    go_enter Tryz.func67, Tryz.ntmps67
    go_wp2_with fail
    with_reducible refine PC.out.mono ?_
    rintro e w4 ⟨RA2, LA2, rfl, hRA, hLA, hra, hb⟩
    have HRA := Lib.hid hra
    have HLO : Hid (w.heap.size ≤ RA2 ∧ w.heap.size ≤ LA2) := Lib.hid ⟨hRA, hLA⟩
    have HB4 := Lib.hid hb
    have HNEW := Lib.hid (Blk.new w4 104 #[.pointer (some ⟨RA2, 0, none⟩), .pointer none])
    have HAL : Hid (Below w4.heap.size w4 (w4.alloc (.cells #[.pointer (some ⟨RA2, 0, none⟩), .pointer none] 104))) := Lib.hid (below_alloc1 _ _)
    have HRA5 := Lib.hid (HRA.out.kept HAL.out)
    have HB5 := Lib.hid (btr HB4.out HAL.out)
    have hsz4 := HB4.out.size
    clear hra hb hRA hLA c0
    go_wp2
    go_ret
    exact ⟨w4.heap.size, rfl, .inl ⟨HEX.out, RA2, LA2, HNEW.out, HRA5.out, HLEN.out, ⟨hsz4, HNEW.out.lt⟩, ⟨HLO.out.1, HRA5.out.ltR⟩, ⟨HLO.out.2, HRA5.out.ltL⟩⟩, HB5.out⟩
  · obtain ⟨R, W, rfl, rfl, h1, h2, h3, h4⟩ := nat_of_right hr
    rw [Int.toNat_natCast, Int.toNat_natCast] at hG
    have c0 := hP.cell 0
    have c1 := hP.cell 1
    simp at c0 c1
    have PC := Lib.hid (rskcopy w SA G N v B K b m s l R W zs hr hS hG)
    have HEX := Lib.hid hex
    clear hex hP hS hG hr
    go_enter Tryz.func67, Tryz.ntmps67
    go_wp2_with fail
    with_reducible refine PC.out.mono ?_
    rintro e w3 ⟨SA2, G2, v2, B2, K2, rfl, hSA, hsk, hrf, hb⟩
    have HB3 := Lib.hid hb
    have HSK := Lib.hid hsk
    have HRF := Lib.hid hrf
    have HSA := Lib.hid hSA
    clear hb hsk hrf hSA c0 c1
    have HNEW := Lib.hid (Blk.new w3 104 #[.pointer none, .pointer (some ⟨SA2, 0, none⟩)])
    have HAL : Hid (Below w3.heap.size w3 (w3.alloc (.cells #[.pointer none, .pointer (some ⟨SA2, 0, none⟩)] 104))) := Lib.hid (below_alloc1 _ _)
    have HSK4 := Lib.hid (HSK.out.kept HAL.out)
    have HRF4 := Lib.hid (HRF.out.kept HAL.out)
    have HB4 := Lib.hid (btr HB3.out HAL.out)
    have hsz3 := HB3.out.size
    go_wp2
    go_ret
    exact ⟨w3.heap.size, rfl, .inr ⟨HEX.out, SA2, G2, v2, B2, K2, _, HNEW.out, HSK4.out, HRF4.out, ⟨hsz3, HNEW.out.lt⟩, ⟨HSA.out, HSK4.out.lt⟩, HRF4.out.inside.1, HRF4.out.inside.2.1, fun i hi => HRF4.out.inside.2.2 i (by simpa using hi)⟩, HB4.out⟩
def RLvUpPost (w : World) (F : Nat → Prop) (P : Nat) (b r d m s l : Int) (zs : List Int) (k : Nat) (x : Int) (e : Ending) (w' : World) : Prop :=
  e = .returned (.int .i64 (lvErr b r d m s l zs k x)) ∧ RLevIs w' F P b r d m s l (lvUpd b r d m s l zs k x) ∧ Only F w w'
set_option maxRecDepth 100000 in
set_option maxHeartbeats 4000000 in
theorem rlupdate (w : World) (F : Nat → Prop) (P : Nat) (b r d m s l : Int) (zs : List Int) (h : RLevIs w F P b r d m s l zs) (hfit : Fit zs) (hr : rightB b r d m = true) (s0 : 0 ≤ s) (s1 : s ≤ 18446744073709551615) (k : Nat) (hk : k < 18446744073709551616) (x : Int) (hx : In64 x) :
    Calls Tryz.prog 48 #[.pointer (some ⟨P, 0, none⟩), .int .u64 (k : Int), .int .i64 x] w (RLvUpPost w F P b r d m s l zs k x) := by
  rcases h with ⟨hex, RA, LA, hP, hA, hlen, f1, f2, f3⟩ | ⟨hex, SA, G, v, B, K, N, hP, hS, hG, f1, f2, f3, f4, f5⟩
  · have hK : zs.length ≤ 128 := by
      have := of_decide_eq_true hex
      have := right_of hr
      omega
    have e1 : lvErr b r d m s l zs k x = chkI zs.length m zs k x := by unfold lvErr; rw [if_pos hex, hlen]
    have e2 : lvUpd b r d m s l zs k x = updZ zs.length m zs k x := by unfold lvUpd; rw [if_pos hex, hlen]
    have e3 : (updZ zs.length m zs k x).length = zs.length := by unfold updZ; split <;> simp
    have c0 := hP.cell 0
    simp at c0
    have PU := Lib.hid (rxupdate w RA LA b r d m s l k zs x hA hK hfit hx hk)
    have HFIN : Hid (∀ e w', RUpPost w RA LA b r d m s l zs k x e w' → RLvUpPost w F P b r d m s l zs k x e w') := Lib.hid (fun e w' ⟨q1, q2, q3⟩ => by
      obtain ⟨cp, cu, hc, h5, h6, h7⟩ := hA
      exact ⟨by rw [q1, e1], .inl ⟨hex, RA, LA, hP.grown q3 (by simpa using hP.ne_ h6 (by decide)), by rw [e2]; exact q2, by rw [e2, e3, hlen], f1, f2, f3⟩, Only.of_gr q3 f3⟩)
    clear hex hlen hP hA hK hr e1 e2 e3 hfit
    go_enter Tryz.func48, Tryz.ntmps48
    go_wp2_with fail
    with_reducible refine PU.out.mono ?_
    intro e w4 hp
    have hq := hp.1
    subst hq
    have HP := Lib.hid (HFIN.out _ _ hp)
    clear hp c0
    go_wp2
    go_ret
    exact HP.out
  · obtain ⟨R, W, rfl, rfl, h1, h2, h3, h4⟩ := nat_of_right hr
    rw [Int.toNat_natCast, Int.toNat_natCast] at hG
    have e1 : lvErr b R W m s l zs k x = skErr b R W m s l zs (k : Int) x := by unfold lvErr; rw [if_neg (by rw [hex]; decide)]
    have e2 : lvUpd b R W m s l zs k x = skUpd b R W m s l zs (k : Int) x := by unfold lvUpd; rw [if_neg (by rw [hex]; decide)]
    have c0 := hP.cell 0
    have c1 := hP.cell 1
    simp at c0 c1
    have PU := Lib.hid (rskupdate w SA N G v B K b m s l R W zs hS hG hfit h1 h3 s0 s1 (k : Int) x (by omega) (by omega) hx)
    have HFIN : Hid (∀ e w', RSkUpPost w N G v B K b m s l R W zs (k : Int) x e w' → RLvUpPost w F P b R W m s l zs k x e w') := Lib.hid (fun e w' ⟨q1, q2, q3⟩ => by
      have hk : ∀ {g : Nat} {t : TypeId} {cs : Array Value}, Blk w g t cs → 2 ≠ t → Blk w' g t cs := fun {g t cs} hb ht => (q3.block g hb.lt (fun i hi e => by
        obtain ⟨cu, hc, -⟩ := hG.cells i hi
        rw [← e] at hc
        exact hc.ne_ hb ht rfl)).trans hb
      exact ⟨by rw [q1, e1], .inr ⟨hex, SA, G, v, B, K, N, hk hP (by decide), hk hS (by decide), by rw [e2, Int.toNat_natCast, Int.toNat_natCast]; exact q2, f1, f2, f3, f4, f5⟩, q3.os, q3.tape, q3.output, q3.size, fun g hg hn => q3.block g hg (fun i hi e => hn (by rw [e]; exact f5 i (by simpa using hi)))⟩)
    clear hex hP hS hG hr e1 e2 hfit
    go_enter Tryz.func48, Tryz.ntmps48
    go_wp2_with fail
    with_reducible refine PU.out.mono ?_
    intro e w4 hp
    have hq := hp.1
    subst hq
    have HP := Lib.hid (HFIN.out _ _ hp)
    clear hp c0 c1
    go_wp2
    go_ret
    exact HP.out
end Go.Proofs.YtbghchgmoiniiaaGreat

/-
  The walk of the document's stack: Copy. Conditions: none beyond those stated at each theorem.
-/
namespace Go.Proofs.YtbghchgmoiniiaaGreat
open Go.RowKit
set_option linter.unusedVariables false
set_option linter.unusedSimpArgs false

def RStCPost (w : World) (b r d m s : Int) (Z : Nat → List Int) (e : Ending) (w' : World) : Prop :=
  ∃ RS RL P F, e = .returned (.pointer (some ⟨RS, 0, none⟩)) ∧ w.heap.size ≤ RS ∧ RStIs w' w.heap.size RS RL b r d m s P F Z ∧ Below w.heap.size w w'
set_option maxRecDepth 100000 in
set_option maxHeartbeats 8000000 in
theorem rstcopy (w : World) (base0 RS0 RL0 : Nat) (b r d m s : Int) (P0 : Nat → Nat) (F0 : Nat → Nat → Prop) (Z : Nat → List Int) (h : RStIs w base0 RS0 RL0 b r d m s P0 F0 Z) :
    Calls Tryz.prog 47 #[.pointer (some ⟨RS0, 0, none⟩)] w (RStCPost w b r d m s Z) := by
  obtain ⟨i0, hi, hz0, hz1, hz2⟩ := info_parts Tryz.infoRL
  have hr := h.right
  have HR := Lib.hid hr
  have hb59 := right_of hr
  obtain ⟨n, hn⟩ : ∃ n : Nat, b = (n : Int) := ⟨b.toNat, by omega⟩
  subst hn
  have hn59 : n ≤ 59 := by omega
  have H := Lib.hid h
  obtain ⟨cap0, hbx0, hcap0⟩ := h.box
  obtain ⟨cur0, hrow0, hcur0⟩ := h.row
  rw [Int.toNat_natCast] at hbx0 hcap0 hcur0
  have HBX0 := Lib.hid hbx0
  have HROW0 := Lib.hid hrow0
  have HCUR0 := Lib.hid hcur0
  have c0 := hbx0.cell 0
  have c1 := hbx0.cell 1
  have c2 := hbx0.cell 2
  have c3 := hbx0.cell 3
  have c4 := hbx0.cell 4
  simp at c0 c1 c2 c3 c4
  have HSB := Lib.hid (Blk.new w 40 #[.int .i64 (n : Int), .int .i64 r, .int .i64 d, .int .i64 m, .int .u64 s, .slice none 0 0])
  have HB2 := Lib.hid (below_alloc1 w (.cells #[.int .i64 (n : Int), .int .i64 r, .int .i64 d, .int .i64 m, .int .u64 s, .slice none 0 0] 40))
  clear hb59 hr h hbx0 hrow0 hcur0
  go_enter Tryz.func47, Tryz.ntmps47
  go_wp2_with fail
  clear c0 c1 c2 c3 c4
  generalize w.alloc (.cells #[.int .i64 (n : Int), .int .i64 r, .int .i64 d, .int .i64 m, .int .u64 s, .slice none 0 0] 40) = w2 at *
  obtain ⟨RS, hRS⟩ : ∃ RS, RS = w.heap.size := ⟨_, rfl⟩
  rw [← hRS] at HSB ⊢
  have HRS := Lib.hid hRS
  have hRS1 : w.heap.size ≤ RS := by omega
  clear hRS
  go_loopw [4] (fun i wr => ∃ (j : Nat) (P : Nat → Nat) (F : Nat → Nat → Prop) (v : Value), j ≤ n + 1 ∧ i = .int .i64 (j : Int) ∧ Blk wr RS 40 #[.int .i64 (n : Int), .int .i64 r, .int .i64 d, .int .i64 m, .int .u64 s, v] ∧ RLevsB wr w.heap.size RS v (n : Int) r d m s P F Z j ∧ Below w.heap.size w wr) (fun i _ => n + 1 - (intOf i).toNat)
  case atStart => exact ⟨0, fun _ => 0, fun _ _ => False, _, by omega, rfl, HSB.out, RLevsB.zero _ _ _ _ _ _ _ _ _ _ _, HB2.out⟩
  case round =>
    obtain ⟨j, P, F, v, hj, rfl, hs, hlv, hbel⟩ := hrel
    obtain ⟨vo, vl, vc, rfl⟩ := hlv.open2
    have HS := Lib.hid (hs.drewN 1)
    have HLV := Lib.hid (hlv.kept (below_drewN (Below.refl _ _) 1))
    have HB := Lib.hid (below_drewN hbel 1)
    have HS0 := Lib.hid hs
    have HLV0 := Lib.hid hlv
    have HB0 := Lib.hid hbel
    have hRSl := hs.lt
    have q5 := (HBX0.out.kept hbel).cell 5
    simp at q5
    clear hs hlv hbel HSB HB2
    by_cases hlt : j < n + 1
    · have i1 : (j : Int) < (n : Int) + 1 := by omega
      have i0' : (0 : Int) ≤ (j : Int) := by omega
      have hjn : j ≤ (n : Int).toNat := by rw [Int.toNat_natCast]; omega
      have hlev := H.out.lev j hjn
      have PN2 : Hid (∀ w', Below w.heap.size w w' → Calls Tryz.prog 67 #[.pointer (some ⟨P0 j, 0, none⟩)] w' (RLvCPost w' (n : Int) r d m s (j : Int) (Z j))) := Lib.hid (fun w' hb => rlcopy w' (F0 j) (P0 j) _ r d m s _ (Z j) (hlev.frame (fun k hk => hb.block k (H.out.fin j k hjn hk).2)) HR.out)
      have HZZ : Hid (upN Z j (Z j) = Z) := Lib.hid (by
        funext k
        by_cases e : k = j
        · subst e; exact upN_same _ _ _
        · exact upN_other _ _ e)
      clear hlev
      go_wp2_with fail
      clear q5
      have k5 := HS.out.cell 5
      simp at k5
      refine wp_region_held_drew (S := fun w' => (∃ x, Blk w' RS 40 #[.int .i64 (n : Int), .int .i64 r, .int .i64 d, .int .i64 m, .int .u64 s, x]) ∧ Below w.heap.size w w') (by kernel_rfl) (by exact ⟨⟨_, HS.out⟩, HB.out⟩) (fun hHeld => ?_)
      refine wpAnyH_take (i := 0) (v := ?_) rfl (by kernel_rfl) (by kernel_rfl) (by kernel_rfl) (fun _ _ _ h => h) (Or.inl ⟨by rfl, ?_⟩) (by assumption) ?_
      rotate_left
      · intro w hSw
        try dsimp only at hSw
        go_simp
        try with_reducible rfl
      simp only [Act.put, List.setIfInBounds_toArray, List.set_cons_zero, List.set_cons_succ, List.getElem_toArray, List.getElem_cons_zero, List.getElem_cons_succ]
      refine wpAnyH_take (i := 1) (v := ?_) rfl (by kernel_rfl) (by kernel_rfl) (by kernel_rfl) (fun _ _ _ h => h) (Or.inl ⟨by rfl, ?_⟩) (by assumption) ?_
      rotate_left
      · intro w hSw
        try dsimp only at hSw
        go_simp
        try with_reducible rfl
      simp only [Act.put, List.setIfInBounds_toArray, List.set_cons_zero, List.set_cons_succ, List.getElem_toArray, List.getElem_cons_zero, List.getElem_cons_succ]
      refine wpAnyH_take (i := 2) (v := ?_) rfl (by kernel_rfl) (by kernel_rfl) (by kernel_rfl) (fun _ _ _ h => h) (Or.inl ⟨by rfl, ?_⟩) (by assumption) ?_
      rotate_left
      · intro w hSw
        try dsimp only at hSw
        go_simp
        try with_reducible rfl
      simp only [Act.put, List.setIfInBounds_toArray, List.set_cons_zero, List.set_cons_succ, List.getElem_toArray, List.getElem_cons_zero, List.getElem_cons_succ]
      refine wpAnyH_take (i := 3) (v := ?_) rfl (by kernel_rfl) (by kernel_rfl) (by kernel_rfl) (fun _ _ _ h => h) (Or.inl ⟨by rfl, ?_⟩) (by assumption) ?_
      rotate_left
      · intro w hSw
        try dsimp only at hSw
        go_simp
        try with_reducible rfl
      simp only [Act.put, List.setIfInBounds_toArray, List.set_cons_zero, List.set_cons_succ, List.getElem_toArray, List.getElem_cons_zero, List.getElem_cons_succ]
      refine wpAnyH_take (i := 5) (v := ?_) rfl (by kernel_rfl) (by kernel_rfl) (by kernel_rfl) (fun _ _ _ h => h) (Or.inl ⟨by rfl, ?_⟩) (by assumption) ?_
      rotate_left
      · intro w hSw
        try dsimp only at hSw
        go_simp
        try with_reducible rfl
      simp only [Act.put, List.setIfInBounds_toArray, List.set_cons_zero, List.set_cons_succ, List.getElem_toArray, List.getElem_cons_zero, List.getElem_cons_succ]
      refine wpAnyH_take (i := 6) (v := ?_) rfl (by kernel_rfl) (by kernel_rfl) (by kernel_rfl) (fun _ _ _ h => h) (Or.inl ⟨by rfl, ?_⟩) (by assumption) ?_
      rotate_left
      · intro w hSw
        try dsimp only at hSw
        go_simp
        try with_reducible rfl
      simp only [Act.put, List.setIfInBounds_toArray, List.set_cons_zero, List.set_cons_succ, List.getElem_toArray, List.getElem_cons_zero, List.getElem_cons_succ]
      refine wpAnyH_take (i := 7) (v := ?_) rfl (by kernel_rfl) (by kernel_rfl) (by kernel_rfl) (fun _ _ _ h => h) (Or.inl ⟨by rfl, ?_⟩) (by assumption) ?_
      rotate_left
      · intro w hSw
        try dsimp only at hSw
        go_simp
        try with_reducible rfl
      simp only [Act.put, List.setIfInBounds_toArray, List.set_cons_zero, List.set_cons_succ, List.getElem_toArray, List.getElem_cons_zero, List.getElem_cons_succ]
      refine wpAnyH_take (i := 8) (v := ?_) rfl (by kernel_rfl) (by kernel_rfl) (by kernel_rfl) (fun _ _ _ h => h) (Or.inl ⟨by rfl, ?_⟩) (by assumption) ?_
      rotate_left
      · intro w hSw
        have q6 := (HBX0.out.kept hSw.2).cell 5
        have q7 := ((HROW0.out.kept hSw.2).cell j).trans (HCUR0.out j (by omega))
        simp at q6
        go_simp
        try with_reducible rfl
      simp only [Act.put, List.setIfInBounds_toArray, List.set_cons_zero, List.set_cons_succ, List.getElem_toArray, List.getElem_cons_zero, List.getElem_cons_succ]
      refine wpAnyH_take (i := 9) (v := ?_) rfl (by kernel_rfl) (by kernel_rfl) (by kernel_rfl) (fun _ _ _ h => h) (Or.inl ⟨by rfl, ?_⟩) (by assumption) ?_
      rotate_left
      · intro w hSw
        try dsimp only at hSw
        go_simp
        try with_reducible rfl
      simp only [Act.put, List.setIfInBounds_toArray, List.set_cons_zero, List.set_cons_succ, List.getElem_toArray, List.getElem_cons_zero, List.getElem_cons_succ]
      refine wpAnyH_take (i := 10) (v := ?_) rfl (by kernel_rfl) (by kernel_rfl) (by kernel_rfl) (fun _ _ _ h => h) (Or.inl ⟨by rfl, ?_⟩) (by assumption) ?_
      rotate_left
      · intro w hSw
        try dsimp only at hSw
        go_simp
        try with_reducible rfl
      simp only [Act.put, List.setIfInBounds_toArray, List.set_cons_zero, List.set_cons_succ, List.getElem_toArray, List.getElem_cons_zero, List.getElem_cons_succ]
      refine wpAnyH_take (i := 11) (v := ?_) rfl (by kernel_rfl) (by kernel_rfl) (by kernel_rfl) (fun _ _ _ h => h) (Or.inl ⟨by rfl, ?_⟩) (by assumption) ?_
      rotate_left
      · intro w hSw
        have q6 := (HBX0.out.kept hSw.2).cell 5
        have q7 := ((HROW0.out.kept hSw.2).cell j).trans (HCUR0.out j (by omega))
        simp at q6
        go_simp
        try with_reducible rfl
      simp only [Act.put, List.setIfInBounds_toArray, List.set_cons_zero, List.set_cons_succ, List.getElem_toArray, List.getElem_cons_zero, List.getElem_cons_succ]
      refine wpAnyH_ready (rs := [4, 12]) (by kernel_rfl) (by simp) ?_
      refine AllReadyH.cons rfl (fun Kc hKc => ?_) (AllReadyH.cons rfl (fun Kc hKc => ?_) AllReadyH.nil)
      · go_simp
        refine hKc.out _ _ ?_ (fun hHeld => ?_)
        · first | exact hHeld | exact ⟨⟨_, HS4.out⟩, HB4.out⟩ | exact ⟨⟨_, HS4.out.set_ 5 _⟩, HB4.out.setCell (p := ⟨RS, 5, none⟩) hRS1 _⟩ | exact ⟨⟨_, HS.out.kept hb'⟩, btr hHeld.2 hb'⟩ | exact ⟨by obtain ⟨x, hx⟩ := hHeld.1; exact ⟨x, hx.alloc _⟩, hHeld.2.alloc hHeld.2.size _⟩
        clear hKc Kc
        refine wpAnyH_ready (rs := [12]) (by kernel_rfl) (by simp) ?_
        refine AllReadyH.cons rfl (fun Kc hKc => ?_) AllReadyH.nil
        go_simp
        go_wp2_with (go_at_call 67; refine (PN2.out _ (by assumption)).mono ?_; rintro e w3 ⟨p, rfl, hlv3, hb'⟩; have HL3 := Lib.hid hlv3; have HBK := Lib.hid hb'; have k5' := (HS.out.kept hb').cell 5; simp at k5'; have k6' := ((HS.out.kept hb').alloc (.cells #[.pointer (some ⟨p, 0, none⟩)] 67)).cell 5; simp at k6'; clear hlv3)
        refine hKc.out _ _ ?_ (fun hHeld => ?_)
        · first | exact hHeld | exact ⟨⟨_, HS4.out⟩, HB4.out⟩ | exact ⟨⟨_, HS4.out.set_ 5 _⟩, HB4.out.setCell (p := ⟨RS, 5, none⟩) hRS1 _⟩ | exact ⟨⟨_, HS.out.kept hb'⟩, btr hHeld.2 hb'⟩ | exact ⟨by obtain ⟨x, hx⟩ := hHeld.1; exact ⟨x, hx.alloc _⟩, hHeld.2.alloc hHeld.2.size _⟩
        clear hKc Kc
        refine wpAnyH_ready (rs := [13]) (by kernel_rfl) (by simp) ?_
        refine AllReadyH.cons rfl (fun Kc hKc => ?_) AllReadyH.nil
        go_simp
        refine hKc.out _ _ ?_ (fun hHeld => ?_)
        · first | exact hHeld | exact ⟨⟨_, HS4.out⟩, HB4.out⟩ | exact ⟨⟨_, HS4.out.set_ 5 _⟩, HB4.out.setCell (p := ⟨RS, 5, none⟩) hRS1 _⟩ | exact ⟨⟨_, HS.out.kept hb'⟩, btr hHeld.2 hb'⟩ | exact ⟨by obtain ⟨x, hx⟩ := hHeld.1; exact ⟨x, hx.alloc _⟩, hHeld.2.alloc hHeld.2.size _⟩
        clear hKc Kc
        refine wpAnyH_ready (rs := [14]) (by kernel_rfl) (by simp) ?_
        refine AllReadyH.cons rfl (fun Kc hKc => ?_) AllReadyH.nil
        refine wp_append_own_at _ _ 38 rfl w.heap.size 67 i0 (.pointer none) 1 8 Tryz.underlying38 hi hz0 hz1 hz2 rfl (by decide) _ j _ rfl ((HLV.out.kept HBK.out).own.alloc _) ⟨w3.heap.size, 0, none⟩ 1 1 [.pointer (some ⟨p, 0, none⟩)] rfl rfl (cell_one_new _ _ _) (by simp [Value.oneCell']) (by unfold maxLen; omega) (by omega) (by have := (btr HB.out HBK.out).size; simp; omega) ?_; intro v' w4 hown' hgrow hnil' hq9; have HAL : Hid (Below w3.heap.size w3 (w3.alloc (.cells #[.pointer (some ⟨p, 0, none⟩)] 67))) := Lib.hid ((Below.refl _ _).alloc (Nat.le_refl _) _); have hpush := RLevsB.push ((HLV.out.kept HBK.out).kept HAL.out) (HL3.out.frame (fun k hk => HAL.out.block k hk.2)) (fun k hk => ⟨hk.1, Nat.lt_of_lt_of_le hk.2 HAL.out.size⟩) HB.out.size (fun q k hq hk => (HLV.out.fin q k hq hk).2) HS.out.lt (fun k hk => (HLV.out.own.lt k hk).2) hgrow hown' hq9; rw [HZZ.out] at hpush; have HS4 := Lib.hid (((HS.out.kept HBK.out).kept HAL.out).grown hgrow (Ne.symm (own_ne ((HLV.out.kept HBK.out).kept HAL.out).own ((HS.out.kept HBK.out).kept HAL.out) (by decide)))); have HB4 : Hid (Below w.heap.size w w4) := Lib.hid ((btr (btr HB.out HBK.out) HAL.out).grown hgrow (btr (btr HB.out HBK.out) HAL.out).size (fun k e => (HLV.out.own.lt k e).1)); obtain ⟨xo, xl, xc, rfl⟩ := hpush.open2; have HP := Lib.hid hpush; clear hpush hown' hgrow hnil' hq9 k5 k5' k6'
        refine hKc.out _ _ ?_ (fun hHeld => ?_)
        · first | exact hHeld | exact ⟨⟨_, HS4.out⟩, HB4.out⟩ | exact ⟨⟨_, HS4.out.set_ 5 _⟩, HB4.out.setCell (p := ⟨RS, 5, none⟩) hRS1 _⟩ | exact ⟨⟨_, HS.out.kept hb'⟩, btr hHeld.2 hb'⟩ | exact ⟨by obtain ⟨x, hx⟩ := hHeld.1; exact ⟨x, hx.alloc _⟩, hHeld.2.alloc hHeld.2.size _⟩
        clear hKc Kc
        refine wpAnyH_take (i := 15) (v := ?_) rfl (by kernel_rfl) (by kernel_rfl) (by kernel_rfl) (fun _ _ _ h => h) (Or.inl ⟨by rfl, ?_⟩) (by assumption) ?_
        rotate_left
        · intro w hSw
          try dsimp only at hSw
          go_simp
          try with_reducible rfl
        simp only [Act.put, List.setIfInBounds_toArray, List.set_cons_zero, List.set_cons_succ, List.getElem_toArray, List.getElem_cons_zero, List.getElem_cons_succ]
        refine wpAnyH_take (i := 16) (v := ?_) rfl (by kernel_rfl) (by kernel_rfl) (by kernel_rfl) (fun _ _ _ h => h) (Or.inl ⟨by rfl, ?_⟩) (by assumption) ?_
        rotate_left
        · intro w hSw
          try dsimp only at hSw
          go_simp
          try with_reducible rfl
        simp only [Act.put, List.setIfInBounds_toArray, List.set_cons_zero, List.set_cons_succ, List.getElem_toArray, List.getElem_cons_zero, List.getElem_cons_succ]
        refine wpAnyH_ready (rs := [17]) (by kernel_rfl) (by simp) ?_
        refine AllReadyH.cons rfl (fun Kc hKc => ?_) AllReadyH.nil
        have k7 := HS4.out.cell 5; have fz7 := HS4.out.frozen 5; simp at k7; go_simp
        refine hKc.out _ _ ?_ (fun hHeld => ?_)
        · first | exact hHeld | exact ⟨⟨_, HS4.out⟩, HB4.out⟩ | exact ⟨⟨_, HS4.out.set_ 5 _⟩, HB4.out.setCell (p := ⟨RS, 5, none⟩) hRS1 _⟩ | exact ⟨⟨_, HS.out.kept hb'⟩, btr hHeld.2 hb'⟩ | exact ⟨by obtain ⟨x, hx⟩ := hHeld.1; exact ⟨x, hx.alloc _⟩, hHeld.2.alloc hHeld.2.size _⟩
        clear hKc Kc
        refine wpAnyH_done (by kernel_rfl) ?_ _
        clear hHeld
        go_wp2
        go_roundw
        case rel => exact ⟨j + 1, _, _, _, by omega, by go_num, by simpa using HS4.out.set_ 5 (.slice xo xl xc), HP.out.far HS4.out 5 _, HB4.out.setCell (p := ⟨RS, 5, none⟩) hRS1 _⟩
        case measure => simp [intOf]; omega
      · go_simp
        go_wp2_with (go_at_call 67; refine (PN2.out _ (by assumption)).mono ?_; rintro e w3 ⟨p, rfl, hlv3, hb'⟩; have HL3 := Lib.hid hlv3; have HBK := Lib.hid hb'; have k5' := (HS.out.kept hb').cell 5; simp at k5'; have k6' := ((HS.out.kept hb').alloc (.cells #[.pointer (some ⟨p, 0, none⟩)] 67)).cell 5; simp at k6'; clear hlv3)
        refine hKc.out _ _ ?_ (fun hHeld => ?_)
        · first | exact hHeld | exact ⟨⟨_, HS4.out⟩, HB4.out⟩ | exact ⟨⟨_, HS4.out.set_ 5 _⟩, HB4.out.setCell (p := ⟨RS, 5, none⟩) hRS1 _⟩ | exact ⟨⟨_, HS.out.kept hb'⟩, btr hHeld.2 hb'⟩ | exact ⟨by obtain ⟨x, hx⟩ := hHeld.1; exact ⟨x, hx.alloc _⟩, hHeld.2.alloc hHeld.2.size _⟩
        clear hKc Kc
        refine wpAnyH_ready (rs := [4, 13]) (by kernel_rfl) (by simp) ?_
        refine AllReadyH.cons rfl (fun Kc hKc => ?_) (AllReadyH.cons rfl (fun Kc hKc => ?_) AllReadyH.nil)
        · go_simp
          refine hKc.out _ _ ?_ (fun hHeld => ?_)
          · first | exact hHeld | exact ⟨⟨_, HS4.out⟩, HB4.out⟩ | exact ⟨⟨_, HS4.out.set_ 5 _⟩, HB4.out.setCell (p := ⟨RS, 5, none⟩) hRS1 _⟩ | exact ⟨⟨_, HS.out.kept hb'⟩, btr hHeld.2 hb'⟩ | exact ⟨by obtain ⟨x, hx⟩ := hHeld.1; exact ⟨x, hx.alloc _⟩, hHeld.2.alloc hHeld.2.size _⟩
          clear hKc Kc
          refine wpAnyH_ready (rs := [13]) (by kernel_rfl) (by simp) ?_
          refine AllReadyH.cons rfl (fun Kc hKc => ?_) AllReadyH.nil
          go_simp
          refine hKc.out _ _ ?_ (fun hHeld => ?_)
          · first | exact hHeld | exact ⟨⟨_, HS4.out⟩, HB4.out⟩ | exact ⟨⟨_, HS4.out.set_ 5 _⟩, HB4.out.setCell (p := ⟨RS, 5, none⟩) hRS1 _⟩ | exact ⟨⟨_, HS.out.kept hb'⟩, btr hHeld.2 hb'⟩ | exact ⟨by obtain ⟨x, hx⟩ := hHeld.1; exact ⟨x, hx.alloc _⟩, hHeld.2.alloc hHeld.2.size _⟩
          clear hKc Kc
          refine wpAnyH_ready (rs := [14]) (by kernel_rfl) (by simp) ?_
          refine AllReadyH.cons rfl (fun Kc hKc => ?_) AllReadyH.nil
          refine wp_append_own_at _ _ 38 rfl w.heap.size 67 i0 (.pointer none) 1 8 Tryz.underlying38 hi hz0 hz1 hz2 rfl (by decide) _ j _ rfl ((HLV.out.kept HBK.out).own.alloc _) ⟨w3.heap.size, 0, none⟩ 1 1 [.pointer (some ⟨p, 0, none⟩)] rfl rfl (cell_one_new _ _ _) (by simp [Value.oneCell']) (by unfold maxLen; omega) (by omega) (by have := (btr HB.out HBK.out).size; simp; omega) ?_; intro v' w4 hown' hgrow hnil' hq9; have HAL : Hid (Below w3.heap.size w3 (w3.alloc (.cells #[.pointer (some ⟨p, 0, none⟩)] 67))) := Lib.hid ((Below.refl _ _).alloc (Nat.le_refl _) _); have hpush := RLevsB.push ((HLV.out.kept HBK.out).kept HAL.out) (HL3.out.frame (fun k hk => HAL.out.block k hk.2)) (fun k hk => ⟨hk.1, Nat.lt_of_lt_of_le hk.2 HAL.out.size⟩) HB.out.size (fun q k hq hk => (HLV.out.fin q k hq hk).2) HS.out.lt (fun k hk => (HLV.out.own.lt k hk).2) hgrow hown' hq9; rw [HZZ.out] at hpush; have HS4 := Lib.hid (((HS.out.kept HBK.out).kept HAL.out).grown hgrow (Ne.symm (own_ne ((HLV.out.kept HBK.out).kept HAL.out).own ((HS.out.kept HBK.out).kept HAL.out) (by decide)))); have HB4 : Hid (Below w.heap.size w w4) := Lib.hid ((btr (btr HB.out HBK.out) HAL.out).grown hgrow (btr (btr HB.out HBK.out) HAL.out).size (fun k e => (HLV.out.own.lt k e).1)); obtain ⟨xo, xl, xc, rfl⟩ := hpush.open2; have HP := Lib.hid hpush; clear hpush hown' hgrow hnil' hq9 k5 k5' k6'
          refine hKc.out _ _ ?_ (fun hHeld => ?_)
          · first | exact hHeld | exact ⟨⟨_, HS4.out⟩, HB4.out⟩ | exact ⟨⟨_, HS4.out.set_ 5 _⟩, HB4.out.setCell (p := ⟨RS, 5, none⟩) hRS1 _⟩ | exact ⟨⟨_, HS.out.kept hb'⟩, btr hHeld.2 hb'⟩ | exact ⟨by obtain ⟨x, hx⟩ := hHeld.1; exact ⟨x, hx.alloc _⟩, hHeld.2.alloc hHeld.2.size _⟩
          clear hKc Kc
          refine wpAnyH_take (i := 15) (v := ?_) rfl (by kernel_rfl) (by kernel_rfl) (by kernel_rfl) (fun _ _ _ h => h) (Or.inl ⟨by rfl, ?_⟩) (by assumption) ?_
          rotate_left
          · intro w hSw
            try dsimp only at hSw
            go_simp
            try with_reducible rfl
          simp only [Act.put, List.setIfInBounds_toArray, List.set_cons_zero, List.set_cons_succ, List.getElem_toArray, List.getElem_cons_zero, List.getElem_cons_succ]
          refine wpAnyH_take (i := 16) (v := ?_) rfl (by kernel_rfl) (by kernel_rfl) (by kernel_rfl) (fun _ _ _ h => h) (Or.inl ⟨by rfl, ?_⟩) (by assumption) ?_
          rotate_left
          · intro w hSw
            try dsimp only at hSw
            go_simp
            try with_reducible rfl
          simp only [Act.put, List.setIfInBounds_toArray, List.set_cons_zero, List.set_cons_succ, List.getElem_toArray, List.getElem_cons_zero, List.getElem_cons_succ]
          refine wpAnyH_ready (rs := [17]) (by kernel_rfl) (by simp) ?_
          refine AllReadyH.cons rfl (fun Kc hKc => ?_) AllReadyH.nil
          have k7 := HS4.out.cell 5; have fz7 := HS4.out.frozen 5; simp at k7; go_simp
          refine hKc.out _ _ ?_ (fun hHeld => ?_)
          · first | exact hHeld | exact ⟨⟨_, HS4.out⟩, HB4.out⟩ | exact ⟨⟨_, HS4.out.set_ 5 _⟩, HB4.out.setCell (p := ⟨RS, 5, none⟩) hRS1 _⟩ | exact ⟨⟨_, HS.out.kept hb'⟩, btr hHeld.2 hb'⟩ | exact ⟨by obtain ⟨x, hx⟩ := hHeld.1; exact ⟨x, hx.alloc _⟩, hHeld.2.alloc hHeld.2.size _⟩
          clear hKc Kc
          refine wpAnyH_done (by kernel_rfl) ?_ _
          clear hHeld
          go_wp2
          go_roundw
          case rel => exact ⟨j + 1, _, _, _, by omega, by go_num, by simpa using HS4.out.set_ 5 (.slice xo xl xc), HP.out.far HS4.out 5 _, HB4.out.setCell (p := ⟨RS, 5, none⟩) hRS1 _⟩
          case measure => simp [intOf]; omega
        · go_simp
          refine hKc.out _ _ ?_ (fun hHeld => ?_)
          · first | exact hHeld | exact ⟨⟨_, HS4.out⟩, HB4.out⟩ | exact ⟨⟨_, HS4.out.set_ 5 _⟩, HB4.out.setCell (p := ⟨RS, 5, none⟩) hRS1 _⟩ | exact ⟨⟨_, HS.out.kept hb'⟩, btr hHeld.2 hb'⟩ | exact ⟨by obtain ⟨x, hx⟩ := hHeld.1; exact ⟨x, hx.alloc _⟩, hHeld.2.alloc hHeld.2.size _⟩
          clear hKc Kc
          refine wpAnyH_ready (rs := [4]) (by kernel_rfl) (by simp) ?_
          refine AllReadyH.cons rfl (fun Kc hKc => ?_) AllReadyH.nil
          go_simp
          refine hKc.out _ _ ?_ (fun hHeld => ?_)
          · first | exact hHeld | exact ⟨⟨_, HS4.out⟩, HB4.out⟩ | exact ⟨⟨_, HS4.out.set_ 5 _⟩, HB4.out.setCell (p := ⟨RS, 5, none⟩) hRS1 _⟩ | exact ⟨⟨_, HS.out.kept hb'⟩, btr hHeld.2 hb'⟩ | exact ⟨by obtain ⟨x, hx⟩ := hHeld.1; exact ⟨x, hx.alloc _⟩, hHeld.2.alloc hHeld.2.size _⟩
          clear hKc Kc
          refine wpAnyH_ready (rs := [14]) (by kernel_rfl) (by simp) ?_
          refine AllReadyH.cons rfl (fun Kc hKc => ?_) AllReadyH.nil
          refine wp_append_own_at _ _ 38 rfl w.heap.size 67 i0 (.pointer none) 1 8 Tryz.underlying38 hi hz0 hz1 hz2 rfl (by decide) _ j _ rfl ((HLV.out.kept HBK.out).own.alloc _) ⟨w3.heap.size, 0, none⟩ 1 1 [.pointer (some ⟨p, 0, none⟩)] rfl rfl (cell_one_new _ _ _) (by simp [Value.oneCell']) (by unfold maxLen; omega) (by omega) (by have := (btr HB.out HBK.out).size; simp; omega) ?_; intro v' w4 hown' hgrow hnil' hq9; have HAL : Hid (Below w3.heap.size w3 (w3.alloc (.cells #[.pointer (some ⟨p, 0, none⟩)] 67))) := Lib.hid ((Below.refl _ _).alloc (Nat.le_refl _) _); have hpush := RLevsB.push ((HLV.out.kept HBK.out).kept HAL.out) (HL3.out.frame (fun k hk => HAL.out.block k hk.2)) (fun k hk => ⟨hk.1, Nat.lt_of_lt_of_le hk.2 HAL.out.size⟩) HB.out.size (fun q k hq hk => (HLV.out.fin q k hq hk).2) HS.out.lt (fun k hk => (HLV.out.own.lt k hk).2) hgrow hown' hq9; rw [HZZ.out] at hpush; have HS4 := Lib.hid (((HS.out.kept HBK.out).kept HAL.out).grown hgrow (Ne.symm (own_ne ((HLV.out.kept HBK.out).kept HAL.out).own ((HS.out.kept HBK.out).kept HAL.out) (by decide)))); have HB4 : Hid (Below w.heap.size w w4) := Lib.hid ((btr (btr HB.out HBK.out) HAL.out).grown hgrow (btr (btr HB.out HBK.out) HAL.out).size (fun k e => (HLV.out.own.lt k e).1)); obtain ⟨xo, xl, xc, rfl⟩ := hpush.open2; have HP := Lib.hid hpush; clear hpush hown' hgrow hnil' hq9 k5 k5' k6'
          refine hKc.out _ _ ?_ (fun hHeld => ?_)
          · first | exact hHeld | exact ⟨⟨_, HS4.out⟩, HB4.out⟩ | exact ⟨⟨_, HS4.out.set_ 5 _⟩, HB4.out.setCell (p := ⟨RS, 5, none⟩) hRS1 _⟩ | exact ⟨⟨_, HS.out.kept hb'⟩, btr hHeld.2 hb'⟩ | exact ⟨by obtain ⟨x, hx⟩ := hHeld.1; exact ⟨x, hx.alloc _⟩, hHeld.2.alloc hHeld.2.size _⟩
          clear hKc Kc
          refine wpAnyH_take (i := 15) (v := ?_) rfl (by kernel_rfl) (by kernel_rfl) (by kernel_rfl) (fun _ _ _ h => h) (Or.inl ⟨by rfl, ?_⟩) (by assumption) ?_
          rotate_left
          · intro w hSw
            try dsimp only at hSw
            go_simp
            try with_reducible rfl
          simp only [Act.put, List.setIfInBounds_toArray, List.set_cons_zero, List.set_cons_succ, List.getElem_toArray, List.getElem_cons_zero, List.getElem_cons_succ]
          refine wpAnyH_take (i := 16) (v := ?_) rfl (by kernel_rfl) (by kernel_rfl) (by kernel_rfl) (fun _ _ _ h => h) (Or.inl ⟨by rfl, ?_⟩) (by assumption) ?_
          rotate_left
          · intro w hSw
            try dsimp only at hSw
            go_simp
            try with_reducible rfl
          simp only [Act.put, List.setIfInBounds_toArray, List.set_cons_zero, List.set_cons_succ, List.getElem_toArray, List.getElem_cons_zero, List.getElem_cons_succ]
          refine wpAnyH_ready (rs := [17]) (by kernel_rfl) (by simp) ?_
          refine AllReadyH.cons rfl (fun Kc hKc => ?_) AllReadyH.nil
          have k7 := HS4.out.cell 5; have fz7 := HS4.out.frozen 5; simp at k7; go_simp
          refine hKc.out _ _ ?_ (fun hHeld => ?_)
          · first | exact hHeld | exact ⟨⟨_, HS4.out⟩, HB4.out⟩ | exact ⟨⟨_, HS4.out.set_ 5 _⟩, HB4.out.setCell (p := ⟨RS, 5, none⟩) hRS1 _⟩ | exact ⟨⟨_, HS.out.kept hb'⟩, btr hHeld.2 hb'⟩ | exact ⟨by obtain ⟨x, hx⟩ := hHeld.1; exact ⟨x, hx.alloc _⟩, hHeld.2.alloc hHeld.2.size _⟩
          clear hKc Kc
          refine wpAnyH_done (by kernel_rfl) ?_ _
          clear hHeld
          go_wp2
          go_roundw
          case rel => exact ⟨j + 1, _, _, _, by omega, by go_num, by simpa using HS4.out.set_ 5 (.slice xo xl xc), HP.out.far HS4.out 5 _, HB4.out.setCell (p := ⟨RS, 5, none⟩) hRS1 _⟩
          case measure => simp [intOf]; omega
    · obtain rfl : j = n + 1 := by omega
      obtain ⟨RL, hst⟩ := HLV0.out.stack HR.out HS0.out
      have HST := Lib.hid hst
      clear hst hlt
      go_wp2
      go_ret
      exact ⟨RS, RL, P, F, rfl, hRS1, HST.out, HB0.out⟩
end Go.Proofs.YtbghchgmoiniiaaGreat

/-
  The walk of the document's stack: Update. Conditions: none beyond those stated at each theorem.
-/
namespace Go.Proofs.YtbghchgmoiniiaaGreat
open Go.RowKit
set_option linter.unusedVariables false
set_option linter.unusedSimpArgs false

/-- a stack takes over the levels of another one -/
theorem RStIs.take {w : World} {base base2 RS RS2 RL2 n cap : Nat} {r d m s : Int} {P : Nat → Nat} {F : Nat → Nat → Prop} {Z : Nat → List Int} {x : Value} (h : RStIs w base2 RS2 RL2 (n : Int) r d m s P F Z) (hb : base ≤ base2) (hRS : RS < base2) (hx : Blk w RS 40 #[.int .i64 (n : Int), .int .i64 r, .int .i64 d, .int .i64 m, .int .u64 s, x])
    (hcap : n + 1 ≤ cap) : RStIs (w.setCell ⟨RS, 5, none⟩ (.slice (some ⟨RL2, 0, none⟩) (n + 1) cap)) base RS RL2 (n : Int) r d m s P F Z := by
  obtain ⟨cur, h3, h4⟩ := h.row
  have hne : RL2 ≠ RS := h3.ne_ hx (by decide)
  refine ⟨⟨cap, by simpa using hx.set_ 5 (.slice (some ⟨RL2, 0, none⟩) (n + 1) cap), by simpa using hcap⟩, h.right, ⟨cur, h3.far (by simpa using hne) _, h4⟩, fun j hj => ?_, fun j k hj hk => ?_, h.apart, fun j hj => ⟨fun hk => ?_, (h.out j hj).2⟩⟩
  · refine (h.lev j hj).frame (fun k hk => Below.heap_setCell _ _ _ k ?_)
    have := (h.fin j k hj hk).1
    simp
    omega
  · have := h.fin j k hj hk
    simp
    omega
  · have := (h.fin j RS hj hk).1
    omega
/-- the first levels are updated -/
noncomputable def partU (b r d m s : Int) (Z : Nat → List Int) (k : Nat) (x : Int) (j n : Nat) : List Int := if n < j then lvUpd b r d m s (n : Int) (Z n) (k / 2 ^ n) x else Z n
theorem partU_next (b r d m s : Int) (Z : Nat → List Int) (k : Nat) (x : Int) (j : Nat) : upN (partU b r d m s Z k x j) j (lvUpd b r d m s (j : Int) (Z j) (k / 2 ^ j) x) = partU b r d m s Z k x (j + 1) := by
  funext n
  unfold partU
  by_cases e : n = j
  · subst e; rw [upN_same, if_pos (by omega)]
  · rw [upN_other _ _ e]
    by_cases e2 : n < j
    · rw [if_pos e2, if_pos (by omega)]
    · rw [if_neg e2, if_neg (by omega)]
theorem partU_zero (b r d m s : Int) (Z : Nat → List Int) (k : Nat) (x : Int) : partU b r d m s Z k x 0 = Z := by
  funext n
  unfold partU
  rw [if_neg (by omega)]
theorem RStIs.congr {w : World} {base RS RL : Nat} {b r d m s : Int} {P : Nat → Nat} {F : Nat → Nat → Prop} {Z Z' : Nat → List Int} (h : RStIs w base RS RL b r d m s P F Z) (e : ∀ n, n ≤ b.toNat → Z n = Z' n) : RStIs w base RS RL b r d m s P F Z' :=
  ⟨h.box, h.right, h.row, fun n hn => by rw [← e n hn]; exact h.lev n hn, h.fin, h.apart, h.out⟩
def RStUpPost (w : World) (base RS : Nat) (b r d m s : Int) (Z : Nat → List Int) (k : Nat) (x : Int) (e : Ending) (w' : World) : Prop :=
  ∃ RL P F, e = .returned (.int .i64 (stErr b r d m s Z k x)) ∧ RStIs w' base RS RL b r d m s P F (stUpd b r d m s Z k x) ∧ w.grownBy w' (some RS)
theorem stUpd_none {b r d m s : Int} {Z : Nat → List Int} {k : Nat} {x : Int} (h : stErr b r d m s Z k x ≠ 0) (n : Nat) : stUpd b r d m s Z k x n = Z n := by
  unfold stUpd
  rw [if_neg h]
/-- nothing was changed -/
theorem RStIs.same {w w' : World} {base RS RL : Nat} {b r d m s : Int} {P : Nat → Nat} {F : Nat → Nat → Prop} {Z : Nat → List Int} (h : RStIs w base RS RL b r d m s P F Z) {k : Nat} {x e : Int} (he : stErr b r d m s Z k x = e) (h0 : e ≠ 0) (hb : Below w.heap.size w w') : RStUpPost w base RS b r d m s Z k x (.returned (.int .i64 e)) w' :=
  ⟨RL, P, F, by rw [he], (h.kept hb).congr (fun n _ => (stUpd_none (by rw [he]; exact h0) n).symm), below_gr hb⟩
theorem upN_same_fun {α : Type} (f : Nat → α) (j : Nat) : upN f j (f j) = f := by
  funext k
  by_cases e : k = j
  · subst e; exact upN_same _ _ _
  · exact upN_other _ _ e
theorem shr_small' {k : Nat} (hk : k < 18446744073709551616) (n : Nat) : k / 2 ^ n < 18446744073709551616 := Nat.lt_of_le_of_lt (Nat.div_le_self _ _) hk
set_option maxRecDepth 100000 in
set_option maxHeartbeats 8000000 in
theorem rstupdate (w : World) (base RS RL : Nat) (b r d m s : Int) (P : Nat → Nat) (F : Nat → Nat → Prop) (Z : Nat → List Int) (h : RStIs w base RS RL b r d m s P F Z) (hbase : base ≤ w.heap.size) (hfit : ∀ n, n ≤ b.toNat → Fit (Z n)) (s0 : 0 ≤ s) (s1 : s ≤ 18446744073709551615) (k : Nat) (hk64 : k < 18446744073709551616) (x : Int) (hx : In64 x) :
    Calls Tryz.prog 20 #[.pointer (some ⟨RS, 0, none⟩), .int .u64 (k : Int), .int .i64 x] w (RStUpPost w base RS b r d m s Z k x) := by
  have hr := h.right
  have HR := Lib.hid hr
  have hb59 := right_of hr
  obtain ⟨q, hn⟩ : ∃ q : Nat, b = (q : Int) := ⟨b.toNat, by omega⟩
  subst hn
  have hq59 : q ≤ 59 := by omega
  have H := Lib.hid h
  have HFIT := Lib.hid hfit
  have PK := Lib.hid (fun w => rkeys_any (q : Int) r d m s 0 w)
  obtain ⟨cap0, hbx0, hcap0⟩ := h.box
  rw [Int.toNat_natCast] at hbx0 hcap0
  have HBX0 := Lib.hid hbx0
  have c0 := hbx0.cell 0
  have c1 := hbx0.cell 1
  have c2 := hbx0.cell 2
  have c3 := hbx0.cell 3
  have c4 := hbx0.cell 4
  simp at c0 c1 c2 c3 c4
  clear hb59 hr h hbx0 hfit hcap0
  by_cases hk : keysI (q : Int) r d m 0 ≤ (k : Int)
  · have e1 : decide (keysI (q : Int) r d m 0 ≤ (k : Int)) = true := decide_eq_true hk
    have HE : Hid (stErr (q : Int) r d m s Z k x = 2) := Lib.hid (by unfold stErr; rw [if_pos hk])
    clear hk
    go_enter Tryz.func20, Tryz.ntmps20
    go_wp2_with fail
    with_reducible refine (PK.out _).mono ?_
    rintro e w2 ⟨rfl, hb⟩
    have HP := Lib.hid (H.out.same HE.out (by decide) hb)
    clear hb c0 c1 c2 c3 c4
    go_wp2
    go_ret
    exact HP.out
  · have e1 : decide (keysI (q : Int) r d m 0 ≤ (k : Int)) = false := decide_eq_false hk
    have HKK : Hid ((k : Int) < keysI (q : Int) r d m 0) := Lib.hid (by omega)
    by_cases hm : m = 2 ∧ x < 0
    · have HE : Hid (stErr (q : Int) r d m s Z k x = 3) := Lib.hid (by unfold stErr; rw [if_neg hk, if_pos hm])
      obtain ⟨rfl, hx0⟩ := hm
      have e2 : decide (x < 0) = true := decide_eq_true hx0
      clear hk
      go_enter Tryz.func20, Tryz.ntmps20
      go_wp2_with fail
      with_reducible refine (PK.out _).mono ?_
      rintro e w2 ⟨rfl, hb⟩
      have HP := Lib.hid (H.out.same HE.out (by decide) hb)
      have q3 := (HBX0.out.kept hb).cell 3
      simp at q3
      clear hb c0 c1 c2 c3 c4
      go_wp2
      go_ret
      exact HP.out
    · have hdec : ((m == 2) = false ∧ decide (m = 2) = false) ∨ ((m == 2) = true ∧ decide (m = 2) = true ∧ decide (x < 0) = false) := by
        by_cases h2 : m = 2
        · right; exact ⟨by simp [h2], by simp [h2], decide_eq_false (fun hh => hm ⟨h2, hh⟩)⟩
        · left; exact ⟨by simp [h2], by simp [h2]⟩
      have HE0 : Hid ((∀ n : Nat, n ≤ q → lvErr (q : Int) r d m s (n : Int) (Z n) (k / 2 ^ n) x = 0) → stErr (q : Int) r d m s Z k x = 0) := Lib.hid (fun hh => by
        unfold stErr
        rw [if_neg hk, if_neg hm, Int.toNat_natCast, if_pos hh])
      have HE4 : Hid (∀ n : Nat, n ≤ q → lvErr (q : Int) r d m s (n : Int) (Z n) (k / 2 ^ n) x ≠ 0 → stErr (q : Int) r d m s Z k x = lvErr (q : Int) r d m s (n : Int) (Z n) (k / 2 ^ n) x) := Lib.hid (fun n hn hne => by
        have h4 := (lvErr_in (s := s) (zs := Z n) (x := x) (key_down HR.out HKK.out (show n ≤ (q : Int).toNat by rw [Int.toNat_natCast]; exact hn))).2 hm
        have e4 : lvErr (q : Int) r d m s (n : Int) (Z n) (k / 2 ^ n) x = 4 := h4.resolve_left hne
        rw [e4]
        unfold stErr
        rw [if_neg hk, if_neg hm, Int.toNat_natCast, if_neg]
        intro hh
        exact hne (hh n hn))
      clear hk hm
      rcases hdec with ⟨d1, d2⟩ | ⟨d1, d2, d3⟩
      all_goals
        go_enter Tryz.func20, Tryz.ntmps20
        go_wp2_with fail
        with_reducible refine (PK.out _).mono ?_
        rintro e w2 ⟨rfl, hb⟩
        have HB2 := Lib.hid hb
        have H2 := Lib.hid (H.out.kept hb)
        have PCP := Lib.hid (rstcopy w2 base RS RL (q : Int) r d m s P F Z H2.out)
        have q3 := (HBX0.out.kept hb).cell 3
        simp at q3
        clear hb c0 c1 c2 c3 c4
        go_wp2_with fail
        with_reducible refine PCP.out.mono ?_
        rintro e w3 ⟨RS2, RL2, P2, F2, rfl, hRS2, hcp, hb⟩
        have HC3 := Lib.hid hcp
        have HB3 := Lib.hid (btr HB2.out hb)
        have HRS2 := Lib.hid hRS2
        have HBC := Lib.hid hb
        obtain ⟨cap2, hbx2, hcap2⟩ := hcp.box
        rw [Int.toNat_natCast] at hbx2 hcap2
        have HLO : Hid (w.heap.size ≤ w2.heap.size ∧ RS < w2.heap.size ∧ w2.heap.size ≤ w3.heap.size) := Lib.hid ⟨HB2.out.size, (HBX0.out.kept HB2.out).lt, hb.size⟩
        have HBX3 := Lib.hid hbx2
        have HCAP := Lib.hid hcap2
        clear hb hcp hRS2 q3 hbx2 hcap2
        go_wp2_with fail
        go_loopw [8] (fun i wr => ∃ j : Nat, j ≤ q + 1 ∧ i = .int .i64 (j : Int) ∧ RStIs wr w2.heap.size RS2 RL2 (q : Int) r d m s P2 F2 (partU (q : Int) r d m s Z k x j) ∧ Blk wr RS2 40 #[.int .i64 (q : Int), .int .i64 r, .int .i64 d, .int .i64 m, .int .u64 s, .slice (some ⟨RL2, 0, none⟩) (q + 1) cap2] ∧ Below w2.heap.size w2 wr ∧ (∀ n, n < j → lvErr (q : Int) r d m s (n : Int) (Z n) (k / 2 ^ n) x = 0)) (fun i _ => q + 1 - (intOf i).toNat)
        case atStart => exact ⟨0, by omega, rfl, by rw [partU_zero]; exact HC3.out, HBX3.out, HBC.out, fun n hn => by omega⟩
        case round =>
          obtain ⟨j, hj, rfl, hst, hbx, hbel, hok⟩ := hrel
          have HST := Lib.hid hst
          have HBX := Lib.hid hbx
          have HBR := Lib.hid (btr HB2.out hbel)
          have HBR2 := Lib.hid hbel
          have HOK := Lib.hid hok
          have hRSr : Blk wr RS _ _ := HBX0.out.kept HBR.out
          have HRSR := Lib.hid hRSr
          have s5 := hRSr.cell 5
          have t5 := hbx.cell 5
          simp at s5 t5
          clear HC3 HBX3 HBC hbx hbel hok hRSr
          by_cases hlt : j < q + 1
          · have hjq : j ≤ (q : Int).toNat := by rw [Int.toNat_natCast]; omega
            have j0 : (0 : Int) ≤ (j : Int) := by omega
            have j1 : (j : Int) < (q : Int) + 1 := by omega
            obtain ⟨cur2, hrow2, hcur2⟩ := hst.row
            have cj := (hrow2.cell j).trans (hcur2 j hjq)
            have hZj : partU (q : Int) r d m s Z k x j j = Z j := by unfold partU; rw [if_neg (by omega)]
            have hlv := hst.lev j hjq
            rw [hZj] at hlv
            have PU := rlupdate wr (F2 j) (P2 j) (q : Int) r d m s (j : Int) (Z j) hlv (HFIT.out j hjq) HR.out s0 s1 (k / 2 ^ j) (shr_small' hk64 _) x hx
            rw [show ((k / 2 ^ j : Nat) : Int) = (k : Int) / 2 ^ j by rw [Int.natCast_ediv, Int.natCast_pow]; rfl] at PU
            have PU := Lib.hid PU
            have ew : IntKind.u64.wrap (j : Int) = (j : Int) := by rw [wrapU_mod]; omega
            have HPN := Lib.hid (partU_next (q : Int) r d m s Z k x j)
            clear hst hrow2 hcur2 hZj hlv
            go_wp2_with fail
            with_reducible refine PU.out.mono ?_
            rintro e w5 ⟨rfl, hl5, hon⟩
            have hbb : Below w2.heap.size wr w5 := hon.below (fun g hg => (HST.out.fin j g hjq hg).1) HBR2.out.size
            have HB5 := Lib.hid (HBR2.out.trans hbb)
            have hbs : w2.heap.size ≤ wr.heap.size := HBR2.out.size
            have hst5 := HST.out.load hjq hbs hl5 (fun g hg => .inl hg) hon
            rw [upN_same_fun, HPN.out] at hst5
            have HST5 := Lib.hid hst5
            have HBX5 : Hid (Blk w5 RS2 _ _) := Lib.hid (hon.blk HBX.out (HST.out.out j hjq).1)
            by_cases he : lvErr (q : Int) r d m s (j : Int) (Z j) (k / 2 ^ j) x = 0
            · have HOK2 : Hid (∀ n, n < j + 1 → lvErr (q : Int) r d m s (n : Int) (Z n) (k / 2 ^ n) x = 0) := Lib.hid (fun n hn => by
                by_cases e : n = j
                · subst e; exact he
                · exact HOK.out n (by omega))
              rw [he]
              clear he hl5 hon hbb hst5 cj s5 t5 hbs
              go_wp2
              go_roundw
              case rel => exact ⟨j + 1, by omega, by go_num, HST5.out, HBX5.out, HB5.out, HOK2.out⟩
              case measure => simp [intOf]; omega
            · have HE := Lib.hid (HE4.out j (by omega) he)
              have ne : (lvErr (q : Int) r d m s (j : Int) (Z j) (k / 2 ^ j) x != 0) = true := by simp [he]
              have HP := Lib.hid (H.out.same HE.out he (btr HB2.out HB5.out))
              generalize lvErr (q : Int) r d m s (j : Int) (Z j) (k / 2 ^ j) x = e5 at *
              clear he hl5 hon hbb hst5 cj s5 t5 hbs
              go_wp2
              go_ret
              exact HP.out
          · obtain rfl : j = q + 1 := by omega
            have f5 := HRSR.out.frozen 5
            have HE := Lib.hid (HE0.out (fun n hn => HOK.out n (by omega)))
            have HP : Hid (RStUpPost w base RS (q : Int) r d m s Z k x (.returned (.int .i64 0)) (wr.setCell ⟨RS, 5, none⟩ (.slice (some ⟨RL2, 0, none⟩) (q + 1) cap2))) := Lib.hid (by
              have h1 := HST.out.take (base := base) (by have := HLO.out; omega) HLO.out.2.1 HRSR.out HCAP.out
              refine ⟨RL2, P2, F2, by rw [HE.out], h1.congr (fun n hn => ?_), gr_trans (below_gr HBR.out) (grown_set _ RS 5 _)⟩
              unfold stUpd partU
              rw [if_pos HE.out, if_pos (by rw [Int.toNat_natCast] at hn; omega)])
            clear hst
            go_wp2
            go_ret
            exact HP.out
end Go.Proofs.YtbghchgmoiniiaaGreat

/-
  The walks of sketch.Check and Update. Conditions: none beyond those stated at each theorem.
-/
namespace Go.Proofs.YtbghchgmoiniiaaGreat
open Go.RowKit
set_option linter.unusedVariables false
set_option linter.unusedSimpArgs false

theorem Tryz.slI (w : World) (a : Option Addr) (n c : Nat) : Sem.run Tryz.prog (binOp .eql 58 (.slice a n c) (.slice none 0 0)) w = .ok (.bool a.isNone) w := Go.Lib.run_eql_slice_nil w 58 3 a n c 0 0 Tryz.underlying58
theorem ret_err {a b : Int} (h : a = b) : Ending.returned (.int .i64 a) = .returned (.int .i64 b) := by rw [h]
/-- the region in which a sketch asks for a key's columns, up to its call -/
theorem ColsPost.ints {w w' : World} {R : Nat} {d s l k : Int} {e : Ending} (h : ColsPost w R d s l k e w') : ∃ g, e = .returned (.slice (some ⟨g, 0, none⟩) R R) ∧ w.heap.size ≤ g ∧ w'.rowIs g 3 R (fun i => .int .i64 (colI d s l k (i : Int))) ∧ IntsAt w' (.slice (some ⟨g, 0, none⟩) R R) (colsZ d s l k R) ∧ Below w.heap.size w w' := by
  obtain ⟨g, e, h1, h2, h3⟩ := h
  exact ⟨g, e, h1, h2, IntsAt.of_row h2, h3⟩
set_option maxRecDepth 100000 in
set_option maxHeartbeats 4000000 in
theorem skcheck_none (w : World) (A G C : Nat) (b r d m s l : Int) (zs : List Int) (h : SkIs w A G C b r d m s l zs) (k x : Int) (hk : keysI b r d m l ≤ k) :
    Calls Tryz.prog 139 #[.pointer (some ⟨A, 0, none⟩), .int .u64 k, .int .i64 x] w fun e w' => e = .returned (.int .i64 2) ∧ Below w.heap.size w w' := by
  have HA := Lib.hid h
  have PC := Lib.hid (fun w => cols_none b r d m s l k (by omega) w)
  clear h hk
  go_enter Tryz.func139, Tryz.ntmps139
  go_wp2_with fail
  refine wp_region_still_tail 9 (by kernel_rfl) (by kernel_rfl) ?_
  simp only [List.take_succ_cons, List.take_zero, List.drop_succ_cons, List.drop_zero]
  have HA2 : Hid (SkIs { heap := w.heap, tape := w.tape, drawn := w.drawn + 1, os := w.os, output := w.output } A G C b r d m s l zs) := Lib.hid (HA.out.kept (below_drewN (Below.refl _ _) 1))
  have HB2 : Hid (Below w.heap.size w { heap := w.heap, tape := w.tape, drawn := w.drawn + 1, os := w.os, output := w.output }) := Lib.hid (below_drewN (Below.refl _ _) 1)
  generalize ({ heap := w.heap, tape := w.tape, drawn := w.drawn + 1, os := w.os, output := w.output } : World) = wd at *
  have q1 := HA2.out.box.cell 1
  have q2 := HA2.out.box.cell 2
  have q3 := HA2.out.box.cell 3
  have q4 := HA2.out.box.cell 4
  have q5 := HA2.out.box.cell 5
  have q6 := HA2.out.box.cell 6
  simp at q1 q2 q3 q4 q5 q6
  repeat still_step
  refine wpStill_nil ?_
  go_wp2_with fail
  with_reducible refine (PC.out _).mono ?_
  rintro e w3 ⟨rfl, hb⟩
  have HB3 := Lib.hid (btr HB2.out hb)
  clear hb q1 q2 q3 q4 q5 q6
  have hn := Tryz.slI
  go_wp2
  go_ret
  exact ⟨rfl, HB3.out⟩
/-- a key's columns are asked for, behind which the sketch lies as it lay -/
theorem sk_nat {w : World} {A G C : Nat} {b r d m s l : Int} {zs : List Int} (hr : rightB b r d m = true) : ∃ R W : Nat, r = (R : Int) ∧ d = (W : Int) ∧ 0 < R ∧ R ≤ 8 ∧ 0 < W ∧ W ≤ 128 := by
  have h := right_of hr
  exact ⟨r.toNat, d.toNat, by omega, by omega, by omega, by omega, by omega, by omega⟩
set_option maxRecDepth 100000 in
set_option maxHeartbeats 8000000 in
theorem skcheck_lin (w : World) (A G C : Nat) (b m s l : Int) (R W : Nat) (zs : List Int) (h : SkIs w A G C b R W m s l zs) (hR : 0 < R) (hR8 : R ≤ 8) (hW : 0 < W) (s0 : 0 ≤ s) (s1 : s ≤ 18446744073709551615) (k x : Int) (k0 : 0 ≤ k) (k1 : k ≤ 18446744073709551615) (hk : k < keysI b R W m l) (hm : m ≠ 2) (hx : In64 x) :
    Calls Tryz.prog 139 #[.pointer (some ⟨A, 0, none⟩), .int .u64 k, .int .i64 x] w fun e w' => e = .returned (.int .i64 (skErr b R W m s l zs k x)) ∧ Below w.heap.size w w' := by
  have HA := Lib.hid h
  have PC := Lib.hid (fun w => cols_any b W m s l k R s0 s1 k0 k1 hk w)
  have HM : Hid (meetB R W (colsZ W s l k R) = true) := Lib.hid (by have := colsZ_meet (d := (W : Int)) (s := s) (l := l) (k := k) hR (by omega); simpa using this)
  have HLC := Lib.hid (colsZ_len (W : Int) s l k R)
  have hq : skErr b R W m s l zs k x = (open Classical in if changeFits W zs (colsZ W s l k R) x then 0 else 4) := by
    unfold skErr
    rw [if_neg (by omega), if_neg hm, Int.toNat_natCast, Int.toNat_natCast]
  obtain ⟨q, hqq⟩ : ∃ q, q = skErr b R W m s l zs k x := ⟨_, rfl⟩
  rw [← hqq] at hq ⊢
  obtain ⟨f, hf⟩ : ∃ f : Nat → Int, f = fun r => cellD zs (r * W + colN (colsZ W s l k R) r) := ⟨_, rfl⟩
  have HF := Lib.hid hf
  have HYES : Hid ((∀ r, r < R → In64 (f r + x)) → q = 0) := Lib.hid (fun hh => by
    rw [hq, if_pos]
    intro r hr
    rw [HLC.out] at hr
    have := hh r hr
    rw [hf] at this
    exact this)
  have HNO : Hid (∀ r, r < R → ¬ In64 (f r + x) → q = 4) := Lib.hid (fun r hr hn => by
    rw [hq, if_neg]
    intro hh
    apply hn
    have := hh r (by rw [HLC.out]; exact hr)
    rw [hf]
    exact this)
  have HFZ : Hid (∀ r, In64 (f r)) := Lib.hid (fun r => by rw [hf]; exact fitC h.grid.fit _)
  have em : (m == 2) = false := by simp [hm]
  have em' : decide (m = 2) = false := by simp [hm]
  clear h hk hq hqq hf
  go_enter Tryz.func139, Tryz.ntmps139
  go_wp2_with fail
  refine wp_region_still_tail 9 (by kernel_rfl) (by kernel_rfl) ?_
  simp only [List.take_succ_cons, List.take_zero, List.drop_succ_cons, List.drop_zero]
  have HA2 : Hid (SkIs { heap := w.heap, tape := w.tape, drawn := w.drawn + 1, os := w.os, output := w.output } A G C b R W m s l zs) := Lib.hid (HA.out.kept (below_drewN (Below.refl _ _) 1))
  have HB2 : Hid (Below w.heap.size w { heap := w.heap, tape := w.tape, drawn := w.drawn + 1, os := w.os, output := w.output }) := Lib.hid (below_drewN (Below.refl _ _) 1)
  generalize ({ heap := w.heap, tape := w.tape, drawn := w.drawn + 1, os := w.os, output := w.output } : World) = wd at *
  have q1 := HA2.out.box.cell 1
  have q2 := HA2.out.box.cell 2
  have q3 := HA2.out.box.cell 3
  have q4 := HA2.out.box.cell 4
  have q5 := HA2.out.box.cell 5
  have q6 := HA2.out.box.cell 6
  simp at q1 q2 q3 q4 q5 q6
  repeat still_step
  refine wpStill_nil ?_
  go_wp2_with fail
  with_reducible refine (PC.out _).mono ?_
  intro e w3 hpost
  obtain ⟨gc, rfl, -, -, hints, hb⟩ := hpost.ints
  have HA3 := Lib.hid (HA2.out.kept hb)
  have HB3 := Lib.hid (btr HB2.out hb)
  have PR : Calls Tryz.prog 146 #[.pointer (some ⟨G, 0, none⟩), .slice (some ⟨gc, 0, none⟩) R R] w3 (ReadPost w3 W zs (colsZ W s l k R)) := by
    have h1 := HA3.out.grid
    rw [Int.toNat_natCast, Int.toNat_natCast] at h1
    exact read_yes w3 G C R W zs (colsZ W s l k R) _ h1 hints HM.out
  have PR := Lib.hid PR
  clear hb hpost hints q1 q2 q3 q4 q5 q6
  have q0 := HA3.out.box.cell 0
  have q4 := HA3.out.box.cell 4
  simp at q0 q4
  have hn := Tryz.slI
  go_wp2_with fail
  with_reducible refine PR.out.mono ?_
  rintro e w4 ⟨g, rfl, -, hrow, hb⟩
  rw [HLC.out]
  have HROW : Hid (w4.rowIs g 2 R (fun r => .int .i64 (f r))) := Lib.hid (by rw [HF.out]; have h2 := hrow; rw [HLC.out] at h2; exact h2)
  have HA4 := Lib.hid (HA3.out.kept hb)
  have HB4 := Lib.hid (btr HB3.out hb)
  have HGL : Hid (g < w4.heap.size) := Lib.hid hrow.lt
  clear hb hrow q0 q4 hn
  have q4 := HA4.out.box.cell 4
  simp at q4
  go_wp2_with fail
  go_loopw [61] (fun i wr => ∃ j : Nat, j ≤ R ∧ i = .int .i64 (j : Int) ∧ (∀ r, r < j → In64 (f r + x)) ∧ Below w4.heap.size w4 wr) (fun i _ => R - (intOf i).toNat)
  case atStart => exact ⟨0, by omega, rfl, fun r hr => by omega, Below.refl _ _⟩
  case round =>
    obtain ⟨j, hj, rfl, hok, hbel⟩ := hrel
    have HOK := Lib.hid hok
    have HBR := Lib.hid hbel
    clear hok
    by_cases hlt : j < R
    · have cx := (hbel.cell (p := ⟨g, j, none⟩) HGL.out).trans (HROW.out.cell hlt)
      have hfj := HFZ.out j
      have HOK2 : Hid (In64 (f j + x) → ∀ r, r < j + 1 → In64 (f r + x)) := Lib.hid (fun h1 r hr => by
        by_cases e : r = j
        · subst e; exact h1
        · exact HOK.out r (by omega))
      have HNJ : Hid (¬ In64 (f j + x) → q = 4) := Lib.hid (HNO.out j hlt)
      have P3 := fun wz => opok_plus (f j) x wz hfj hx
      have i0 : (0 : Int) ≤ (j : Int) := by omega
      have i1 : (j : Int) < (R : Int) := by omega
      clear hbel
      generalize f j = y at *
      by_cases h64 : In64 (y + x)
      · have P3 := Lib.hid (fun wz => (P3 wz).1 h64)
        have HOK2 := Lib.hid (HOK2.out h64)
        clear h64 hfj HNJ
        unfold TwoPost at P3
        go_wp2_with fail
        with_reducible refine (P3.out _).mono ?_
        rintro e w5 ⟨rfl, hb⟩
        have HB5 := Lib.hid (btr HBR.out hb)
        clear hb cx
        go_wp2
        go_roundw
        case rel => exact ⟨j + 1, by omega, by go_num, HOK2.out, HB5.out⟩
        case measure => simp [intOf]; omega
      · have P3 := Lib.hid (fun wz => (P3 wz).2 h64)
        have HQ := Lib.hid (HNJ.out h64)
        clear h64 hfj HNJ HOK2
        unfold TwoPost at P3
        go_wp2_with fail
        with_reducible refine (P3.out _).mono ?_
        rintro e w5 ⟨rfl, hb⟩
        have HB5 := Lib.hid (btr HB4.out (btr HBR.out hb))
        clear hb cx
        go_wp2
        go_ret
        exact ⟨ret_err HQ.out.symm, HB5.out⟩
    · have HQ : Hid (q = 0) := Lib.hid (HYES.out (fun r hr => HOK.out r (by omega)))
      have hge : R ≤ j := by omega
      have HB5 := Lib.hid (btr HB4.out HBR.out)
      clear hbel
      go_wp2
      go_ret
      exact ⟨ret_err HQ.out.symm, HB5.out⟩
set_option maxRecDepth 100000 in
set_option maxHeartbeats 8000000 in
theorem skcheck_neg (w : World) (A G C : Nat) (b s l : Int) (R W : Nat) (zs : List Int) (h : SkIs w A G C b R W 2 s l zs) (hR : 0 < R) (hR8 : R ≤ 8) (hW : 0 < W) (s0 : 0 ≤ s) (s1 : s ≤ 18446744073709551615) (k x : Int) (k0 : 0 ≤ k) (k1 : k ≤ 18446744073709551615) (hk : k < keysI b R W 2 l) (hx : In64 x) (hx0 : x < 0) :
    Calls Tryz.prog 139 #[.pointer (some ⟨A, 0, none⟩), .int .u64 k, .int .i64 x] w fun e w' => e = .returned (.int .i64 (skErr b R W 2 s l zs k x)) ∧ Below w.heap.size w w' := by
  have HA := Lib.hid h
  have PC := Lib.hid (fun w => cols_any b W 2 s l k R s0 s1 k0 k1 hk w)
  have HM : Hid (meetB R W (colsZ W s l k R) = true) := Lib.hid (by have := colsZ_meet (d := (W : Int)) (s := s) (l := l) (k := k) hR (by omega); simpa using this)
  have HLC := Lib.hid (colsZ_len (W : Int) s l k R)
  have HQ : Hid (skErr b R W 2 s l zs k x = 3) := Lib.hid (by
    unfold skErr
    rw [if_neg (by omega), if_pos rfl, if_pos hx0])
  obtain ⟨q, hqq⟩ : ∃ q, q = skErr b R W 2 s l zs k x := ⟨_, rfl⟩
  rw [← hqq] at HQ ⊢
  have e1 : decide (x < 0) = true := decide_eq_true hx0
  clear hqq
  clear h hk
  go_enter Tryz.func139, Tryz.ntmps139
  go_wp2_with fail
  refine wp_region_still_tail 9 (by kernel_rfl) (by kernel_rfl) ?_
  simp only [List.take_succ_cons, List.take_zero, List.drop_succ_cons, List.drop_zero]
  have HA2 : Hid (SkIs { heap := w.heap, tape := w.tape, drawn := w.drawn + 1, os := w.os, output := w.output } A G C b R W 2 s l zs) := Lib.hid (HA.out.kept (below_drewN (Below.refl _ _) 1))
  have HB2 : Hid (Below w.heap.size w { heap := w.heap, tape := w.tape, drawn := w.drawn + 1, os := w.os, output := w.output }) := Lib.hid (below_drewN (Below.refl _ _) 1)
  generalize ({ heap := w.heap, tape := w.tape, drawn := w.drawn + 1, os := w.os, output := w.output } : World) = wd at *
  have q1 := HA2.out.box.cell 1
  have q2 := HA2.out.box.cell 2
  have q3 := HA2.out.box.cell 3
  have q4 := HA2.out.box.cell 4
  have q5 := HA2.out.box.cell 5
  have q6 := HA2.out.box.cell 6
  simp at q1 q2 q3 q4 q5 q6
  repeat still_step
  refine wpStill_nil ?_
  go_wp2_with fail
  with_reducible refine (PC.out _).mono ?_
  intro e w3 hpost
  obtain ⟨gc, rfl, -, -, hints, hb⟩ := hpost.ints
  have HA3 := Lib.hid (HA2.out.kept hb)
  have HB3 := Lib.hid (btr HB2.out hb)
  have HGR : Hid (GridIs w3 G C R W zs) := Lib.hid (by
    have h1 := HA3.out.grid
    rw [Int.toNat_natCast, Int.toNat_natCast] at h1
    exact h1)
  have PR : Calls Tryz.prog 146 #[.pointer (some ⟨G, 0, none⟩), .slice (some ⟨gc, 0, none⟩) R R] w3 (ReadPost w3 W zs (colsZ W s l k R)) :=
    read_yes w3 G C R W zs (colsZ W s l k R) _ HGR.out hints HM.out
  have PR := Lib.hid PR
  have HIN := Lib.hid hints
  clear hb hpost hints q1 q2 q3 q4 q5 q6
  have q0 := HA3.out.box.cell 0
  have q4 := HA3.out.box.cell 4
  simp at q0 q4
  have hn := Tryz.slI
  go_wp2_with fail
  with_reducible refine PR.out.mono ?_
  rintro e w4 ⟨g, rfl, -, hrow, hb⟩
  rw [HLC.out]
  have HA4 := Lib.hid (HA3.out.kept hb)
  have HB4 := Lib.hid (btr HB3.out hb)
  clear hb hrow q0 q4 hn
  have q4 := HA4.out.box.cell 4
  simp at q4
  go_wp2
  go_ret
  exact ⟨ret_err HQ.out.symm, HB4.out⟩
set_option maxRecDepth 100000 in
set_option maxHeartbeats 8000000 in
theorem skcheck_con (w : World) (A G C : Nat) (b s l : Int) (R W : Nat) (zs : List Int) (h : SkIs w A G C b R W 2 s l zs) (hR : 0 < R) (hR8 : R ≤ 8) (hW : 0 < W) (s0 : 0 ≤ s) (s1 : s ≤ 18446744073709551615) (k x : Int) (k0 : 0 ≤ k) (k1 : k ≤ 18446744073709551615) (hk : k < keysI b R W 2 l) (hx : In64 x) (hx0 : 0 ≤ x) :
    Calls Tryz.prog 139 #[.pointer (some ⟨A, 0, none⟩), .int .u64 k, .int .i64 x] w fun e w' => e = .returned (.int .i64 (skErr b R W 2 s l zs k x)) ∧ Below w.heap.size w w' := by
  have HA := Lib.hid h
  have PC := Lib.hid (fun w => cols_any b W 2 s l k R s0 s1 k0 k1 hk w)
  have HM : Hid (meetB R W (colsZ W s l k R) = true) := Lib.hid (by have := colsZ_meet (d := (W : Int)) (s := s) (l := l) (k := k) hR (by omega); simpa using this)
  have HLC := Lib.hid (colsZ_len (W : Int) s l k R)
  have hq : skErr b R W 2 s l zs k x = (if In64 (kthL (readZ W zs (colsZ W s l k R)) 0 + x) then 0 else 4) := by
    unfold skErr
    rw [if_neg (by omega), if_pos rfl, if_neg (by omega), Int.toNat_natCast, Int.toNat_natCast]
  obtain ⟨q, hqq⟩ : ∃ q, q = skErr b R W 2 s l zs k x := ⟨_, rfl⟩
  rw [← hqq] at hq ⊢
  have HQ := Lib.hid hq
  have e1 : decide (x < 0) = false := decide_eq_false (by omega)
  clear hqq hq
  clear h hk
  go_enter Tryz.func139, Tryz.ntmps139
  go_wp2_with fail
  refine wp_region_still_tail 9 (by kernel_rfl) (by kernel_rfl) ?_
  simp only [List.take_succ_cons, List.take_zero, List.drop_succ_cons, List.drop_zero]
  have HA2 : Hid (SkIs { heap := w.heap, tape := w.tape, drawn := w.drawn + 1, os := w.os, output := w.output } A G C b R W 2 s l zs) := Lib.hid (HA.out.kept (below_drewN (Below.refl _ _) 1))
  have HB2 : Hid (Below w.heap.size w { heap := w.heap, tape := w.tape, drawn := w.drawn + 1, os := w.os, output := w.output }) := Lib.hid (below_drewN (Below.refl _ _) 1)
  generalize ({ heap := w.heap, tape := w.tape, drawn := w.drawn + 1, os := w.os, output := w.output } : World) = wd at *
  have q1 := HA2.out.box.cell 1
  have q2 := HA2.out.box.cell 2
  have q3 := HA2.out.box.cell 3
  have q4 := HA2.out.box.cell 4
  have q5 := HA2.out.box.cell 5
  have q6 := HA2.out.box.cell 6
  simp at q1 q2 q3 q4 q5 q6
  repeat still_step
  refine wpStill_nil ?_
  go_wp2_with fail
  with_reducible refine (PC.out _).mono ?_
  intro e w3 hpost
  obtain ⟨gc, rfl, -, -, hints, hb⟩ := hpost.ints
  have HA3 := Lib.hid (HA2.out.kept hb)
  have HB3 := Lib.hid (btr HB2.out hb)
  have HGR : Hid (GridIs w3 G C R W zs) := Lib.hid (by
    have h1 := HA3.out.grid
    rw [Int.toNat_natCast, Int.toNat_natCast] at h1
    exact h1)
  have PR : Calls Tryz.prog 146 #[.pointer (some ⟨G, 0, none⟩), .slice (some ⟨gc, 0, none⟩) R R] w3 (ReadPost w3 W zs (colsZ W s l k R)) :=
    read_yes w3 G C R W zs (colsZ W s l k R) _ HGR.out hints HM.out
  have PR := Lib.hid PR
  have HIN := Lib.hid hints
  clear hb hpost hints q1 q2 q3 q4 q5 q6
  have q0 := HA3.out.box.cell 0
  have q4 := HA3.out.box.cell 4
  simp at q0 q4
  have hn := Tryz.slI
  go_wp2_with fail
  with_reducible refine PR.out.mono ?_
  rintro e w4 ⟨g, rfl, -, hrow, hb⟩
  rw [HLC.out]
  have HA4 := Lib.hid (HA3.out.kept hb)
  have HB4 := Lib.hid (btr HB3.out hb)
  have PL : Calls Tryz.prog 147 #[.pointer (some ⟨G, 0, none⟩), .slice (some ⟨gc, 0, none⟩) R R] w4 (TellPost w4 W zs (colsZ W s l k R) 0) :=
    least_yes w4 G C R W zs (colsZ W s l k R) _ (HGR.out.kept hb) (HIN.out.kept hb) HM.out
  have PL := Lib.hid PL
  clear hb hrow q0 q4 hn
  have q0 := HA4.out.box.cell 0
  have q4 := HA4.out.box.cell 4
  simp at q0 q4
  go_wp2_with fail
  with_reducible refine PL.out.mono ?_
  rintro e w5 ⟨u, rfl, hu, hb⟩
  have HU := Lib.hid (kthL_of hu)
  have HB5 := Lib.hid (btr HB4.out hb)
  have hu64 : In64 u := by
    have h1 := hu.1
    unfold readZ at h1
    obtain ⟨r, -, rfl⟩ := List.mem_map.1 h1
    exact fitC HGR.out.fit _
  have HB6 : Hid (Below w.heap.size w (w5.alloc (.cells #[.int .i64 u] 2))) := Lib.hid (HB5.out.alloc HB5.out.size _)
  have HBLK := Lib.hid (Blk.new w5 2 #[.int .i64 u])
  clear hb q0 q4 hu
  go_wp2_with fail
  generalize (w5.alloc (.cells #[.int .i64 u] 2)) = w6 at *
  have P3 := fun wz => opok_plus u x wz hu64 hx
  go_loopw [61] (fun i wr => ∃ j : Nat, j ≤ 1 ∧ i = .int .i64 (j : Int) ∧ (0 < j → In64 (u + x)) ∧ Below w6.heap.size w6 wr) (fun i _ => 1 - (intOf i).toNat)
  case atStart => exact ⟨0, by omega, rfl, fun h0 => by omega, Below.refl _ _⟩
  case round =>
    obtain ⟨j, hj, rfl, hok, hbel⟩ := hrel
    have HOK := Lib.hid hok
    have HBR := Lib.hid hbel
    clear hok
    by_cases hlt : j < 1
    · obtain rfl : j = 0 := by omega
      have cx := (hbel.cell (p := ⟨w5.heap.size, 0, none⟩) HBLK.out.lt).trans (HBLK.out.cell 0)
      simp at cx
      clear hbel
      by_cases h64 : In64 (u + x)
      · have P3 := Lib.hid (fun wz => (P3 wz).1 h64)
        have H64 := Lib.hid h64
        clear h64 hu64
        unfold TwoPost at P3
        go_wp2_with fail
        with_reducible refine (P3.out _).mono ?_
        rintro e w7 ⟨rfl, hb⟩
        have HB7 := Lib.hid (btr HBR.out hb)
        clear hb cx
        go_wp2
        go_roundw
        case rel => exact ⟨1, by omega, by go_num, fun _ => H64.out, HB7.out⟩
        case measure => simp [intOf]
      · have P3 := Lib.hid (fun wz => (P3 wz).2 h64)
        have HQ4 : Hid (q = 4) := Lib.hid (by rw [HQ.out, HU.out, if_neg h64])
        clear h64 hu64
        unfold TwoPost at P3
        go_wp2_with fail
        with_reducible refine (P3.out _).mono ?_
        rintro e w7 ⟨rfl, hb⟩
        have HB7 := Lib.hid (btr HB6.out (btr HBR.out hb))
        clear hb cx
        go_wp2
        go_ret
        exact ⟨ret_err HQ4.out.symm, HB7.out⟩
    · obtain rfl : j = 1 := by omega
      have HQ0 : Hid (q = 0) := Lib.hid (by rw [HQ.out, HU.out, if_pos (HOK.out (by omega))])
      have HB7 := Lib.hid (btr HB6.out HBR.out)
      clear hbel P3 hu64
      go_wp2
      go_ret
      exact ⟨ret_err HQ0.out.symm, HB7.out⟩
theorem skcheck (w : World) (A G C : Nat) (b r d m s l : Int) (zs : List Int) (h : SkIs w A G C b r d m s l zs) (hr : rightB b r d m = true) (s0 : 0 ≤ s) (s1 : s ≤ 18446744073709551615) (k x : Int) (k0 : 0 ≤ k) (k1 : k ≤ 18446744073709551615) (hx : In64 x) :
    Calls Tryz.prog 139 #[.pointer (some ⟨A, 0, none⟩), .int .u64 k, .int .i64 x] w fun e w' => e = .returned (.int .i64 (skErr b r d m s l zs k x)) ∧ Below w.heap.size w w' := by
  by_cases hk : keysI b r d m l ≤ k
  · have : skErr b r d m s l zs k x = 2 := by unfold skErr; rw [if_pos hk]
    rw [this]
    exact skcheck_none w A G C b r d m s l zs h k x hk
  · obtain ⟨R, W, rfl, rfl, h1, h2, h3, h4⟩ := sk_nat (w := w) (A := A) (G := G) (C := C) (s := s) (l := l) (zs := zs) hr
    by_cases hm : m = 2
    · subst hm
      by_cases h0 : x < 0
      · exact skcheck_neg w A G C b s l R W zs h h1 h2 h3 s0 s1 k x k0 k1 (by omega) hx h0
      · exact skcheck_con w A G C b s l R W zs h h1 h2 h3 s0 s1 k x k0 k1 (by omega) hx (by omega)
    · exact skcheck_lin w A G C b m s l R W zs h h1 h2 h3 s0 s1 k x k0 k1 (by omega) hm hx
end Go.Proofs.YtbghchgmoiniiaaGreat

/-
  The walk of sketch.Update. Conditions: none beyond those stated at each theorem.
-/
namespace Go.Proofs.YtbghchgmoiniiaaGreat
open Go.RowKit
set_option linter.unusedVariables false
set_option linter.unusedSimpArgs false

def SkUpPost (w : World) (A G C : Nat) (b r d m s l : Int) (zs : List Int) (k x : Int) (e : Ending) (w' : World) : Prop :=
  e = .returned (.int .i64 (skErr b r d m s l zs k x)) ∧ SkIs w' A G C b r d m s l (skUpd b r d m s l zs k x) ∧ w.grownBy w' (some C)
theorem skErr_ok {b r d m s l : Int} {zs : List Int} {k x : Int} (h : skErr b r d m s l zs k x = 0) : k < keysI b r d m l ∧ (m = 2 → 0 ≤ x ∧ In64 (kthL (readZ d.toNat zs (colsZ d s l k r.toNat)) 0 + x)) ∧ (m ≠ 2 → changeFits d.toNat zs (colsZ d s l k r.toNat) x) := by
  unfold skErr at h
  split at h
  · cases h
  · rename_i h1
    refine ⟨by omega, fun hm => ?_, fun hm => ?_⟩
    · rw [if_pos hm] at h
      split at h
      · cases h
      · split at h
        · rename_i h2 h3; exact ⟨by omega, h3⟩
        · cases h
    · rw [if_neg hm] at h
      split at h
      · assumption
      · cases h
set_option maxRecDepth 100000 in
set_option maxHeartbeats 8000000 in
theorem skupdate (w : World) (A G C : Nat) (b r d m s l : Int) (zs : List Int) (h : SkIs w A G C b r d m s l zs) (hr : rightB b r d m = true) (s0 : 0 ≤ s) (s1 : s ≤ 18446744073709551615) (k x : Int) (k0 : 0 ≤ k) (k1 : k ≤ 18446744073709551615) (hx : In64 x) :
    Calls Tryz.prog 144 #[.pointer (some ⟨A, 0, none⟩), .int .u64 k, .int .i64 x] w (SkUpPost w A G C b r d m s l zs k x) := by
  have PC := Lib.hid (skcheck w A G C b r d m s l zs h hr s0 s1 k x k0 k1 hx)
  have HA := Lib.hid h
  have HNE := Lib.hid h.neA
  by_cases h0 : skErr b r d m s l zs k x = 0
  · obtain ⟨hk, hc2, hcn⟩ := skErr_ok h0
    obtain ⟨R, W, rfl, rfl, h1, h2, h3, h4⟩ := sk_nat (w := w) (A := A) (G := G) (C := C) (s := s) (l := l) (zs := zs) hr
    rw [h0] at PC
    have H0 := Lib.hid h0
    have PK := Lib.hid (fun w => cols_any b W m s l k R s0 s1 k0 k1 hk w)
    have HM : Hid (meetB R W (colsZ W s l k R) = true) := Lib.hid (by have := colsZ_meet (d := (W : Int)) (s := s) (l := l) (k := k) h1 (by omega); simpa using this)
    rw [Int.toNat_natCast, Int.toNat_natCast] at hc2 hcn
    clear h hk
    by_cases hm : m = 2
    · have HC2 := Lib.hid (hc2 hm)
      have HU : Hid (skUpd b R W m s l zs k x = raiseZ W zs (colsZ W s l k R) (kthL (readZ W zs (colsZ W s l k R)) 0 + x)) := Lib.hid (by unfold skUpd; rw [if_pos h0, if_pos hm, Int.toNat_natCast, Int.toNat_natCast])
      clear h0 hc2 hcn
      subst hm
      go_enter Tryz.func144, Tryz.ntmps144
      go_wp2_with fail
      with_reducible refine PC.out.mono ?_
      rintro e w2 ⟨rfl, hb⟩
      have HA1 := Lib.hid (HA.out.kept hb)
      have HB1 := Lib.hid hb
      clear hb
      go_wp2_with fail
      refine wp_region_still_tail 9 (by kernel_rfl) (by kernel_rfl) ?_
      simp only [List.take_succ_cons, List.take_zero, List.drop_succ_cons, List.drop_zero]
      have HA2 : Hid (SkIs { heap := w2.heap, tape := w2.tape, drawn := w2.drawn + 1, os := w2.os, output := w2.output } A G C b R W _ s l zs) := Lib.hid (HA1.out.kept (below_drewN (Below.refl _ _) 1))
      have HB2 : Hid (Below w.heap.size w { heap := w2.heap, tape := w2.tape, drawn := w2.drawn + 1, os := w2.os, output := w2.output }) := Lib.hid (below_drewN HB1.out 1)
      generalize ({ heap := w2.heap, tape := w2.tape, drawn := w2.drawn + 1, os := w2.os, output := w2.output } : World) = wd at *
      have q1 := HA2.out.box.cell 1
      have q2 := HA2.out.box.cell 2
      have q3 := HA2.out.box.cell 3
      have q4 := HA2.out.box.cell 4
      have q5 := HA2.out.box.cell 5
      have q6 := HA2.out.box.cell 6
      simp at q1 q2 q3 q4 q5 q6
      repeat still_step
      refine wpStill_nil ?_
      go_wp2_with fail
      with_reducible refine (PK.out _).mono ?_
      intro e w3 hpost
      obtain ⟨gc, rfl, hgc, -, hints, hb⟩ := hpost.ints
      have HA3 := Lib.hid (HA2.out.kept hb)
      have HB3 := Lib.hid (btr HB2.out hb)
      have HGR : Hid (GridIs w3 G C R W zs) := Lib.hid (by
        have h1 := HA3.out.grid
        rw [Int.toNat_natCast, Int.toNat_natCast] at h1
        exact h1)
      have HIN := Lib.hid hints
      have hgC : gc ≠ C := by have := HA2.out.grid.ltC; omega
      have HGC : Hid ((Value.slice (some ⟨gc, 0, none⟩) R R).ownBlock ≠ some C) := Lib.hid (by simpa [Value.ownBlock] using hgC)
      clear hb hpost hints q1 q2 q3 q4 q5 q6 hgc hgC
      have q0 := HA3.out.box.cell 0
      have q4 := HA3.out.box.cell 4
      simp at q0 q4
      go_wp2_with fail
      have PR := Lib.hid (raise_yes w3 G C R W zs (colsZ W s l k R) x _ HGR.out HIN.out HM.out hx HGC.out)
      clear q0 q4
      with_reducible refine PR.out.mono ?_
      rintro e w4 ⟨u, hu, hpost⟩
      have hku := kthL_of hu
      obtain ⟨c0, c1⟩ := HC2.out
      rw [hku] at c1
      have hres : e = .returned (.int .i64 0) ∧ GridIs w4 G C R W (raiseZ W zs (colsZ W s l k R) (u + x)) ∧ w3.grownBy w4 (some C) := by
        rcases hpost with ⟨h1, -⟩ | ⟨-, h1, -⟩ | ⟨-, -, h1, h2, h3⟩
        · omega
        · exact absurd c1 h1
        · exact ⟨h1, h2, h3⟩
      obtain ⟨rfl, hg, hgr⟩ := hres
      have HS4 : Hid (SkIs w4 A G C b R W 2 s l (skUpd b R W 2 s l zs k x)) := Lib.hid (by
        rw [HU.out, hku]
        exact ⟨HA3.out.box.grown hgr (by simpa using HNE.out), by rw [Int.toNat_natCast, Int.toNat_natCast]; exact hg⟩)
      have HG4 : Hid (w.grownBy w4 (some C)) := Lib.hid (gr_trans (below_gr HB3.out) hgr)
      clear hu hpost hku c0 c1 hg hgr
      go_wp2
      go_ret
      exact ⟨ret_err H0.out.symm, HS4.out, HG4.out⟩
    · have HCN := Lib.hid (hcn hm)
      have HU : Hid (skUpd b R W m s l zs k x = changeZ W zs (colsZ W s l k R) x) := Lib.hid (by unfold skUpd; rw [if_pos h0, if_neg hm, Int.toNat_natCast, Int.toNat_natCast])
      have em : (m == 2) = false := by simp [hm]
      have em' : decide (m = 2) = false := by simp [hm]
      clear h0 hc2 hcn
      go_enter Tryz.func144, Tryz.ntmps144
      go_wp2_with fail
      with_reducible refine PC.out.mono ?_
      rintro e w2 ⟨rfl, hb⟩
      have HA1 := Lib.hid (HA.out.kept hb)
      have HB1 := Lib.hid hb
      clear hb
      go_wp2_with fail
      refine wp_region_still_tail 9 (by kernel_rfl) (by kernel_rfl) ?_
      simp only [List.take_succ_cons, List.take_zero, List.drop_succ_cons, List.drop_zero]
      have HA2 : Hid (SkIs { heap := w2.heap, tape := w2.tape, drawn := w2.drawn + 1, os := w2.os, output := w2.output } A G C b R W _ s l zs) := Lib.hid (HA1.out.kept (below_drewN (Below.refl _ _) 1))
      have HB2 : Hid (Below w.heap.size w { heap := w2.heap, tape := w2.tape, drawn := w2.drawn + 1, os := w2.os, output := w2.output }) := Lib.hid (below_drewN HB1.out 1)
      generalize ({ heap := w2.heap, tape := w2.tape, drawn := w2.drawn + 1, os := w2.os, output := w2.output } : World) = wd at *
      have q1 := HA2.out.box.cell 1
      have q2 := HA2.out.box.cell 2
      have q3 := HA2.out.box.cell 3
      have q4 := HA2.out.box.cell 4
      have q5 := HA2.out.box.cell 5
      have q6 := HA2.out.box.cell 6
      simp at q1 q2 q3 q4 q5 q6
      repeat still_step
      refine wpStill_nil ?_
      go_wp2_with fail
      with_reducible refine (PK.out _).mono ?_
      intro e w3 hpost
      obtain ⟨gc, rfl, hgc, -, hints, hb⟩ := hpost.ints
      have HA3 := Lib.hid (HA2.out.kept hb)
      have HB3 := Lib.hid (btr HB2.out hb)
      have HGR : Hid (GridIs w3 G C R W zs) := Lib.hid (by
        have h1 := HA3.out.grid
        rw [Int.toNat_natCast, Int.toNat_natCast] at h1
        exact h1)
      have HIN := Lib.hid hints
      have hgC : gc ≠ C := by have := HA2.out.grid.ltC; omega
      have HGC : Hid ((Value.slice (some ⟨gc, 0, none⟩) R R).ownBlock ≠ some C) := Lib.hid (by simpa [Value.ownBlock] using hgC)
      clear hb hpost hints q1 q2 q3 q4 q5 q6 hgc hgC
      have q0 := HA3.out.box.cell 0
      have q4 := HA3.out.box.cell 4
      simp at q0 q4
      go_wp2_with fail
      have PR := Lib.hid (change_yes w3 G C R W zs (colsZ W s l k R) x _ HGR.out HIN.out HM.out hx HGC.out)
      clear q0 q4
      with_reducible refine PR.out.mono ?_
      intro e w4 hpost
      have hres : e = .returned (.int .i64 0) ∧ GridIs w4 G C R W (changeZ W zs (colsZ W s l k R) x) ∧ w3.grownBy w4 (some C) := by
        rcases hpost with ⟨-, h1⟩ | ⟨h1, -⟩
        · exact h1
        · exact absurd HCN.out h1
      obtain ⟨rfl, hg, hgr⟩ := hres
      have HS4 : Hid (SkIs w4 A G C b R W m s l (skUpd b R W m s l zs k x)) := Lib.hid (by
        rw [HU.out]
        exact ⟨HA3.out.box.grown hgr (by simpa using HNE.out), by rw [Int.toNat_natCast, Int.toNat_natCast]; exact hg⟩)
      have HG4 : Hid (w.grownBy w4 (some C)) := Lib.hid (gr_trans (below_gr HB3.out) hgr)
      clear hpost hg hgr
      go_wp2
      go_ret
      exact ⟨ret_err H0.out.symm, HS4.out, HG4.out⟩
  · have HU : Hid (skUpd b r d m s l zs k x = zs) := Lib.hid (by unfold skUpd; rw [if_neg h0])
    have e0 : (skErr b r d m s l zs k x != 0) = true := by simp [h0]
    unfold SkUpPost
    generalize skErr b r d m s l zs k x = q at *
    clear h h0
    go_enter Tryz.func144, Tryz.ntmps144
    go_wp2_with fail
    with_reducible refine PC.out.mono ?_
    rintro e w2 ⟨rfl, hb⟩
    have HA1 := Lib.hid (HA.out.kept hb)
    have HB1 := Lib.hid hb
    clear hb
    go_wp2
    go_ret
    exact ⟨rfl, by rw [HU.out]; exact HA1.out, below_gr HB1.out⟩
end Go.Proofs.YtbghchgmoiniiaaGreat

/-
  The walks of a stack's iterator over its levels. Conditions: none beyond those stated at each theorem.
-/
namespace Go.Proofs.YtbghchgmoiniiaaGreat
open Go.RowKit Go.Shelf
set_option linter.unusedVariables false
set_option linter.unusedSimpArgs false
attribute [local go_sem] Oper.semAt_some

theorem stat (S : Nat) (k : Int) (w : World) :
    Calls Tryz.prog 41 #[.pointer (some ⟨S, 0, none⟩), .int .u64 k] w fun e w' => e = .returned (.func (.func 62) #[] #[.pointer (some ⟨w.heap.size, 0, none⟩), .pointer (some ⟨w.heap.size + 1, 0, none⟩)]) ∧ w' = (w.alloc (.cells #[.pointer (some ⟨S, 0, none⟩)] 29)).alloc (.cells #[.int .u64 k] 22) := by
  go_enter Tryz.func41, Tryz.ntmps41
  go_wp2
  go_ret
  exact ⟨rfl, rfl⟩
/-- a level's number, told to a loop -/
abbrev LvN (q : Nat) := { n : Nat // n ≤ q }
def uptoN (q : Nat) : Nat → List (LvN q)
  | 0 => []
  | k + 1 => if h : k ≤ q then uptoN q k ++ [⟨k, h⟩] else uptoN q k
theorem uptoN_succ (q k : Nat) (hk : k ≤ q) : uptoN q (k + 1) = uptoN q k ++ [⟨k, hk⟩] := by
  rw [uptoN, dif_pos hk]
theorem uptoN_map (q k : Nat) (hk : k ≤ q + 1) : (uptoN q k).map (·.1) = List.range k := by
  induction k with
  | zero => rfl
  | succ k ih => rw [uptoN_succ q k (by omega), List.map_append, ih (by omega), List.range_succ]; rfl
theorem uptoN_len (q k : Nat) (hk : k ≤ q + 1) : (uptoN q k).length = k := by
  have := congrArg List.length (uptoN_map q k hk)
  simpa using this
set_option maxRecDepth 100000 in
set_option maxHeartbeats 4000000 in
theorem stat1 (n : Nat) (hn : 1 ≤ n) (l Bs Bk S L q cap k : Nat) (cs : Array Value) (X : Nat → Value) (hq : q ≤ 59) (J Jx : List (LvN q) → World → Prop)
    (hX : ∀ n, n ≤ q → ∃ t a, X n = .iface t (.pointer (some ⟨a, 0, none⟩)))
    (hY : ∀ pre x W, J pre W → pre.length < q + 1 → YieldAt Fence.wide (n - 1) Tryz.prog l #[X x.1, .int .u64 ((k / 2 ^ x.1 : Nat) : Int)] W fun e W' =>
      (e = .returned (.bool true) ∧ J (pre ++ [x]) W' ∧ KpB [Bs, Bk, S, L] W W') ∨ (e = .returned (.bool false) ∧ Jx (pre ++ [x]) W'))
    (W : World) (hBs : Blk W Bs 29 #[.pointer (some ⟨S, 0, none⟩)]) (hBk : Blk W Bk 22 #[.int .u64 (k : Int)]) (hS : ∃ b r d m s, Blk W S 73 #[b, r, d, m, s, .slice (some ⟨L, 0, none⟩) (q + 1) cap])
    (hL : Blk W L 87 cs) (hcs : ∀ n, n ≤ q → cs[n]? = some (X n)) (h0 : J [] W) :
    CallsIn Fence.wide n Tryz.prog 62 #[.func (.yield l) #[] #[], .pointer (some ⟨Bs, 0, none⟩), .pointer (some ⟨Bk, 0, none⟩)] W fun e W' => (∃ v, e = .returned v) ∧
      ((∃ ys, ys = uptoN q (q + 1) ∧ J ys W') ∨ (∃ pre, (∃ j, j ≤ q + 1 ∧ pre = uptoN q j) ∧ Jx pre W')) := by
  obtain ⟨vb, vr, vd, vm, vs, hS⟩ := hS
  have HX := Lib.hid hX
  have HY := Lib.hid hY
  have HCS := Lib.hid hcs
  have HBS := Lib.hid hBs
  have HBK := Lib.hid hBk
  have HL := Lib.hid hL
  have HLT : Hid (Bs < W.heap.size ∧ Bk < W.heap.size ∧ S < W.heap.size ∧ L < W.heap.size) := Lib.hid ⟨hBs.lt, hBk.lt, hS.lt, hL.lt⟩
  have c0 := hBs.cell 0
  have c5 := hS.cell 5
  simp at c0 c5
  clear hX hY hcs hBs hBk hS hL
  refine callsIn_of_wp Tryz.func62 rfl trivial ?_ rfl
  simp only [Tryz.ntmps62, List.size_toArray, List.length_cons, List.length_nil, Nat.reduceAdd, Nat.reduceSub, Array.replicate_succ, Array.replicate_zero, List.push_toArray, List.append_toArray, List.nil_append, List.cons_append]
  gi_wp2
  gi_loopw [11] (fun i wr => ∃ j : Nat, j ≤ q + 1 ∧ i = .int .i64 (j : Int) ∧ J (uptoN q j) wr ∧ KpB [Bs, Bk, S, L] W wr) (fun i _ => q + 1 - (intOf i).toNat)
  case atStart => exact ⟨0, by omega, rfl, by simpa [uptoN] using h0, Nat.le_refl _, fun _ _ => rfl⟩
  case round =>
    obtain ⟨j, hj, rfl, hJs, hkp⟩ := hrel
    clear c0 c5
    have HKP := Lib.hid hkp
    by_cases hlt : j < q + 1
    · have hjq : j ≤ q := by omega
      have ck := (hkp.blk (by simp) HBK.out).cell 0
      have cx := ((hkp.blk (by simp) HL.out).cell j).trans (HCS.out j hjq)
      simp at ck
      have HSUC := Lib.hid (uptoN_succ q j hjq)
      obtain ⟨t, a, hx⟩ := HX.out j hjq
      rw [hx] at cx
      obtain ⟨fn, tmps, assign, body, hy, hR⟩ := HY.out _ ⟨j, hjq⟩ wr hJs (by rw [uptoN_len q j (by omega)]; exact hlt)
      dsimp only at hy
      rw [hx] at hy
      rw [HSUC.out.symm] at hR
      clear hkp hJs hx
      have i0 : (0 : Int) ≤ (j : Int) := by omega
      have i1 : (j : Int) < (q : Int) + 1 := by omega
      have ed : ((k / 2 ^ j : Nat) : Int) = (k : Int) / 2 ^ j := by rw [Int.natCast_ediv, Int.natCast_pow]; rfl
      rw [ed] at hy
      clear ed
      gi_wp2
      refine hR.mono ?_
      rintro e W3 (⟨rfl, hJ3, hk3⟩ | ⟨rfl, hJx3⟩)
      · have HJ3 := Lib.hid hJ3
        have HK3 := Lib.hid (KpB.trans HKP.out hk3)
        clear hJ3 hk3 cx ck hy hR
        gi_wp2
        go_roundw
        case rel => exact ⟨j + 1, by omega, by simp, HJ3.out, HK3.out⟩
        case measure => simp [intOf]; omega
      · have HJ3 := Lib.hid hJx3
        clear hJx3 cx ck hy hR
        gi_wp2
        refine bodyPost_ret (results_none rfl _ _ _) rfl ?_
        exact ⟨⟨_, rfl⟩, .inr ⟨_, ⟨j + 1, by omega, rfl⟩, HJ3.out⟩⟩
    · obtain rfl : j = q + 1 := by omega
      have HJ := Lib.hid hJs
      clear hJs hkp
      gi_wp2
      go_end0
      exact ⟨⟨_, rfl⟩, .inl ⟨_, rfl, HJ.out⟩⟩
/-- what a stack's iterator does: it tells all levels, in their order, or some of the first ones -/
theorem st_stops (n : Nat) (hn : 1 ≤ n) (Bs Bk S L q cap k : Nat) (cs : Array Value) (X : Nat → Value) (hq : q ≤ 59) (w : World)
    (hX : ∀ n, n ≤ q → ∃ t a, X n = .iface t (.pointer (some ⟨a, 0, none⟩)))
    (hBs : Blk w Bs 29 #[.pointer (some ⟨S, 0, none⟩)]) (hBk : Blk w Bk 22 #[.int .u64 (k : Int)]) (hS : ∃ b r d m s, Blk w S 73 #[b, r, d, m, s, .slice (some ⟨L, 0, none⟩) (q + 1) cap])
    (hL : Blk w L 87 cs) (hcs : ∀ n, n ≤ q → cs[n]? = some (X n)) :
    SeqStopsK Fence.wide n Tryz.prog 62 #[.pointer (some ⟨Bs, 0, none⟩), .pointer (some ⟨Bk, 0, none⟩)] (fun x : LvN q => #[X x.1, .int .u64 ((k / 2 ^ x.1 : Nat) : Int)]) (KpB [Bs, Bk, S, L]) (fun ys => ys = uptoN q (q + 1)) (fun pre => ∃ j, j ≤ q + 1 ∧ pre = uptoN q j) (q + 1) w := fun l J Jx W hW _ _ hY h0 => by
  obtain ⟨vb, vr, vd, vm, vs, hS⟩ := hS
  exact stat1 n hn l Bs Bk S L q cap k cs X hq J Jx hX hY W (hBs.kept hW) (hBk.kept hW) ⟨vb, vr, vd, vm, vs, hS.kept hW⟩ (hL.kept hW) hcs h0
end Go.Proofs.YtbghchgmoiniiaaGreat

/-
  A stack's levels by their methods; the walk of first. Conditions: none beyond those stated at each theorem.
-/
namespace Go.Proofs.YtbghchgmoiniiaaGreat
open Go.RowKit
set_option linter.unusedVariables false
set_option linter.unusedSimpArgs false

section
variable {W W' : World} {row : Option Nat}
theorem GridIs.walked {G C R V : Nat} {zs : List Int} (h : GridIs W G C R V zs) (hg : W.grownBy W' row) (hr : ∀ r, row = some r → ∃ o : Obj, W.heap[r]? = some o ∧ o.isCells = false) : GridIs W' G C R V zs := by
  obtain ⟨cap, hG, -⟩ := h.fields
  obtain ⟨cur, hC, -⟩ := h.cells
  have key : ∀ g t cs, Blk W g t cs → some g ≠ row := fun g t cs hb e => by
    obtain ⟨o, ho, hc⟩ := hr g e.symm
    exact hb.not_other ho hc rfl
  exact h.grown hg (key _ _ _ hG) (key _ _ _ hC)
theorem LevIs.walked {x : Value} {A G C : Nat} {b r d m s l : Int} {zs : List Int} (h : LevIs W x A G C b r d m s l zs) (hg : W.grownBy W' row) (hr : ∀ r, row = some r → ∃ o : Obj, W.heap[r]? = some o ∧ o.isCells = false) : LevIs W' x A G C b r d m s l zs := by
  rcases h with ⟨h1, h2, h3⟩ | ⟨h1, h2, h3⟩
  · exact .inl ⟨h1, h2, h3.1.walked hg hr, h3.2.walked hg hr⟩
  · exact .inr ⟨h1, h2, h3.box.walked hg hr, h3.grid.walked hg hr⟩
theorem StIs.walked {base S L : Nat} {b r d m s : Int} {X : Nat → Value} {A G C : Nat → Nat} {Z : Nat → List Int} (h : StIs W base S L b r d m s X A G C Z) (hg : W.grownBy W' row) (hr : ∀ r, row = some r → ∃ o : Obj, W.heap[r]? = some o ∧ o.isCells = false) : StIs W' base S L b r d m s X A G C Z := by
  obtain ⟨cap, h1, h2⟩ := h.box
  obtain ⟨cur, h3, h4⟩ := h.row
  exact ⟨⟨cap, h1.walked hg hr, h2⟩, h.right, ⟨cur, h3.walked hg hr, h4⟩, fun n hn => (h.lev n hn).walked hg hr, h.apart, h.low⟩
end
theorem Tryz.mExCheck (k : Nat) (a : Addr) (w : World) : (method (k + 1) 122 (.pointer (some a)) "Check").run Tryz.prog w = .ok (120, .pointer (some a)) w := by kernel_rfl
theorem Tryz.mSkCheck (k : Nat) (a : Addr) (w : World) : (method (k + 1) 125 (.pointer (some a)) "Check").run Tryz.prog w = .ok (139, .pointer (some a)) w := by kernel_rfl
theorem Tryz.mExUpdate (k : Nat) (a : Addr) (w : World) : (method (k + 1) 122 (.pointer (some a)) "Update").run Tryz.prog w = .ok (125, .pointer (some a)) w := by kernel_rfl
theorem Tryz.mSkUpdate (k : Nat) (a : Addr) (w : World) : (method (k + 1) 125 (.pointer (some a)) "Update").run Tryz.prog w = .ok (144, .pointer (some a)) w := by kernel_rfl
/-- a method that a level has -/
def HasM (x : Value) (A : Nat) (name : String) (f : FuncId) : Prop :=
  ∃ T, x = .iface T (.pointer (some ⟨A, 0, none⟩)) ∧ (∀ (j : Nat) (W : World), (method (j + 1) T (.pointer (some ⟨A, 0, none⟩)) name).run Tryz.prog W = .ok (f, .pointer (some ⟨A, 0, none⟩)) W) ∧
    ∀ (args : Array Value) (W : World), (callFunc f args).run Tryz.prog W = .ok (.enter f args) W
theorem lvcheck (w : World) (x : Value) (A G C : Nat) (b r d m s l : Int) (zs : List Int) (h : LevIs w x A G C b r d m s l zs) (hr : rightB b r d m = true) (s0 : 0 ≤ s) (s1 : s ≤ 18446744073709551615) (k : Nat) (hk : k < 18446744073709551616) (y : Int) (hy : In64 y) :
    ∃ f, HasM x A "Check" f ∧ Calls Tryz.prog f #[.pointer (some ⟨A, 0, none⟩), .int .u64 (k : Int), .int .i64 y] w fun e w' => e = .returned (.int .i64 (lvErr b r d m s l zs k y)) ∧ Below w.heap.size w w' := by
  rcases h with ⟨h1, h2, h3⟩ | ⟨h1, h2, h3⟩
  · refine ⟨_, ⟨_, h2, fun j W => Tryz.mExCheck j _ W, enters_of Tryz.func120 (by kernel_rfl) rfl⟩, ?_⟩
    have e : lvErr b r d m s l zs k y = chkI (keysI b r d m l).toNat m zs k y := by unfold lvErr; rw [if_pos h1]
    rw [e]
    exact excheck w A G C b r d m s l _ k zs y h3 hy hk
  · refine ⟨_, ⟨_, h2, fun j W => Tryz.mSkCheck j _ W, enters_of Tryz.func139 (by kernel_rfl) rfl⟩, ?_⟩
    have e : lvErr b r d m s l zs k y = skErr b r d m s l zs (k : Int) y := by unfold lvErr; rw [if_neg (by rw [h1]; decide)]
    rw [e]
    exact skcheck w A G C b r d m s l zs h3 hr s0 s1 (k : Int) y (by omega) (by omega) hy
def LvUpPost (w : World) (x : Value) (A G C : Nat) (b r d m s l : Int) (zs : List Int) (k : Nat) (y : Int) (e : Ending) (w' : World) : Prop :=
  e = .returned (.int .i64 (lvErr b r d m s l zs k y)) ∧ LevIs w' x A G C b r d m s l (lvUpd b r d m s l zs k y) ∧ w.grownBy w' (some C)
theorem lvupdate (w : World) (x : Value) (A G C : Nat) (b r d m s l : Int) (zs : List Int) (h : LevIs w x A G C b r d m s l zs) (hr : rightB b r d m = true) (s0 : 0 ≤ s) (s1 : s ≤ 18446744073709551615) (k : Nat) (hk : k < 18446744073709551616) (y : Int) (hy : In64 y) :
    ∃ f, HasM x A "Update" f ∧ Calls Tryz.prog f #[.pointer (some ⟨A, 0, none⟩), .int .u64 (k : Int), .int .i64 y] w (LvUpPost w x A G C b r d m s l zs k y) := by
  rcases h with ⟨h1, h2, h3⟩ | ⟨h1, h2, h3⟩
  · refine ⟨_, ⟨_, h2, fun j W => Tryz.mExUpdate j _ W, enters_of Tryz.func125 (by kernel_rfl) rfl⟩, ?_⟩
    refine (exupdate w A G C b r d m s l _ k zs y h3 hy hk).mono ?_
    rintro e w' ⟨he, ha, hg⟩
    refine ⟨?_, .inl ⟨h1, h2, ?_⟩, hg⟩
    · rw [he]; unfold lvErr; rw [if_pos h1]
    · unfold lvUpd; rw [if_pos h1]; exact ha
  · refine ⟨_, ⟨_, h2, fun j W => Tryz.mSkUpdate j _ W, enters_of Tryz.func144 (by kernel_rfl) rfl⟩, ?_⟩
    refine (skupdate w A G C b r d m s l zs h3 hr s0 s1 (k : Int) y (by omega) (by omega) hy).mono ?_
    rintro e w' ⟨he, ha, hg⟩
    refine ⟨?_, .inr ⟨h1, h2, ?_⟩, hg⟩
    · rw [he]; unfold lvErr; rw [if_neg (by rw [h1]; decide)]
    · unfold lvUpd; rw [if_neg (by rw [h1]; decide)]; exact ha
set_option maxRecDepth 100000 in
set_option maxHeartbeats 4000000 in
theorem first_any (g : Nat) (a c : Int) (w : World) (hb : Blk w g 44 #[.int .i64 a, .int .i64 c]) :
    Calls Tryz.prog 42 #[.slice (some ⟨g, 0, none⟩) 2 2] w fun e w' => e = .returned (.int .i64 (firstI a c)) ∧ w = w' := by
  have c0 := hb.cell 0
  have c1 := hb.cell 1
  simp at c0 c1
  have hq : ∃ q, q = firstI a c := ⟨_, rfl⟩
  obtain ⟨q, hq⟩ := hq
  rw [← hq]
  unfold firstI at hq
  have HQ := Lib.hid hq
  clear hb hq
  by_cases ha : a = 0
  · subst ha
    have HQ : Hid (q = c) := Lib.hid (by rw [HQ.out, if_pos rfl])
    by_cases hc : c = 0
    · subst hc
      go_enter Tryz.func42, Tryz.ntmps42
      go_wp2
      go_loop [8] (fun i => ∃ j : Nat, j ≤ 2 ∧ i = .int .i64 (j : Int)) (fun i => 2 - (intOf i).toNat)
      case atStart => exact ⟨0, by omega, rfl⟩
      case round =>
        obtain ⟨j, hj, rfl⟩ := hrel
        rcases (show j = 0 ∨ j = 1 ∨ j = 2 by omega) with rfl | rfl | rfl
        · go_wp2
          go_round
          case rel => exact ⟨1, by omega, rfl⟩
          case measure => simp [intOf]
        · go_wp2
          go_round
          case rel => exact ⟨2, by omega, rfl⟩
          case measure => simp [intOf]
        · go_wp2
          go_ret
          exact ⟨ret_err HQ.out.symm, rfl⟩
    · have n1 : (c != 0) = true := by simp [hc]
      clear hc
      go_enter Tryz.func42, Tryz.ntmps42
      go_wp2
      go_loop [8] (fun i => ∃ j : Nat, j ≤ 1 ∧ i = .int .i64 (j : Int)) (fun i => 2 - (intOf i).toNat)
      case atStart => exact ⟨0, by omega, rfl⟩
      case round =>
        obtain ⟨j, hj, rfl⟩ := hrel
        rcases (show j = 0 ∨ j = 1 by omega) with rfl | rfl
        · go_wp2
          go_round
          case rel => exact ⟨1, by omega, rfl⟩
          case measure => simp [intOf]
        · go_wp2
          go_ret
          exact ⟨ret_err HQ.out.symm, rfl⟩
  · have HQ : Hid (q = a) := Lib.hid (by rw [HQ.out, if_neg ha])
    have n1 : (a != 0) = true := by simp [ha]
    clear ha
    go_enter Tryz.func42, Tryz.ntmps42
    go_wp2
    go_loop [8] (fun i => i = .int .i64 0) (fun i => 2 - (intOf i).toNat)
    case atStart => rfl
    case round =>
      subst hrel
      go_wp2
      go_ret
      exact ⟨ret_err HQ.out.symm, rfl⟩
end Go.Proofs.YtbghchgmoiniiaaGreat

/-
  The walk of a stack's Update. Conditions: none beyond those stated at each theorem.
-/
namespace Go.Proofs.YtbghchgmoiniiaaGreat
open Go.RowKit Go.Shelf
set_option linter.unusedVariables false
set_option linter.unusedSimpArgs false
attribute [local go_sem] Oper.semAt_some

def StUpPost (w : World) (base S L : Nat) (b r d m s : Int) (X : Nat → Value) (A G C : Nat → Nat) (Z : Nat → List Int) (k : Nat) (x : Int) (e : Ending) (w' : World) : Prop :=
  e = .returned (.int .i64 (stErr b r d m s Z k x)) ∧ StIs w' base S L b r d m s X A G C (stUpd b r d m s Z k x) ∧ RGr w w' C (b.toNat + 1)
theorem stupdate_key (w : World) (base S L : Nat) (b r d m s : Int) (X : Nat → Value) (A G C : Nat → Nat) (Z : Nat → List Int) (h : StIs w base S L b r d m s X A G C Z) (k : Nat) (x : Int) (hk : keysI b r d m 0 ≤ (k : Int)) :
    Calls Tryz.prog 15 #[.pointer (some ⟨S, 0, none⟩), .int .u64 (k : Int), .int .i64 x] w (StUpPost w base S L b r d m s X A G C Z k x) := by
  have HE : Hid (stErr b r d m s Z k x = 2) := Lib.hid (by unfold stErr; rw [if_pos hk])
  have HU : Hid (∀ n, stUpd b r d m s Z k x n = Z n) := Lib.hid (fun n => by unfold stUpd; rw [HE.out, if_neg (by decide)])
  unfold StUpPost
  rw [HE.out]
  have PK := Lib.hid (fun w => keys_any b r d m s 0 w)
  have e1 : decide (keysI b r d m 0 ≤ (k : Int)) = true := decide_eq_true hk
  have hal : Below w.heap.size w (w.alloc (.cells #[.int .i64 x] 2)) := (Below.refl _ _).alloc (Nat.le_refl _) _
  obtain ⟨cap, hbx, -⟩ := h.box
  have hA := hbx.kept hal
  have c0 := hA.cell 0
  have c1 := hA.cell 1
  have c2 := hA.cell 2
  have c3 := hA.cell 3
  have c4 := hA.cell 4
  simp at c0 c1 c2 c3 c4
  have HS := Lib.hid (h.kept hal)
  have HB := Lib.hid hal
  clear h hk hbx hal hA
  go_enter Tryz.func15, Tryz.ntmps15
  go_wp2_with fail
  generalize (w.alloc (.cells #[.int .i64 x] 2)) = w1 at *
  with_reducible refine (PK.out _).mono ?_
  rintro e w2 ⟨rfl, hb⟩
  have HS2 := Lib.hid (HS.out.kept hb)
  have HB2 := Lib.hid (btr HB.out hb)
  clear hb c0 c1 c2 c3 c4
  go_wp2
  go_ret
  exact ⟨rfl, HS2.out.setC (fun n _ => (HU.out n).symm), RGr.of_below HB2.out⟩
/-- the numbers of levels -/
def vals {q : Nat} (l : List (LvN q)) : List Nat := l.map (·.1)
theorem vals_snoc {q : Nat} (l : List (LvN q)) (y : LvN q) : vals (l ++ [y]) = vals l ++ [y.1] := by simp [vals]
theorem vals_all (q : Nat) : vals (uptoN q (q + 1)) = List.range (q + 1) := uptoN_map q (q + 1) (Nat.le_refl _)
/-- between two rounds of the first loop: what lies, and the first answer that is none -/
structure ChkI (W0 W : World) (base S L : Nat) (b r d m s : Int) (X : Nat → Value) (A G C : Nat → Nat) (Z : Nat → List Int) (BD BB T : Nat) (x v : Int) : Prop where
  top : T ≤ W.heap.size
  st : StIs W base S L b r d m s X A G C Z
  num : Blk W BD 2 #[.int .i64 x]
  bad : Blk W BB 44 #[.int .i64 v]
  bel : Below W0.heap.size W0 W
theorem ChkI.kept {W0 W W' : World} {base S L : Nat} {b r d m s : Int} {X : Nat → Value} {A G C : Nat → Nat} {Z : Nat → List Int} {BD BB T : Nat} {x v : Int} (h : ChkI W0 W base S L b r d m s X A G C Z BD BB T x v) (hb : Below W.heap.size W W') : ChkI W0 W' base S L b r d m s X A G C Z BD BB T x v :=
  ⟨Nat.le_trans h.top hb.size, h.st.kept hb, h.num.kept hb, h.bad.kept hb, btr h.bel hb⟩
theorem ChkI.walked {W0 W W' : World} {base S L : Nat} {b r d m s : Int} {X : Nat → Value} {A G C : Nat → Nat} {Z : Nat → List Int} {BD BB T : Nat} {x v : Int} {row : Option Nat} (h : ChkI W0 W base S L b r d m s X A G C Z BD BB T x v) (hg : W.grownBy W' row) (hr : ∀ r, row = some r → W0.heap.size ≤ r ∧ ∃ o : Obj, W.heap[r]? = some o ∧ o.isCells = false) : ChkI W0 W' base S L b r d m s X A G C Z BD BB T x v :=
  ⟨Nat.le_trans h.top hg.size, h.st.walked hg (fun r e => (hr r e).2), h.num.walked hg (fun r e => (hr r e).2), h.bad.walked hg (fun r e => (hr r e).2), h.bel.grown hg h.bel.size (fun k e => (hr k e).1)⟩
/-- the answer is laid -/
theorem ChkI.put {W0 W : World} {base S L : Nat} {b r d m s : Int} {X : Nat → Value} {A G C : Nat → Nat} {Z : Nat → List Int} {BD BB T : Nat} {x v : Int} (h : ChkI W0 W base S L b r d m s X A G C Z BD BB T x v) (hB : W0.heap.size ≤ BB) (u : Int) : ChkI W0 (W.setCell ⟨BB, 0, none⟩ (.int .i64 u)) base S L b r d m s X A G C Z BD BB T x u :=
  ⟨by simpa using h.top, h.st.far h.bad (by decide) (by decide) (grown_set W BB 0 _), h.num.far (by simpa using h.num.ne_ h.bad (by decide)) _, by simpa using h.bad.set_ 0 (.int .i64 u), h.bel.setCell (p := ⟨BB, 0, none⟩) hB _⟩
theorem ChkI.round {W0 W w5 : World} {base S L : Nat} {b r d m s : Int} {X : Nat → Value} {A G C : Nat → Nat} {Z : Nat → List Int} {BD BB T : Nat} {x v : Int} (h : ChkI W0 W base S L b r d m s X A G C Z BD BB T x v) (hb : Below W.heap.size W w5) (o : Obj) (hB : W0.heap.size ≤ BB) (u : Int) (l : List Nat) (hl : ∀ i ∈ l, i < W.heap.size ∧ i ≠ BB) :
    KeepsOthers W ((w5.alloc o).setCell ⟨BB, 0, none⟩ (.int .i64 u)) ∧ KpB l W ((w5.alloc o).setCell ⟨BB, 0, none⟩ (.int .i64 u)) ∧ ChkI W0 ((w5.alloc o).setCell ⟨BB, 0, none⟩ (.int .i64 u)) base S L b r d m s X A G C Z BD BB T x u := by
  have h2 : Below W.heap.size W (w5.alloc o) := btr hb (below_alloc1 w5 o)
  have h3 : W.grownBy ((w5.alloc o).setCell ⟨BB, 0, none⟩ (.int .i64 u)) (some BB) := gr_trans (below_gr h2) (grown_set _ BB 0 _)
  exact ⟨kept_others h3 (fun g e => ⟨_, _, by cases e; exact h.bad⟩), KpB.of_grown h3 (fun i hi => ⟨(hl i hi).1, by simpa using (hl i hi).2⟩), (h.kept h2).put hB u⟩
/-- the answers of some levels, one behind the other -/
noncomputable def foldE (b r d m s : Int) (Z : Nat → List Int) (k : Nat) (x : Int) (l : List Nat) : Int := l.foldl (fun a (n : Nat) => firstI a (lvErr b r d m s (n : Int) (Z n) (k / 2 ^ n) x)) 0
theorem foldE_snoc (b r d m s : Int) (Z : Nat → List Int) (k : Nat) (x : Int) (l : List Nat) (n : Nat) : foldE b r d m s Z k x (l ++ [n]) = firstI (foldE b r d m s Z k x l) (lvErr b r d m s (n : Int) (Z n) (k / 2 ^ n) x) := by
  unfold foldE
  rw [List.foldl_append]
  rfl
/-- what a level comes to, updated so often -/
noncomputable def timesU (b r d m s : Int) (k : Nat) (x : Int) (n : Nat) (zs : List Int) : Nat → List Int
  | 0 => zs
  | j + 1 => lvUpd b r d m s (n : Int) (timesU b r d m s k x n zs j) (k / 2 ^ n) x
/-- between two rounds of the second loop -/
structure UpdI (W0 W : World) (base S L : Nat) (b r d m s : Int) (X : Nat → Value) (A G C : Nat → Nat) (Z : Nat → List Int) (BD T D1 : Nat) (x : Int) (k : Nat) (l : List Nat) : Prop where
  top : T ≤ W.heap.size
  st : StIs W base S L b r d m s X A G C (fun n => timesU b r d m s k x n (Z n) (l.count n))
  num : Blk W BD 2 #[.int .i64 x]
  gr : RGr W0 W C (b.toNat + 1)
  mark : W.heap[D1]? = some (.deferred (some []))
theorem RGr.grown {W0 W W' : World} {C : Nat → Nat} {q : Nat} {row : Option Nat} (h : RGr W0 W C q) (hg : W.grownBy W' row) (hr : ∀ r, row = some r → W0.heap.size ≤ r ∨ ∃ n, n < q ∧ r = C n) : RGr W0 W' C q :=
  ⟨hg.os.trans h.os, hg.tape.trans h.tape, hg.output.trans h.output, Nat.le_trans h.size hg.size, fun k hk hne => (hg.block k (Nat.lt_of_lt_of_le hk h.size) (fun e => by
    rcases hr k e.symm with h1 | ⟨n, hn, e2⟩
    · omega
    · exact hne n hn e2)).trans (h.block k hk hne)⟩
theorem UpdI.walked {W0 W W' : World} {base S L : Nat} {b r d m s : Int} {X : Nat → Value} {A G C : Nat → Nat} {Z : Nat → List Int} {BD T D1 : Nat} {x : Int} {k : Nat} {l : List Nat} {row : Option Nat} {B : Nat} (h : UpdI W0 W base S L b r d m s X A G C Z BD T D1 x k l) (h0 : W0.heap.size ≤ B) (h1 : D1 < B) (hg : W.grownBy W' row) (hr : ∀ r, row = some r → B ≤ r ∧ ∃ o : Obj, W.heap[r]? = some o ∧ o.isCells = false) : UpdI W0 W' base S L b r d m s X A G C Z BD T D1 x k l :=
  ⟨Nat.le_trans h.top hg.size, h.st.walked hg (fun r e => (hr r e).2), h.num.walked hg (fun r e => (hr r e).2), h.gr.grown hg (fun r e => .inl (by have := (hr r e).1; omega)),
    (hg.block D1 (Array.getElem?_eq_some_iff.1 h.mark).1 (fun e => by have := (hr D1 e.symm).1; omega)).trans h.mark⟩
theorem UpdI.next {W0 W W' : World} {base S L : Nat} {b r d m s : Int} {X : Nat → Value} {A G C : Nat → Nat} {Z : Nat → List Int} {BD T D1 : Nat} {x : Int} {k : Nat} {l : List Nat} (h : UpdI W0 W base S L b r d m s X A G C Z BD T D1 x k l) (hT : BD < T) {n : Nat} (hn : n ≤ b.toNat) (hBD : BD ≠ C n) {e : Ending}
    (hp : LvUpPost W (X n) (A n) (G n) (C n) b r d m s n (timesU b r d m s k x n (Z n) (l.count n)) (k / 2 ^ n) x e W') : UpdI W0 W' base S L b r d m s X A G C Z BD T D1 x k (l ++ [n]) := by
  obtain ⟨-, hl, hg⟩ := hp
  obtain ⟨cur, hC⟩ := (h.st.lev n hn).cells
  refine ⟨Nat.le_trans h.top hg.size, (h.st.put hn hg hl).setC (fun j hj => ?_), h.num.grown hg (by simpa using hBD), h.gr.grown hg (fun r e => .inr ⟨n, by omega, by have := Option.some.inj e; omega⟩), ?_⟩
  · by_cases e : j = n
    · subst e
      rw [upN_same, List.count_append, List.count_singleton_self]
      rfl
    · rw [upN_other _ _ e, List.count_append, List.count_singleton, if_neg (by simpa using fun e2 => e e2.symm), Nat.add_zero]
  · refine (hg.block D1 (Array.getElem?_eq_some_iff.1 h.mark).1 (fun e => ?_)).trans h.mark
    have e := Option.some.inj e
    have h1 := h.mark
    unfold Blk at hC
    rw [e, hC] at h1
    cases h1
theorem count_upto (q n : Nat) : (List.range q).count n = if n < q then 1 else 0 := by
  induction q with
  | zero => simp
  | succ q ih =>
    rw [List.range_succ, List.count_append, ih, List.count_singleton]
    by_cases h1 : n < q
    · rw [if_pos h1, if_neg (by simp; omega), if_pos (by omega)]
    · by_cases h2 : n = q
      · subst h2; simp
      · rw [if_neg h1, if_neg (by simp; omega), if_neg (by omega)]
theorem shr_small {k : Nat} (hk : k < 18446744073709551616) (n : Nat) : k / 2 ^ n < 18446744073709551616 := Nat.lt_of_le_of_lt (Nat.div_le_self _ _) hk
set_option maxRecDepth 100000 in
set_option maxHeartbeats 8000000 in
theorem stupdate_in (w : World) (base S L : Nat) (b r d m s : Int) (X : Nat → Value) (A G C : Nat → Nat) (Z : Nat → List Int) (h : StIs w base S L b r d m s X A G C Z) (s0 : 0 ≤ s) (s1 : s ≤ 18446744073709551615) (k : Nat) (hk64 : k < 18446744073709551616) (x : Int) (hx : In64 x) (hk : (k : Int) < keysI b r d m 0) :
    Calls Tryz.prog 15 #[.pointer (some ⟨S, 0, none⟩), .int .u64 (k : Int), .int .i64 x] w (StUpPost w base S L b r d m s X A G C Z k x) := by
  obtain ⟨q, hq⟩ : ∃ q : Nat, b.toNat = q := ⟨_, rfl⟩
  have hR := right_of h.right
  have hq59 : q ≤ 59 := by omega
  have PK := Lib.hid (fun w => keys_any b r d m s 0 w)
  have e1 : decide (keysI b r d m 0 ≤ (k : Int)) = false := decide_eq_false (by omega)
  have hal : Below w.heap.size w (w.alloc (.cells #[.int .i64 x] 2)) := (Below.refl _ _).alloc (Nat.le_refl _) _
  have HNUM := Lib.hid (Blk.new w 2 #[.int .i64 x])
  obtain ⟨cap, hbx, hcap⟩ := h.box
  rw [hq] at hbx hcap
  have hA := hbx.kept hal
  have c0 := hA.cell 0
  have c1 := hA.cell 1
  have c2 := hA.cell 2
  have c3 := hA.cell 3
  have c4 := hA.cell 4
  simp at c0 c1 c2 c3 c4
  have HCL : Hid (∀ n, n ≤ b.toNat → C n < w.heap.size) := Lib.hid (fun n hn => (h.lev n hn).ltC)
  have HS := Lib.hid (h.kept hal)
  have HB := Lib.hid hal
  have HRT := Lib.hid h.right
  have HKK := Lib.hid hk
  have HQ := Lib.hid hq
  have PI := Lib.hid hbx
  clear h hbx hal hA hR hk hcap hq
  refine (callsIn_wide (n := 6)).1 ?_
  refine callsIn_of_wp_marks Tryz.func15 rfl trivial ?_ rfl
  simp only [Tryz.ntmps15, List.size_toArray, List.length_cons, List.length_nil, Nat.reduceAdd, Nat.reduceSub, Array.replicate_succ, Array.replicate_zero, List.push_toArray, List.append_toArray, List.nil_append, List.cons_append]
  gi_wp2_with fail
  generalize hw1 : (w.alloc (.cells #[.int .i64 x] 2)) = w1 at *
  have HW1 := Lib.hid hw1
  clear hw1
  refine ⟨trivial, ?_⟩
  with_reducible refine (callsIn_wide.2 (PK.out _)).mono ?_
  rintro e w2 ⟨rfl, hb⟩
  have HS2 := Lib.hid (HS.out.kept hb)
  have HB2 := Lib.hid (btr HB.out hb)
  have HN2 := Lib.hid (HNUM.out.kept hb)
  clear hb c0 c1 c2 c3 c4
  gi_wp2_with fail
  have HS3 := Lib.hid (HS2.out.kept (below_alloc1 w2 (.cells #[.int .i64 0] 44)))
  have HB3 := Lib.hid (btr HB2.out (below_alloc1 w2 (.cells #[.int .i64 0] 44)))
  have HN3 := Lib.hid (HN2.out.kept (below_alloc1 w2 (.cells #[.int .i64 0] 44)))
  have HE3 := Lib.hid (Blk.new w2 44 #[.int .i64 0])
  have HSZ : Hid (w.heap.size ≤ w2.heap.size) := Lib.hid HB2.out.size
  generalize (w2.alloc (.cells #[.int .i64 0] 44)) = w3 at *
  refine ⟨trivial, ?_⟩
  with_reducible refine (callsIn_wide.2 (stat S (k : Int) w3)).mono ?_
  rintro e w4 ⟨rfl, hw4⟩
  obtain ⟨ga, gb, gc, gd⟩ := news2 w3 (.cells #[.pointer (some ⟨S, 0, none⟩)] 29) (.cells #[.int .u64 (k : Int)] 22)
  rw [← hw4] at ga gb gc gd
  have HGA : Hid (Blk w4 w3.heap.size 29 #[.pointer (some ⟨S, 0, none⟩)]) := Lib.hid ga
  have HGB : Hid (Blk w4 (w3.heap.size + 1) 22 #[.int .u64 (k : Int)]) := Lib.hid gb
  have HI0 : Hid (ChkI w w4 base S L b r d m s X A G C Z w.heap.size w2.heap.size w4.heap.size x (foldE b r d m s Z k x [])) := Lib.hid ⟨Nat.le_refl _, HS3.out.kept gc, HN3.out.kept gc, HE3.out.kept gc, btr HB3.out gc⟩
  have HTOP : Hid (w3.heap.size + 2 = w4.heap.size ∧ w2.heap.size < w3.heap.size) := Lib.hid ⟨gd.symm, HE3.out.lt⟩
  clear hw4 ga gb gc gd
  gi_wp2_with fail
  obtain ⟨capS, hbx, -⟩ := HI0.out.st.box
  obtain ⟨cur, hrow, hcur⟩ := HI0.out.st.row
  rw [HQ.out] at hbx hcur
  have HXO : Hid (∀ n, n ≤ q → ∃ t a, X n = .iface t (.pointer (some ⟨a, 0, none⟩))) := Lib.hid (fun n hn => by
    obtain ⟨t, ht⟩ := (HI0.out.st.lev n (by rw [HQ.out]; exact hn)).open_
    exact ⟨t, _, ht⟩)
  have HNE : Hid (S < w4.heap.size ∧ L < w4.heap.size ∧ S ≠ w2.heap.size ∧ L ≠ w2.heap.size) := Lib.hid ⟨hbx.lt, hrow.lt, hbx.ne_ HI0.out.bad (by decide), hrow.ne_ HI0.out.bad (by decide)⟩
  refine wpIn_rangeFunc_ownF rfl (by omega) (gf := 62) (lb := #[.pointer (some ⟨w3.heap.size, 0, none⟩), .pointer (some ⟨w3.heap.size + 1, 0, none⟩)]) rfl trivial (enters_of Tryz.func62 (by kernel_rfl) rfl)
    (st_stops (6 - 1) (by omega) w3.heap.size (w3.heap.size + 1) S L q capS k cur X hq59 w4 HXO.out HGA.out HGB.out ⟨_, _, _, _, _, hbx⟩ hrow hcur) KpB.trans (KpB.put (by
      have h1 := HTOP.out; have h2 := HNE.out
      intro i hi
      simp at hi
      omega)) (Below.refl _ _) (fun _ => rfl)
    (fun (pre : List (LvN q)) W => ChkI w W base S L b r d m s X A G C Z w.heap.size w2.heap.size w4.heap.size x (foldE b r d m s Z k x (vals pre)))
    (fun _ _ _ => False)
    (fun pre W W' row hs hg hr => hs.walked hg (fun r e => ⟨by have h1 := (hr r e).1; have h2 := HI0.out.bel.size; omega, (hr r e).2⟩))
    (fun _ _ _ _ _ hs _ _ => hs)
    HI0.out
    (fun (y : LvN q) => { tmps := #[.pointer (some ⟨S, 0, none⟩), .int .u64 (k : Int), .int .i64 x, undef, undef, .pointer (some ⟨w.heap.size, 0, none⟩), .int .i64 0, .pointer (some ⟨w2.heap.size, 0, none⟩), X y.1, .int .u64 ((k / 2 ^ y.1 : Nat) : Int), undef, undef,
      .int .u64 (k : Int), .pointer (some ⟨S, 0, none⟩), .pointer (some ⟨S, 0, none⟩), .pointer (some ⟨S, 0, none⟩), .agg #[.int .i64 b, .int .i64 r, .int .i64 d, .int .i64 m, .int .u64 s], .int .u64 (keysI b r d m 0), .bool false, .pointer (some ⟨S, 0, none⟩), .int .u64 (k : Int),
      .func (.func 62) #[] #[.pointer (some ⟨w3.heap.size, 0, none⟩), .pointer (some ⟨w3.heap.size + 1, 0, none⟩)], X y.1, .int .u64 ((k / 2 ^ y.1 : Nat) : Int), undef, undef, undef, undef, undef, undef, undef, undef, undef, undef, undef, undef, undef, undef, undef, undef, undef, undef, undef], defers := [] }) ?assign ?body ?done ?stop
  case assign =>
    intro l y W K hK
    obtain ⟨t, a, hx⟩ := HXO.out y.1 y.2
    simp only [hx] at hK ⊢
    gi_wp2
    exact hK
  case body =>
    intro l pre y W hI _
    have HI := Lib.hid hI
    have hyb : y.1 ≤ b.toNat := by have := HQ.out; have := y.2; omega
    obtain ⟨f, ⟨TX, hX, hm, hen⟩, PCk⟩ := lvcheck W.drew (X y.1) _ _ _ b r d m s (y.1 : Int) (Z y.1) ((hI.st.lev y.1 hyb).kept (below_drewN (Below.refl _ _) 1)) HRT.out s0 s1 (k / 2 ^ y.1) (shr_small hk64 _) x hx
    rw [show ((k / 2 ^ y.1 : Nat) : Int) = (k : Int) / 2 ^ y.1 by rw [Int.natCast_ediv, Int.natCast_pow]; rfl] at PCk
    have PCk := Lib.hid PCk
    have HI1 : Hid (ChkI w W.drew base S L b r d m s X A G C Z w.heap.size w2.heap.size w4.heap.size x (foldE b r d m s Z k x (vals pre))) := Lib.hid (hI.kept (below_drewN (Below.refl _ _) 1))
    have HF := Lib.hid (foldE_snoc b r d m s Z k x (vals pre) y.1)
    have HEND : Hid (∀ w5 o, Below W.drew.heap.size W.drew w5 → ∀ u, u = foldE b r d m s Z k x (vals (pre ++ [y])) → KeepsOthers W ((w5.alloc o).setCell ⟨w2.heap.size, 0, none⟩ (.int .i64 u)) ∧ KpB [w3.heap.size, w3.heap.size + 1, S, L] W ((w5.alloc o).setCell ⟨w2.heap.size, 0, none⟩ (.int .i64 u)) ∧ ChkI w ((w5.alloc o).setCell ⟨w2.heap.size, 0, none⟩ (.int .i64 u)) base S L b r d m s X A G C Z w.heap.size w2.heap.size w4.heap.size x (foldE b r d m s Z k x (vals (pre ++ [y])))) := Lib.hid (fun w5 o hb u hu => by
      rw [← hu]
      refine hI.round (btr (below_drewN (Below.refl _ _) 1) hb) o HSZ.out u _ (fun i hi => ?_)
      have h1 := HTOP.out; have h2 := HNE.out; have h3 := hI.top
      simp at hi
      omega)
    have HUE : Hid (firstI (foldE b r d m s Z k x (vals pre)) (lvErr b r d m s (y.1 : Int) (Z y.1) (k / 2 ^ y.1) x) = foldE b r d m s Z k x (vals (pre ++ [y]))) := Lib.hid (by rw [vals_snoc, HF.out])
    simp only [hX]
    clear hI hX
    gi_wp2_with fail
    refine wpIn_round_any (by kernel_rfl) (by kernel_rfl) (by rintro ⟨_, _, h⟩; exact h) ?_; generalize W.drew = Wd at *; have q0 := HI1.out.bad.cell 0; have q1 := HI1.out.num.cell 0; simp at q0 q1
    refine wpAny_take (i := 1) (v := ?_) rfl (by kernel_rfl) (by kernel_rfl) (by kernel_rfl) (fun _ _ _ h => h) (Or.inl ⟨by rfl, ?_⟩) ?_
    rotate_left
    · intro w
      go_simp
      try with_reducible rfl
    simp only [Act.put, List.setIfInBounds_toArray, List.set_cons_zero, List.set_cons_succ, List.getElem_toArray, List.getElem_cons_zero, List.getElem_cons_succ]
    refine wpAny_take (i := 2) (v := ?_) rfl (by kernel_rfl) (by kernel_rfl) (by kernel_rfl) (fun _ _ _ h => h) (Or.inl ⟨by rfl, ?_⟩) ?_
    rotate_left
    · intro w
      go_simp
      try with_reducible rfl
    simp only [Act.put, List.setIfInBounds_toArray, List.set_cons_zero, List.set_cons_succ, List.getElem_toArray, List.getElem_cons_zero, List.getElem_cons_succ]
    refine wpAny_ready (rs := [0, 3]) (by kernel_rfl) (by simp) ?_
    refine AllReady.cons rfl (fun Kc hKc => ?_) (AllReady.cons rfl (fun Kc hKc => ?_) AllReady.nil)
    · have HKc := Lib.hid hKc
      clear hKc
      go_simp
      refine HKc.out _ _ ?_
      clear HKc Kc
      refine wpAny_ready (rs := [3]) (by kernel_rfl) (by simp) ?_
      refine AllReady.cons rfl (fun Kc hKc => ?_) AllReady.nil
      have HKc := Lib.hid hKc
      clear hKc
      go_simp
      refine HKc.out _ _ ?_
      clear HKc Kc
      refine wpAny_ready (rs := [4]) (by kernel_rfl) (by simp) ?_
      refine AllReady.cons rfl (fun Kc hKc => ?_) AllReady.nil
      have HKc := Lib.hid hKc
      clear hKc
      go_simp
      go_wp2_with (first | (with_reducible refine PCk.out.mono ?_; rintro e w5 ⟨rfl, hb⟩; have HI5 := Lib.hid (HI1.out.kept hb); have HP := Lib.hid (HEND.out w5 (.cells #[.int .i64 (foldE b r d m s Z k x (vals pre)), .int .i64 (lvErr b r d m s (y.1 : Int) (Z y.1) (k / 2 ^ y.1) x)] 44) hb _ HUE.out); have q0 := HI5.out.bad.cell 0; simp at q0; clear hb) | (go_at_call 42; refine (first_any w5.heap.size _ _ _ (Blk.new w5 _ _)).mono ?_; rintro e w6 ⟨rfl, hw6⟩; subst hw6; have HI6 := Lib.hid (HI5.out.kept (below_alloc1 w5 (.cells #[.int .i64 (foldE b r d m s Z k x (vals pre)), .int .i64 (lvErr b r d m s (y.1 : Int) (Z y.1) (k / 2 ^ y.1) x)] 44))); have f0 := HI6.out.bad.frozen 0; have q0 := HI6.out.bad.cell 0; simp at q0 f0))
      refine HKc.out _ _ ?_
      clear HKc Kc
      refine wpAny_ready (rs := [5]) (by kernel_rfl) (by simp) ?_
      refine AllReady.cons rfl (fun Kc hKc => ?_) AllReady.nil
      have HKc := Lib.hid hKc
      clear hKc
      go_simp
      refine HKc.out _ _ ?_
      clear HKc Kc
      refine wpAny_ready (rs := [6]) (by kernel_rfl) (by simp) ?_
      refine AllReady.cons rfl (fun Kc hKc => ?_) AllReady.nil
      have HKc := Lib.hid hKc
      clear hKc
      go_simp
      go_wp2_with (first | (with_reducible refine PCk.out.mono ?_; rintro e w5 ⟨rfl, hb⟩; have HI5 := Lib.hid (HI1.out.kept hb); have HP := Lib.hid (HEND.out w5 (.cells #[.int .i64 (foldE b r d m s Z k x (vals pre)), .int .i64 (lvErr b r d m s (y.1 : Int) (Z y.1) (k / 2 ^ y.1) x)] 44) hb _ HUE.out); have q0 := HI5.out.bad.cell 0; simp at q0; clear hb) | (go_at_call 42; refine (first_any w5.heap.size _ _ _ (Blk.new w5 _ _)).mono ?_; rintro e w6 ⟨rfl, hw6⟩; subst hw6; have HI6 := Lib.hid (HI5.out.kept (below_alloc1 w5 (.cells #[.int .i64 (foldE b r d m s Z k x (vals pre)), .int .i64 (lvErr b r d m s (y.1 : Int) (Z y.1) (k / 2 ^ y.1) x)] 44))); have f0 := HI6.out.bad.frozen 0; have q0 := HI6.out.bad.cell 0; simp at q0 f0))
      refine HKc.out _ _ ?_
      clear HKc Kc
      refine wpAny_ready (rs := [7]) (by kernel_rfl) (by simp) ?_
      refine AllReady.cons rfl (fun Kc hKc => ?_) AllReady.nil
      have HKc := Lib.hid hKc
      clear hKc
      go_simp
      refine HKc.out _ _ ?_
      clear HKc Kc
      refine wpAny_done (by kernel_rfl) ?_ _
      gi_wp2
      exact HP.out
    · have HKc := Lib.hid hKc
      clear hKc
      go_simp
      refine HKc.out _ _ ?_
      clear HKc Kc
      refine wpAny_ready (rs := [0, 4]) (by kernel_rfl) (by simp) ?_
      refine AllReady.cons rfl (fun Kc hKc => ?_) (AllReady.cons rfl (fun Kc hKc => ?_) AllReady.nil)
      · have HKc := Lib.hid hKc
        clear hKc
        go_simp
        refine HKc.out _ _ ?_
        clear HKc Kc
        refine wpAny_ready (rs := [4]) (by kernel_rfl) (by simp) ?_
        refine AllReady.cons rfl (fun Kc hKc => ?_) AllReady.nil
        have HKc := Lib.hid hKc
        clear hKc
        go_simp
        go_wp2_with (first | (with_reducible refine PCk.out.mono ?_; rintro e w5 ⟨rfl, hb⟩; have HI5 := Lib.hid (HI1.out.kept hb); have HP := Lib.hid (HEND.out w5 (.cells #[.int .i64 (foldE b r d m s Z k x (vals pre)), .int .i64 (lvErr b r d m s (y.1 : Int) (Z y.1) (k / 2 ^ y.1) x)] 44) hb _ HUE.out); have q0 := HI5.out.bad.cell 0; simp at q0; clear hb) | (go_at_call 42; refine (first_any w5.heap.size _ _ _ (Blk.new w5 _ _)).mono ?_; rintro e w6 ⟨rfl, hw6⟩; subst hw6; have HI6 := Lib.hid (HI5.out.kept (below_alloc1 w5 (.cells #[.int .i64 (foldE b r d m s Z k x (vals pre)), .int .i64 (lvErr b r d m s (y.1 : Int) (Z y.1) (k / 2 ^ y.1) x)] 44))); have f0 := HI6.out.bad.frozen 0; have q0 := HI6.out.bad.cell 0; simp at q0 f0))
        refine HKc.out _ _ ?_
        clear HKc Kc
        refine wpAny_ready (rs := [5]) (by kernel_rfl) (by simp) ?_
        refine AllReady.cons rfl (fun Kc hKc => ?_) AllReady.nil
        have HKc := Lib.hid hKc
        clear hKc
        go_simp
        refine HKc.out _ _ ?_
        clear HKc Kc
        refine wpAny_ready (rs := [6]) (by kernel_rfl) (by simp) ?_
        refine AllReady.cons rfl (fun Kc hKc => ?_) AllReady.nil
        have HKc := Lib.hid hKc
        clear hKc
        go_simp
        go_wp2_with (first | (with_reducible refine PCk.out.mono ?_; rintro e w5 ⟨rfl, hb⟩; have HI5 := Lib.hid (HI1.out.kept hb); have HP := Lib.hid (HEND.out w5 (.cells #[.int .i64 (foldE b r d m s Z k x (vals pre)), .int .i64 (lvErr b r d m s (y.1 : Int) (Z y.1) (k / 2 ^ y.1) x)] 44) hb _ HUE.out); have q0 := HI5.out.bad.cell 0; simp at q0; clear hb) | (go_at_call 42; refine (first_any w5.heap.size _ _ _ (Blk.new w5 _ _)).mono ?_; rintro e w6 ⟨rfl, hw6⟩; subst hw6; have HI6 := Lib.hid (HI5.out.kept (below_alloc1 w5 (.cells #[.int .i64 (foldE b r d m s Z k x (vals pre)), .int .i64 (lvErr b r d m s (y.1 : Int) (Z y.1) (k / 2 ^ y.1) x)] 44))); have f0 := HI6.out.bad.frozen 0; have q0 := HI6.out.bad.cell 0; simp at q0 f0))
        refine HKc.out _ _ ?_
        clear HKc Kc
        refine wpAny_ready (rs := [7]) (by kernel_rfl) (by simp) ?_
        refine AllReady.cons rfl (fun Kc hKc => ?_) AllReady.nil
        have HKc := Lib.hid hKc
        clear hKc
        go_simp
        refine HKc.out _ _ ?_
        clear HKc Kc
        refine wpAny_done (by kernel_rfl) ?_ _
        gi_wp2
        exact HP.out
      · have HKc := Lib.hid hKc
        clear hKc
        go_simp
        go_wp2_with (first | (with_reducible refine PCk.out.mono ?_; rintro e w5 ⟨rfl, hb⟩; have HI5 := Lib.hid (HI1.out.kept hb); have HP := Lib.hid (HEND.out w5 (.cells #[.int .i64 (foldE b r d m s Z k x (vals pre)), .int .i64 (lvErr b r d m s (y.1 : Int) (Z y.1) (k / 2 ^ y.1) x)] 44) hb _ HUE.out); have q0 := HI5.out.bad.cell 0; simp at q0; clear hb) | (go_at_call 42; refine (first_any w5.heap.size _ _ _ (Blk.new w5 _ _)).mono ?_; rintro e w6 ⟨rfl, hw6⟩; subst hw6; have HI6 := Lib.hid (HI5.out.kept (below_alloc1 w5 (.cells #[.int .i64 (foldE b r d m s Z k x (vals pre)), .int .i64 (lvErr b r d m s (y.1 : Int) (Z y.1) (k / 2 ^ y.1) x)] 44))); have f0 := HI6.out.bad.frozen 0; have q0 := HI6.out.bad.cell 0; simp at q0 f0))
        refine HKc.out _ _ ?_
        clear HKc Kc
        refine wpAny_ready (rs := [0]) (by kernel_rfl) (by simp) ?_
        refine AllReady.cons rfl (fun Kc hKc => ?_) AllReady.nil
        have HKc := Lib.hid hKc
        clear hKc
        go_simp
        refine HKc.out _ _ ?_
        clear HKc Kc
        refine wpAny_ready (rs := [5]) (by kernel_rfl) (by simp) ?_
        refine AllReady.cons rfl (fun Kc hKc => ?_) AllReady.nil
        have HKc := Lib.hid hKc
        clear hKc
        go_simp
        refine HKc.out _ _ ?_
        clear HKc Kc
        refine wpAny_ready (rs := [6]) (by kernel_rfl) (by simp) ?_
        refine AllReady.cons rfl (fun Kc hKc => ?_) AllReady.nil
        have HKc := Lib.hid hKc
        clear hKc
        go_simp
        go_wp2_with (first | (with_reducible refine PCk.out.mono ?_; rintro e w5 ⟨rfl, hb⟩; have HI5 := Lib.hid (HI1.out.kept hb); have HP := Lib.hid (HEND.out w5 (.cells #[.int .i64 (foldE b r d m s Z k x (vals pre)), .int .i64 (lvErr b r d m s (y.1 : Int) (Z y.1) (k / 2 ^ y.1) x)] 44) hb _ HUE.out); have q0 := HI5.out.bad.cell 0; simp at q0; clear hb) | (go_at_call 42; refine (first_any w5.heap.size _ _ _ (Blk.new w5 _ _)).mono ?_; rintro e w6 ⟨rfl, hw6⟩; subst hw6; have HI6 := Lib.hid (HI5.out.kept (below_alloc1 w5 (.cells #[.int .i64 (foldE b r d m s Z k x (vals pre)), .int .i64 (lvErr b r d m s (y.1 : Int) (Z y.1) (k / 2 ^ y.1) x)] 44))); have f0 := HI6.out.bad.frozen 0; have q0 := HI6.out.bad.cell 0; simp at q0 f0))
        refine HKc.out _ _ ?_
        clear HKc Kc
        refine wpAny_ready (rs := [7]) (by kernel_rfl) (by simp) ?_
        refine AllReady.cons rfl (fun Kc hKc => ?_) AllReady.nil
        have HKc := Lib.hid hKc
        clear hKc
        go_simp
        refine HKc.out _ _ ?_
        clear HKc Kc
        refine wpAny_done (by kernel_rfl) ?_ _
        gi_wp2
        exact HP.out
  case done =>
    intro D xs W hD hxs hI hK
    subst hxs
    rw [vals_all] at hI
    have hfe : foldE b r d m s Z k x (List.range (q + 1)) = stErr b r d m s Z k x := by
      have h1 := stErr_firsts (s := s) (Z := Z) (x := x) HRT.out HKK.out
      rw [HQ.out] at h1
      exact h1
    rw [hfe] at hI
    have HI := Lib.hid hI
    have HK := Lib.hid hK
    have hDs : w.heap.size ≤ D := by have := HI0.out.bel.size; omega
    have HDS := Lib.hid hDs
    have q0 := hI.bad.cell 0
    simp at q0
    clear hI hfe hK hDs
    by_cases h0 : stErr b r d m s Z k x = 0
    · have H0 := Lib.hid h0
      rw [h0] at q0
      clear h0
      gi_wp2_with fail
      refine ⟨trivial, ?_⟩
      with_reducible refine (callsIn_wide.2 (stat S (k : Int) W)).mono ?_
      rintro e w5 ⟨rfl, hw5⟩
      obtain ⟨ga, gb, gc, gd⟩ := news2 W (.cells #[.pointer (some ⟨S, 0, none⟩)] 29) (.cells #[.int .u64 (k : Int)] 22)
      rw [← hw5] at ga gb gc gd
      have HGA5 : Hid (Blk w5 W.heap.size 29 #[.pointer (some ⟨S, 0, none⟩)]) := Lib.hid ga
      have HGB5 : Hid (Blk w5 (W.heap.size + 1) 22 #[.int .u64 (k : Int)]) := Lib.hid gb
      have HT5 : Hid (W.heap.size + 2 = w5.heap.size ∧ w4.heap.size ≤ W.heap.size ∧ D < W.heap.size ∧ w.heap.size ≤ W.heap.size) := Lib.hid ⟨gd.symm, HI.out.top, (Array.getElem?_eq_some_iff.1 HK.out).1, HI.out.bel.size⟩
      have HJ0 : Hid (UpdI w w5 base S L b r d m s X A G C Z w.heap.size w5.heap.size D x k []) := Lib.hid ⟨Nat.le_refl _, (HI.out.st.kept gc).setC (fun n _ => rfl), HI.out.num.kept gc, RGr.of_below (btr HI.out.bel gc), (gc.block D HT5.out.2.2.1).trans HK.out⟩
      clear hw5 ga gb gc gd q0
      gi_wp2_with fail
      obtain ⟨capS2, hbx2, -⟩ := HJ0.out.st.box
      obtain ⟨cur2, hrow2, hcur2⟩ := HJ0.out.st.row
      rw [HQ.out] at hbx2 hcur2
      have HLT5 : Hid (S < w5.heap.size ∧ L < w5.heap.size ∧ w.heap.size < w5.heap.size) := Lib.hid ⟨hbx2.lt, hrow2.lt, HJ0.out.num.lt⟩
      refine wpIn_rangeFunc_ownF rfl (by omega) (gf := 62) (lb := #[.pointer (some ⟨W.heap.size, 0, none⟩), .pointer (some ⟨W.heap.size + 1, 0, none⟩)]) rfl trivial (enters_of Tryz.func62 (by kernel_rfl) rfl)
        (st_stops (6 - 1) (by omega) W.heap.size (W.heap.size + 1) S L q capS2 k cur2 X hq59 w5 HXO.out HGA5.out HGB5.out ⟨_, _, _, _, _, hbx2⟩ hrow2 hcur2) KpB.trans (KpB.put (by
          have h1 := HT5.out; have h2 := HLT5.out
          intro i hi
          simp at hi
          omega)) (Below.refl _ _) (fun _ => rfl)
        (fun (pre : List (LvN q)) W' => UpdI w W' base S L b r d m s X A G C Z w.heap.size w5.heap.size D x k (vals pre))
        (fun _ _ _ => False)
        (fun pre W1 W2 row hs hg hr => hs.walked (B := w5.heap.size) (by have := HT5.out; omega) (by have := HT5.out; omega) hg hr)
        (fun _ _ _ _ _ hs _ _ => hs)
        HJ0.out
        (fun (y : LvN q) => { tmps := #[.pointer (some ⟨S, 0, none⟩), .int .u64 (k : Int), .int .i64 x, undef, undef, .pointer (some ⟨w.heap.size, 0, none⟩), .int .i64 0, .pointer (some ⟨w2.heap.size, 0, none⟩), undef, undef, X y.1, .int .u64 ((k / 2 ^ y.1 : Nat) : Int),
          .int .u64 (k : Int), .pointer (some ⟨S, 0, none⟩), .pointer (some ⟨S, 0, none⟩), .pointer (some ⟨S, 0, none⟩), .agg #[.int .i64 b, .int .i64 r, .int .i64 d, .int .i64 m, .int .u64 s], .int .u64 (keysI b r d m 0), .bool false, .pointer (some ⟨S, 0, none⟩), .int .u64 (k : Int),
          .func (.func 62) #[] #[.pointer (some ⟨w3.heap.size, 0, none⟩), .pointer (some ⟨w3.heap.size + 1, 0, none⟩)], undef, undef, undef, undef, undef, undef, undef, undef, undef, .int .i64 0, .bool false, undef, .pointer (some ⟨S, 0, none⟩), .int .u64 (k : Int),
          .func (.func 62) #[] #[.pointer (some ⟨W.heap.size, 0, none⟩), .pointer (some ⟨W.heap.size + 1, 0, none⟩)], X y.1, .int .u64 ((k / 2 ^ y.1 : Nat) : Int), undef, undef, undef, undef], defers := [] }) ?assign2 ?body2 ?done2 ?stop2
      case assign2 =>
        intro l y W K hK
        obtain ⟨t, a, hx⟩ := HXO.out y.1 y.2
        simp only [hx] at hK ⊢
        gi_wp2
        exact hK
      case body2 =>
        intro l pre y W1 hI1 _
        have hyb : y.1 ≤ b.toNat := by have := HQ.out; have := y.2; omega
        have HI1 := Lib.hid hI1
        obtain ⟨f, ⟨TX, hX, hm, hen⟩, PUp⟩ := lvupdate W1 (X y.1) _ _ _ b r d m s (y.1 : Int) _ (hI1.st.lev y.1 hyb) HRT.out s0 s1 (k / 2 ^ y.1) (shr_small hk64 _) x hx
        obtain ⟨curC, hC⟩ := (hI1.st.lev y.1 hyb).cells
        obtain ⟨capS3, hb3, -⟩ := hI1.st.box
        obtain ⟨cur3, hr3, -⟩ := hI1.st.row
        have HNE3 : Hid (∀ i ∈ [W.heap.size, W.heap.size + 1, S, L], i < W1.heap.size ∧ i ≠ C y.1) := Lib.hid (by
          have h1 := HT5.out; have h2 := HLT5.out; have h3 := hI1.top
          have n1 := hb3.ne_ hC (by decide)
          have n2 := hr3.ne_ hC (by decide)
          have n3 : C y.1 < W.heap.size := by
            obtain ⟨c2, h5⟩ := (HI.out.st.lev y.1 hyb).cells
            exact h5.lt
          intro i hi
          simp at hi
          omega)
        have HBN : Hid (w.heap.size ≠ C y.1) := Lib.hid (by have := HCL.out y.1 hyb; omega)
        have PUp2 : Calls Tryz.prog f #[.pointer (some ⟨A y.1, 0, none⟩), .int .u64 ((k : Int) / 2 ^ y.1), .int .i64 x] W1 fun e W2 => (∃ v, e = .returned v) ∧ KeepsOthers W1 W2 ∧ KpB [W.heap.size, W.heap.size + 1, S, L] W1 W2 ∧ UpdI w W2 base S L b r d m s X A G C Z w.heap.size w5.heap.size D x k (vals (pre ++ [y])) := by
          rw [show ((k / 2 ^ y.1 : Nat) : Int) = (k : Int) / 2 ^ y.1 by rw [Int.natCast_ediv, Int.natCast_pow]; rfl] at PUp
          refine PUp.mono (fun e W2 hp => ?_)
          have hp2 := hp
          obtain ⟨he, -, hg⟩ := hp2
          refine ⟨⟨_, he⟩, kept_others hg (fun g e => ⟨_, _, by cases e; exact hC⟩), KpB.of_grown hg (fun i hi => ⟨(HNE3.out i hi).1, by simpa using (HNE3.out i hi).2⟩), ?_⟩
          rw [vals_snoc]
          exact HI1.out.next (by have := HLT5.out; omega) hyb HBN.out hp
        have PUp2 := Lib.hid PUp2
        have q1 := hI1.num.cell 0
        simp at q1
        simp only [hX]
        clear hI1 hX PUp hC hb3 hr3
        gi_wp2_with fail
        refine ⟨trivial, ?_⟩
        with_reducible refine (CallsIn.inRound l (callsIn_wide.2 PUp2.out)).mono ?_
        rintro e W2 ⟨⟨v, rfl⟩, hp⟩
        have HP := Lib.hid hp
        clear hp q1
        gi_wp2
        exact HP.out
      case done2 =>
        intro D2 xs W2 hD2 hxs hI2 hK2
        subst hxs
        rw [vals_all] at hI2
        have hne : D ≠ D2 := by have := HT5.out; omega
        have g1 := grownBy_putObj' W2 D2 (.deferred none)
        have hK1 : (W2.putObj D2 (.deferred none)).heap[D]? = some (.deferred (some [])) := (World.putObj_heap_other hne).trans hI2.mark
        have g2 := grownBy_putObj' (W2.putObj D2 (.deferred none)) D (.deferred none)
        have HP : Hid (StUpPost w base S L b r d m s X A G C Z k x (.returned (.int .i64 0)) ((W2.putObj D2 (.deferred none)).putObj D (.deferred none))) := Lib.hid (by
          refine ⟨by rw [H0.out], ?_, ?_⟩
          · refine ((hI2.st.walked g1 (fun r e => by cases e; exact ⟨_, hK2, rfl⟩)).walked g2 (fun r e => by cases e; exact ⟨_, hK1, rfl⟩)).setC (fun n hn => ?_)
            have hc : (List.range (q + 1)).count n = 1 := by
              rw [HQ.out] at hn
              rw [count_upto, if_pos (by omega)]
            unfold stUpd
            rw [if_pos H0.out, hc]
            rfl
          · exact (hI2.gr.grown g1 (fun r e => .inl (by cases e; have := HT5.out; omega))).grown g2 (fun r e => .inl (by cases e; exact HDS.out)))
        have HK1 := Lib.hid hK1
        have HK2 := Lib.hid hK2
        clear hI2 g1 g2 hK1 hK2
        gi_wp2
        refine ⟨by simp, .inl ⟨_, _, rfl, run_takeDeferred HK2.out, by simp, .inl ⟨_, _, rfl, run_takeDeferred HK1.out, ?_⟩⟩⟩
        refine ⟨.int .i64 0, ?_, HP.out⟩
        simp [results, Tryz.results15, go_sem]
      case stop2 =>
        intro D c pre W _ _ h _
        exact h.elim
    · have n1 : (stErr b r d m s Z k x != 0) = true := by simp [h0]
      have HU : Hid (∀ n, stUpd b r d m s Z k x n = Z n) := Lib.hid (fun n => by unfold stUpd; rw [if_neg h0])
      have HP : Hid (StUpPost w base S L b r d m s X A G C Z k x (.returned (.int .i64 (stErr b r d m s Z k x))) (W.putObj D (.deferred none))) := Lib.hid
        ⟨rfl, (HI.out.st.walked (grownBy_putObj' W D _) (fun r e => by cases e; exact ⟨_, HK.out, rfl⟩)).setC (fun n _ => (HU.out n).symm), (RGr.of_below HI.out.bel).grown (grownBy_putObj' W D _) (fun r e => .inl (by cases e; exact HDS.out))⟩
      generalize stErr b r d m s Z k x = e0 at *
      clear h0
      gi_wp2
      refine ⟨by simp, .inl ⟨_, _, rfl, run_takeDeferred HK.out, ?_⟩⟩
      refine ⟨.int .i64 e0, ?_, HP.out⟩
      simp [results, Tryz.results15, go_sem]
  case stop =>
    intro D c pre W _ _ h _
    exact h.elim
theorem stupdate (w : World) (base S L : Nat) (b r d m s : Int) (X : Nat → Value) (A G C : Nat → Nat) (Z : Nat → List Int) (h : StIs w base S L b r d m s X A G C Z) (s0 : 0 ≤ s) (s1 : s ≤ 18446744073709551615) (k : Nat) (hk64 : k < 18446744073709551616) (x : Int) (hx : In64 x) :
    Calls Tryz.prog 15 #[.pointer (some ⟨S, 0, none⟩), .int .u64 (k : Int), .int .i64 x] w (StUpPost w base S L b r d m s X A G C Z k x) := by
  by_cases hk : keysI b r d m 0 ≤ (k : Int)
  · exact stupdate_key w base S L b r d m s X A G C Z h k x hk
  · exact stupdate_in w base S L b r d m s X A G C Z h s0 s1 k hk64 x hx (by omega)
end Go.Proofs.YtbghchgmoiniiaaGreat

/-
  Plain: a config and updates as an argument. Conditions: none beyond those stated at each theorem.
-/
namespace Go.Proofs.YtbghchgmoiniiaaGreat
open Go.RowKit
set_option linter.unusedVariables false
set_option linter.unusedSimpArgs false

/-- the slice l holds n updates: keys ks, numbers ds -/
def UpdsAt (w : World) (l : Value) (n : Nat) (ks : Nat → Nat) (ds : Nat → Int) : Prop :=
  ∃ (ao : Option Addr) (cap : Nat), l = .slice ao n cap ∧ n ≤ maxLen ∧ (∀ i, i < n → In64 (ds i) ∧ ks i < 18446744073709551616) ∧
    (0 < n → ∃ b off, ao = some ⟨b, off, none⟩ ∧ b < w.heap.size ∧ ∀ i, i < n → w.cell? ⟨b, off + i * 2, none⟩ = some (.int .u64 (ks i : Int)) ∧ w.cell? ⟨b, off + i * 2 + 1, none⟩ = some (.int .i64 (ds i)))
theorem UpdsAt.kept {w w' : World} {l : Value} {n : Nat} {ks : Nat → Nat} {ds : Nat → Int} (h : UpdsAt w l n ks ds) (hb : Below w.heap.size w w') : UpdsAt w' l n ks ds := by
  obtain ⟨ao, cap, e, hm, hu, h⟩ := h
  refine ⟨ao, cap, e, hm, hu, fun h0 => ?_⟩
  obtain ⟨b, off, e2, hlt, hc⟩ := h h0
  refine ⟨b, off, e2, Nat.lt_of_lt_of_le hlt hb.size, fun i hi => ?_⟩
  obtain ⟨c1, c2⟩ := hc i hi
  exact ⟨(hb.cell (p := ⟨b, off + i * 2, none⟩) hlt).trans c1, (hb.cell (p := ⟨b, off + i * 2 + 1, none⟩) hlt).trans c2⟩
def shUpd : Sh := .agg (.cons (.int .u64) (.cons (.int .i64) .unit))
theorem upds_of_val {w : World} {v : Value} (h : (Sh.slice shUpd).Val w v) : ∃ n ks ds, UpdsAt w v n ks ds := by
  obtain ⟨ao, len, cap, h1, hl, hm, hx⟩ := h
  have h1 : v = .slice ao len cap := by simpa using h1
  subst h1
  by_cases h0 : 0 < len
  · obtain ⟨b, off, rfl, hb, hc⟩ := hx h0
    have key : ∀ i, i < len → ∃ (k : Nat) (z : Int), (In64 z ∧ k < 18446744073709551616) ∧ w.cell? ⟨b, off + i * 2, none⟩ = some (.int .u64 (k : Int)) ∧ w.cell? ⟨b, off + i * 2 + 1, none⟩ = some (.int .i64 z) := by
      intro i hi
      obtain ⟨c0, hcl, hcell, hr⟩ := hc i hi
      obtain ⟨k, d1, rfl, hk, hr⟩ := Sh.reads_int hr
      obtain ⟨z, d3, rfl, hz, hr⟩ := Sh.reads_int hr
      have e : shUpd.size = 2 := rfl
      have a0 := hcell 0 (by decide)
      have a1 := hcell 1 (by decide)
      rw [e] at a0 a1
      simp [Lit.wf, IntKind.min, IntKind.max, IntKind.signed, IntKind.bits] at hz hk
      refine ⟨k.toNat, z, ⟨⟨by omega, by omega⟩, by omega⟩, ?_, by simpa [Nat.add_assoc] using a1⟩
      rw [Int.toNat_of_nonneg (by omega)]
      simpa using a0
    refine ⟨len, fun i => if h : i < len then (key i h).choose else 0, fun i => if h : i < len then (key i h).choose_spec.choose else 0, some ⟨b, off, none⟩, cap, rfl, by omega, fun i hi => ?_, fun _ => ⟨b, off, rfl, hb, fun i hi => ?_⟩⟩
    · simp only [dif_pos hi]; exact (key i hi).choose_spec.choose_spec.1
    · simp only [dif_pos hi]; exact (key i hi).choose_spec.choose_spec.2
  · obtain rfl : len = 0 := by omega
    exact ⟨0, fun _ => 0, fun _ => 0, ao, cap, rfl, by omega, fun i hi => by omega, fun h => by omega⟩
/-- a config, and updates -/
def shPlay : Sh := .agg (.cons shCfg (.cons (.slice shUpd) .unit))
theorem valPlay {w : World} {v : Value} (h : shPlay.Val w v) : ∃ b r d m s l n ks ds, v = .agg #[.int .i64 b, .int .i64 r, .int .i64 d, .int .i64 m, .int .u64 s, l] ∧ UpdsAt w l n ks ds ∧ In64 b ∧ In64 r ∧ In64 d ∧ In64 m ∧ 0 ≤ s ∧ s ≤ 18446744073709551615 := by
  obtain ⟨cs, rfl, h⟩ := h
  obtain ⟨c, q, e, hc, h⟩ := Sh.reads_agg h
  obtain ⟨b, q1, rfl, hb, h2⟩ := Sh.reads_int hc
  obtain ⟨r, q2, rfl, hr, h3⟩ := Sh.reads_int h2
  obtain ⟨d, q3, rfl, hd, h4⟩ := Sh.reads_int h3
  obtain ⟨m, q4, rfl, hm, h5⟩ := Sh.reads_int h4
  obtain ⟨s, q5, rfl, hs, h6⟩ := Sh.reads_int h5
  obtain rfl := Sh.reads_unit h6
  obtain ⟨l, q7, rfl, hl, h⟩ := Sh.reads_slice h
  obtain rfl := Sh.reads_unit h
  obtain ⟨n, ks, ds, hs2⟩ := upds_of_val hl
  simp [Lit.wf, IntKind.min, IntKind.max, IntKind.signed, IntKind.bits] at hb hr hd hm hs
  exact ⟨b, r, d, m, s, l, n, ks, ds, by rw [agg_of_list e]; rfl, hs2, ⟨by omega, by omega⟩, ⟨by omega, by omega⟩, ⟨by omega, by omega⟩, ⟨by omega, by omega⟩, by omega, by omega⟩
end Go.Proofs.YtbghchgmoiniiaaGreat

/-
  A stack beside the document's. Conditions: none beyond those stated at each theorem.
-/
namespace Go.Proofs.YtbghchgmoiniiaaGreat
open Go.RowKit
set_option linter.unusedVariables false
set_option linter.unusedSimpArgs false

/-- S is a stack, RS the document's of the same config and cells; nothing is shared; all of it lies from n0 on -/
def Two (w : World) (n0 S RS : Nat) (b r d m s : Int) (Z : Nat → List Int) : Prop :=
  ∃ L X A G C RL P F h1, StIs w n0 S L b r d m s X A G C Z ∧ RStIs w h1 RS RL b r d m s P F Z ∧ (∀ n, n ≤ b.toNat → C n < h1) ∧ h1 ≤ w.heap.size ∧ n0 ≤ h1 ∧ n0 ≤ S ∧ n0 ≤ RS
theorem Two.kept {w w' : World} {n0 S RS : Nat} {b r d m s : Int} {Z : Nat → List Int} (h : Two w n0 S RS b r d m s Z) (hb : Below w.heap.size w w') : Two w' n0 S RS b r d m s Z := by
  obtain ⟨L, X, A, G, C, RL, P, F, h1, hs, hr, hc, ht, hn, hS, hR⟩ := h
  exact ⟨L, X, A, G, C, RL, P, F, h1, hs.kept hb, hr.kept hb, hc, Nat.le_trans ht hb.size, hn, hS, hR⟩
theorem Two.right {w : World} {n0 S RS : Nat} {b r d m s : Int} {Z : Nat → List Int} (h : Two w n0 S RS b r d m s Z) : rightB b r d m = true := by
  obtain ⟨L, X, A, G, C, RL, P, F, h1, hs, -⟩ := h
  exact hs.right
theorem Two.fit {w : World} {n0 S RS : Nat} {b r d m s : Int} {Z : Nat → List Int} (h : Two w n0 S RS b r d m s Z) : ∀ n, n ≤ b.toNat → Fit (Z n) ∧ (Z n).length = cellsN b r d m n := by
  obtain ⟨L, X, A, G, C, RL, P, F, h1, hs, -⟩ := h
  exact fun n hn => ⟨(hs.lev n hn).fit, (hs.lev n hn).len⟩
theorem Two.ltS {w : World} {n0 S RS : Nat} {b r d m s : Int} {Z : Nat → List Int} (h : Two w n0 S RS b r d m s Z) : S < w.heap.size ∧ RS < w.heap.size := by
  obtain ⟨L, X, A, G, C, RL, P, F, h1, hs, hr, -⟩ := h
  obtain ⟨cap, hx, -⟩ := hr.box
  exact ⟨hs.ltS, hx.lt⟩
/-- the document's stack is not touched by what changes a stack's cells alone -/
theorem RStIs.other {w w' : World} {h1 RS RL : Nat} {b r d m s : Int} {P : Nat → Nat} {F : Nat → Nat → Prop} {Z : Nat → List Int} {C : Nat → Nat} (hr : RStIs w h1 RS RL b r d m s P F Z) (hc : ∀ n, n ≤ b.toNat → C n < h1) (hC : ∀ n, n ≤ b.toNat → ∃ cur, Blk w (C n) 2 cur) (g : RGr w w' C (b.toNat + 1)) : RStIs w' h1 RS RL b r d m s P F Z := by
  obtain ⟨cap, h2, h3⟩ := hr.box
  obtain ⟨cur, h4, h5⟩ := hr.row
  have key : ∀ {q : Nat} {t : TypeId} {cs : Array Value}, Blk w q t cs → t ≠ 2 → Blk w' q t cs := fun {q t cs} hb ht => (g.block q hb.lt (fun n hn e => by
    obtain ⟨cu, hcu⟩ := hC n (by omega)
    rw [← e] at hcu
    exact hb.ne_ hcu ht rfl)).trans hb
  refine ⟨⟨cap, key h2 (by decide), h3⟩, hr.right, ⟨cur, key h4 (by decide), h5⟩, fun n hn => (hr.lev n hn).frame (fun k hk => g.block k (hr.fin n k hn hk).2 (fun j hj e => ?_)), fun n k hn hk => ?_, hr.apart, hr.out⟩
  · have := hc j (by omega)
    have := (hr.fin n k hn hk).1
    omega
  · have := hr.fin n k hn hk
    have := g.size
    omega
theorem StUpPost.below {w w' : World} {n0 S L : Nat} {b r d m s : Int} {X : Nat → Value} {A G C : Nat → Nat} {Z : Nat → List Int} {k : Nat} {x : Int} {e : Ending} (hs : StIs w n0 S L b r d m s X A G C Z) (hn : n0 ≤ w.heap.size) (p : StUpPost w n0 S L b r d m s X A G C Z k x e w') : Below n0 w w' :=
  ⟨p.2.2.os, p.2.2.tape, p.2.2.output, p.2.2.size, fun k hk => p.2.2.block k (by omega) (fun n hn e => by have := hs.low n (by omega); omega)⟩
/-- what is no cells of a level stays -/
theorem StUpPost.far {w w' : World} {n0 S L g : Nat} {t : TypeId} {cs : Array Value} {b r d m s : Int} {X : Nat → Value} {A G C : Nat → Nat} {Z : Nat → List Int} {k : Nat} {x : Int} {e : Ending} (hs : StIs w n0 S L b r d m s X A G C Z) (p : StUpPost w n0 S L b r d m s X A G C Z k x e w') (hb : Blk w g t cs) (ht : t ≠ 2) : Blk w' g t cs :=
  (p.2.2.block g hb.lt (fun n hn e => by
    obtain ⟨cu, hcu⟩ := (hs.lev n (by omega)).cells
    rw [← e] at hcu
    exact hb.ne_ hcu ht rfl)).trans hb
/-- both are updated by the same -/
theorem Two.step {w w1 w1' w2 : World} {n0 S RS : Nat} {b r d m s : Int} {Z : Nat → List Int} {k : Nat} {x : Int} {L : Nat} {X : Nat → Value} {A G C : Nat → Nat} {RL : Nat} {P : Nat → Nat} {F : Nat → Nat → Prop} {h1 : Nat} {e1 e2 : Ending}
    (hr : RStIs w h1 RS RL b r d m s P F Z) (hs : StIs w n0 S L b r d m s X A G C Z) (hc : ∀ n, n ≤ b.toNat → C n < h1) (ht : h1 ≤ w.heap.size) (hn : n0 ≤ h1) (hS : n0 ≤ S) (hR : n0 ≤ RS)
    (p1 : StUpPost w n0 S L b r d m s X A G C Z k x e1 w1) (hb : Below w1.heap.size w1 w1') (p2 : RStUpPost w1' h1 RS b r d m s Z k x e2 w2) : Two w2 n0 S RS b r d m s (stUpd b r d m s Z k x) ∧ Below n0 w w2 := by
  have hbel := p1.below hs (by omega)
  obtain ⟨-, q1, q2⟩ := p1
  obtain ⟨RL2, P2, F2, -, r1, r2⟩ := p2
  have hrs1 := (hr.other hc (fun n hn => (hs.lev n hn).cells) q2).kept hb
  obtain ⟨cap, hx, -⟩ := hrs1.box
  refine ⟨⟨L, X, A, G, C, RL2, P2, F2, h1, (q1.kept hb).far hx (by decide) (by decide) r2, r1, hc, Nat.le_trans ht (Nat.le_trans q2.size (Nat.le_trans hb.size r2.size)), hn, hS, hR⟩, ?_⟩
  have h3 : Below n0 w w1' := hbel.trans (hb.mono (by have := q2.size; omega))
  exact h3.grown r2 (by have := h3.size; omega) (fun k e => by have := Option.some.inj e; omega)
end Go.Proofs.YtbghchgmoiniiaaGreat

/-
  The walk of made: a stack, and the document's, of any config, behind any updates. Conditions: none beyond those stated at each theorem.
-/
namespace Go.Proofs.YtbghchgmoiniiaaGreat
open Go.RowKit
set_option linter.unusedVariables false
set_option linter.unusedSimpArgs false

theorem any_right (b r d m p : Int) (p0 : 1 ≤ p) (p1 : p ≤ 59) : rightB (anyI b p) (anyI r 4) (anyI d 9) (anyI m 3) = true := by
  have h1 := anyI_bd b p p0
  have h2 := anyI_bd r 4 (by decide)
  have h3 := anyI_bd d 9 (by decide)
  have h4 := anyI_bd m 3 (by decide)
  exact right_mk (by omega)
def MadePost (w : World) (b r d m s : Int) (e : Ending) (w' : World) : Prop :=
  ∃ S RS Z, e = .returned (.tuple #[.pointer (some ⟨S, 0, none⟩), .pointer (some ⟨RS, 0, none⟩)]) ∧ Two w' w.heap.size S RS b r d m s Z ∧ Below w.heap.size w w'
/-- what lies between two updates -/
structure MadeI (w wr : World) (XB : Nat) (xs : Array Value) (S RS : Nat) (b r d m s : Int) (Z : Nat → List Int) : Prop where
  two : Two wr w.heap.size S RS b r d m s Z
  box : Blk wr XB 27 xs
  bel : Below w.heap.size w wr
set_option maxRecDepth 100000 in
set_option maxHeartbeats 8000000 in
theorem made_any (xb xr xd xm s : Int) (l : Value) (n : Nat) (ks : Nat → Nat) (ds : Nat → Int) (p : Int) (p0 : 1 ≤ p) (p1 : p ≤ 59) (s0 : 0 ≤ s) (s1 : s ≤ 18446744073709551615) (w : World) (hl : UpdsAt w l n ks ds) :
    Calls Tryz.prog 7 #[.agg #[.int .i64 xb, .int .i64 xr, .int .i64 xd, .int .i64 xm, .int .u64 s, l], .int .i64 p] w (MadePost w (anyI xb p) (anyI xr 4) (anyI xd 9) (anyI xm 3) s) := by
  have HL := Lib.hid hl
  obtain ⟨ao, cap, rfl, hmx, hd64, hcells⟩ := hl
  have HCL := Lib.hid hcells
  have HD64 := Lib.hid hd64
  clear hcells hd64
  have PA := Lib.hid (fun w => any_any xb xr xd xm s p 9 p0 p1 (by decide) (by decide) w)
  have HR := Lib.hid (any_right xb xr xd xm p p0 p1)
  obtain ⟨b, hb⟩ : ∃ b, b = anyI xb p := ⟨_, rfl⟩
  obtain ⟨r, hr⟩ : ∃ r, r = anyI xr 4 := ⟨_, rfl⟩
  obtain ⟨d, hd⟩ : ∃ d, d = anyI xd 9 := ⟨_, rfl⟩
  obtain ⟨m, hm⟩ : ∃ m, m = anyI xm 3 := ⟨_, rfl⟩
  rw [← hb, ← hr, ← hd, ← hm] at PA HR ⊢
  clear hb hr hd hm
  have PS := Lib.hid (fun w => stnew_yes b r d m s HR.out w)
  have PR := Lib.hid (fun w => rstnew b r d m s HR.out w)
  obtain ⟨g1, hb1, hsz1⟩ := news1 w (.cells #[.int .i64 xb, .int .i64 xr, .int .i64 xd, .int .i64 xm, .int .u64 s, .slice ao n cap] 27)
  have hx1 : Blk _ w.heap.size 27 #[.int .i64 xb, .int .i64 xr, .int .i64 xd, .int .i64 xm, .int .u64 s, .slice ao n cap] := g1
  have HX1 := Lib.hid hx1
  have HB1 := Lib.hid hb1
  have q0 := hx1.cell 0
  have q1 := hx1.cell 1
  have q2 := hx1.cell 2
  have q3 := hx1.cell 3
  have q4 := hx1.cell 4
  simp at q0 q1 q2 q3 q4
  clear g1 hx1 hb1 hsz1 HL p0 p1
  go_enter Tryz.func7, Tryz.ntmps7
  go_wp2_with fail
  generalize (w.alloc (.cells #[.int .i64 xb, .int .i64 xr, .int .i64 xd, .int .i64 xm, .int .u64 s, .slice ao n cap] 27)) = w1 at *
  with_reducible refine (PA.out _).mono ?_
  rintro e w2 ⟨rfl, hb⟩
  have HX2 := Lib.hid ((HX1.out.kept hb).alloc (.cells #[.int .i64 b, .int .i64 r, .int .i64 d, .int .i64 m, .int .u64 s] 24))
  have hc : Blk (w2.alloc (.cells #[.int .i64 b, .int .i64 r, .int .i64 d, .int .i64 m, .int .u64 s] 24)) w2.heap.size 24 #[.int .i64 b, .int .i64 r, .int .i64 d, .int .i64 m, .int .u64 s] := Blk.new w2 _ _
  have HB2 := Lib.hid ((btr HB1.out hb).alloc (btr HB1.out hb).size (.cells #[.int .i64 b, .int .i64 r, .int .i64 d, .int .i64 m, .int .u64 s] 24))
  clear hb q0 q1 q2 q3 q4
  go_wp2_with (refine wpList_load_row rfl 24 _ rfl w2.heap.size rfl 24 _ (0, 0) _ hc Tryz.underlying24 rfl (by kernel_rfl) ?_)
  generalize (w2.alloc (.cells #[.int .i64 b, .int .i64 r, .int .i64 d, .int .i64 m, .int .u64 s] 24)) = w2' at *
  with_reducible refine (PS.out _).mono ?_
  rintro e w3 ⟨S, L, X, A, G, C, rfl, hS, hst, hb⟩
  have hc2 := hc.kept hb
  have HX3 := Lib.hid (HX2.out.kept hb)
  have HB3 := Lib.hid (btr HB2.out hb)
  have HST3 := Lib.hid (hst.low_ HB2.out.size)
  have HS3 : Hid (w.heap.size ≤ S) := Lib.hid (Nat.le_trans HB2.out.size hS)
  clear hb hc hst hS
  go_wp2_with (refine wpList_load_row rfl 24 _ rfl w2.heap.size rfl 24 _ (0, 0) _ hc2 Tryz.underlying24 rfl (by kernel_rfl) ?_)
  with_reducible refine (PR.out _).mono ?_
  rintro e w4 ⟨RS, RL, P, F, rfl, hRS, hrst, hb⟩
  have HX4 := Lib.hid (HX3.out.kept hb)
  have HB4 := Lib.hid (btr HB3.out hb)
  have HTWO : Hid (Two w4 w.heap.size S RS b r d m s (zeroZ b r d m)) := Lib.hid ⟨L, X, A, G, C, RL, P, F, w3.heap.size, HST3.out.kept hb, hrst, fun j hj => (HST3.out.lev j hj).ltC, hb.size, HB3.out.size, HS3.out, Nat.le_trans HB3.out.size hRS⟩
  have HI4 : Hid (MadeI w w4 w.heap.size #[.int .i64 xb, .int .i64 xr, .int .i64 xd, .int .i64 xm, .int .u64 s, .slice ao n cap] S RS b r d m s (zeroZ b r d m)) := Lib.hid ⟨HTWO.out, HX4.out, HB4.out⟩
  clear hb hc2 hrst hRS HX2 HX3 HX4 HB2 HB3 HB4 HST3 HTWO
  go_wp2_with fail
  go_loopw [10] (fun i wr => ∃ (j : Nat) (Z : Nat → List Int), j ≤ 30 ∧ j ≤ n ∧ i = .int .i64 (j : Int) ∧ MadeI w wr w.heap.size #[.int .i64 xb, .int .i64 xr, .int .i64 xd, .int .i64 xm, .int .u64 s, .slice ao n cap] S RS b r d m s Z) (fun i _ => 30 - (intOf i).toNat)
  case atStart => exact ⟨0, _, by omega, by omega, rfl, HI4.out⟩
  case round =>
    obtain ⟨j, Z, hj, hjn, rfl, hI⟩ := hrel
    have HI := Lib.hid hI
    have q5 := hI.box.cell 5
    simp at q5
    clear HI4
    by_cases hlt : j < n ∧ j < 30
    · obtain ⟨h1, h2⟩ := hlt
      obtain ⟨bb, off, rfl, hbb, hcc⟩ := HCL.out (by omega)
      obtain ⟨u0, u1⟩ := hcc j h1
      obtain ⟨hd64, hk64⟩ := HD64.out j h1
      have HU0 : Hid (∀ w', Below w.heap.size w w' → w'.cell? ⟨bb, off + j * 2, none⟩ = some (.int .u64 (ks j : Int))) := Lib.hid (fun w' hb => (hb.cell (p := ⟨bb, off + j * 2, none⟩) hbb).trans u0)
      have HU1 : Hid (∀ w', Below w.heap.size w w' → w'.cell? ⟨bb, off + j * 2 + 1, none⟩ = some (.int .i64 (ds j))) := Lib.hid (fun w' hb => (hb.cell (p := ⟨bb, off + j * 2 + 1, none⟩) hbb).trans u1)
      generalize ks j = kj at *
      generalize ds j = dj at *
      clear u0 u1 hcc hI
      have d1 : (j : Int) < (n : Int) := by omega
      have d2 : (j : Int) < 30 := by omega
      have d0 : (0 : Int) ≤ (j : Int) := by omega
      go_wp2_with fail
      refine wp_region_still_tail 13 (by kernel_rfl) (by kernel_rfl) ?_
      simp only [List.take_succ_cons, List.take_zero, List.drop_succ_cons, List.drop_zero]
      have HID : Hid (MadeI w { heap := wr.heap, tape := wr.tape, drawn := wr.drawn + 1, os := wr.os, output := wr.output } w.heap.size #[.int .i64 xb, .int .i64 xr, .int .i64 xd, .int .i64 xm, .int .u64 s, .slice (some ⟨bb, off, none⟩) n cap] S RS b r d m s Z) := Lib.hid ⟨HI.out.two.kept (below_drewN (Below.refl _ _) 1), HI.out.box.drew, below_drewN HI.out.bel 1⟩
      generalize ({ heap := wr.heap, tape := wr.tape, drawn := wr.drawn + 1, os := wr.os, output := wr.output } : World) = wd at *
      have q6 := HID.out.box.cell 5
      have u0 := HU0.out _ HID.out.bel
      have u1 := HU1.out _ HID.out.bel
      simp at q6
      clear q5
      repeat still_step
      refine wpStill_nil ?_
      obtain ⟨L, X, A, G, C, RL, P, F, hh, hs, hr, hc, ht, hn0, hS, hR⟩ := HID.out.two
      have P1 := Lib.hid (stupdate wd w.heap.size S L b r d m s X A G C Z hs s0 s1 kj hk64 dj hd64)
      have HS := Lib.hid hs
      have HRR := Lib.hid hr
      have HSEP : Hid ((∀ n, n ≤ b.toNat → C n < hh) ∧ hh ≤ wd.heap.size ∧ w.heap.size ≤ hh ∧ w.heap.size ≤ S ∧ w.heap.size ≤ RS) := Lib.hid ⟨hc, ht, hn0, hS, hR⟩
      clear hs hr hc ht hn0 hS hR u0 u1 q6
      go_wp2_with fail
      with_reducible refine P1.out.mono ?_
      intro e w5 hp
      have hq := hp.1
      subst hq
      have HP1 := Lib.hid hp
      have HB5 : Hid (Below w.heap.size w w5) := Lib.hid (HID.out.bel.trans (hp.below HS.out (by have := HID.out.bel.size; exact this)))
      have HX5 : Hid (Blk w5 w.heap.size _ _) := Lib.hid (hp.far HS.out HID.out.box (by decide))
      clear hp
      go_wp2_with fail
      refine wp_region_still_tail 13 (by kernel_rfl) (by kernel_rfl) ?_
      simp only [List.take_succ_cons, List.take_zero, List.drop_succ_cons, List.drop_zero]
      have HB6 : Hid (Below w.heap.size w { heap := w5.heap, tape := w5.tape, drawn := w5.drawn + 1, os := w5.os, output := w5.output }) := Lib.hid (below_drewN HB5.out 1)
      have HB56 : Hid (Below w5.heap.size w5 { heap := w5.heap, tape := w5.tape, drawn := w5.drawn + 1, os := w5.os, output := w5.output }) := Lib.hid (below_drewN (Below.refl _ _) 1)
      generalize ({ heap := w5.heap, tape := w5.tape, drawn := w5.drawn + 1, os := w5.os, output := w5.output } : World) = we at *
      have HX6 := Lib.hid (HX5.out.kept HB56.out)
      have q6 := HX6.out.cell 5
      have u0 := HU0.out _ HB6.out
      have u1 := HU1.out _ HB6.out
      simp at q6
      repeat still_step
      refine wpStill_nil ?_
      have hr6 := (HRR.out.other HSEP.out.1 (fun n hn => (HS.out.lev n hn).cells) HP1.out.2.2).kept HB56.out
      have P2 := Lib.hid (rstupdate we hh RS RL b r d m s P F Z hr6 (by have := HSEP.out.2.1; have h5 := HP1.out.2.2.size; have h6 := HB56.out.size; omega) (fun n hn => (HS.out.lev n hn).fit) s0 s1 kj hk64 dj hd64)
      clear hr6 u0 u1 q6
      go_wp2_with fail
      with_reducible refine P2.out.mono ?_
      intro e w7 hp
      have hq := hp
      obtain ⟨RL7, P7, F7, he, -, hg7⟩ := hq
      subst he
      obtain ⟨c1, c2, c3, c4, c5⟩ := HSEP.out
      have hfin := Two.step HRR.out HS.out c1 c2 c3 c4 c5 HP1.out HB56.out hp
      have HN : Hid (MadeI w w7 w.heap.size #[.int .i64 xb, .int .i64 xr, .int .i64 xd, .int .i64 xm, .int .u64 s, .slice (some ⟨bb, off, none⟩) n cap] S RS b r d m s (stUpd b r d m s Z kj dj)) := Lib.hid ⟨hfin.1, HX6.out.grown hg7 (by
        obtain ⟨cpr, hxr, -⟩ := (HRR.out.other c1 (fun n hn => (HS.out.lev n hn).cells) HP1.out.2.2).box
        simpa using HX5.out.ne_ hxr (by decide)), HID.out.bel.trans hfin.2⟩
      clear hp hfin hg7 c1 c2 c3 c4 c5
      go_wp2
      go_roundw
      case rel => exact ⟨j + 1, _, by omega, by omega, by go_num, HN.out⟩
      case measure => simp [intOf]; omega
    · by_cases h1 : j < n
      · have d1 : (j : Int) < (n : Int) := by omega
        have d2 : ¬ (j : Int) < 30 := by omega
        have d3 : decide ((j : Int) < 30) = false := decide_eq_false d2
        clear hI hlt
        go_wp2
        go_ret2
        exact ⟨S, RS, Z, rfl, HI.out.two, HI.out.bel⟩
      · have d1 : ¬ (j : Int) < (n : Int) := by omega
        have d3 : decide (j < n) = false := decide_eq_false h1
        have d4 : decide ((j : Int) < (n : Int)) = false := decide_eq_false d1
        clear hI hlt
        go_wp2
        go_ret2
        exact ⟨S, RS, Z, rfl, HI.out.two, HI.out.bel⟩
end Go.Proofs.YtbghchgmoiniiaaGreat
