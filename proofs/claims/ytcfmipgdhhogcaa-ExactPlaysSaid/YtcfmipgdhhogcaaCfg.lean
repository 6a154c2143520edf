/-
  The walks of gaugerref07.Any and of the laws' top; a config as an argument. Conditions: none beyond those stated at each theorem.
-/
import Derived.Test.YtcfmipgdhhogcaaShpX
import Derived.Test.YtcfmipgdhhogcaaSh
import Derived.Test.YtcfmipgdhhogcaaLngW
import Derived.Deep.RegionHeld3
import Derived.StillTailTactics
import Derived.OpenShut
namespace Go.Proofs.Ytcfmipgdhhogcaa
open Go.RowKit Go.ChangeShapes Go.WideShapes Go.ChangeAt
set_option linter.unusedVariables false
set_option linter.unusedSimpArgs false
def shCfg : Sh := .agg (.cons (.int .i64) (.cons (.int .i64) (.cons (.int .i64) (.cons (.int .i64) (.cons (.int .u64) .unit)))))
theorem valCfg {w : World} {v : Value} (h : shCfg.Val w v) : ∃ b r d m s : Int, v = .agg #[.int .i64 b, .int .i64 r, .int .i64 d, .int .i64 m, .int .u64 s] ∧
    (Lit.int .i64 b).wf = true ∧ (Lit.int .i64 r).wf = true ∧ (Lit.int .i64 d).wf = true ∧ (Lit.int .i64 m).wf = true ∧ (Lit.int .u64 s).wf = true := by
  obtain ⟨cs, rfl, h1⟩ := h
  obtain ⟨b, q, e, wb, h2⟩ := Sh.reads_int h1
  obtain ⟨r, q, rfl, wr, h3⟩ := Sh.reads_int h2
  obtain ⟨d, q, rfl, wd, h4⟩ := Sh.reads_int h3
  obtain ⟨m, q, rfl, wm, h5⟩ := Sh.reads_int h4
  obtain ⟨s, q, rfl, ws, h6⟩ := Sh.reads_int h5
  obtain rfl := Sh.reads_unit h6
  exact ⟨b, r, d, m, s, by rw [agg_of_list e], wb, wr, wd, wm, ws⟩

def anyI (x n : Int) : Int := 1 + x % 65536 % n
theorem anyI_bd (x n : Int) (h : 1 ≤ n) : 1 ≤ anyI x n ∧ anyI x n ≤ n := by
  unfold anyI
  have h1 := Int.emod_nonneg (x % 65536) (show n ≠ 0 by omega)
  have h2 := Int.emod_lt_of_pos (x % 65536) (show 0 < n by omega)
  omega
theorem and16 (n : Int) : bits BinOp.and IntKind.i64 n 65535 = n % 65536 := by
  have h16 : (BitVec.ofInt 64 65535).toNat = 2 ^ 16 - 1 := by decide
  have key : (BitVec.ofInt 64 n &&& BitVec.ofInt 64 65535).toNat = (n % ((2 ^ 64 : Nat) : Int)).toNat % 2 ^ 16 := by
    rw [BitVec.toNat_and, BitVec.toNat_ofInt, h16, Nat.and_two_pow_sub_one_eq_mod]
  show IntKind.i64.wrap ((BitVec.ofInt 64 n &&& BitVec.ofInt 64 65535).toNat : Nat) = n % 65536
  rw [key, IntKind.wrap_i64]
  omega

set_option maxRecDepth 100000 in
set_option maxHeartbeats 1000000 in
theorem any_any (b r d m s p q : Int) (p0 : 1 ≤ p) (p1 : p ≤ 59) (q0 : 1 ≤ q) (q1 : q ≤ 128) (w : World) :
    Calls Try.prog 15 #[.agg #[.int .i64 b, .int .i64 r, .int .i64 d, .int .i64 m, .int .u64 s], .int .i64 p, .int .i64 q] w fun e w' =>
      e = .returned (.agg #[.int .i64 (anyI b p), .int .i64 (anyI r 4), .int .i64 (anyI d q), .int .i64 (anyI m 3), .int .u64 s]) ∧ Below w.heap.size w w' := by
  have e1 := and16 b
  have e2 := and16 r
  have e3 := and16 d
  have e4 := and16 m
  have z1 := Int.emod_nonneg (b % 65536) (show p ≠ 0 by omega)
  have z2 := Int.emod_lt_of_pos (b % 65536) (show 0 < p by omega)
  have z3 := Int.emod_nonneg (d % 65536) (show q ≠ 0 by omega)
  have z4 := Int.emod_lt_of_pos (d % 65536) (show 0 < q by omega)
  have y1 : (p == 0) = false := by simp; omega
  have y2 : (q == 0) = false := by simp; omega
  have t1 : (b % 65536).tmod p = b % 65536 % p := Int.tmod_eq_emod_of_nonneg (by omega)
  have t2 : (r % 65536).tmod 4 = r % 65536 % 4 := Int.tmod_eq_emod_of_nonneg (by omega)
  have t3 : (d % 65536).tmod q = d % 65536 % q := Int.tmod_eq_emod_of_nonneg (by omega)
  have t4 : (m % 65536).tmod 3 = m % 65536 % 3 := Int.tmod_eq_emod_of_nonneg (by omega)
  have u1 : IntKind.i64.wrap (b % 65536 % p) = b % 65536 % p := IntWalk.i64_in _ (by omega)
  have u2 : IntKind.i64.wrap (r % 65536 % 4) = r % 65536 % 4 := IntWalk.i64_in _ (by omega)
  have u3 : IntKind.i64.wrap (d % 65536 % q) = d % 65536 % q := IntWalk.i64_in _ (by omega)
  have u4 : IntKind.i64.wrap (m % 65536 % 3) = m % 65536 % 3 := IntWalk.i64_in _ (by omega)
  have v1 : IntKind.i64.wrap (1 + b % 65536 % p) = 1 + b % 65536 % p := IntWalk.i64_in _ (by omega)
  have v2 : IntKind.i64.wrap (1 + r % 65536 % 4) = 1 + r % 65536 % 4 := IntWalk.i64_in _ (by omega)
  have v3 : IntKind.i64.wrap (1 + d % 65536 % q) = 1 + d % 65536 % q := IntWalk.i64_in _ (by omega)
  have v4 : IntKind.i64.wrap (1 + m % 65536 % 3) = 1 + m % 65536 % 3 := IntWalk.i64_in _ (by omega)
  have p0' : ¬ p = 0 := by omega
  have q0' : ¬ q = 0 := by omega
  go_enter Try.func15, Try.ntmps15
  go_wp2_with fail
  have hk : Blk ((w.alloc (.cells #[.int .i64 b, .int .i64 r, .int .i64 d, .int .i64 m, .int .u64 s] 24)).alloc (.cells #[.int .i64 0, .int .i64 0, .int .i64 0, .int .i64 0, .int .u64 0] 24)) w.heap.size 24 #[.int .i64 b, .int .i64 r, .int .i64 d, .int .i64 m, .int .u64 s] := (Blk.new _ _ _).alloc _
  have hn : Blk ((w.alloc (.cells #[.int .i64 b, .int .i64 r, .int .i64 d, .int .i64 m, .int .u64 s] 24)).alloc (.cells #[.int .i64 0, .int .i64 0, .int .i64 0, .int .i64 0, .int .u64 0] 24)) (w.heap.size + 1) 24 #[.int .i64 0, .int .i64 0, .int .i64 0, .int .i64 0, .int .u64 0] := by
    have := Blk.new (w.alloc (.cells #[.int .i64 b, .int .i64 r, .int .i64 d, .int .i64 m, .int .u64 s] 24)) 24 #[.int .i64 0, .int .i64 0, .int .i64 0, .int .i64 0, .int .u64 0]
    simpa using this
  have hbel : Below w.heap.size w ((w.alloc (.cells #[.int .i64 b, .int .i64 r, .int .i64 d, .int .i64 m, .int .u64 s] 24)).alloc (.cells #[.int .i64 0, .int .i64 0, .int .i64 0, .int .i64 0, .int .u64 0] 24)) := ((Below.refl _ _).alloc (Nat.le_refl _) _).alloc (by simp) _
  generalize ((w.alloc (.cells #[.int .i64 b, .int .i64 r, .int .i64 d, .int .i64 m, .int .u64 s] 24)).alloc (.cells #[.int .i64 0, .int .i64 0, .int .i64 0, .int .i64 0, .int .u64 0] 24)) = wz at *
  refine wp_region_still_tail 25 (by kernel_rfl) (by kernel_rfl) ?_
  simp only [List.take_succ_cons, List.take_zero, List.drop_succ_cons, List.drop_zero]
  replace hk := hk.drew
  replace hn := hn.drew
  replace hbel := hbel.drew
  change Blk { heap := wz.heap, tape := wz.tape, drawn := wz.drawn + 1, os := wz.os, output := wz.output } _ _ _ at hk
  change Blk { heap := wz.heap, tape := wz.tape, drawn := wz.drawn + 1, os := wz.os, output := wz.output } _ _ _ at hn
  change Below _ _ { heap := wz.heap, tape := wz.tape, drawn := wz.drawn + 1, os := wz.os, output := wz.output } at hbel
  generalize ({ heap := wz.heap, tape := wz.tape, drawn := wz.drawn + 1, os := wz.os, output := wz.output } : World) = wd at *
  obtain ⟨c0, c1, c2, c3, c4⟩ := box_cells hk
  repeat still_step
  refine wpStill_nil ?_
  obtain ⟨n0, n1, n2, n3, n4⟩ := box_cells hn
  have f0 := hn.frozen 0
  have f1 := hn.frozen 1
  have f2 := hn.frozen 2
  have f3 := hn.frozen 3
  have f4 := hn.frozen 4
  generalize hG : w.heap.size + 1 = G at *
  go_wp2
  refine bodyPost_ret (v := .agg #[.int .i64 (anyI b p), .int .i64 (anyI r 4), .int .i64 (anyI d q), .int .i64 (anyI m 3), .int .u64 s]) (by simp [results, Try.results15, go_sem, n0, n1, n2, n3, n4]; exact ⟨rfl, by unfold anyI; omega, rfl, rfl⟩) rfl ⟨rfl, ?_⟩
  have hlow : w.heap.size ≤ G := by omega
  exact ((((hbel.setCell hlow _).setCell hlow _).setCell hlow _).setCell hlow _).setCell hlow _

section
variable {P : Program}
theorem wpList_load_row_g {ops : Array Oper} {rest : List Oper} {o : Oper} {a : Act} {w : World} {Q : Exit → Act → World → Prop} (hw : Region.wanted o (yielded ops a.tmps) = true) (ty : TypeId) (x : Operand) (ho : o.op = .load ty x)
    (g : Nat) (hx : a.eval x = .pointer (some ⟨g, 0, none⟩)) (t : TypeId) (cs : Array Value) (fr : Nat × Nat) (d : TypeDesc) (hg : w.heap[g]? = some (.cells cs t fr))
    (hu : P.underlying ty = some d) (hd : (match d with | .struct _ | .array _ _ => true | _ => false) = true) (hi : (P.info? ty).map (·.size) = some cs.size)
    (h : wpList P ops Q rest (a.put o.dst (.agg cs)) w) : wpList P ops Q (o :: rest) a w := by
  simp only [wpList, hw, if_true]
  exact .inl (wp_load_row ty x ho g hx t cs fr d hg hu hd hi h)
end

theorem exact_top {b r d m s : Int} (h : rightB b r d m = true) : exactB b r d m b = true := by
  have hr := right_of h
  unfold exactB
  rw [keysI_yes h (by omega) (by omega)]
  simp; omega

set_option maxRecDepth 100000 in
set_option maxHeartbeats 4000000 in
theorem top_any (b r d m s l : Int) (h : rightB b r d m = true) (w : World) :
    Calls Try.prog 16 #[.agg #[.int .i64 b, .int .i64 r, .int .i64 d, .int .i64 m, .int .u64 s], .int .i64 l] w fun e w' => ∃ q, e = .returned (.int .i64 q) ∧ exactB b r d m q = true ∧ Below w.heap.size w w' := by
  obtain ⟨b0, b1, -⟩ := right_of h
  have PE := Lib.hid (fun w x => rexact_any b r d m s x w)
  have HT := Lib.hid (exact_top (s := s) h)
  obtain ⟨g1, hb1, hsz1⟩ := news1 w (.cells #[.int .i64 b, .int .i64 r, .int .i64 d, .int .i64 m, .int .u64 s] 24)
  have hx1 : Blk _ w.heap.size 24 #[.int .i64 b, .int .i64 r, .int .i64 d, .int .i64 m, .int .u64 s] := g1
  have HX1 := Lib.hid hx1
  have HB1 := Lib.hid hb1
  have e16 := and16 l
  have n0 := Int.emod_nonneg l (show (65536 : Int) ≠ 0 by decide)
  have n1 := Int.emod_lt_of_pos l (show (0 : Int) < 65536 by decide)
  clear g1 hx1 hb1 hsz1 h
  go_enter Try.func16, Try.ntmps16
  go_wp2_with fail
  go_loopw [5] (fun i wr => ∃ j : Nat, (j : Int) ≤ b ∧ i = .int .i64 (j : Int) ∧ (∀ k : Nat, k ≤ j → exactB b r d m (b - k) = true) ∧ Blk wr w.heap.size 24 #[.int .i64 b, .int .i64 r, .int .i64 d, .int .i64 m, .int .u64 s] ∧ Below w.heap.size w wr) (fun i _ => b.toNat - (intOf i).toNat)
  case atStart => exact ⟨0, by omega, rfl, fun k hk => (by have hk0 : k = 0 := (by omega); subst hk0; simpa using HT.out), HX1.out, HB1.out⟩
  case round =>
    obtain ⟨j, hj, rfl, hex, hx, hbel⟩ := hrel
    have HEX := Lib.hid hex
    have HX := Lib.hid hx
    have HB := Lib.hid hbel
    have q0 := hx.cell 0
    simp at q0
    clear hex hbel HX1 HB1
    have HEND : Hid (∀ (wz : World) (e : Ending) (y : Int), e = .returned (.int .i64 (b - (l % 65536) % ((j : Int) + 1))) → Below w.heap.size w wz → ∃ q, e = .returned (.int .i64 q) ∧ exactB b r d m q = true ∧ Below w.heap.size w wz) := Lib.hid (fun wz e y he hb => by
      have h1 := Int.emod_nonneg (l % 65536) (show (j : Int) + 1 ≠ 0 by omega)
      have h2 := Int.emod_lt_of_pos (l % 65536) (show (0 : Int) < (j : Int) + 1 by omega)
      refine ⟨_, he, ?_, hb⟩
      have := HEX.out ((l % 65536) % ((j : Int) + 1)).toNat (by omega)
      rwa [Int.toNat_of_nonneg h1] at this)
    have t0 := Int.emod_nonneg (l % 65536) (show (j : Int) + 1 ≠ 0 by omega)
    have t1 := Int.emod_lt_of_pos (l % 65536) (show (0 : Int) < (j : Int) + 1 by omega)
    have z1 : wrap64 ((j : Int) + 1) = (j : Int) + 1 := by unfold wrap64; omega
    have z2 : (l % 65536).tmod ((j : Int) + 1) = l % 65536 % ((j : Int) + 1) := Int.tmod_eq_emod_of_nonneg n0
    have z3 : IntKind.i64.wrap (l % 65536 % ((j : Int) + 1)) = l % 65536 % ((j : Int) + 1) := wrapI_of _ (by omega) (by omega)
    have z4 : wrap64 (b - l % 65536 % ((j : Int) + 1)) = b - l % 65536 % ((j : Int) + 1) := by unfold wrap64; omega
    have HZ4 := Lib.hid z4
    have z5 : ((j : Int) + 1 == 0) = false := by simp; omega
    have z6 : ¬ ((j : Int) + 1 = 0) := by omega
    by_cases hlt : (j : Int) < b
    · have y1 : wrap64 (b - (j : Int)) = b - (j : Int) := by unfold wrap64; omega
      have y2 : wrap64 (b - (j : Int) - 1) = b - (j : Int) - 1 := by unfold wrap64; omega
      cases hq : exactB b r d m (b - (j : Int) - 1) with
      | true =>
        have HQ := Lib.hid hq
        have PQ := fun w => PE.out w (b - (j : Int) - 1)
        rw [hq] at PQ
        have PQ := Lib.hid PQ
        clear hq
        go_wp2_with (refine wpList_load_row_g (by kernel_rfl) 24 _ rfl w.heap.size rfl 24 _ (0, 0) _ hx Try.underlying24 rfl (by kernel_rfl) ?_)
        with_reducible refine (PQ.out _).mono ?_
        rintro e w2 ⟨rfl, hb⟩
        have HX2 := Lib.hid (HX.out.kept hb)
        have HB2 := Lib.hid (btr HB.out hb)
        clear hb
        go_wp2
        go_roundw
        case rel => exact ⟨j + 1, by omega, by go_num, fun k hk => (by
          by_cases e : k = j + 1
          · subst e
            have := HQ.out
            rw [show b - ((j + 1 : Nat) : Int) = b - (j : Int) - 1 by omega]; exact this
          · exact HEX.out k (by omega)), HX2.out, HB2.out⟩
        case measure => simp [intOf]; omega
      | false =>
        have PQ := fun w => PE.out w (b - (j : Int) - 1)
        rw [hq] at PQ
        have PQ := Lib.hid PQ
        clear hq
        go_wp2_with (refine wpList_load_row_g (by kernel_rfl) 24 _ rfl w.heap.size rfl 24 _ (0, 0) _ hx Try.underlying24 rfl (by kernel_rfl) ?_)
        with_reducible refine (PQ.out _).mono ?_
        rintro e w2 ⟨rfl, hb⟩
        have HX2 := Lib.hid (HX.out.kept hb)
        have HB2 := Lib.hid (btr HB.out hb)
        have q0 := HX2.out.cell 0
        simp at q0
        have HB2D := Lib.hid (fun n => below_drewN HB2.out n)
        clear hb
        go_wp2_with fail
        go_quiet (fail)
        go_wp2
        go_ret
        exact HEND.out _ _ 0 rfl (HB2D.out _)
    · have hjb : (j : Int) = b := by omega
      have y3 : decide ((j : Int) < b) = false := decide_eq_false (by omega)
      have HBD := Lib.hid (fun n => below_drewN HB.out n)
      clear hj hlt hjb
      go_wp2_with fail
      go_quiet (fail)
      go_wp2
      go_ret
      exact HEND.out _ _ 0 (congrArg (fun y => Ending.returned (.int .i64 y)) HZ4.out) (HBD.out _)
end Go.Proofs.Ytcfmipgdhhogcaa
