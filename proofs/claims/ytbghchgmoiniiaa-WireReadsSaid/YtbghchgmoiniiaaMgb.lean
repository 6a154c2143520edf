import Derived.Test.YtbghchgmoiniiaaMga
import Derived.Test.YtbghchgmoiniiaaWirG
import Derived.Test.YtbghchgmoiniiaaEqc
import Derived.Test.YtbghchgmoiniiaaCfg
/-
  The walk of the document's config. Conditions: none beyond those stated at each theorem.
-/
namespace Go.Proofs.Ytbghchgmoiniiaa
open Go.RowKit
set_option linter.unusedVariables false
set_option linter.unusedSimpArgs false

theorem rcfg_results {P : Program} {fn : Func} {p u : Tmp} {ty : TypeId} (h : fn.results = #[.cell p ty, .tmp u]) (tmps : Array Value) (w : World) (g : Nat) (t : TypeId) (cs : Array Value) (fr : Nat × Nat) (d : TypeDesc)
    (hp : tmps.getD p undef = .pointer (some ⟨g, 0, none⟩)) (hg : w.heap[g]? = some (.cells cs t fr))
    (hu : P.underlying ty = some d) (hd : (match d with | .struct _ | .array _ _ => true | _ => false) = true) (hi : (P.info? ty).map (·.size) = some cs.size) :
    (results fn tmps).run P w = .ok (.tuple #[.agg cs, tmps.getD u undef]) w := by
  have hp' : tmps[p]?.getD undef = .pointer (some ⟨g, 0, none⟩) := by simpa using hp
  simp [results, h, hp', asAddr, run_loadVar_row w g t ty cs fr d hg hu hd hi]
theorem below_setRow {w w1 : World} {B g : Nat} (h : Below B w w1) (hg : B ≤ g) (cs : Array Value) : Below B w (w1.setRow g cs) := h.trans ⟨rfl, rfl, rfl, by simp, fun k hk => setRow_other _ g k cs (by omega)⟩
def CfgNone (q : List Int) : Prop := ∀ b r d m s p, ¬ CfgS q b r d m s p
def RCfgRes (w : World) (bs : List Int) (e : Ending) (w' : World) : Prop :=
  ((∃ b r d m s q p, bs = [71, 65] ++ q ∧ CfgS q b r d m s p ∧ e = .returned (.tuple #[.agg #[.int .i64 b, .int .i64 r, .int .i64 d, .int .i64 m, .int .u64 s], .int .i64 ((bs.length - p.length : Nat) : Int)]) ∧ bs.drop (bs.length - p.length) = p ∧ 0 < bs.length - p.length) ∨
   ((∀ q, bs = [71, 65] ++ q → CfgNone q) ∧ ∃ b r d m s : Int, e = .returned (.tuple #[.agg #[.int .i64 b, .int .i64 r, .int .i64 d, .int .i64 m, .int .u64 s], .int .i64 0]))) ∧ Below w.heap.size w w'
theorem none_of {us : List Nat} {rest : List Int} (hl : us.length < 4) (h : ∀ u r, u ≤ 1000 → rest ≠ putN u ++ r) : CfgNone (numsB us ++ rest) := by
  intro b r d m s p k
  have hr := right_of k.1
  have e := k.2.2.2
  generalize hp : leB s 8 ++ p = p' at e
  clear hp
  match us, hl with
  | [], _ => exact h b.toNat _ (by omega) (by simpa [numsB] using e)
  | [u1], _ =>
    have e : putN u1 ++ rest = putN b.toNat ++ (putN r.toNat ++ (putN d.toNat ++ (putN m.toNat ++ p'))) := by simpa [numsB] using e
    obtain ⟨-, e⟩ := putN_head e
    exact h r.toNat _ (by omega) e
  | [u1, u2], _ =>
    have e : putN u1 ++ (putN u2 ++ rest) = putN b.toNat ++ (putN r.toNat ++ (putN d.toNat ++ (putN m.toNat ++ p'))) := by simpa [numsB] using e
    obtain ⟨-, e⟩ := putN_head e
    obtain ⟨-, e⟩ := putN_head e
    exact h d.toNat _ (by omega) e
  | [u1, u2, u3], _ =>
    have e : putN u1 ++ (putN u2 ++ (putN u3 ++ rest)) = putN b.toNat ++ (putN r.toNat ++ (putN d.toNat ++ (putN m.toNat ++ p'))) := by simpa [numsB] using e
    obtain ⟨-, e⟩ := putN_head e
    obtain ⟨-, e⟩ := putN_head e
    obtain ⟨-, e⟩ := putN_head e
    exact h m.toNat _ (by omega) e
theorem leV_drop {l : List Int} {k : Nat} (h : k < l.length) : leV (l.drop k) = cellD l k + 256 * leV (l.drop (k + 1)) := by
  have e : l.drop k = cellD l k :: l.drop (k + 1) := by
    rw [List.drop_eq_getElem_cons h]; simp [cellD, h]
  rw [e, leV]
theorem pow_le7 {k : Nat} (h : k ≤ 7) : (256 : Int) ^ k ≤ 72057594037927936 := by
  rcases (show k = 0 ∨ k = 1 ∨ k = 2 ∨ k = 3 ∨ k = 4 ∨ k = 5 ∨ k = 6 ∨ k = 7 by omega) with rfl | rfl | rfl | rfl | rfl | rfl | rfl | rfl <;> decide
theorem cfg_none5 {u1 u2 u3 u4 : Nat} {q : List Int} (h : q.length < 8) : CfgNone (putN u1 ++ (putN u2 ++ (putN u3 ++ (putN u4 ++ q)))) := fun b r d m s p k => by
  obtain ⟨-, e⟩ := putN_head k.2.2.2
  obtain ⟨-, e⟩ := putN_head e
  obtain ⟨-, e⟩ := putN_head e
  obtain ⟨-, e⟩ := putN_head e
  have := congrArg List.length e
  rw [List.length_append, leB_len] at this
  omega
theorem numsB4 (u1 u2 u3 u4 : Nat) (q : List Int) : numsB [u1, u2, u3, u4] ++ q = putN u1 ++ (putN u2 ++ (putN u3 ++ (putN u4 ++ q))) := by simp [numsB]
/-- what the four numbers' array holds -/
def fourA (us : List Nat) : Array Value := ((us.map fun (u : Nat) => Value.int .i64 (u : Int)) ++ List.replicate (4 - us.length) (Value.int .i64 0)).toArray
theorem fourA_set {us : List Nat} (h : us.length < 4) (u : Nat) : (fourA us).setIfInBounds us.length (.int .i64 (u : Int)) = fourA (us ++ [u]) := by
  match us, h with
  | [], _ => simp [fourA, List.replicate]
  | [a], _ => simp [fourA, List.replicate]
  | [a, b], _ => simp [fourA, List.replicate]
  | [a, b, c], _ => simp [fourA, List.replicate]
set_option maxRecDepth 100000 in
set_option maxHeartbeats 16000000 in
theorem rconfig_any (w : World) (g off cap : Nat) (bs : List Int) (hv : BytesAt w (.slice (some ⟨g, off, none⟩) bs.length cap) bs) (hb : Byts bs) (hl : bs.length ≤ 100000) :
    Calls Try.prog 26 #[.slice (some ⟨g, off, none⟩) bs.length cap] w (RCfgRes w bs) := by
  have HV := Lib.hid hv
  have HB := Lib.hid hb
  have hcap : bs.length ≤ cap := by
    obtain ⟨ao2, cap2, e, e1, e2, -⟩ := hv
    simp only [Value.slice.injEq] at e
    obtain ⟨-, -, rfl⟩ := e
    omega
  obtain ⟨n, hn⟩ : ∃ n, n = bs.length := ⟨_, rfl⟩
  have HN := Lib.hid hn
  rw [← hn] at hcap hl ⊢
  obtain ⟨g1, g2, hb1, hsz1⟩ := news2 w (.cells #[.int .i64 0, .int .i64 0, .int .i64 0, .int .i64 0, .int .u64 0] 36) (.cells #[.int .i64 0, .int .i64 0, .int .i64 0, .int .i64 0, .int .u64 0] 36)
  have HX1 : Hid (Blk _ w.heap.size 36 #[.int .i64 0, .int .i64 0, .int .i64 0, .int .i64 0, .int .u64 0]) := Lib.hid g1
  have HC1 : Hid (Blk _ (w.heap.size + 1) 36 #[.int .i64 0, .int .i64 0, .int .i64 0, .int .i64 0, .int .u64 0]) := Lib.hid g2
  have HB1 := Lib.hid hb1
  clear g1 g2 hsz1 hn hv hb
  by_cases h2 : n < 2
  · have d1 : decide ((n : Int) < 2) = true := decide_eq_true (by omega)
    have d2 : decide (n < 2) = true := decide_eq_true h2
    have HNO : Hid (∀ q, bs = [71, 65] ++ q → CfgNone q) := Lib.hid (fun q e => by have := HN.out; rw [e] at this; simp at this; omega)
    clear hb1
    go_enter Try.func26, Try.ntmps26
    go_upto_region 3 with fail
    generalize (w.alloc (.cells #[.int .i64 0, .int .i64 0, .int .i64 0, .int .i64 0, .int .u64 0] 36)).alloc (.cells #[.int .i64 0, .int .i64 0, .int .i64 0, .int .i64 0, .int .u64 0] 36) = w1 at *
    have HH8 : Hid ((w1.setRow w.heap.size #[.int .i64 0, .int .i64 0, .int .i64 0, .int .i64 0, .int .u64 0]).heap[w.heap.size]? = some (.cells #[.int .i64 0, .int .i64 0, .int .i64 0, .int .i64 0, .int .u64 0] 36 (0, 0))) := Lib.hid (setRow_heap _ _ _ _ _ _ HX1.out)
    have HB8 := Lib.hid (below_setRow HB1.out (Nat.le_refl w.heap.size) #[.int .i64 0, .int .i64 0, .int .i64 0, .int .i64 0, .int .u64 0])
    go_wp2_with (first | refine wpList_load_row rfl 36 _ rfl (w.heap.size + 1) rfl 36 _ (0, 0) _ HC1.out Try.underlying36 rfl (by kernel_rfl) ?_ | refine wpList_store_row rfl 36 _ _ rfl w.heap.size #[.int .i64 0, .int .i64 0, .int .i64 0, .int .i64 0, .int .u64 0] rfl rfl 36 _ HX1.out (by kernel_rfl) rfl (cfg_one _ _ _ _ _) ?_)
    refine bodyPost_ret (rcfg_results rfl _ _ w.heap.size 36 _ (0, 0) _ rfl HH8.out Try.underlying36 rfl (by kernel_rfl)) rfl ?_
    exact ⟨.inr ⟨HNO.out, _, _, _, _, _, rfl⟩, HB8.out⟩
  · have d1 : decide ((n : Int) < 2) = false := decide_eq_false (by omega)
    have d2 : decide (n < 2) = false := decide_eq_false h2
    have HV1 := Lib.hid (HV.out.kept HB1.out)
    obtain ⟨ga, oa, ea, -, c0⟩ := HV1.out.cell (j := 0) (by have := HN.out; omega)
    obtain ⟨ga', oa', ea', -, c1⟩ := HV1.out.cell (j := 1) (by have := HN.out; omega)
    cases ea
    cases ea'
    have HQ : Hid (cellD bs 0 = 71 → cellD bs 1 = 65 → bs = [71, 65] ++ bs.drop 2) := Lib.hid (fun e0 e1 => by
      match bs, HN.out, e0, e1 with
      | x :: y :: l, _, e0, e1 => simp [cellD] at e0 e1; subst e0 e1; rfl)
    have HQN : Hid (∀ q, bs = [71, 65] ++ q → cellD bs 0 = 71 ∧ cellD bs 1 = 65) := Lib.hid (fun q e => by rw [e]; exact ⟨rfl, rfl⟩)
    generalize cellD bs 0 = x0 at *
    generalize cellD bs 1 = x1 at *
    simp at c0
    have n1 : (1 : Int) < (n : Int) := by omega
    have n0 : (0 : Int) < (n : Int) := by omega
    have n1' : 1 < n := by omega
    have n0' : 0 < n := by omega
    clear hb1
    by_cases hx0 : x0 = 71
    rotate_left
    · have b0 : (x0 != 71) = true := by simp [hx0]
      have HNO : Hid (∀ q, bs = [71, 65] ++ q → CfgNone q) := Lib.hid (fun q e => absurd (HQN.out q e).1 hx0)
      clear hx0
      go_enter Try.func26, Try.ntmps26
      go_upto_region 3 with fail
      generalize (w.alloc (.cells #[.int .i64 0, .int .i64 0, .int .i64 0, .int .i64 0, .int .u64 0] 36)).alloc (.cells #[.int .i64 0, .int .i64 0, .int .i64 0, .int .i64 0, .int .u64 0] 36) = w1 at *
      have HH8 : Hid ((w1.setRow w.heap.size #[.int .i64 0, .int .i64 0, .int .i64 0, .int .i64 0, .int .u64 0]).heap[w.heap.size]? = some (.cells #[.int .i64 0, .int .i64 0, .int .i64 0, .int .i64 0, .int .u64 0] 36 (0, 0))) := Lib.hid (setRow_heap _ _ _ _ _ _ HX1.out)
      have HB8 := Lib.hid (below_setRow HB1.out (Nat.le_refl w.heap.size) #[.int .i64 0, .int .i64 0, .int .i64 0, .int .i64 0, .int .u64 0])
      go_wp2_with (first | refine wpList_load_row rfl 36 _ rfl (w.heap.size + 1) rfl 36 _ (0, 0) _ HC1.out Try.underlying36 rfl (by kernel_rfl) ?_ | refine wpList_store_row rfl 36 _ _ rfl w.heap.size #[.int .i64 0, .int .i64 0, .int .i64 0, .int .i64 0, .int .u64 0] rfl rfl 36 _ HX1.out (by kernel_rfl) rfl (cfg_one _ _ _ _ _) ?_)
      refine bodyPost_ret (rcfg_results rfl _ _ w.heap.size 36 _ (0, 0) _ rfl HH8.out Try.underlying36 rfl (by kernel_rfl)) rfl ?_
      exact ⟨.inr ⟨HNO.out, _, _, _, _, _, rfl⟩, HB8.out⟩
    subst hx0
    by_cases hx1 : x1 = 65
    rotate_left
    · have b0 : (x1 != 65) = true := by simp [hx1]
      have HNO : Hid (∀ q, bs = [71, 65] ++ q → CfgNone q) := Lib.hid (fun q e => absurd (HQN.out q e).2 hx1)
      clear hx1
      go_enter Try.func26, Try.ntmps26
      go_upto_region 3 with fail
      generalize (w.alloc (.cells #[.int .i64 0, .int .i64 0, .int .i64 0, .int .i64 0, .int .u64 0] 36)).alloc (.cells #[.int .i64 0, .int .i64 0, .int .i64 0, .int .i64 0, .int .u64 0] 36) = w1 at *
      have HH8 : Hid ((w1.setRow w.heap.size #[.int .i64 0, .int .i64 0, .int .i64 0, .int .i64 0, .int .u64 0]).heap[w.heap.size]? = some (.cells #[.int .i64 0, .int .i64 0, .int .i64 0, .int .i64 0, .int .u64 0] 36 (0, 0))) := Lib.hid (setRow_heap _ _ _ _ _ _ HX1.out)
      have HB8 := Lib.hid (below_setRow HB1.out (Nat.le_refl w.heap.size) #[.int .i64 0, .int .i64 0, .int .i64 0, .int .i64 0, .int .u64 0])
      go_wp2_with (first | refine wpList_load_row rfl 36 _ rfl (w.heap.size + 1) rfl 36 _ (0, 0) _ HC1.out Try.underlying36 rfl (by kernel_rfl) ?_ | refine wpList_store_row rfl 36 _ _ rfl w.heap.size #[.int .i64 0, .int .i64 0, .int .i64 0, .int .i64 0, .int .u64 0] rfl rfl 36 _ HX1.out (by kernel_rfl) rfl (cfg_one _ _ _ _ _) ?_)
      refine bodyPost_ret (rcfg_results rfl _ _ w.heap.size 36 _ (0, 0) _ rfl HH8.out Try.underlying36 rfl (by kernel_rfl)) rfl ?_
      exact ⟨.inr ⟨HNO.out, _, _, _, _, _, rfl⟩, HB8.out⟩
    subst hx1
    have HQ9 := Lib.hid (HQ.out rfl rfl)
    go_enter Try.func26, Try.ntmps26
    go_wp2_with fail
    have HX2 := Lib.hid (HX1.out.alloc (.cells #[.int .i64 0, .int .i64 0, .int .i64 0, .int .i64 0] 88))
    have HC2 := Lib.hid (HC1.out.alloc (.cells #[.int .i64 0, .int .i64 0, .int .i64 0, .int .i64 0] 88))
    have HB2 := Lib.hid (HB1.out.alloc HB1.out.size (.cells #[.int .i64 0, .int .i64 0, .int .i64 0, .int .i64 0] 88))
    have HF2 : Hid (Blk (((w.alloc (.cells #[.int .i64 0, .int .i64 0, .int .i64 0, .int .i64 0, .int .u64 0] 36)).alloc (.cells #[.int .i64 0, .int .i64 0, .int .i64 0, .int .i64 0, .int .u64 0] 36)).alloc (.cells #[.int .i64 0, .int .i64 0, .int .i64 0, .int .i64 0] 88)) (w.heap.size + 1 + 1) 88 #[.int .i64 0, .int .i64 0, .int .i64 0, .int .i64 0]) := Lib.hid (by
      have := Blk.new ((w.alloc (.cells #[.int .i64 0, .int .i64 0, .int .i64 0, .int .i64 0, .int .u64 0] 36)).alloc (.cells #[.int .i64 0, .int .i64 0, .int .i64 0, .int .i64 0, .int .u64 0] 36)) 88 #[.int .i64 0, .int .i64 0, .int .i64 0, .int .i64 0]
      rw [show ((w.alloc (.cells #[.int .i64 0, .int .i64 0, .int .i64 0, .int .i64 0, .int .u64 0] 36)).alloc (.cells #[.int .i64 0, .int .i64 0, .int .i64 0, .int .i64 0, .int .u64 0] 36)).heap.size = w.heap.size + 1 + 1 by simp] at this
      exact this)
    generalize ((w.alloc (.cells #[.int .i64 0, .int .i64 0, .int .i64 0, .int .i64 0, .int .u64 0] 36)).alloc (.cells #[.int .i64 0, .int .i64 0, .int .i64 0, .int .i64 0, .int .u64 0] 36)).alloc (.cells #[.int .i64 0, .int .i64 0, .int .i64 0, .int .i64 0] 88) = w2 at *
    generalize bs.drop 2 = q at *
    clear HX1 HC1 HB1 HV1 c0 c1 HQN
    go_loopw [5, 7] (fun x i wr => ∃ (us : List Nat) (rest : List Int), us.length ≤ 4 ∧ i = .int .i64 (us.length : Int) ∧ x = .int .i64 ((2 + (numsB us).length : Nat) : Int) ∧ q = numsB us ++ rest ∧ (∀ u ∈ us, u ≤ 1000) ∧ Blk wr w.heap.size 36 #[.int .i64 0, .int .i64 0, .int .i64 0, .int .i64 0, .int .u64 0] ∧ Blk wr (w.heap.size + 1) 36 #[.int .i64 0, .int .i64 0, .int .i64 0, .int .i64 0, .int .u64 0] ∧ Blk wr (w.heap.size + 1 + 1) 88 (fourA us) ∧ Below w.heap.size w wr) (fun _ i _ => 4 - (intOf i).toNat)
    case atStart => exact ⟨[], q, by simp, rfl, rfl, rfl, fun u hu => by simp at hu, HX2.out, HC2.out, HF2.out, HB2.out⟩
    case round =>
      obtain ⟨us, rest, hus, rfl, rfl, hq, hall, hx, hc, hf, hbel⟩ := hrel
      have HQ2 := Lib.hid hq
      have HX3 := Lib.hid hx
      have HC3 := Lib.hid hc
      have HF3 := Lib.hid hf
      have HB3 := Lib.hid hbel
      have HALL := Lib.hid hall
      obtain ⟨a, ha⟩ : ∃ a, a = 2 + (numsB us).length := ⟨_, rfl⟩
      have HA := Lib.hid ha
      rw [← ha]
      have HDR : Hid (bs.drop a = rest) := Lib.hid (by rw [HQ9.out, HQ2.out, ha, ← List.append_assoc, show 2 + (numsB us).length = ([71, 65] ++ numsB us).length by simp only [List.length_append, List.length_cons, List.length_nil], List.drop_left])
      have han : a ≤ n := by
        have h1 := HN.out
        have h2 := congrArg List.length HQ9.out
        have h3 := congrArg List.length HQ2.out
        simp only [List.length_append, List.length_cons, List.length_nil] at h2 h3
        omega
      have HRL : Hid (n = a + rest.length) := Lib.hid (by
        have h1 := HN.out
        have h2 := congrArg List.length HQ9.out
        have h3 := congrArg List.length HQ2.out
        simp only [List.length_append, List.length_cons, List.length_nil] at h2 h3
        omega)
      obtain ⟨k, hk⟩ : ∃ k, k = us.length := ⟨_, rfl⟩
      have HK := Lib.hid hk
      rw [← hk] at hus ⊢
      clear hq hx hc hf hbel hall ha hk HX2 HC2 HF2 HB2
      by_cases hlt : k < 4
      · have k0 : (0 : Int) ≤ (k : Int) := by omega
        have k1 : (k : Int) < 4 := by omega
        have a0 : (0 : Int) ≤ (a : Int) := by omega
        have a1 : (a : Int) ≤ (n : Int) := by omega
        have HVR := Lib.hid (HV.out.kept HB3.out)
        have HVF := Lib.hid (fun k h1 h2 => HVR.out.from_ a (by rw [← HN.out]; exact han) k h1 h2)
        rw [HDR.out, ← HN.out] at HVF
        have HDB : Hid (Byts rest) := Lib.hid (by have := HB.out.drop a; rwa [HDR.out] at this)
        have HNOF : Hid ((∀ u r, u ≤ 1000 → rest ≠ putN u ++ r) → ∀ q', bs = [71, 65] ++ q' → CfgNone q') := Lib.hid (fun h q' e => by
          have e2 : q' = numsB us ++ rest := by
            have := HQ9.out.symm.trans e
            rw [← HQ2.out]; exact (List.append_cancel_left this).symm
          rw [e2]
          exact none_of (by rw [← HK.out]; exact hlt) h)
        have HFC : Hid ((fourA us)[k]?.isSome = true) := Lib.hid (by
          have hu := HK.out
          have h4 : (fourA us).size = 4 := by simp [fourA]; omega
          rw [Array.getElem?_eq_getElem (by omega)]; rfl)
        by_cases hkc : a < cap
        all_goals
          have PT : Hid (∀ k, (if a < cap then off + a else off) = k → Calls Try.prog 47 #[.slice (some ⟨g, k, none⟩) (n - a) (cap - a)] wr (TakeResB wr rest)) := Lib.hid (fun k hk2 => rtake_any wr _ _ (HVF.out k (fun h => by rw [← hk2, if_pos h]) (fun h => by rw [← hk2, if_neg (by omega)])) HDB.out (by have := HRL.out; omega))
          first | have PT := Lib.hid (PT.out (off + a) (if_pos hkc)) | have PT := Lib.hid (PT.out off (if_neg hkc))
          go_wp2_with fail
          with_reducible refine PT.out.mono ?_
          rintro e w5 ⟨hres, hb5⟩
          have HB5 := Lib.hid (btr HB3.out hb5)
          have HX5 := Lib.hid (HX3.out.kept hb5)
          have HC5 := Lib.hid (HC3.out.kept hb5)
          have HF5 := Lib.hid (HF3.out.kept hb5)
          clear hb5
          rcases hres with ⟨u, j, hts, rfl⟩ | ⟨hno, rfl⟩
          rotate_left
          · have HNO := Lib.hid (HNOF.out (fun u r hu e => hno u (putN u).length ⟨by omega, rfl, r, e⟩))
            clear hno
            go_upto_region 11 with fail
            have HH8 : Hid ((w5.setRow w.heap.size #[.int .i64 0, .int .i64 0, .int .i64 0, .int .i64 0, .int .u64 0]).heap[w.heap.size]? = some (.cells #[.int .i64 0, .int .i64 0, .int .i64 0, .int .i64 0, .int .u64 0] 36 (0, 0))) := Lib.hid (setRow_heap _ _ _ _ _ _ HX5.out)
            have HB8 := Lib.hid (below_setRow HB5.out (Nat.le_refl w.heap.size) #[.int .i64 0, .int .i64 0, .int .i64 0, .int .i64 0, .int .u64 0])
            go_wp2_with (first | refine wpList_load_row rfl 36 _ rfl (w.heap.size + 1) rfl 36 _ (0, 0) _ HC5.out Try.underlying36 rfl (by kernel_rfl) ?_ | refine wpList_store_row rfl 36 _ _ rfl w.heap.size #[.int .i64 0, .int .i64 0, .int .i64 0, .int .i64 0, .int .u64 0] rfl rfl 36 _ HX5.out (by kernel_rfl) rfl (cfg_one _ _ _ _ _) ?_)
            refine bodyPost_ret (rcfg_results rfl _ _ w.heap.size 36 _ (0, 0) _ rfl HH8.out Try.underlying36 rfl (by kernel_rfl)) rfl ?_
            exact ⟨.inr ⟨HNO.out, _, _, _, _, _, rfl⟩, HB8.out⟩
          by_cases hu : u ≤ 1000
          rotate_left
          · have HNO := Lib.hid (HNOF.out (fun u' r hu' e => by
              have := (hts.unique ⟨by omega, rfl, r, e⟩).1
              omega))
            have b1 : decide ((1000 : Int) < (u : Int)) = true := decide_eq_true (by omega)
            have b2 : decide (1000 < u) = true := decide_eq_true (by omega)
            clear hts
            go_upto_region 11 with fail
            have HH8 : Hid ((w5.setRow w.heap.size #[.int .i64 0, .int .i64 0, .int .i64 0, .int .i64 0, .int .u64 0]).heap[w.heap.size]? = some (.cells #[.int .i64 0, .int .i64 0, .int .i64 0, .int .i64 0, .int .u64 0] 36 (0, 0))) := Lib.hid (setRow_heap _ _ _ _ _ _ HX5.out)
            have HB8 := Lib.hid (below_setRow HB5.out (Nat.le_refl w.heap.size) #[.int .i64 0, .int .i64 0, .int .i64 0, .int .i64 0, .int .u64 0])
            go_wp2_with (first | refine wpList_load_row rfl 36 _ rfl (w.heap.size + 1) rfl 36 _ (0, 0) _ HC5.out Try.underlying36 rfl (by kernel_rfl) ?_ | refine wpList_store_row rfl 36 _ _ rfl w.heap.size #[.int .i64 0, .int .i64 0, .int .i64 0, .int .i64 0, .int .u64 0] rfl rfl 36 _ HX5.out (by kernel_rfl) rfl (cfg_one _ _ _ _ _) ?_)
            refine bodyPost_ret (rcfg_results rfl _ _ w.heap.size 36 _ (0, 0) _ rfl HH8.out Try.underlying36 rfl (by kernel_rfl)) rfl ?_
            exact ⟨.inr ⟨HNO.out, _, _, _, _, _, rfl⟩, HB8.out⟩
          have HTS := Lib.hid hts
          have hj := hts.parts
          have hj10 : j ≤ 10 := hj.2.2.2.2.1
          have b1 : decide ((1000 : Int) < (u : Int)) = false := decide_eq_false (by omega)
          have b2 : decide (1000 < u) = false := decide_eq_false (by omega)
          have e3 : IntKind.i64.wrap ((a : Int) + (j : Int)) = ((a + j : Nat) : Int) := by rw [wrapI_eq64]; unfold wrap64; omega
          have e4 : IntKind.i64.wrap (u : Int) = (u : Int) := by rw [wrapI_eq64]; unfold wrap64; omega
          obtain ⟨fx, hfx⟩ := Option.isSome_iff_exists.1 HFC.out
          have cf := (HF5.out.cell k).trans hfx
          have ff := HF5.out.frozen k
          clear hts hj hfx
          go_wp2_with fail
          have HF6 := Lib.hid (HF5.out.set_ k (.int .i64 (u : Int)))
          have HFA : Hid ((fourA us).setIfInBounds k (.int .i64 (u : Int)) = fourA (us ++ [u])) := Lib.hid (by
            have := HK.out
            rw [this]
            exact fourA_set (by omega) u)
          rw [HFA.out] at HF6
          go_roundw
          case rel =>
            obtain ⟨-, ej, r, er⟩ := HTS.out
            have hk := HK.out
            have ha := HA.out
            exact ⟨us ++ [u], r, by rw [List.length_append, ← hk]; simp; omega, by rw [List.length_append, ← hk]; simp, by rw [numsB_snoc, List.length_append, ← ej, ha]; congr 1; omega, by rw [numsB_snoc, List.append_assoc, ← er]; exact HQ2.out,
              fun v hv => by rcases List.mem_append.1 hv with h | h; exact HALL.out v h; simp at h; omega,
              HX5.out.far (by simp; omega) _, HC5.out.far (by simp) _, HF6.out, Below.setCell HB5.out (by simp; omega) _⟩
          case measure => simp [intOf]; omega
      · obtain rfl : k = 4 := by omega
        obtain ⟨u1, u2, u3, u4, rfl⟩ : ∃ u1 u2 u3 u4, us = [u1, u2, u3, u4] := by
          match us, HK.out with
          | [a, b, c, d], _ => exact ⟨a, b, c, d, rfl⟩
        have HF4 : Hid (Blk wr (w.heap.size + 1 + 1) 88 #[.int .i64 (u1 : Int), .int .i64 (u2 : Int), .int .i64 (u3 : Int), .int .i64 (u4 : Int)]) := Lib.hid (by simpa [fourA] using HF3.out)
        have HQ5 : Hid (q = putN u1 ++ (putN u2 ++ (putN u3 ++ (putN u4 ++ rest)))) := Lib.hid (by rw [← numsB4]; exact HQ2.out)
        have e5 : IntKind.i64.wrap ((a : Int) + 8) = (a : Int) + 8 := by rw [wrapI_eq64]; unfold wrap64; omega
        have i1 : ¬ (((4 : Nat) : Int) < 4) := by omega
        clear HF3 HQ2 HK hus hlt
        by_cases hlen : n < a + 8
        · have b1 : decide ((n : Int) < (a : Int) + 8) = true := decide_eq_true (by omega)
          have b2 : decide (n < a + 8) = true := decide_eq_true hlen
          have HNO : Hid (∀ q', bs = [71, 65] ++ q' → CfgNone q') := Lib.hid (fun q' e => by
            have := HQ9.out.symm.trans e
            have := List.append_cancel_left this
            rw [← this, HQ5.out]
            exact cfg_none5 (by have := HRL.out; omega))
          clear hlen
          go_upto_region 15 with fail
          have HH8 : Hid ((wr.setRow w.heap.size #[.int .i64 0, .int .i64 0, .int .i64 0, .int .i64 0, .int .u64 0]).heap[w.heap.size]? = some (.cells #[.int .i64 0, .int .i64 0, .int .i64 0, .int .i64 0, .int .u64 0] 36 (0, 0))) := Lib.hid (setRow_heap _ _ _ _ _ _ HX3.out)
          have HB8 := Lib.hid (below_setRow HB3.out (Nat.le_refl w.heap.size) #[.int .i64 0, .int .i64 0, .int .i64 0, .int .i64 0, .int .u64 0])
          go_wp2_with (first | refine wpList_load_row rfl 36 _ rfl (w.heap.size + 1) rfl 36 _ (0, 0) _ HC3.out Try.underlying36 rfl (by kernel_rfl) ?_ | refine wpList_store_row rfl 36 _ _ rfl w.heap.size #[.int .i64 0, .int .i64 0, .int .i64 0, .int .i64 0, .int .u64 0] rfl rfl 36 _ HX3.out (by kernel_rfl) rfl (cfg_one _ _ _ _ _) ?_)
          refine bodyPost_ret (rcfg_results rfl _ _ w.heap.size 36 _ (0, 0) _ rfl HH8.out Try.underlying36 rfl (by kernel_rfl)) rfl ?_
          exact ⟨.inr ⟨HNO.out, _, _, _, _, _, rfl⟩, HB8.out⟩
        · have b1 : decide ((n : Int) < (a : Int) + 8) = false := decide_eq_false (by omega)
          have b2 : decide (n < a + 8) = false := decide_eq_false hlen
          have c0 := HF4.out.cell 0
          have c1 := HF4.out.cell 1
          have c2 := HF4.out.cell 2
          have c3 := HF4.out.cell 3
          simp at c0 c1 c2 c3
          go_wp2_with (first | refine wpList_store_row rfl 36 _ _ rfl (w.heap.size + 1) #[.int .i64 (u1 : Int), .int .i64 (u2 : Int), .int .i64 (u3 : Int), .int .i64 (u4 : Int), .int .u64 0] rfl rfl 36 _ HC3.out (by kernel_rfl) rfl (cfg_one _ _ _ _ _) ?_)
          clear c0 c1 c2 c3 b1 b2 e5 i1
          have HX6 : Hid (Blk (wr.setRow (w.heap.size + 1) #[.int .i64 (u1 : Int), .int .i64 (u2 : Int), .int .i64 (u3 : Int), .int .i64 (u4 : Int), .int .u64 0]) w.heap.size 36 #[.int .i64 0, .int .i64 0, .int .i64 0, .int .i64 0, .int .u64 0]) := Lib.hid ((setRow_other _ _ w.heap.size _ (by omega)).trans HX3.out)
          have HC6 : Hid (Blk (wr.setRow (w.heap.size + 1) #[.int .i64 (u1 : Int), .int .i64 (u2 : Int), .int .i64 (u3 : Int), .int .i64 (u4 : Int), .int .u64 0]) (w.heap.size + 1) 36 #[.int .i64 (u1 : Int), .int .i64 (u2 : Int), .int .i64 (u3 : Int), .int .i64 (u4 : Int), .int .u64 0]) := Lib.hid (setRow_heap _ _ _ _ _ _ HC3.out)
          have HB6 := Lib.hid (below_setRow HB3.out (g := w.heap.size + 1) (by omega) #[.int .i64 (u1 : Int), .int .i64 (u2 : Int), .int .i64 (u3 : Int), .int .i64 (u4 : Int), .int .u64 0])
          generalize wr.setRow (w.heap.size + 1) #[.int .i64 (u1 : Int), .int .i64 (u2 : Int), .int .i64 (u3 : Int), .int .i64 (u4 : Int), .int .u64 0] = w6 at *
          obtain ⟨sb, hsb⟩ : ∃ sb, sb = rest.take 8 := ⟨_, rfl⟩
          have HSB := Lib.hid hsb
          have HS8 : Hid (sb.length = 8) := Lib.hid (by rw [hsb, List.length_take]; have := HRL.out; omega)
          have HSY : Hid (Byts sb) := Lib.hid (by
            rw [hsb]
            have := HB.out.drop a
            rw [HDR.out] at this
            exact this.take 8)
          have HSC : Hid (∀ j, j < 8 → cellD bs (a + j) = cellD sb j) := Lib.hid (fun j hj => by
            rw [hsb, ← HDR.out]
            unfold cellD
            rw [List.getElem?_take, if_pos hj, List.getElem?_drop])
          clear hsb HX3 HC3 HB3 HF4
          have hwr : True := trivial
          generalize wr = wo at *
          go_loopw [11] (fun i wr => ∃ j : Nat, j ≤ 8 ∧ i = .int .i64 ((j : Int) - 1) ∧ Blk wr w.heap.size 36 #[.int .i64 0, .int .i64 0, .int .i64 0, .int .i64 0, .int .u64 0] ∧ Blk wr (w.heap.size + 1) 36 #[.int .i64 (u1 : Int), .int .i64 (u2 : Int), .int .i64 (u3 : Int), .int .i64 (u4 : Int), .int .u64 (leV (sb.drop j))] ∧ Below w.heap.size w wr) (fun i _ => (intOf i + 1).toNat)
          case atStart => exact ⟨8, by omega, rfl, HX6.out, by rw [List.drop_eq_nil_of_le (by have := HS8.out; omega)]; exact HC6.out, HB6.out⟩
          case round =>
            obtain ⟨j, hj, rfl, hx, hc, hbel⟩ := hrel
            have HX7 := Lib.hid hx
            have HC7 := Lib.hid hc
            have HB7 := Lib.hid hbel
            clear hx hc hbel HX6 HC6 HB6
            rcases j with _ | j
            · rw [List.drop_zero] at HC7
              have PR := fun w => rright_any (u1 : Int) u2 u3 u4 (leV sb) w
              have z0 : ¬ (0 : Int) ≤ ((0 : Nat) : Int) - 1 := by omega
              have z1 : ((0 : Nat) : Int) - 1 = -1 := by omega
              rw [z1]
              have HOFF : Hid (∀ q', bs = [71, 65] ++ q' → q' = putN u1 ++ (putN u2 ++ (putN u3 ++ (putN u4 ++ rest)))) := Lib.hid (fun q' e => by
                have := HQ9.out.symm.trans e
                rw [← HQ5.out]; exact (List.append_cancel_left this).symm)
              have HRB : Hid (Byts rest) := Lib.hid (by have := HB.out.drop a; rwa [HDR.out] at this)
              cases hr : rightB (u1 : Int) u2 u3 u4
              · rw [hr] at PR
                have HNR := Lib.hid hr
                have HNO : Hid (∀ q', bs = [71, 65] ++ q' → CfgNone q') := Lib.hid (fun q' e b r d m s p k => by
                  rw [HOFF.out q' e] at k
                  obtain ⟨rfl, rfl, rfl, rfl, -, -⟩ := cfg_in HRB.out (by have := HRL.out; omega) k
                  have := k.1
                  rw [HNR.out] at this
                  cases this)
                clear hr
                go_wp2_with (first | refine wpList_load_row rfl 36 _ rfl (w.heap.size + 1) rfl 36 _ (0, 0) _ HC7.out Try.underlying36 rfl (by kernel_rfl) ?_ | (with_reducible refine (PR _).mono ?_) | fail)
                rintro e w9 rfl hb9
                have HX9 := Lib.hid (HX7.out.kept hb9)
                have HC9 := Lib.hid (HC7.out.kept hb9)
                have HB9 := Lib.hid (btr HB7.out hb9)
                clear hb9
                go_upto_region 22 with fail
                have HH8 : Hid ((w9.setRow w.heap.size #[.int .i64 (u1 : Int), .int .i64 (u2 : Int), .int .i64 (u3 : Int), .int .i64 (u4 : Int), .int .u64 (leV sb)]).heap[w.heap.size]? = some (.cells #[.int .i64 (u1 : Int), .int .i64 (u2 : Int), .int .i64 (u3 : Int), .int .i64 (u4 : Int), .int .u64 (leV sb)] 36 (0, 0))) := Lib.hid (setRow_heap _ _ _ _ _ _ HX9.out)
                have HB8 := Lib.hid (below_setRow HB9.out (Nat.le_refl w.heap.size) #[.int .i64 (u1 : Int), .int .i64 (u2 : Int), .int .i64 (u3 : Int), .int .i64 (u4 : Int), .int .u64 (leV sb)])
                go_wp2_with (first | refine wpList_load_row rfl 36 _ rfl (w.heap.size + 1) rfl 36 _ (0, 0) _ HC9.out Try.underlying36 rfl (by kernel_rfl) ?_ | refine wpList_store_row rfl 36 _ _ rfl w.heap.size #[.int .i64 (u1 : Int), .int .i64 (u2 : Int), .int .i64 (u3 : Int), .int .i64 (u4 : Int), .int .u64 (leV sb)] rfl rfl 36 _ HX9.out (by kernel_rfl) rfl (cfg_one _ _ _ _ _) ?_)
                refine bodyPost_ret (rcfg_results rfl _ _ w.heap.size 36 _ (0, 0) _ rfl HH8.out Try.underlying36 rfl (by kernel_rfl)) rfl ?_
                exact ⟨.inr ⟨HNO.out, _, _, _, _, _, rfl⟩, HB8.out⟩
              · rw [hr] at PR
                have HRR := Lib.hid hr
                have e5 : IntKind.i64.wrap ((a : Int) + 8) = (a : Int) + 8 := by rw [wrapI_eq64]; unfold wrap64; omega
                clear hr
                go_wp2_with (first | refine wpList_load_row rfl 36 _ rfl (w.heap.size + 1) rfl 36 _ (0, 0) _ HC7.out Try.underlying36 rfl (by kernel_rfl) ?_ | (with_reducible refine (PR _).mono ?_) | fail)
                rintro e w9 rfl hb9
                have HX9 := Lib.hid (HX7.out.kept hb9)
                have HC9 := Lib.hid (HC7.out.kept hb9)
                have HB9 := Lib.hid (btr HB7.out hb9)
                clear hb9
                go_upto_region 23 with fail
                have HH8 : Hid ((w9.setRow w.heap.size #[.int .i64 (u1 : Int), .int .i64 (u2 : Int), .int .i64 (u3 : Int), .int .i64 (u4 : Int), .int .u64 (leV sb)]).heap[w.heap.size]? = some (.cells #[.int .i64 (u1 : Int), .int .i64 (u2 : Int), .int .i64 (u3 : Int), .int .i64 (u4 : Int), .int .u64 (leV sb)] 36 (0, 0))) := Lib.hid (setRow_heap _ _ _ _ _ _ HX9.out)
                have HB8 := Lib.hid (below_setRow HB9.out (Nat.le_refl w.heap.size) #[.int .i64 (u1 : Int), .int .i64 (u2 : Int), .int .i64 (u3 : Int), .int .i64 (u4 : Int), .int .u64 (leV sb)])
                go_wp2_with (first | refine wpList_load_row rfl 36 _ rfl (w.heap.size + 1) rfl 36 _ (0, 0) _ HC9.out Try.underlying36 rfl (by kernel_rfl) ?_ | refine wpList_store_row rfl 36 _ _ rfl w.heap.size #[.int .i64 (u1 : Int), .int .i64 (u2 : Int), .int .i64 (u3 : Int), .int .i64 (u4 : Int), .int .u64 (leV sb)] rfl rfl 36 _ HX9.out (by kernel_rfl) rfl (cfg_one _ _ _ _ _) ?_)
                refine bodyPost_ret (rcfg_results rfl _ _ w.heap.size 36 _ (0, 0) _ rfl HH8.out Try.underlying36 rfl (by kernel_rfl)) rfl ?_
                have h8 : 8 ≤ rest.length := by have := HRL.out; omega
                have hp : bs.length - (rest.drop 8).length = a + 8 := by rw [← HN.out, List.length_drop]; have := HRL.out; omega
                refine ⟨.inl ⟨u1, u2, u3, u4, leV sb, q, rest.drop 8, HQ9.out, ?_, ?_, ?_, ?_⟩, HB8.out⟩
                · rw [HQ5.out, HSB.out]
                  exact cfg_of HRB.out h8 HRR.out
                · rw [hp]; rfl
                · rw [hp, ← HDR.out, List.drop_drop]
                · rw [hp]; omega
            · rw [show ((j + 1 : Nat) : Int) - 1 = (j : Int) by omega]
              have HLV := Lib.hid (leV_drop (l := sb) (k := j) (by have := HS8.out; omega))
              have HUB : Hid (0 ≤ leV (sb.drop (j + 1)) ∧ leV (sb.drop (j + 1)) < 72057594037927936) := Lib.hid (by
                have hb := leV_bd (HSY.out.drop (j + 1))
                have hl : (sb.drop (j + 1)).length ≤ 7 := by rw [List.length_drop]; have := HS8.out; omega
                have hm := pow_le7 hl
                omega)
              have hb8 : 0 ≤ cellD sb j ∧ cellD sb j ≤ 255 := Byts.cellD HSY.out j
              obtain ⟨ga2, oa2, ea2, -, cx⟩ := (HV.out.kept HB7.out).cell (j := a + j) (by have := HN.out; omega)
              cases ea2
              rw [HSC.out j (by omega)] at cx
              generalize cellD sb j = x at *
              generalize hU : leV (sb.drop (j + 1)) = U at *
              have hub := HUB.out
              have hj8 : j < 8 := by omega
              have HLV2 : Hid (U * 256 + x = leV (sb.drop j)) := Lib.hid (by rw [HLV.out]; omega)
              generalize hU2 : leV (sb.drop j) = U2 at *
              have HU2 := Lib.hid hU2
              clear hU2
              have i1 : (0 : Int) ≤ (j : Int) := by omega
              have i2 : IntKind.i64.wrap ((a : Int) + (j : Int)) = (a : Int) + (j : Int) := by rw [wrapI_eq64]; unfold wrap64; omega
              have i3 : (0 : Int) ≤ (a : Int) + (j : Int) := by omega
              have i4 : (a : Int) + (j : Int) < (n : Int) := by omega
              have i5 : ((a : Int) + (j : Int)).toNat = a + j := by omega
              clear hj hU
              go_wp2_with fail
              refine wp_region_still_tail 12 (by kernel_rfl) (by kernel_rfl) ?_
              simp only [List.take_succ_cons, List.take_zero, List.drop_succ_cons, List.drop_zero]
              have HB1 : Hid (Below wr.heap.size wr { heap := wr.heap, tape := wr.tape, drawn := wr.drawn + 1, os := wr.os, output := wr.output }) := Lib.hid (below_drewN (Below.refl _ _) 1)
              have HX8 := Lib.hid (HX7.out.kept HB1.out)
              have HC8 := Lib.hid (HC7.out.kept HB1.out)
              have HB8 := Lib.hid (btr HB7.out HB1.out)
              have cx8 : World.cell? ({ heap := wr.heap, tape := wr.tape, drawn := wr.drawn + 1, os := wr.os, output := wr.output } : World) ⟨g, off + (a + j), none⟩ = some (.int .u8 x) := cx
              clear HX7 HC7 HB7 HB1 cx
              generalize ({ heap := wr.heap, tape := wr.tape, drawn := wr.drawn + 1, os := wr.os, output := wr.output } : World) = wd at *
              have k4 := HC8.out.cell 4
              have f4 := HC8.out.frozen 4
              simp at k4
              have s2 : IntKind.u64.wrap x = x := by rw [wrapU_mod]; omega
              have s3 : IntKind.u64.wrap (U * 256) = U * 256 := by rw [wrapU_mod]; omega
              have s4 : IntKind.u64.wrap (U * 256 + x) = U * 256 + x := by rw [wrapU_mod]; omega
              repeat still_step
              refine wpStill_nil ?_
              clear s2 s3 s4 cx8
              go_wp2_with fail
              rw [HLV2.out]
              have HC9 := Lib.hid (HC8.out.set_ 4 (.int .u64 U2))
              go_roundw
              case rel => exact ⟨j, by omega, rfl, HX8.out.far (by simp) _, by rw [HU2.out]; simpa using HC9.out, Below.setCell HB8.out (by simp) _⟩
              case measure => simp [intOf]
end Go.Proofs.Ytbghchgmoiniiaa

/-
  What the document's reader needs: a stack whose level is loaded, rows out of one row, places in a row. Conditions: none beyond those stated at each theorem.
-/
namespace Go.Proofs.Ytbghchgmoiniiaa
open Go.RowKit
set_option linter.unusedVariables false
set_option linter.unusedSimpArgs false

theorem Only.blk {w w' : World} {F : Nat → Prop} {g : Nat} {t : TypeId} {cs : Array Value} (h : Only F w w') (hb : Blk w g t cs) (hg : ¬ F g) : Blk w' g t cs := (h.2.2.2.2 g hb.lt hg).trans hb
/-- a level of the document's stack is loaded -/
theorem RStIs.load {w w' : World} {base RS RL : Nat} {b r d m s : Int} {P : Nat → Nat} {F : Nat → Nat → Prop} {Z : Nat → List Int} {j : Nat} {F' : Nat → Prop} {cs : List Int} (h : RStIs w base RS RL b r d m s P F Z) (hj : j ≤ b.toNat) (hbase : base ≤ w.heap.size)
    (hl : RLevIs w' F' (P j) b r d m s j cs) (hf : ∀ k, F' k → F j k ∨ (w.heap.size ≤ k ∧ k < w'.heap.size)) (ho : Only (F j) w w') : RStIs w' base RS RL b r d m s P (upN F j F') (upN Z j cs) := by
  obtain ⟨cap, h1, h2⟩ := h.box
  obtain ⟨cur, h3, h4⟩ := h.row
  have hRS := h1.lt
  have hRL := h3.lt
  refine ⟨⟨cap, ho.blk h1 (h.out j hj).1, h2⟩, h.right, ⟨cur, ho.blk h3 (h.out j hj).2, h4⟩, fun n hn => ?_, fun n k hn hk => ?_, fun n q k hn hq e hk hk2 => ?_, fun n hn => ?_⟩
  · by_cases e : n = j
    · subst e; rw [upN_same, upN_same]; exact hl
    · rw [upN_other _ _ e, upN_other _ _ e]
      exact (h.lev n hn).frame (fun k hk => ho.2.2.2.2 k (h.fin n k hn hk).2 (fun hk2 => h.apart n j k hn hj e hk hk2))
  · by_cases e : n = j
    · subst e
      rw [upN_same] at hk
      rcases hf k hk with h5 | h5
      · have := h.fin n k hn h5; have := ho.2.2.2.1; omega
      · omega
    · rw [upN_other _ _ e] at hk
      have := h.fin n k hn hk; have := ho.2.2.2.1; omega
  · by_cases e1 : n = j
    · subst e1
      rw [upN_same] at hk
      rw [upN_other _ _ (Ne.symm e)] at hk2
      rcases hf k hk with h5 | h5
      · exact h.apart n q k hn hq e h5 hk2
      · have := h.fin q k hq hk2; omega
    · rw [upN_other _ _ e1] at hk
      by_cases e2 : q = j
      · subst e2
        rw [upN_same] at hk2
        rcases hf k hk2 with h5 | h5
        · exact h.apart n q k hn hq e hk h5
        · have := h.fin n k hn hk; omega
      · rw [upN_other _ _ e2] at hk2
        exact h.apart n q k hn hq e hk hk2
  · by_cases e : n = j
    · subst e
      rw [upN_same]
      exact ⟨fun hk => by rcases hf _ hk with h5 | h5; exact (h.out n hn).1 h5; omega, fun hk => by rcases hf _ hk with h5 | h5; exact (h.out n hn).2 h5; omega⟩
    · rw [upN_other _ _ e]; exact h.out n hn
/-- the rows of one row -/
def partZ (b r d m : Int) (zs : List Int) (n : Nat) : List Int := (zs.drop (sizeUp b r d m n)).take (cellsN b r d m (n : Int))
theorem sizeUp_mono {b r d m : Int} {j n : Nat} (h : j ≤ n) : sizeUp b r d m j ≤ sizeUp b r d m n := by
  induction n with
  | zero => obtain rfl : j = 0 := by omega
            exact Nat.le_refl _
  | succ n ih =>
    rcases Nat.lt_or_ge n j with h1 | h1
    · obtain rfl : j = n + 1 := by omega
      exact Nat.le_refl _
    · rw [sizeUp]; have := ih h1; omega
theorem partZ_len {b r d m : Int} {zs : List Int} {j n : Nat} (h : sizeUp b r d m n ≤ zs.length) (hj : j < n) : (partZ b r d m zs j).length = cellsN b r d m (j : Int) := by
  have h1 : sizeUp b r d m (j + 1) ≤ sizeUp b r d m n := sizeUp_mono hj
  rw [sizeUp] at h1
  unfold partZ
  rw [List.length_take, List.length_drop]
  omega
theorem partZ_all {b r d m : Int} {zs : List Int} {n : Nat} (h : sizeUp b r d m n ≤ zs.length) : allZ (partZ b r d m zs) n = zs.take (sizeUp b r d m n) := by
  induction n with
  | zero => simp [allZ, sizeUp]
  | succ n ih =>
    have h1 : sizeUp b r d m n ≤ zs.length := Nat.le_trans (sizeUp_mono (Nat.le_succ n)) h
    rw [allZ, ih h1, sizeUp, List.take_add]
    rfl
theorem partZ_fit {b r d m : Int} {zs : List Int} (h : Fit zs) (n : Nat) : Fit (partZ b r d m zs n) := fun u hu => h u (List.mem_of_mem_drop (List.mem_of_mem_take hu))
theorem partZ_shaped {b r d m : Int} {zs : List Int} {n : Nat} (h : zs.length = sizeUp b r d m n) (hf : Fit zs) : Shaped b r d m (partZ b r d m zs) n := fun j hj => ⟨partZ_len (Nat.le_of_eq h.symm) hj, partZ_fit hf j⟩
theorem partZ_rows {b r d m : Int} {zs : List Int} {n : Nat} (h : zs.length = sizeUp b r d m n) : rowsB (partZ b r d m zs) n = rowB zs := by
  rw [rowsB_all, partZ_all (Nat.le_of_eq h.symm), ← h, List.take_length]
/-- bytes behind a config that are no row of its size are no stack -/
theorem dec_flat {bs q p : List Int} {b r d m s : Int} (h : bs.take (bs.length - 4) = [71, 65] ++ q) (hc : CfgS q b r d m s p) (hn : ∀ zs, ¬ TRow p (sizeN b r d m) zs p.length) : DecNo bs := fun b' r' d' m' s' Z k => by
  have e := (dec_own k).1
  rw [headB_cfg, h] at e
  obtain ⟨rfl, rfl, rfl, rfl, rfl, e6⟩ := CfgS.unique hc ⟨k.1, k.2.1, k.2.2.1, List.append_cancel_left e⟩
  refine hn (allZ Z (b.toNat + 1)) ⟨?_, allZ_fit k.2.2.2.1, ?_, [], ?_⟩
  · rw [allZ_len k.2.2.2.1, sizeN, if_pos k.1]
  · rw [e6, rowsB_all]
  · rw [e6, rowsB_all, List.append_nil]
/-- and those that are one are a stack -/
theorem dec_flat_yes {bs q p : List Int} {b r d m s : Int} {zs : List Int} (h : bs.take (bs.length - 4) = [71, 65] ++ q) (hs : signB (bs.take (bs.length - 4)) = bs) (hc : CfgS q b r d m s p) (ht : TRow p (sizeN b r d m) zs p.length) : DecS bs b r d m s (partZ b r d m zs) := by
  obtain ⟨h1, h2, h3, t, h4⟩ := ht
  rw [sizeN, if_pos hc.1] at h1
  have ht : t = [] := by
    have := congrArg List.length h4
    rw [List.length_append, ← h3] at this
    exact List.eq_nil_of_length_eq_zero (by omega)
  refine dec_yes h hs hc (partZ_shaped h1 h2) ?_
  rw [partZ_rows h1, h4, ht, List.append_nil]
theorem dec_none {bs q : List Int} (h : bs.take (bs.length - 4) = [71, 65] ++ q) (hn : CfgNone q) : DecNo bs := dec_cfg h (fun b r d m s p k => absurd k (hn b r d m s p))
theorem dec_none2 {bs own : List Int} (h : bs.take (bs.length - 4) = own) (hn : ∀ q, own = [71, 65] ++ q → CfgNone q) : DecNo bs := fun b r d m s Z k => by
  have e := (dec_own k).1
  rw [headB_cfg, h] at e
  exact hn _ e b r d m s _ ⟨k.1, k.2.1, k.2.2.1, rfl⟩
theorem Only.zat {F : Nat → Prop} {w w' : World} {g off n cap : Nat} {zs : List Int} (h : Only F w w') (hv : ZAt w (.slice (some ⟨g, off, none⟩) n cap) zs) (hg : ¬ F g) : ZAt w' (.slice (some ⟨g, off, none⟩) n cap) zs := by
  obtain ⟨g', off', cap', cur, e, e1, e2, e3⟩ := hv
  cases e
  exact ⟨g, off, cap, cur, rfl, e1, h.blk e2 hg, fun i u hi => h.cell hg (e3 i u hi)⟩
theorem ZAt.part {w : World} {g off n cap : Nat} {zs : List Int} (h : ZAt w (.slice (some ⟨g, off, none⟩) n cap) zs) (a k : Nat) (hk : a + k ≤ n) : ZAt w (.slice (some ⟨g, off + a, none⟩) k (cap - a)) ((zs.drop a).take k) := by
  obtain ⟨g', off', cap', cur, e, e1, e2, e3⟩ := h
  simp only [Value.slice.injEq, Option.some.injEq, Addr.mk.injEq] at e
  obtain ⟨⟨rfl, rfl, -⟩, rfl, rfl⟩ := e
  have hl : ((zs.drop a).take k).length = k := by rw [List.length_take, List.length_drop]; omega
  refine ⟨g, off + a, cap - a, cur, by rw [hl], by rw [hl]; omega, e2, fun i u hi => ?_⟩
  rw [Nat.add_assoc]
  refine e3 (a + i) u ?_
  have hik : i < k := by
    rcases Nat.lt_or_ge i k with h1 | h1
    · exact h1
    · rw [List.getElem?_eq_none (by omega)] at hi; cases hi
  rw [List.getElem?_take, if_pos hik, List.getElem?_drop] at hi
  exact hi
/-- a row of integers made here, as a row in memory -/
theorem OwnZ.zat {w : World} {base : Nat} {v : Value} {zs : List Int} (h : OwnZ w base v zs) (hl : 0 < zs.length) : ∃ g cap, v = .slice (some ⟨g, 0, none⟩) zs.length cap ∧ base ≤ g ∧ g < w.heap.size ∧ zs.length ≤ cap ∧ ZAt w v zs := by
  rcases h.2 with ⟨rfl, h0⟩ | ⟨g, cap, cur, rfl, hb, hg, hnc, hcm, hsz, htake⟩
  · omega
  · have hlt : g < w.heap.size := Blk.lt (cs := cur) (t := 2) hg
    refine ⟨g, cap, rfl, hb, hlt, by simpa using hnc, g, 0, cap, cur, rfl, by simpa using hnc, hg, fun i u hi => ?_⟩
    have hc := Blk.cell (cs := cur) (t := 2) hg (0 + i)
    rw [hc]
    have hi2 : i < zs.length := by
      rcases Nat.lt_or_ge i zs.length with h1 | h1
      · exact h1
      · rw [List.getElem?_eq_none h1] at hi; cases hi
    have := congrArg (fun l => l[i]?) htake
    simp only [List.getElem?_map, hi] at this
    simpa [List.getElem?_take, hi2] using this
end Go.Proofs.Ytbghchgmoiniiaa

/-
  The walk of gaugerlaw23.shown. Conditions: none.
-/
namespace Go.Proofs.Ytbghchgmoiniiaa
open Go.RowKit
set_option linter.unusedVariables false
set_option linter.unusedSimpArgs false

def body17 : List Int := [71, 65, 1, 1, 2, 1, 0, 0, 0, 0, 0, 0, 0, 0, 0, 0, 0]
theorem zeroZ_two : (zeroZ 1 1 2 1 0 = [0, 0]) ∧ zeroZ 1 1 2 1 1 = [0] := by
  constructor
  · have : cellsN 1 1 2 1 ((0 : Nat) : Int) = 2 := by decide
    unfold zeroZ; rw [this]; rfl
  · have : cellsN 1 1 2 1 ((1 : Nat) : Int) = 1 := by decide
    unfold zeroZ; rw [this]; rfl
theorem body_eq : headB 1 1 2 1 0 ++ rowsB (zeroZ 1 1 2 1) ((1 : Int).toNat + 1) = body17 := by
  have h : rowsB (zeroZ 1 1 2 1) ((1 : Int).toNat + 1) = rowB [0, 0] ++ rowB [0] := by
    rw [show (1 : Int).toNat + 1 = 2 from rfl, rowsB, rowsB, rowsB, zeroZ_two.1, zeroZ_two.2, List.nil_append]
  have z0 : putN (zigI 0) = [0] := by
    have : zigI 0 = 0 := by decide
    rw [this, putN_lt (by decide)]; rfl
  rw [h]
  unfold headB
  rw [show (1 : Int).toNat = 1 from rfl, show (2 : Int).toNat = 2 from rfl, putN_lt (by decide), putN_lt (by decide)]
  simp only [rowB_cons, rowB_nil, z0]
  decide
theorem enc_shown : encB 1 1 2 1 0 (zeroZ 1 1 2 1) = body17 ++ leB (sumI 0 body17) 4 := by rw [encB, body_eq]; rfl
theorem dec_shown : DecS (encB 1 1 2 1 0 (zeroZ 1 1 2 1)) 1 1 2 1 0 (zeroZ 1 1 2 1) := by
  refine ⟨by decide, by decide, by decide, fun n hn => ⟨by simp [zeroZ], fun u hu => ?_⟩, rfl⟩
  have := List.eq_of_mem_replicate hu
  omega
theorem size_shown : sizeN 1 1 2 1 = 3 := by decide
/-- a constant's bytes, as the conversion leaves them -/
theorem lit_bytes (w : World) (a b : Int) (g : Nat) (hg : g = w.heap.size) : BytesAt (w.alloc (.cells #[.int .u8 a, .int .u8 b] 5 (2, 3))) (.slice (some ⟨g, 0, none⟩) 2 2) [a, b] := by
  refine ⟨_, 2, rfl, by simp, by unfold maxLen; omega, .inr ⟨g, 0, rfl, by simp; omega, fun i u hu => ?_⟩⟩
  have hc := Joins.cell_alloc_mark_at w #[.int .u8 a, .int .u8 b] 5 (2, 3) g i hg
  rw [Nat.zero_add, hc]
  match i, hu with
  | 0, h => simpa using h
  | 1, h => simpa using h
theorem dec_ga (w : World) : DecNo [71, 65] ∧ errOf [71, 65] = 8 := ⟨dec_short (by decide), by decide⟩
theorem str17 : ((strB body17).toList == [71, 65, 1, 1, 2, 1, 0, 0, 0, 0, 0, 0, 0, 0, 0, 0, 0]) = true := by
  rw [strB_list]; decide
set_option maxRecDepth 100000 in
set_option maxHeartbeats 8000000 in
theorem shown23 (w : World) : Calls Try.prog 6 #[] w fun e w' => e = .returned (.bool true) ∧ Below w.heap.size w w' := by
  have hgd : Try.prog.eqGuardType Try.prog.depth 36 = false := by kernel_rfl
  have EQ := eqCfg 1 1 2 1 0 1 1 2 1 0
  have hq : cfgEq 1 1 2 1 0 1 1 2 1 0 = true := by decide
  rw [hq] at EQ
  clear hq
  have PN := Lib.hid (fun w => stnew_yes 1 1 2 1 0 (by decide) w)
  have PZ := fun w => wsize_any 1 1 2 1 0 w
  rw [size_shown] at PZ
  have PZ := Lib.hid PZ
  obtain ⟨g1, hb1, hsz1⟩ := news1 w (.cells #[.int .i64 1, .int .i64 1, .int .i64 2, .int .i64 1, .int .u64 0] 36)
  have hx1 : Blk _ w.heap.size 36 #[.int .i64 1, .int .i64 1, .int .i64 2, .int .i64 1, .int .u64 0] := g1
  have HX1 := Lib.hid hx1
  have HB1 := Lib.hid hb1
  clear g1 hb1 hsz1
  go_enter Try.func6, Try.ntmps6
  go_wp2_with (refine wpList_load_row rfl 36 _ rfl w.heap.size rfl 36 _ (0, 0) _ hx1 Try.underlying36 rfl (by kernel_rfl) ?_)
  with_reducible refine (PN.out _).mono ?_
  rintro e w2 ⟨S, L, X, A, G, C, rfl, hS, hst, hb⟩
  have HST2 := Lib.hid hst
  have HX2 := Lib.hid (HX1.out.kept hb)
  have HB2 := Lib.hid (btr HB1.out hb)
  clear hst hb hx1 hS
  have PE := Lib.hid (encode_any w2 _ S L 1 1 2 1 0 X A G C _ HST2.out (by decide) (by decide) (by rw [body_eq]; decide))
  go_wp2_with fail
  with_reducible refine PE.out.mono ?_
  rintro e w3 ⟨v3, rfl, ho3, hb3⟩
  have HX3 := Lib.hid (HX2.out.kept hb3)
  have HB3 := Lib.hid (btr HB2.out hb3)
  have hat := ho3.at
  have HAT := Lib.hid hat
  have hby : Byts (encB 1 1 2 1 0 (zeroZ 1 1 2 1)) := signB_byts ((headB_byts _ _ _ _ _).append (rowsB_byts _ _))
  have hlen : (encB 1 1 2 1 0 (zeroZ 1 1 2 1)).length = 21 := by rw [enc_shown, List.length_append, leB_len]; rfl
  have HLEN := Lib.hid hlen
  have PD := Lib.hid (decode_any w3 v3 _ hat hby (by rw [hlen]; decide))
  obtain ⟨ao, cap, rfl, hcap, hmx, hc⟩ := hat
  rcases hc with ⟨hnil, -⟩ | ⟨bg, boff, rfl, hbg, -⟩
  · rw [hnil] at hlen; simp at hlen
  rw [hlen] at PD HAT hcap ⊢
  clear ho3 hb3 hlen hby PE
  go_wp2_with fail
  with_reducible refine PD.out.mono ?_
  rintro e w4 ⟨⟨b, r, d, m, s, Z, S4, L4, X4, A4, G4, C4, hds, rfl, hS4, hst4⟩ | ⟨hno, -⟩, hb4⟩
  rotate_left
  · exact absurd dec_shown (hno _ _ _ _ _ _)
  obtain ⟨rfl, rfl, rfl, rfl, rfl, -⟩ := dec_shown.unique hds
  have HST4 := Lib.hid hst4
  have HX4 := Lib.hid (HX3.out.kept hb4)
  have HB4 := Lib.hid (btr HB3.out hb4)
  have HAT4 := Lib.hid (HAT.out.kept hb4)
  clear hds hS4 hst4 hb4 PD
  have kc := Joins.run_convert_bytes_const_at (P := Try.prog) w4 22 5 #[.int .u8 71, .int .u8 65] 2 2 w4.heap.size rfl Try.underlying22 Try.underlying5
  have PF := Lib.hid (dec_few (w4.alloc (.cells #[.int .u8 71, .int .u8 65] 5 (2, 3))) (.slice (some ⟨w4.heap.size, 0, none⟩) 2 2) [71, 65] (lit_bytes w4 71 65 _ rfl) (by decide))
  have HAL : Hid (Below w4.heap.size w4 (w4.alloc (.cells #[.int .u8 71, .int .u8 65] 5 (2, 3)))) := Lib.hid ((Below.refl _ _).alloc (Nat.le_refl _) _)
  go_wp2_with fail
  with_reducible refine PF.out.mono ?_
  rintro e w5 ⟨⟨b, r, d, m, s, Z, S5, L5, X5, A5, G5, C5, hds, -⟩ | ⟨-, rfl⟩, hb5⟩
  · exact absurd hds ((dec_ga w).1 _ _ _ _ _ _)
  rw [(dec_ga w).2]
  have HB45 := Lib.hid (btr HAL.out hb5)
  have HST5 := Lib.hid (HST4.out.kept HB45.out)
  have HX5 := Lib.hid (HX4.out.kept HB45.out)
  have HB5 := Lib.hid (btr HB4.out HB45.out)
  have HAT5 := Lib.hid (HAT4.out.kept HB45.out)
  clear hb5 PF HAL kc HST4 HX4 HB4 HAT4 HB45 HST2 HX2 HX3 HB3 HAT
  have HT17 : Hid ((encB 1 1 2 1 0 (zeroZ 1 1 2 1)).take 17 = body17) := Lib.hid (by rw [enc_shown]; rfl)
  have HCV : Hid (∀ wq, BytesAt wq (.slice (some ⟨bg, boff, none⟩) 21 cap) (encB 1 1 2 1 0 (zeroZ 1 1 2 1)) → Sem.run Try.prog (convert 22 9 (.slice (some ⟨bg, boff, none⟩) 17 cap)) wq = .ok (.string (strB body17)) wq) := Lib.hid (fun wq hq => by
    rw [← HT17.out]
    exact strB_conv (hq.upto2 17 (by decide)) 22 5 9 Try.underlying22 Try.underlying5 Try.underlying9)
  have hs17 := str17
  have hcap17 : 17 ≤ cap := by omega
  have hcap17i : (17 : Int) ≤ (cap : Int) := by omega
  go_wp2_with fail
  refine wp_region_held_drew (S := fun w' => Blk w' w.heap.size 36 #[.int .i64 1, .int .i64 1, .int .i64 2, .int .i64 1, .int .u64 0] ∧ BytesAt w' (.slice (some ⟨bg, boff, none⟩) 21 cap) (encB 1 1 2 1 0 (zeroZ 1 1 2 1)) ∧ Sem.run Try.prog (convert 22 9 (.slice (some ⟨bg, boff, none⟩) 17 cap)) w' = .ok (.string (strB body17)) w' ∧ StIs w' w3.heap.size S4 L4 1 1 2 1 0 X4 A4 G4 C4 Z ∧ Below w.heap.size w w') (by kernel_rfl) (by exact ⟨HX5.out.drewN 1, HAT5.out.kept (below_drewN (Below.refl _ _) 1), HCV.out _ (HAT5.out.kept (below_drewN (Below.refl _ _) 1)), HST5.out.kept (below_drewN (Below.refl _ _) 1), below_drewN HB5.out 1⟩) (fun hHeld => ?_)
  refine wpAnyH_take (i := 0) (v := ?_) rfl (by kernel_rfl) (by kernel_rfl) (by kernel_rfl) (fun _ _ _ h => h) (Or.inl ⟨by rfl, ?_⟩) (by assumption) ?_
  rotate_left
  · intro w hSw
    try dsimp only at hSw
    go_simp
    try with_reducible rfl
  simp only [Act.put, List.setIfInBounds_toArray, List.set_cons_zero, List.set_cons_succ, List.getElem_toArray, List.getElem_cons_zero, List.getElem_cons_succ]
  refine wpAnyH_take (i := 1) (v := ?_) rfl (by kernel_rfl) (by kernel_rfl) (by kernel_rfl) (fun _ _ _ h => h) (Or.inl ⟨by rfl, ?_⟩) (by assumption) ?_
  rotate_left
  · intro w hSw
    try dsimp only at hSw
    go_simp
    try with_reducible rfl
  simp only [Act.put, List.setIfInBounds_toArray, List.set_cons_zero, List.set_cons_succ, List.getElem_toArray, List.getElem_cons_zero, List.getElem_cons_succ]
  refine wpAnyH_take (i := 2) (v := ?_) rfl (by kernel_rfl) (by kernel_rfl) (by kernel_rfl) (fun _ _ _ h => h) (Or.inl ⟨by rfl, ?_⟩) (by assumption) ?_
  rotate_left
  · intro w hSw
    try dsimp only at hSw
    go_simp
    try with_reducible rfl
  simp only [Act.put, List.setIfInBounds_toArray, List.set_cons_zero, List.set_cons_succ, List.getElem_toArray, List.getElem_cons_zero, List.getElem_cons_succ]
  refine wpAnyH_take (i := 3) (v := ?_) rfl (by kernel_rfl) (by kernel_rfl) (by kernel_rfl) (fun _ _ _ h => h) (Or.inl ⟨by rfl, ?_⟩) (by assumption) ?_
  rotate_left
  · intro w hSw
    try dsimp only at hSw
    go_simp
    try with_reducible rfl
  simp only [Act.put, List.setIfInBounds_toArray, List.set_cons_zero, List.set_cons_succ, List.getElem_toArray, List.getElem_cons_zero, List.getElem_cons_succ]
  refine wpAnyH_take (i := 4) (v := ?_) rfl (by kernel_rfl) (by kernel_rfl) (by kernel_rfl) (fun _ _ _ h => h) (Or.inl ⟨by rfl, ?_⟩) (by assumption) ?_
  rotate_left
  · intro w hSw
    try dsimp only at hSw
    go_simp
    try with_reducible rfl
  simp only [Act.put, List.setIfInBounds_toArray, List.set_cons_zero, List.set_cons_succ, List.getElem_toArray, List.getElem_cons_zero, List.getElem_cons_succ]
  refine wpAnyH_take (i := 5) (v := ?_) rfl (by kernel_rfl) (by kernel_rfl) (by kernel_rfl) (fun _ _ _ h => h) (Or.inl ⟨by rfl, ?_⟩) (by assumption) ?_
  rotate_left
  · intro w hSw
    try dsimp only at hSw
    go_simp
    try with_reducible rfl
  simp only [Act.put, List.setIfInBounds_toArray, List.set_cons_zero, List.set_cons_succ, List.getElem_toArray, List.getElem_cons_zero, List.getElem_cons_succ]
  refine wpAnyH_take (i := 6) (v := ?_) rfl (by kernel_rfl) (by kernel_rfl) (by kernel_rfl) (fun _ _ _ h => h) (Or.inl ⟨by rfl, ?_⟩) (by assumption) ?_
  rotate_left
  · intro w hSw
    try dsimp only at hSw
    go_simp
    try with_reducible rfl
  simp only [Act.put, List.setIfInBounds_toArray, List.set_cons_zero, List.set_cons_succ, List.getElem_toArray, List.getElem_cons_zero, List.getElem_cons_succ]
  refine wpAnyH_take (i := 7) (v := ?_) rfl (by kernel_rfl) (by kernel_rfl) (by kernel_rfl) (fun _ _ _ h => h) (Or.inl ⟨by rfl, ?_⟩) (by assumption) ?_
  rotate_left
  · intro w hSw
    try dsimp only at hSw
    go_simp
    try with_reducible rfl
  simp only [Act.put, List.setIfInBounds_toArray, List.set_cons_zero, List.set_cons_succ, List.getElem_toArray, List.getElem_cons_zero, List.getElem_cons_succ]
  refine wpAnyH_take (i := 8) (v := ?_) rfl (by kernel_rfl) (by kernel_rfl) (by kernel_rfl) (fun _ _ _ h => h) (Or.inl ⟨by rfl, ?_⟩) (by assumption) ?_
  rotate_left
  · intro w hSw
    try dsimp only at hSw
    go_simp
    try with_reducible rfl
  simp only [Act.put, List.setIfInBounds_toArray, List.set_cons_zero, List.set_cons_succ, List.getElem_toArray, List.getElem_cons_zero, List.getElem_cons_succ]
  refine wpAnyH_take (i := 9) (v := ?_) rfl (by kernel_rfl) (by kernel_rfl) (by kernel_rfl) (fun _ _ _ h => h) (Or.inl ⟨by rfl, ?_⟩) (by assumption) ?_
  rotate_left
  · intro w hSw
    try dsimp only at hSw
    go_simp
    try with_reducible rfl
  simp only [Act.put, List.setIfInBounds_toArray, List.set_cons_zero, List.set_cons_succ, List.getElem_toArray, List.getElem_cons_zero, List.getElem_cons_succ]
  refine wpAnyH_take (i := 10) (v := ?_) rfl (by kernel_rfl) (by kernel_rfl) (by kernel_rfl) (fun _ _ _ h => h) (Or.inl ⟨by rfl, ?_⟩) (by assumption) ?_
  rotate_left
  · intro w hSw
    try dsimp only at hSw
    go_simp
    try with_reducible rfl
  simp only [Act.put, List.setIfInBounds_toArray, List.set_cons_zero, List.set_cons_succ, List.getElem_toArray, List.getElem_cons_zero, List.getElem_cons_succ]
  refine wpAnyH_take (i := 11) (v := ?_) rfl (by kernel_rfl) (by kernel_rfl) (by kernel_rfl) (fun _ _ _ h => h) (Or.inl ⟨by rfl, ?_⟩) (by assumption) ?_
  rotate_left
  · intro w hSw
    try dsimp only at hSw
    go_simp
    try with_reducible rfl
  simp only [Act.put, List.setIfInBounds_toArray, List.set_cons_zero, List.set_cons_succ, List.getElem_toArray, List.getElem_cons_zero, List.getElem_cons_succ]
  refine wpAnyH_take (i := 12) (v := ?_) rfl (by kernel_rfl) (by kernel_rfl) (by kernel_rfl) (fun _ _ _ h => h) (Or.inl ⟨by rfl, ?_⟩) (by assumption) ?_
  rotate_left
  · intro w hSw
    try dsimp only at hSw
    go_simp
    try with_reducible rfl
  simp only [Act.put, List.setIfInBounds_toArray, List.set_cons_zero, List.set_cons_succ, List.getElem_toArray, List.getElem_cons_zero, List.getElem_cons_succ]
  refine wpAnyH_take (i := 13) (v := ?_) rfl (by kernel_rfl) (by kernel_rfl) (by kernel_rfl) (fun _ _ _ h => h) (Or.inl ⟨by rfl, ?_⟩) (by assumption) ?_
  rotate_left
  · intro w hSw
    try dsimp only at hSw
    go_simp
    try with_reducible rfl
  simp only [Act.put, List.setIfInBounds_toArray, List.set_cons_zero, List.set_cons_succ, List.getElem_toArray, List.getElem_cons_zero, List.getElem_cons_succ]
  refine wpAnyH_take (i := 15) (v := ?_) rfl (by kernel_rfl) (by kernel_rfl) (by kernel_rfl) (fun _ _ _ h => h) (Or.inl ⟨by rfl, ?_⟩) (by assumption) ?_
  rotate_left
  · intro w hSw
    try refine (exec_load_row 36 _ rfl _ rfl 36 _ (0, 0) _ hSw.1 Try.underlying36 rfl (by kernel_rfl)).trans ?_
    go_simp
    try with_reducible rfl
  simp only [Act.put, List.setIfInBounds_toArray, List.set_cons_zero, List.set_cons_succ, List.getElem_toArray, List.getElem_cons_zero, List.getElem_cons_succ]
  refine wpAnyH_ready (rs := [14]) (by kernel_rfl) (by simp) ?_
  refine AllReadyH.cons rfl (fun Kc hKc => ?_) AllReadyH.nil
  go_simp
  go_wp2_with (first | (go_at_call 15; refine (stconfig _ _ S4 L4 1 1 2 1 0 X4 A4 G4 C4 Z hHeld.2.2.2.1).mono ?_; rintro e w6 ⟨rfl, hb'⟩) | (go_at_call 11; refine (PZ.out _).mono ?_; rintro e w7 ⟨rfl, hb'⟩))
  refine hKc.out _ _ ?_ (fun hHeld => ?_)
  · exact ⟨hHeld.1.kept hb', hHeld.2.1.kept hb', HCV.out _ (hHeld.2.1.kept hb'), hHeld.2.2.2.1.kept hb', btr hHeld.2.2.2.2 hb'⟩
  clear hKc Kc
  refine wpAnyH_take (i := 16) (v := ?_) rfl (by kernel_rfl) (by kernel_rfl) (by kernel_rfl) (fun _ _ _ h => h) (Or.inl ⟨by rfl, ?_⟩) (by assumption) ?_
  rotate_left
  · intro w hSw
    try dsimp only at hSw
    go_simp
    try with_reducible rfl
  simp only [Act.put, List.setIfInBounds_toArray, List.set_cons_zero, List.set_cons_succ, List.getElem_toArray, List.getElem_cons_zero, List.getElem_cons_succ]
  refine wpAnyH_take (i := 17) (v := ?_) rfl (by kernel_rfl) (by kernel_rfl) (by kernel_rfl) (fun _ _ _ h => h) (Or.inl ⟨by rfl, ?_⟩) (by assumption) ?_
  rotate_left
  · intro w hSw
    try dsimp only at hSw
    go_simp
    try with_reducible rfl
  simp only [Act.put, List.setIfInBounds_toArray, List.set_cons_zero, List.set_cons_succ, List.getElem_toArray, List.getElem_cons_zero, List.getElem_cons_succ]
  refine wpAnyH_take (i := 18) (v := ?_) rfl (by kernel_rfl) (by kernel_rfl) (by kernel_rfl) (fun _ _ _ h => h) (Or.inl ⟨by rfl, ?_⟩) (by assumption) ?_
  rotate_left
  · intro w hSw
    try dsimp only at hSw
    go_simp
    try with_reducible rfl
  simp only [Act.put, List.setIfInBounds_toArray, List.set_cons_zero, List.set_cons_succ, List.getElem_toArray, List.getElem_cons_zero, List.getElem_cons_succ]
  refine wpAnyH_take (i := 19) (v := ?_) rfl (by kernel_rfl) (by kernel_rfl) (by kernel_rfl) (fun _ _ _ h => h) (Or.inl ⟨by rfl, ?_⟩) (by assumption) ?_
  rotate_left
  · intro w hSw
    try refine (exec_load_row 36 _ rfl _ rfl 36 _ (0, 0) _ hSw.1 Try.underlying36 rfl (by kernel_rfl)).trans ?_
    go_simp
    try with_reducible rfl
  simp only [Act.put, List.setIfInBounds_toArray, List.set_cons_zero, List.set_cons_succ, List.getElem_toArray, List.getElem_cons_zero, List.getElem_cons_succ]
  refine wpAnyH_ready (rs := [20]) (by kernel_rfl) (by simp) ?_
  refine AllReadyH.cons rfl (fun Kc hKc => ?_) AllReadyH.nil
  go_simp
  go_wp2_with (first | (go_at_call 15; refine (stconfig _ _ S4 L4 1 1 2 1 0 X4 A4 G4 C4 Z hHeld.2.2.2.1).mono ?_; rintro e w6 ⟨rfl, hb'⟩) | (go_at_call 11; refine (PZ.out _).mono ?_; rintro e w7 ⟨rfl, hb'⟩))
  refine hKc.out _ _ ?_ (fun hHeld => ?_)
  · exact ⟨hHeld.1.kept hb', hHeld.2.1.kept hb', HCV.out _ (hHeld.2.1.kept hb'), hHeld.2.2.2.1.kept hb', btr hHeld.2.2.2.2 hb'⟩
  clear hKc Kc
  refine wpAnyH_take (i := 21) (v := ?_) rfl (by kernel_rfl) (by kernel_rfl) (by kernel_rfl) (fun _ _ _ h => h) (Or.inl ⟨by rfl, ?_⟩) (by assumption) ?_
  rotate_left
  · intro w hSw
    try dsimp only at hSw
    go_simp
    try with_reducible rfl
  simp only [Act.put, List.setIfInBounds_toArray, List.set_cons_zero, List.set_cons_succ, List.getElem_toArray, List.getElem_cons_zero, List.getElem_cons_succ]
  refine wpAnyH_take (i := 22) (v := ?_) rfl (by kernel_rfl) (by kernel_rfl) (by kernel_rfl) (fun _ _ _ h => h) (Or.inl ⟨by rfl, ?_⟩) (by assumption) ?_
  rotate_left
  · intro w hSw
    try dsimp only at hSw
    go_simp
    try with_reducible rfl
  simp only [Act.put, List.setIfInBounds_toArray, List.set_cons_zero, List.set_cons_succ, List.getElem_toArray, List.getElem_cons_zero, List.getElem_cons_succ]
  refine wpAnyH_take (i := 23) (v := ?_) rfl (by kernel_rfl) (by kernel_rfl) (by kernel_rfl) (fun _ _ _ h => h) (Or.inl ⟨by rfl, ?_⟩) (by assumption) ?_
  rotate_left
  · intro w hSw
    try dsimp only at hSw
    go_simp
    try with_reducible rfl
  simp only [Act.put, List.setIfInBounds_toArray, List.set_cons_zero, List.set_cons_succ, List.getElem_toArray, List.getElem_cons_zero, List.getElem_cons_succ]
  refine wpAnyH_done (by kernel_rfl) ?_ _
  go_wp2
  go_ret
  exact ⟨rfl, hHeld.2.2.2.2⟩
end Go.Proofs.Ytbghchgmoiniiaa

/-
  The walks of the reference's Size and of WireSize. Conditions: none beyond those stated at each theorem.
-/
namespace Go.Proofs.Ytbghchgmoiniiaa
open Go.RowKit
set_option linter.unusedVariables false
set_option linter.unusedSimpArgs false

set_option maxRecDepth 100000 in
set_option maxHeartbeats 4000000 in
theorem rsize_any (b r d m s : Int) (w : World) :
    Calls Try.prog 12 #[.agg #[.int .i64 b, .int .i64 r, .int .i64 d, .int .i64 m, .int .u64 s]] w fun e w' => e = .returned (.int .i64 (sizeN b r d m : Int)) ∧ Below w.heap.size w w' := by
  have PR := fun w => rright_any b r d m s w
  obtain ⟨g1, hb1, hsz1⟩ := news1 w (.cells #[.int .i64 b, .int .i64 r, .int .i64 d, .int .i64 m, .int .u64 s] 36)
  have hx1 : Blk _ w.heap.size 36 #[.int .i64 b, .int .i64 r, .int .i64 d, .int .i64 m, .int .u64 s] := g1
  have HB1 := Lib.hid hb1
  have HX1 := Lib.hid hx1
  clear g1 hb1 hsz1
  cases hr : rightB b r d m
  · rw [hr] at PR
    have PR := Lib.hid PR
    have HN : Hid (sizeN b r d m = 0) := Lib.hid (by unfold sizeN; rw [hr]; rfl)
    rw [HN.out]
    clear hr
    go_enter Try.func12, Try.ntmps12
    go_wp2_with (refine wpList_load_row rfl 36 _ rfl w.heap.size rfl 36 _ (0, 0) _ hx1 Try.underlying36 rfl (by kernel_rfl) ?_)
    with_reducible refine (PR.out _).mono ?_
    rintro e w2 ⟨rfl, hb⟩
    have HB2 := Lib.hid (btr HB1.out hb)
    clear hb
    go_wp2
    go_ret
    exact ⟨rfl, HB2.out⟩
  · rw [hr] at PR
    have PR := Lib.hid PR
    have PX := Lib.hid (fun (j : Nat) w => rexact_any b r d m s (j : Int) w)
    have PK := Lib.hid (fun (j : Nat) w => rkeys_any b r d m s (j : Int) w)
    have hR := right_of hr
    obtain ⟨n, hn⟩ : ∃ n : Nat, b = (n : Int) := ⟨b.toNat, by omega⟩
    subst hn
    have HN : Hid (sizeN (n : Int) r d m = sizeUp (n : Int) r d m (n + 1)) := Lib.hid (by unfold sizeN; rw [if_pos hr]; rfl)
    have HLE := Lib.hid (fun j => sizeUp_le hr j)
    have HCL := Lib.hid (fun (j : Nat) => cellsN_le (l := (j : Int)) hr)
    have HRR := Lib.hid hR
    rw [HN.out]
    have hn59 : n ≤ 59 := by omega
    clear hr hR
    go_enter Try.func12, Try.ntmps12
    go_wp2_with (refine wpList_load_row rfl 36 _ rfl w.heap.size rfl 36 _ (0, 0) _ hx1 Try.underlying36 rfl (by kernel_rfl) ?_)
    with_reducible refine (PR.out _).mono ?_
    rintro e w2 ⟨rfl, hb⟩
    have HB2 := Lib.hid (btr HB1.out hb)
    have HX2 := Lib.hid (HX1.out.kept hb)
    clear hb hx1
    go_wp2_with fail
    go_loopw [3, 4] (fun y i wr => ∃ j : Nat, j ≤ n + 1 ∧ i = .int .i64 (j : Int) ∧ y = .int .i64 (sizeUp (n : Int) r d m j : Int) ∧ Blk wr w.heap.size 36 #[.int .i64 (n : Int), .int .i64 r, .int .i64 d, .int .i64 m, .int .u64 s] ∧ Below w.heap.size w wr) (fun _ i _ => n + 1 - (intOf i).toNat)
    case atStart => exact ⟨0, by omega, rfl, rfl, HX2.out, HB2.out⟩
    case round =>
      obtain ⟨j, hj, rfl, rfl, hx, hbel⟩ := hrel
      have HX := Lib.hid hx
      have HBL := Lib.hid hbel
      have q0 := hx.cell 0
      simp at q0
      clear hx hbel HX2 HB2
      by_cases hlt : j < n + 1
      · have PX2 := PX.out j
        have PK2 := Lib.hid (PK.out j)
        have HSU : Hid (sizeUp (n : Int) r d m (j + 1) = sizeUp (n : Int) r d m j + cellsN (n : Int) r d m (j : Int)) := Lib.hid rfl
        have hc := HCL.out j
        have hz := HLE.out j
        have i1 : (j : Int) ≤ (n : Int) := by omega
        have i2 : decide ((j : Int) ≤ (n : Int)) = true := decide_eq_true i1
        have i3 : decide (j ≤ n) = true := decide_eq_true (by omega)
        cases hex : exactB (n : Int) r d m (j : Int)
        · rw [hex] at PX2
          have PX2 := Lib.hid PX2
          have hR := HRR.out
          obtain ⟨cn, hcn⟩ : ∃ cn, cn = cellsN (n : Int) r d m (j : Int) := ⟨_, rfl⟩
          have HCN : Hid (cn = r.toNat * d.toNat) := Lib.hid (by rw [hcn]; unfold cellsN; rw [hex]; simp)
          have hp : (r.toNat : Int) * (d.toNat : Int) = (cn : Int) := by rw [HCN.out]; exact (Int.natCast_mul ..).symm
          rw [show (r.toNat : Int) = r by omega, show (d.toNat : Int) = d by omega] at hp
          rw [← hcn] at HSU hc
          generalize sizeUp (n : Int) r d m j = su at *
          clear hR hex hcn
          go_wp2_with (refine wpList_load_row rfl 36 _ rfl w.heap.size rfl 36 _ (0, 0) _ HX.out Try.underlying36 rfl (by kernel_rfl) ?_)
          with_reducible refine (PX2.out _).mono ?_
          rintro e w3 ⟨rfl, hb⟩
          have HX3 := Lib.hid (HX.out.kept hb)
          have HB3 := Lib.hid (btr HBL.out hb)
          have q1 := HX3.out.cell 1
          have q2 := HX3.out.cell 2
          simp at q1 q2
          clear hb q0
          go_wp2
          go_roundw
          case rel => exact ⟨j + 1, by omega, by go_num, by rw [HSU.out]; go_num, HX3.out, HB3.out⟩
          case measure => simp [intOf]; omega
        · rw [hex] at PX2
          have PX2 := Lib.hid PX2
          have hkd := of_decide_eq_true hex
          obtain ⟨cn, hcn⟩ : ∃ cn, cn = cellsN (n : Int) r d m (j : Int) := ⟨_, rfl⟩
          have HCN : Hid (keysI (n : Int) r d m (j : Int) = (cn : Int)) := Lib.hid (by rw [hcn]; unfold cellsN; rw [hex]; simp; omega)
          rw [HCN.out] at PK2
          have hw : IntKind.i64.wrap (cn : Int) = (cn : Int) := by rw [wrapI_eq64]; unfold wrap64; omega
          rw [← hcn] at HSU hc
          generalize sizeUp (n : Int) r d m j = su at *
          clear hex hcn hkd
          go_wp2_with (refine wpList_load_row rfl 36 _ rfl w.heap.size rfl 36 _ (0, 0) _ HX.out Try.underlying36 rfl (by kernel_rfl) ?_)
          with_reducible refine (PX2.out _).mono ?_
          rintro e w3 ⟨rfl, hb⟩
          have HX3 := Lib.hid (HX.out.kept hb)
          have HB3 := Lib.hid (btr HBL.out hb)
          clear hb q0
          go_wp2_with (refine wpList_load_row rfl 36 _ rfl w.heap.size rfl 36 _ (0, 0) _ HX3.out Try.underlying36 rfl (by kernel_rfl) ?_)
          with_reducible refine (PK2.out _).mono ?_
          rintro e w4 ⟨rfl, hb⟩
          have HX4 := Lib.hid (HX3.out.kept hb)
          have HB4 := Lib.hid (btr HB3.out hb)
          clear hb
          go_wp2
          go_roundw
          case rel => exact ⟨j + 1, by omega, by go_num, by rw [HSU.out]; go_num, HX4.out, HB4.out⟩
          case measure => simp [intOf]; omega
      · obtain rfl : j = n + 1 := by omega
        have i1 : ¬ (((n + 1 : Nat) : Int) ≤ (n : Int)) := by omega
        have i3 : decide (n + 1 ≤ n) = false := decide_eq_false (by omega)
        clear hlt
        go_wp2
        go_ret
        exact ⟨rfl, HBL.out⟩
set_option maxRecDepth 100000 in
set_option maxHeartbeats 4000000 in
theorem WireSize_walk (v : Value) (w : World) (hv : shCfg.Val w v) :
    Calls Try.prog 4 #[v] w fun e w' => e = .returned (.bool true) ∧ Below w.heap.size w w' := by
  obtain ⟨b, r, d, m, s, rfl, -⟩ := valCfg hv
  clear hv
  have PS := Lib.hid (fun w => shown23 w)
  have PW := Lib.hid (fun w => wsize_any b r d m s w)
  have PR := Lib.hid (fun w => rsize_any b r d m s w)
  generalize sizeN b r d m = q at *
  obtain ⟨g1, hb1, hsz1⟩ := news1 w (.cells #[.int .i64 b, .int .i64 r, .int .i64 d, .int .i64 m, .int .u64 s] 36)
  have HX1 : Hid (Blk _ w.heap.size 36 #[.int .i64 b, .int .i64 r, .int .i64 d, .int .i64 m, .int .u64 s]) := Lib.hid g1
  have HB1 := Lib.hid hb1
  clear g1 hb1 hsz1
  go_enter Try.func4, Try.ntmps4
  go_wp2_with fail
  with_reducible refine (PS.out _).mono ?_
  rintro e w2 ⟨rfl, hb⟩
  have HB2 := Lib.hid (btr HB1.out hb)
  have HX2 := Lib.hid (HX1.out.kept hb)
  clear hb
  go_wp2_with fail
  refine wp_region_held_drew (S := fun w' => Blk w' w.heap.size 36 #[.int .i64 b, .int .i64 r, .int .i64 d, .int .i64 m, .int .u64 s] ∧ Below w.heap.size w w') (by kernel_rfl) (by exact ⟨HX2.out.drewN 1, below_drewN HB2.out 1⟩) (fun hHeld => ?_)
  refine wpAnyH_take (i := 0) (v := ?_) rfl (by kernel_rfl) (by kernel_rfl) (by kernel_rfl) (fun _ _ _ h => h) (Or.inl ⟨by rfl, ?_⟩) (by assumption) ?_
  rotate_left
  · intro w hSw
    try dsimp only at hSw
    go_simp
    try with_reducible rfl
  simp only [Act.put, List.setIfInBounds_toArray, List.set_cons_zero, List.set_cons_succ, List.getElem_toArray, List.getElem_cons_zero, List.getElem_cons_succ]
  refine wpAnyH_take (i := 1) (v := ?_) rfl (by kernel_rfl) (by kernel_rfl) (by kernel_rfl) (fun _ _ _ h => h) (Or.inl ⟨by rfl, ?_⟩) (by assumption) ?_
  rotate_left
  · intro w hSw
    try dsimp only at hSw
    go_simp
    try with_reducible rfl
  simp only [Act.put, List.setIfInBounds_toArray, List.set_cons_zero, List.set_cons_succ, List.getElem_toArray, List.getElem_cons_zero, List.getElem_cons_succ]
  refine wpAnyH_take (i := 2) (v := ?_) rfl (by kernel_rfl) (by kernel_rfl) (by kernel_rfl) (fun _ _ _ h => h) (Or.inl ⟨by rfl, ?_⟩) (by assumption) ?_
  rotate_left
  · intro w hSw
    try refine (exec_load_row 36 _ rfl _ rfl 36 _ (0, 0) _ hSw.1 Try.underlying36 rfl (by kernel_rfl)).trans ?_
    go_simp
    try with_reducible rfl
  simp only [Act.put, List.setIfInBounds_toArray, List.set_cons_zero, List.set_cons_succ, List.getElem_toArray, List.getElem_cons_zero, List.getElem_cons_succ]
  refine wpAnyH_take (i := 4) (v := ?_) rfl (by kernel_rfl) (by kernel_rfl) (by kernel_rfl) (fun _ _ _ h => h) (Or.inl ⟨by rfl, ?_⟩) (by assumption) ?_
  rotate_left
  · intro w hSw
    try refine (exec_load_row 36 _ rfl _ rfl 36 _ (0, 0) _ hSw.1 Try.underlying36 rfl (by kernel_rfl)).trans ?_
    go_simp
    try with_reducible rfl
  simp only [Act.put, List.setIfInBounds_toArray, List.set_cons_zero, List.set_cons_succ, List.getElem_toArray, List.getElem_cons_zero, List.getElem_cons_succ]
  refine wpAnyH_ready (rs := [3]) (by kernel_rfl) (by simp) ?_
  refine AllReadyH.cons rfl (fun Kc hKc => ?_) AllReadyH.nil
  go_simp
  go_wp2_with (first | (go_at_call 11; refine (PW.out _).mono ?_; rintro e w3 ⟨rfl, hb'⟩) | (go_at_call 12; refine (PR.out _).mono ?_; rintro e w4 ⟨rfl, hb'⟩))
  refine hKc.out _ _ ?_ (fun hHeld => ?_)
  · exact ⟨hHeld.1.kept hb', btr hHeld.2 hb'⟩
  clear hKc Kc
  refine wpAnyH_ready (rs := [5]) (by kernel_rfl) (by simp) ?_
  refine AllReadyH.cons rfl (fun Kc hKc => ?_) AllReadyH.nil
  go_simp
  go_wp2_with (first | (go_at_call 11; refine (PW.out _).mono ?_; rintro e w3 ⟨rfl, hb'⟩) | (go_at_call 12; refine (PR.out _).mono ?_; rintro e w4 ⟨rfl, hb'⟩))
  refine hKc.out _ _ ?_ (fun hHeld => ?_)
  · exact ⟨hHeld.1.kept hb', btr hHeld.2 hb'⟩
  clear hKc Kc
  refine wpAnyH_take (i := 6) (v := ?_) rfl (by kernel_rfl) (by kernel_rfl) (by kernel_rfl) (fun _ _ _ h => h) (Or.inl ⟨by rfl, ?_⟩) (by assumption) ?_
  rotate_left
  · intro w hSw
    try dsimp only at hSw
    go_simp
    try with_reducible rfl
  simp only [Act.put, List.setIfInBounds_toArray, List.set_cons_zero, List.set_cons_succ, List.getElem_toArray, List.getElem_cons_zero, List.getElem_cons_succ]
  refine wpAnyH_take (i := 7) (v := ?_) rfl (by kernel_rfl) (by kernel_rfl) (by kernel_rfl) (fun _ _ _ h => h) (Or.inl ⟨by rfl, ?_⟩) (by assumption) ?_
  rotate_left
  · intro w hSw
    try dsimp only at hSw
    go_simp
    try with_reducible rfl
  simp only [Act.put, List.setIfInBounds_toArray, List.set_cons_zero, List.set_cons_succ, List.getElem_toArray, List.getElem_cons_zero, List.getElem_cons_succ]
  refine wpAnyH_take (i := 8) (v := ?_) rfl (by kernel_rfl) (by kernel_rfl) (by kernel_rfl) (fun _ _ _ h => h) (Or.inl ⟨by rfl, ?_⟩) (by assumption) ?_
  rotate_left
  · intro w hSw
    try dsimp only at hSw
    go_simp
    try with_reducible rfl
  simp only [Act.put, List.setIfInBounds_toArray, List.set_cons_zero, List.set_cons_succ, List.getElem_toArray, List.getElem_cons_zero, List.getElem_cons_succ]
  refine wpAnyH_done (by kernel_rfl) ?_ _
  go_wp2
  go_ret
  exact ⟨rfl, hHeld.2⟩
end Go.Proofs.Ytbghchgmoiniiaa

/-
  The walk of the document's Decode. Conditions: none beyond those stated at each theorem.
-/
namespace Go.Proofs.Ytbghchgmoiniiaa
open Go.RowKit
set_option linter.unusedVariables false
set_option linter.unusedSimpArgs false

theorem rtakerow_yes (w : World) (g off cap : Nat) (bs : List Int) (n : Nat) (hv : BytesAt w (.slice (some ⟨g, off, none⟩) bs.length cap) bs) (hb : Byts bs) (hl : bs.length ≤ 100000) (hn : n ≤ 100000) {zs : List Int} {a : Nat} (h : TRow bs n zs a) :
    Calls Try.prog 27 #[.slice (some ⟨g, off, none⟩) bs.length cap, .int .i64 (n : Int)] w fun e w' => ∃ x, e = .returned (.tuple #[x, .int .i64 (a : Int), .int .i64 0]) ∧ OwnZ w' w.heap.size x zs ∧ Below w.heap.size w w' := by
  refine (rtakerow_any w g off cap bs n hv hb hl hn).mono ?_
  rintro e w' ⟨⟨ys, c, x, h1, h2, h3⟩ | ⟨h1, h2⟩, h4⟩
  · obtain ⟨rfl, rfl⟩ := h.unique h1
    exact ⟨x, h2, h3, h4⟩
  · exact absurd h (h1 zs a)
theorem rtakerow_no (w : World) (g off cap : Nat) (bs : List Int) (n : Nat) (hv : BytesAt w (.slice (some ⟨g, off, none⟩) bs.length cap) bs) (hb : Byts bs) (hl : bs.length ≤ 100000) (hn : n ≤ 100000) (h : TRowNo bs n) :
    Calls Try.prog 27 #[.slice (some ⟨g, off, none⟩) bs.length cap, .int .i64 (n : Int)] w fun e w' => e = .returned (.tuple #[.slice none 0 0, .int .i64 0, .int .i64 8]) ∧ Below w.heap.size w w' := by
  refine (rtakerow_any w g off cap bs n hv hb hl hn).mono ?_
  rintro e w' ⟨⟨ys, c, x, h1, h2, h3⟩ | ⟨h1, h2⟩, h4⟩
  · exact absurd h1 (h ys c)
  · exact ⟨h2, h4⟩
def RDecRes (w : World) (bs : List Int) (e : Ending) (w' : World) : Prop :=
  ((∃ b r d m s Z RS RL P F, DecS bs b r d m s Z ∧ e = .returned (.tuple #[.pointer (some ⟨RS, 0, none⟩), .int .i64 0]) ∧ w.heap.size ≤ RS ∧ RStIs w' w.heap.size RS RL b r d m s P F Z) ∨ (DecNo bs ∧ e = .returned (.tuple #[.pointer none, .int .i64 (errOf bs)]))) ∧ Below w.heap.size w w'
theorem Byts.sign {bs : List Int} (h : Byts bs) : Byts (signB bs) := h.append (leB_byts _ _)
theorem DecS.congr {bs : List Int} {b r d m s : Int} {Y Z : Nat → List Int} (h : DecS bs b r d m s Y) (e : ∀ q, q ≤ b.toNat → Z q = Y q) : DecS bs b r d m s Z :=
  ⟨h.1, h.2.1, h.2.2.1, fun q hq => by rw [e q (by omega)]; exact h.2.2.2.1 q hq, h.2.2.2.2.trans (by rw [encB, encB, rowsB_congr (fun q hq => (e q (by omega)).symm)])⟩
theorem rdec_few (w : World) (v : Value) (bs : List Int) (hv : BytesAt w v bs) (hl : bs.length < 4) :
    Calls Try.prog 9 #[v] w (RDecRes w bs) := by
  have HNO := Lib.hid (dec_short hl)
  have HER : Hid (errOf bs = 8) := Lib.hid (by unfold errOf; rw [if_pos hl])
  obtain ⟨ao, cap, rfl, hcap, hmx, hc⟩ := hv
  obtain ⟨n, hn⟩ : ∃ n, n = bs.length := ⟨_, rfl⟩
  rw [← hn] at hcap hl ⊢
  clear hn hc
  have d1 : decide ((n : Int) < 4) = true := decide_eq_true (by omega)
  go_enter Try.func9, Try.ntmps9
  go_wp2_with fail
  go_ret2
  exact ⟨.inr ⟨HNO.out, by rw [HER.out]; rfl⟩, Below.refl _ _⟩
set_option maxRecDepth 100000 in
set_option maxHeartbeats 16000000 in
theorem rdec_many (w : World) (g off cap : Nat) (bs : List Int) (hv : BytesAt w (.slice (some ⟨g, off, none⟩) bs.length cap) bs) (hb : Byts bs) (h4 : 4 ≤ bs.length) (hl : bs.length ≤ 100000) :
    Calls Try.prog 9 #[.slice (some ⟨g, off, none⟩) bs.length cap] w (RDecRes w bs) := by
  have HV := Lib.hid hv
  have HBY := Lib.hid hb
  have hcap : bs.length ≤ cap := by
    obtain ⟨ao2, cap2, e, e1, e2, -⟩ := hv
    simp only [Value.slice.injEq] at e
    obtain ⟨-, -, rfl⟩ := e
    omega
  obtain ⟨at_, hat⟩ : ∃ a, bs.length = a + 4 := ⟨bs.length - 4, by omega⟩
  have HN := Lib.hid hat
  rw [hat] at hcap hl HV ⊢
  clear h4 hv hb hat
  have d1 : decide ((at_ : Int) + 4 < 4) = false := decide_eq_false (by omega)
  have d2 : decide (at_ + 4 < 4) = false := decide_eq_false (by omega)
  have hatc : at_ < cap := by omega
  have a0 : (0 : Int) ≤ (at_ : Int) := by omega
  have a2 : at_ ≤ cap := by omega
  have a3 : ¬ cap = at_ := by omega
  have a4 : ¬ at_ = cap := by omega
  have a1 : (at_ : Int) ≤ (at_ : Int) + 4 := by omega
  have HTL : Hid ((bs.take at_).length = at_) := Lib.hid (by simp; have := HN.out; omega)
  have PS := Lib.hid (fun wq (hq : BytesAt wq (.slice (some ⟨g, off, none⟩) (at_ + 4) cap) bs) => signed_any wq (.slice (some ⟨g, off, none⟩) at_ cap) (bs.take at_) (hq.upto2 at_ (by omega)) (HBY.out.take _) (by rw [HTL.out]; omega))
  have HCV := Lib.hid (fun (wq : World) (hq : BytesAt wq (.slice (some ⟨g, off, none⟩) (at_ + 4) cap) bs) => strB_conv (P := Try.prog) hq 22 5 9 Try.underlying22 Try.underlying5 Try.underlying9)
  have HCL := Lib.hid (fun (wq : World) (v : Value) (l : List Int) (hq : BytesAt wq v l) => strB_conv (P := Try.prog) hq 22 5 9 Try.underlying22 Try.underlying5 Try.underlying9)
  go_enter Try.func9, Try.ntmps9
  go_wp2_with fail
  refine wp_region_held_drew (S := fun w' => BytesAt w' (.slice (some ⟨g, off, none⟩) (at_ + 4) cap) bs ∧ Sem.run Try.prog (convert 22 9 (.slice (some ⟨g, off, none⟩) (at_ + 4) cap)) w' = .ok (.string (strB bs)) w' ∧ Below w.heap.size w w') (by kernel_rfl) (by exact ⟨HV.out.kept (below_drewN (Below.refl _ _) 1), HCV.out _ (HV.out.kept (below_drewN (Below.refl _ _) 1)), below_drewN (Below.refl _ _) 1⟩) (fun hHeld => ?_)
  refine wpAnyH_take (i := 0) (v := ?_) rfl (by kernel_rfl) (by kernel_rfl) (by kernel_rfl) (fun _ _ _ h => h) (Or.inl ⟨by rfl, ?_⟩) (by assumption) ?_
  rotate_left
  · intro w hSw
    try dsimp only at hSw
    go_simp
    try with_reducible rfl
  simp only [Act.put, List.setIfInBounds_toArray, List.set_cons_zero, List.set_cons_succ, List.getElem_toArray, List.getElem_cons_zero, List.getElem_cons_succ]
  refine wpAnyH_take (i := 3) (v := ?_) rfl (by kernel_rfl) (by kernel_rfl) (by kernel_rfl) (fun _ _ _ h => h) (Or.inl ⟨by rfl, ?_⟩) (by assumption) ?_
  rotate_left
  · intro w hSw
    try dsimp only at hSw
    go_simp
    try with_reducible rfl
  simp only [Act.put, List.setIfInBounds_toArray, List.set_cons_zero, List.set_cons_succ, List.getElem_toArray, List.getElem_cons_zero, List.getElem_cons_succ]
  refine wpAnyH_take (i := 4) (v := ?_) rfl (by kernel_rfl) (by kernel_rfl) (by kernel_rfl) (fun _ _ _ h => h) (Or.inl ⟨by rfl, ?_⟩) (by assumption) ?_
  rotate_left
  · intro w hSw
    try dsimp only at hSw
    go_simp
    try with_reducible rfl
  simp only [Act.put, List.setIfInBounds_toArray, List.set_cons_zero, List.set_cons_succ, List.getElem_toArray, List.getElem_cons_zero, List.getElem_cons_succ]
  refine wpAnyH_ready (rs := [1]) (by kernel_rfl) (by simp) ?_
  refine AllReadyH.cons rfl (fun Kc hKc => ?_) AllReadyH.nil
  go_simp
  go_wp2_with ((go_at_call 7; refine (PS.out _ hHeld.1).mono ?_; rintro e w4 ⟨v4, rfl, ho4, hv4, hb'⟩; have cv4 := HCL.out _ _ _ ho4.at; clear hv4))
  refine hKc.out _ _ ?_ (fun hHeld => ?_)
  · first | assumption | exact ⟨hHeld.1.kept hb', HCV.out _ (hHeld.1.kept hb'), btr hHeld.2.2 hb'⟩
  clear hKc Kc
  refine wpAnyH_ready (rs := [2]) (by kernel_rfl) (by simp) ?_
  refine AllReadyH.cons rfl (fun Kc hKc => ?_) AllReadyH.nil
  go_simp
  refine hKc.out _ _ ?_ (fun hHeld => ?_)
  · first | assumption | exact ⟨hHeld.1.kept hb', HCV.out _ (hHeld.1.kept hb'), btr hHeld.2.2 hb'⟩
  clear hKc Kc
  refine wpAnyH_take (i := 5) (v := ?_) rfl (by kernel_rfl) (by kernel_rfl) (by kernel_rfl) (fun _ _ _ h => h) (Or.inl ⟨by rfl, ?_⟩) (by assumption) ?_
  rotate_left
  · intro w hSw
    try dsimp only at hSw
    go_simp
    try with_reducible rfl
  simp only [Act.put, List.setIfInBounds_toArray, List.set_cons_zero, List.set_cons_succ, List.getElem_toArray, List.getElem_cons_zero, List.getElem_cons_succ]
  refine wpAnyH_done (by kernel_rfl) ?_ _
  have HB4 := Lib.hid hHeld.2.2
  have HV4 := Lib.hid hHeld.1
  have HSQ := Lib.hid (strB_inj (signB_byts (HBY.out.take at_)) HBY.out)
  have HOWN : Hid (bs.take (bs.length - 4) = bs.take at_) := Lib.hid (by rw [HN.out]; rfl)
  clear hHeld ho4 hb' cv4
  by_cases hsum : signB (bs.take at_) = bs
  rotate_left
  · have HSQ2 : (!((strB (signB (bs.take at_))).toList == (strB bs).toList)) = true := by rw [HSQ.out, decide_eq_false hsum]; rfl
    have HNS : Hid (signB (bs.take (bs.length - 4)) ≠ bs) := Lib.hid (by rw [HOWN.out]; exact hsum)
    have HER : Hid (errOf bs = 9) := Lib.hid (by unfold errOf; rw [if_neg (by rw [HN.out]; omega), if_neg HNS.out])
    clear hsum
    rw [HSQ2]
    go_wp2_with fail
    go_ret2
    exact ⟨.inr ⟨dec_sum HNS.out, by rw [HER.out]; rfl⟩, HB4.out⟩
  have HSQ2 : (!((strB (signB (bs.take at_))).toList == (strB bs).toList)) = false := by rw [HSQ.out, decide_eq_true hsum]; rfl
  have HSG : Hid (signB (bs.take (bs.length - 4)) = bs) := Lib.hid (by rw [HOWN.out]; exact hsum)
  have HER : Hid (errOf bs = 8) := Lib.hid (by unfold errOf; rw [if_neg (by rw [HN.out]; omega), if_pos HSG.out])
  have HBO := Lib.hid (HBY.out.take at_)
  have hVO := HV4.out.upto2 at_ (by omega)
  rw [HSQ2]
  have PC : Hid (Calls Try.prog 26 #[.slice (some ⟨g, off, none⟩) at_ cap] w4 (RCfgRes w4 (bs.take at_))) := Lib.hid (by
    have := rconfig_any w4 g off cap (bs.take at_) (by rw [HTL.out]; exact hVO) HBO.out (by rw [HTL.out]; omega)
    rw [HTL.out] at this
    exact this)
  have HVO := Lib.hid hVO
  clear hsum HSQ2 HSQ PS HCV HCL HV HV4 hVO d1 d2 a0 a1 a2 a3 a4
  generalize bs.take at_ = own at *
  go_wp2_with fail
  with_reducible refine PC.out.mono ?_
  rintro e w5 ⟨hres, hb5⟩
  have HVO5 := Lib.hid (HVO.out.kept hb5)
  have HB5 := Lib.hid (btr HB4.out hb5)
  clear hb5 HVO HB4 PC
  rcases hres with ⟨b, r, d, m, s, q, p, hq, hcs, rfl, hdr, hpos⟩ | ⟨hno, b, r, d, m, s, rfl⟩
  rotate_left
  · have HNO := Lib.hid (dec_none2 HOWN.out hno)
    clear hno
    go_wp2_with fail
    go_ret2
    exact ⟨.inr ⟨HNO.out, by rw [HER.out]; rfl⟩, HB5.out.alloc HB5.out.size _⟩
  have HMK : Hid (bs.take (bs.length - 4) = [71, 65] ++ q) := Lib.hid (by rw [HOWN.out]; exact hq)
  have HCS := Lib.hid hcs
  have HRT := Lib.hid hcs.1
  have hR := right_of hcs.1
  obtain ⟨ca, hca⟩ : ∃ ca, ca = own.length - p.length := ⟨_, rfl⟩
  rw [← hca] at hdr hpos ⊢
  have hcat : ca ≤ at_ := by rw [hca, HTL.out]; omega
  have HPL : Hid (p.length = at_ - ca) := Lib.hid (by rw [← hdr, List.length_drop, HTL.out])
  have HBP : Hid (Byts p) := Lib.hid (by rw [← hdr]; exact HBO.out.drop ca)
  have HVF := Lib.hid (fun wq (hv : BytesAt wq (.slice (some ⟨g, off, none⟩) at_ cap) own) => hv.from_ ca hcat (off + ca) (fun _ => rfl) (fun e => by omega))
  rw [hdr] at HVF
  obtain ⟨n, hn⟩ : ∃ n : Nat, b = (n : Int) := ⟨b.toNat, by omega⟩
  subst hn
  have hn59 : n ≤ 59 := by omega
  clear hq hcs hdr hca HBO
  have b0 : ((ca : Int) == 0) = false := by simp; omega
  have b1 : ¬ ca = 0 := by omega
  have HCB8 := Lib.hid (Blk.new w5 36 #[.int .i64 (n : Int), .int .i64 r, .int .i64 d, .int .i64 m, .int .u64 s])
  have HAL : Hid (Below w5.heap.size w5 (w5.alloc (.cells #[.int .i64 (n : Int), .int .i64 r, .int .i64 d, .int .i64 m, .int .u64 s] 36))) := Lib.hid ((Below.refl _ _).alloc (Nat.le_refl _) _)
  have HVO8 := Lib.hid (HVO5.out.kept HAL.out)
  have HB8 := Lib.hid (btr HB5.out HAL.out)
  have HCBL : Hid (w.heap.size ≤ w5.heap.size) := Lib.hid HB5.out.size
  clear HVO5 HB5 HAL
  go_upto_region 9 with fail
  generalize w5.alloc (.cells #[.int .i64 (n : Int), .int .i64 r, .int .i64 d, .int .i64 m, .int .u64 s] 36) = w8 at *
  generalize w5.heap.size = CB at *
  have PZ := Lib.hid (fun wq => rsize_any (n : Int) r d m s wq)
  have hszl := sizeN_le (n : Int) r d m
  obtain ⟨sz, hsz⟩ : ∃ sz, sz = sizeN (n : Int) r d m := ⟨_, rfl⟩
  have HSZ := Lib.hid hsz
  rw [← hsz] at PZ hszl
  have a0 : (0 : Int) ≤ (ca : Int) := by omega
  have a1 : (ca : Int) ≤ (at_ : Int) := by omega
  have a2 : ca ≤ cap := by omega
  have a3 : ¬ cap = ca := by omega
  have a4 : ¬ ca = cap := by omega
  have a5 : ca < cap := by omega
  clear hsz
  by_cases hrow : ∃ zs a, TRow p sz zs a
  rotate_left
  · have hno : TRowNo p sz := fun zs a h => hrow ⟨zs, a, h⟩
    have PTR := Lib.hid (fun wq hq => rtakerow_no wq g (off + ca) (cap - ca) p sz hq HBP.out (by rw [HPL.out]; omega) (by omega) hno)
    rw [HPL.out] at PTR
    have HNO : Hid (DecNo bs) := Lib.hid (dec_flat HMK.out HCS.out (fun zs h => hno zs _ (by rw [HSZ.out]; exact h)))
    clear hno hrow hszl
    refine wp_region_held_drew (S := fun w' => Blk w' CB 36 #[.int .i64 (n : Int), .int .i64 r, .int .i64 d, .int .i64 m, .int .u64 s] ∧ BytesAt w' (.slice (some ⟨g, off, none⟩) at_ cap) own ∧ Below w8.heap.size w8 w') (by kernel_rfl) (by exact ⟨HCB8.out.drewN 1, HVO8.out.kept (below_drewN (Below.refl _ _) 1), below_drewN (Below.refl _ _) 1⟩) (fun hHeld => ?_)
    refine wpAnyH_take (i := 0) (v := ?_) rfl (by kernel_rfl) (by kernel_rfl) (by kernel_rfl) (fun _ _ _ h => h) (Or.inl ⟨by rfl, ?_⟩) (by assumption) ?_
    rotate_left
    · intro w hSw
      try dsimp only at hSw
      go_simp
      try with_reducible rfl
    simp only [Act.put, List.setIfInBounds_toArray, List.set_cons_zero, List.set_cons_succ, List.getElem_toArray, List.getElem_cons_zero, List.getElem_cons_succ]
    refine wpAnyH_take (i := 1) (v := ?_) rfl (by kernel_rfl) (by kernel_rfl) (by kernel_rfl) (fun _ _ _ h => h) (Or.inl ⟨by rfl, ?_⟩) (by assumption) ?_
    rotate_left
    · intro w hSw
      try dsimp only at hSw
      go_simp
      try with_reducible rfl
    simp only [Act.put, List.setIfInBounds_toArray, List.set_cons_zero, List.set_cons_succ, List.getElem_toArray, List.getElem_cons_zero, List.getElem_cons_succ]
    refine wpAnyH_take (i := 2) (v := ?_) rfl (by kernel_rfl) (by kernel_rfl) (by kernel_rfl) (fun _ _ _ h => h) (Or.inl ⟨by rfl, ?_⟩) (by assumption) ?_
    rotate_left
    · intro w hSw
      try dsimp only at hSw
      go_simp
      try with_reducible rfl
    simp only [Act.put, List.setIfInBounds_toArray, List.set_cons_zero, List.set_cons_succ, List.getElem_toArray, List.getElem_cons_zero, List.getElem_cons_succ]
    refine wpAnyH_take (i := 3) (v := ?_) rfl (by kernel_rfl) (by kernel_rfl) (by kernel_rfl) (fun _ _ _ h => h) (Or.inl ⟨by rfl, ?_⟩) (by assumption) ?_
    rotate_left
    · intro w hSw
      try refine (exec_load_row 36 _ rfl _ rfl 36 _ (0, 0) _ hSw.1 Try.underlying36 rfl (by kernel_rfl)).trans ?_
      go_simp
      try with_reducible rfl
    simp only [Act.put, List.setIfInBounds_toArray, List.set_cons_zero, List.set_cons_succ, List.getElem_toArray, List.getElem_cons_zero, List.getElem_cons_succ]
    refine wpAnyH_ready (rs := [4]) (by kernel_rfl) (by simp) ?_
    refine AllReadyH.cons rfl (fun Kc hKc => ?_) AllReadyH.nil
    go_simp
    go_wp2_with (first | (go_at_call 12; refine (PZ.out _).mono ?_; rintro e w9 ⟨rfl, hb'⟩) | (go_at_call 27; refine (PTR.out _ (HVF.out _ hHeld.2.1)).mono ?_; rintro e w9 ⟨rfl, hb'⟩))
    refine hKc.out _ _ ?_ (fun hHeld => ?_)
    · first | assumption | exact ⟨hHeld.1.kept hb', hHeld.2.1.kept hb', btr hHeld.2.2 hb'⟩
    clear hKc Kc
    refine wpAnyH_ready (rs := [5]) (by kernel_rfl) (by simp) ?_
    refine AllReadyH.cons rfl (fun Kc hKc => ?_) AllReadyH.nil
    go_simp
    go_wp2_with (first | (go_at_call 12; refine (PZ.out _).mono ?_; rintro e w9 ⟨rfl, hb'⟩) | (go_at_call 27; refine (PTR.out _ (HVF.out _ hHeld.2.1)).mono ?_; rintro e w9 ⟨rfl, hb'⟩))
    refine hKc.out _ _ ?_ (fun hHeld => ?_)
    · first | assumption | exact ⟨hHeld.1.kept hb', hHeld.2.1.kept hb', btr hHeld.2.2 hb'⟩
    clear hKc Kc
    refine wpAnyH_take (i := 6) (v := ?_) rfl (by kernel_rfl) (by kernel_rfl) (by kernel_rfl) (fun _ _ _ h => h) (Or.inl ⟨by rfl, ?_⟩) (by assumption) ?_
    rotate_left
    · intro w hSw
      try dsimp only at hSw
      go_simp
      try with_reducible rfl
    simp only [Act.put, List.setIfInBounds_toArray, List.set_cons_zero, List.set_cons_succ, List.getElem_toArray, List.getElem_cons_zero, List.getElem_cons_succ]
    refine wpAnyH_take (i := 7) (v := ?_) rfl (by kernel_rfl) (by kernel_rfl) (by kernel_rfl) (fun _ _ _ h => h) (Or.inl ⟨by rfl, ?_⟩) (by assumption) ?_
    rotate_left
    · intro w hSw
      try dsimp only at hSw
      go_simp
      try with_reducible rfl
    simp only [Act.put, List.setIfInBounds_toArray, List.set_cons_zero, List.set_cons_succ, List.getElem_toArray, List.getElem_cons_zero, List.getElem_cons_succ]
    refine wpAnyH_take (i := 8) (v := ?_) rfl (by kernel_rfl) (by kernel_rfl) (by kernel_rfl) (fun _ _ _ h => h) (Or.inl ⟨by rfl, ?_⟩) (by assumption) ?_
    rotate_left
    · intro w hSw
      try dsimp only at hSw
      go_simp
      try with_reducible rfl
    simp only [Act.put, List.setIfInBounds_toArray, List.set_cons_zero, List.set_cons_succ, List.getElem_toArray, List.getElem_cons_zero, List.getElem_cons_succ]
    refine wpAnyH_take (i := 9) (v := ?_) rfl (by kernel_rfl) (by kernel_rfl) (by kernel_rfl) (fun _ _ _ h => h) (Or.inl ⟨by rfl, ?_⟩) (by assumption) ?_
    rotate_left
    · intro w hSw
      try dsimp only at hSw
      go_simp
      try with_reducible rfl
    simp only [Act.put, List.setIfInBounds_toArray, List.set_cons_zero, List.set_cons_succ, List.getElem_toArray, List.getElem_cons_zero, List.getElem_cons_succ]
    refine wpAnyH_take (i := 10) (v := ?_) rfl (by kernel_rfl) (by kernel_rfl) (by kernel_rfl) (fun _ _ _ h => h) (Or.inl ⟨by rfl, ?_⟩) (by assumption) ?_
    rotate_left
    · intro w hSw
      try dsimp only at hSw
      go_simp
      try with_reducible rfl
    simp only [Act.put, List.setIfInBounds_toArray, List.set_cons_zero, List.set_cons_succ, List.getElem_toArray, List.getElem_cons_zero, List.getElem_cons_succ]
    refine wpAnyH_take (i := 11) (v := ?_) rfl (by kernel_rfl) (by kernel_rfl) (by kernel_rfl) (fun _ _ _ h => h) (Or.inl ⟨by rfl, ?_⟩) (by assumption) ?_
    rotate_left
    · intro w hSw
      try dsimp only at hSw
      go_simp
      try with_reducible rfl
    simp only [Act.put, List.setIfInBounds_toArray, List.set_cons_zero, List.set_cons_succ, List.getElem_toArray, List.getElem_cons_zero, List.getElem_cons_succ]
    refine wpAnyH_take (i := 12) (v := ?_) rfl (by kernel_rfl) (by kernel_rfl) (by kernel_rfl) (fun _ _ _ h => h) (Or.inl ⟨by rfl, ?_⟩) (by assumption) ?_
    rotate_left
    · intro w hSw
      try dsimp only at hSw
      go_simp
      try with_reducible rfl
    simp only [Act.put, List.setIfInBounds_toArray, List.set_cons_zero, List.set_cons_succ, List.getElem_toArray, List.getElem_cons_zero, List.getElem_cons_succ]
    refine wpAnyH_done (by kernel_rfl) ?_ _
    have HB9 := Lib.hid (btr HB8.out hHeld.2.2)
    clear hHeld
    go_wp2_with fail
    go_ret2
    exact ⟨.inr ⟨HNO.out, by rw [HER.out]; rfl⟩, HB9.out⟩
  obtain ⟨zs, a, hrow⟩ := hrow
  have PTR := Lib.hid (fun wq hq => rtakerow_yes wq g (off + ca) (cap - ca) p sz hq HBP.out (by rw [HPL.out]; omega) (by omega) hrow)
  rw [HPL.out] at PTR
  have HROW := Lib.hid hrow
  have HZL : Hid (zs.length = sz) := Lib.hid hrow.1
  have HFZ : Hid (Fit zs) := Lib.hid hrow.2.1
  have hap : a ≤ at_ - ca := by have := hrow.rest.2; rw [HPL.out] at this; exact this
  clear hszl hrow
  refine wp_region_held_drew (S := fun w' => Blk w' CB 36 #[.int .i64 (n : Int), .int .i64 r, .int .i64 d, .int .i64 m, .int .u64 s] ∧ BytesAt w' (.slice (some ⟨g, off, none⟩) at_ cap) own ∧ Below w8.heap.size w8 w') (by kernel_rfl) (by exact ⟨HCB8.out.drewN 1, HVO8.out.kept (below_drewN (Below.refl _ _) 1), below_drewN (Below.refl _ _) 1⟩) (fun hHeld => ?_)
  refine wpAnyH_take (i := 0) (v := ?_) rfl (by kernel_rfl) (by kernel_rfl) (by kernel_rfl) (fun _ _ _ h => h) (Or.inl ⟨by rfl, ?_⟩) (by assumption) ?_
  rotate_left
  · intro w hSw
    try dsimp only at hSw
    go_simp
    try with_reducible rfl
  simp only [Act.put, List.setIfInBounds_toArray, List.set_cons_zero, List.set_cons_succ, List.getElem_toArray, List.getElem_cons_zero, List.getElem_cons_succ]
  refine wpAnyH_take (i := 1) (v := ?_) rfl (by kernel_rfl) (by kernel_rfl) (by kernel_rfl) (fun _ _ _ h => h) (Or.inl ⟨by rfl, ?_⟩) (by assumption) ?_
  rotate_left
  · intro w hSw
    try dsimp only at hSw
    go_simp
    try with_reducible rfl
  simp only [Act.put, List.setIfInBounds_toArray, List.set_cons_zero, List.set_cons_succ, List.getElem_toArray, List.getElem_cons_zero, List.getElem_cons_succ]
  refine wpAnyH_take (i := 2) (v := ?_) rfl (by kernel_rfl) (by kernel_rfl) (by kernel_rfl) (fun _ _ _ h => h) (Or.inl ⟨by rfl, ?_⟩) (by assumption) ?_
  rotate_left
  · intro w hSw
    try dsimp only at hSw
    go_simp
    try with_reducible rfl
  simp only [Act.put, List.setIfInBounds_toArray, List.set_cons_zero, List.set_cons_succ, List.getElem_toArray, List.getElem_cons_zero, List.getElem_cons_succ]
  refine wpAnyH_take (i := 3) (v := ?_) rfl (by kernel_rfl) (by kernel_rfl) (by kernel_rfl) (fun _ _ _ h => h) (Or.inl ⟨by rfl, ?_⟩) (by assumption) ?_
  rotate_left
  · intro w hSw
    try refine (exec_load_row 36 _ rfl _ rfl 36 _ (0, 0) _ hSw.1 Try.underlying36 rfl (by kernel_rfl)).trans ?_
    go_simp
    try with_reducible rfl
  simp only [Act.put, List.setIfInBounds_toArray, List.set_cons_zero, List.set_cons_succ, List.getElem_toArray, List.getElem_cons_zero, List.getElem_cons_succ]
  refine wpAnyH_ready (rs := [4]) (by kernel_rfl) (by simp) ?_
  refine AllReadyH.cons rfl (fun Kc hKc => ?_) AllReadyH.nil
  go_simp
  go_wp2_with (first | (go_at_call 12; refine (PZ.out _).mono ?_; rintro e w9 ⟨rfl, hb'⟩; have hs9 : w8.heap.size ≤ w9.heap.size := (btr hHeld.2.2 hb').size) | (go_at_call 27; refine (PTR.out _ (HVF.out _ hHeld.2.1)).mono ?_; rintro e wA ⟨xA, rfl, hoA, hb'⟩; have HOA := Lib.hid hoA; clear hoA))
  refine hKc.out _ _ ?_ (fun hHeld => ?_)
  · first | assumption | exact ⟨hHeld.1.kept hb', hHeld.2.1.kept hb', btr hHeld.2.2 hb'⟩
  clear hKc Kc
  refine wpAnyH_ready (rs := [5]) (by kernel_rfl) (by simp) ?_
  refine AllReadyH.cons rfl (fun Kc hKc => ?_) AllReadyH.nil
  go_simp
  go_wp2_with (first | (go_at_call 12; refine (PZ.out _).mono ?_; rintro e w9 ⟨rfl, hb'⟩; have hs9 : w8.heap.size ≤ w9.heap.size := (btr hHeld.2.2 hb').size) | (go_at_call 27; refine (PTR.out _ (HVF.out _ hHeld.2.1)).mono ?_; rintro e wA ⟨xA, rfl, hoA, hb'⟩; have HOA := Lib.hid hoA; clear hoA))
  refine hKc.out _ _ ?_ (fun hHeld => ?_)
  · first | assumption | exact ⟨hHeld.1.kept hb', hHeld.2.1.kept hb', btr hHeld.2.2 hb'⟩
  clear hKc Kc
  refine wpAnyH_take (i := 6) (v := ?_) rfl (by kernel_rfl) (by kernel_rfl) (by kernel_rfl) (fun _ _ _ h => h) (Or.inl ⟨by rfl, ?_⟩) (by assumption) ?_
  rotate_left
  · intro w hSw
    try dsimp only at hSw
    go_simp
    try with_reducible rfl
  simp only [Act.put, List.setIfInBounds_toArray, List.set_cons_zero, List.set_cons_succ, List.getElem_toArray, List.getElem_cons_zero, List.getElem_cons_succ]
  refine wpAnyH_take (i := 7) (v := ?_) rfl (by kernel_rfl) (by kernel_rfl) (by kernel_rfl) (fun _ _ _ h => h) (Or.inl ⟨by rfl, ?_⟩) (by assumption) ?_
  rotate_left
  · intro w hSw
    try dsimp only at hSw
    go_simp
    try with_reducible rfl
  simp only [Act.put, List.setIfInBounds_toArray, List.set_cons_zero, List.set_cons_succ, List.getElem_toArray, List.getElem_cons_zero, List.getElem_cons_succ]
  refine wpAnyH_take (i := 8) (v := ?_) rfl (by kernel_rfl) (by kernel_rfl) (by kernel_rfl) (fun _ _ _ h => h) (Or.inl ⟨by rfl, ?_⟩) (by assumption) ?_
  rotate_left
  · intro w hSw
    try dsimp only at hSw
    go_simp
    try with_reducible rfl
  simp only [Act.put, List.setIfInBounds_toArray, List.set_cons_zero, List.set_cons_succ, List.getElem_toArray, List.getElem_cons_zero, List.getElem_cons_succ]
  refine wpAnyH_take (i := 9) (v := ?_) rfl (by kernel_rfl) (by kernel_rfl) (by kernel_rfl) (fun _ _ _ h => h) (Or.inl ⟨by rfl, ?_⟩) (by assumption) ?_
  rotate_left
  · intro w hSw
    try dsimp only at hSw
    go_simp
    try with_reducible rfl
  simp only [Act.put, List.setIfInBounds_toArray, List.set_cons_zero, List.set_cons_succ, List.getElem_toArray, List.getElem_cons_zero, List.getElem_cons_succ]
  refine wpAnyH_take (i := 10) (v := ?_) rfl (by kernel_rfl) (by kernel_rfl) (by kernel_rfl) (fun _ _ _ h => h) (Or.inl ⟨by rfl, ?_⟩) (by assumption) ?_
  rotate_left
  · intro w hSw
    try dsimp only at hSw
    go_simp
    try with_reducible rfl
  simp only [Act.put, List.setIfInBounds_toArray, List.set_cons_zero, List.set_cons_succ, List.getElem_toArray, List.getElem_cons_zero, List.getElem_cons_succ]
  refine wpAnyH_take (i := 11) (v := ?_) rfl (by kernel_rfl) (by kernel_rfl) (by kernel_rfl) (fun _ _ _ h => h) (Or.inl ⟨by rfl, ?_⟩) (by assumption) ?_
  rotate_left
  · intro w hSw
    try dsimp only at hSw
    go_simp
    try with_reducible rfl
  simp only [Act.put, List.setIfInBounds_toArray, List.set_cons_zero, List.set_cons_succ, List.getElem_toArray, List.getElem_cons_zero, List.getElem_cons_succ]
  refine wpAnyH_take (i := 12) (v := ?_) rfl (by kernel_rfl) (by kernel_rfl) (by kernel_rfl) (fun _ _ _ h => h) (Or.inl ⟨by rfl, ?_⟩) (by assumption) ?_
  rotate_left
  · intro w hSw
    try dsimp only at hSw
    go_simp
    try with_reducible rfl
  simp only [Act.put, List.setIfInBounds_toArray, List.set_cons_zero, List.set_cons_succ, List.getElem_toArray, List.getElem_cons_zero, List.getElem_cons_succ]
  refine wpAnyH_done (by kernel_rfl) ?_ _
  have HBA := Lib.hid (btr HB8.out hHeld.2.2)
  have HCBA := Lib.hid hHeld.1
  have HHA := hHeld.2.2.size
  clear hHeld HCB8 HVO8 HB8
  have e6 : IntKind.i64.wrap ((ca : Int) + (a : Int)) = (ca : Int) + (a : Int) := by rw [wrapI_eq64]; unfold wrap64; omega
  by_cases hend : a = at_ - ca
  rotate_left
  · have b2 : ((ca : Int) + (a : Int) != (at_ : Int)) = true := by simp; omega
    have HNO : Hid (DecNo bs) := Lib.hid (dec_flat HMK.out HCS.out (fun ys h => hend (by rw [← HSZ.out] at h; have := (HROW.out.unique h).2; rw [HPL.out] at this; exact this)))
    go_wp2_with fail
    go_ret2
    exact ⟨.inr ⟨HNO.out, by rw [HER.out]; rfl⟩, HBA.out⟩
  have b2 : ((ca : Int) + (a : Int) != (at_ : Int)) = false := by simp; omega
  have HDS : Hid (DecS bs (n : Int) r d m s (partZ (n : Int) r d m zs)) := Lib.hid (dec_flat_yes HMK.out HSG.out HCS.out (by rw [← HSZ.out, HPL.out, ← hend]; exact HROW.out))
  clear hend
  have hszp : 0 < zs.length := by
    have h0 := HDS.out.2.2.2.1 0 (by omega)
    have h1 := cellsN_pos (l := ((0 : Nat) : Int)) HRT.out (by omega) (by omega)
    rw [HZL.out, HSZ.out, sizeN, if_pos HRT.out]
    have h3 : sizeUp (n : Int) r d m (0 + 1) = 0 + cellsN (n : Int) r d m ((0 : Nat) : Int) := rfl
    have h2 : sizeUp (n : Int) r d m (0 + 1) ≤ sizeUp (n : Int) r d m ((n : Int).toNat + 1) := sizeUp_mono (by omega)
    omega
  obtain ⟨ga, capa, rfl, -, hgal, hcapa, hza⟩ := HOA.out.zat hszp
  have HZA := Lib.hid hza
  have HCA := Lib.hid hcapa
  have HGAL := Lib.hid hgal
  clear hza HOA HROW hszp hcapa hgal PTR PZ HVF
  have PN := Lib.hid (fun wq => rstnew (n : Int) r d m s HRT.out wq)
  go_wp2_with (first | refine wpList_load_row rfl 36 _ rfl CB rfl 36 _ (0, 0) _ HCBA.out Try.underlying36 rfl (by kernel_rfl) ?_ | fail)
  with_reducible refine (PN.out _).mono ?_
  rintro e wB ⟨RS, RL, P, F, rfl, hRS, hst, hbB⟩
  have HRS : Hid (w.heap.size ≤ RS) := Lib.hid (Nat.le_trans HBA.out.size hRS)
  have HST0 := Lib.hid hst
  have HZB := Lib.hid (Only.zat (F := fun _ => False) ⟨hbB.os, hbB.tape, hbB.output, hbB.size, fun k hk _ => hbB.block k hk⟩ HZA.out (fun h => h))
  have HBB := Lib.hid (btr HBA.out hbB)
  have HWB : Hid (wA.heap.size ≤ wB.heap.size) := Lib.hid hbB.size
  have HWA : Hid (w.heap.size ≤ wA.heap.size) := Lib.hid HBA.out.size
  clear hRS hst hbB HZA HBA HCBA PN
  generalize wA.heap.size = BB at *
  obtain ⟨zl, hzl⟩ : ∃ zl, zl = zs.length := ⟨_, rfl⟩
  have HZZ := Lib.hid hzl
  rw [← hzl] at HZB HCA ⊢
  have HYS := Lib.hid (partZ_shaped (b := (n : Int)) (r := r) (d := d) (m := m) (zs := zs) (n := n + 1) (by rw [HZL.out, HSZ.out, sizeN, if_pos HRT.out]; rfl) (fun u hu => by
    exact HFZ.out u hu))
  clear hzl
  go_wp2_with fail
  go_loopw [11, 12] (fun x i wr => ∃ (j : Nat) (F : Nat → Nat → Prop) (Z : Nat → List Int), j ≤ n + 1 ∧ x = .int .i64 ((sizeUp (n : Int) r d m j : Nat) : Int) ∧ i = .int .i64 (j : Int) ∧ RStIs wr BB RS RL (n : Int) r d m s P F Z ∧ (∀ q, q < j → Z q = partZ (n : Int) r d m zs q) ∧ ZAt wr (.slice (some ⟨ga, 0, none⟩) zl capa) zs ∧ Below w.heap.size w wr ∧ BB ≤ wr.heap.size) (fun _ i _ => n + 1 - (intOf i).toNat)
  case atStart => exact ⟨0, F, _, by omega, rfl, rfl, HST0.out, fun q hq => by omega, HZB.out, HBB.out, HWB.out⟩
  case round =>
    obtain ⟨j, F, Z, hj, rfl, rfl, hst, hzq, hza, hbl, hbw⟩ := hrel
    have HST := Lib.hid hst
    have HZQ := Lib.hid hzq
    have HZA := Lib.hid hza
    have HBL := Lib.hid hbl
    have HBW := Lib.hid hbw
    obtain ⟨scap, hbox, hscap⟩ := hst.box
    obtain ⟨cur, hcur, hrowp⟩ := hst.row
    have hbox' : Blk wr RS 61 #[.int .i64 (n : Int), .int .i64 r, .int .i64 d, .int .i64 m, .int .u64 s, .slice (some ⟨RL, 0, none⟩) (n + 1) scap] := hbox
    have HBX := Lib.hid hbox'
    have HCU := Lib.hid hcur
    have s5 := hbox'.cell 5
    simp at s5
    clear hst hzq hza hbl hbw hbox hbox' hcur HST0 HZB HBB HWB
    by_cases hlt : j < n + 1
    · have i0 : (0 : Int) ≤ (j : Int) := by omega
      have i1 : (j : Int) < (n : Int) + 1 := by omega
      have hp := hrowp j (by simp; omega)
      have cp : wr.cell? ⟨RL, j, none⟩ = some (.pointer (some ⟨P j, 0, none⟩)) := (HCU.out.cell j).trans hp
      have HLV := Lib.hid (HST.out.lev j (by simp; omega))
      have HLN : Hid ((Z j).length = cellsN (n : Int) r d m (j : Int)) := Lib.hid HLV.out.len
      have hcn := cellsN_le (l := (j : Int)) HRT.out
      have PC := Lib.hid (rlcells wr (F j) (P j) (n : Int) r d m s (j : Int) (Z j) HLV.out (by rw [HLN.out]; exact hcn))
      rw [show (n : Int).toNat = n by omega] at hscap
      clear hrowp
      have hcp := cellsN_pos (l := (j : Int)) HRT.out (by omega) (by omega)
      obtain ⟨cd, hcd⟩ : ∃ cd, cd = cellsN (n : Int) r d m (j : Int) := ⟨_, rfl⟩
      obtain ⟨f, hf⟩ : ∃ f, f = sizeUp (n : Int) r d m j := ⟨_, rfl⟩
      have HF := Lib.hid hf
      have HCD := Lib.hid hcd
      have hfz : f + cd ≤ zl := by
        have h1 : sizeUp (n : Int) r d m (j + 1) ≤ sizeUp (n : Int) r d m (n + 1) := sizeUp_mono (by omega)
        have h2 : sizeUp (n : Int) r d m (j + 1) = sizeUp (n : Int) r d m j + cellsN (n : Int) r d m (j : Int) := rfl
        have h3 : zl = sizeUp (n : Int) r d m (n + 1) := by rw [HZZ.out, HZL.out, HSZ.out, sizeN, if_pos HRT.out]; rfl
        omega
      rw [← hcd] at hcn hcp
      rw [← hf]
      have HPZ : Hid (partZ (n : Int) r d m zs j = (zs.drop f).take cd) := Lib.hid (by rw [hf, hcd]; rfl)
      have hzl5 : zl ≤ 100000 := by have := HZZ.out; have := HZL.out; have := HSZ.out; have := sizeN_le (n : Int) r d m; omega
      clear hf hcd
      go_wp2_with fail
      with_reducible refine PC.out.mono ?_
      rintro e wC ⟨gc, capc, rfl, hcc, -, -, hbC⟩
      have hbs : (Z j).length = cd := by rw [HLN.out]; exact HCD.out.symm
      rw [hbs] at hcc ⊢
      have HSTC := Lib.hid (HST.out.kept hbC)
      have HZAC := Lib.hid (Only.zat (F := fun _ => False) ⟨hbC.os, hbC.tape, hbC.output, hbC.size, fun k hk _ => hbC.block k hk⟩ HZA.out (fun h => h))
      have HBLC := Lib.hid (btr HBL.out hbC)
      have HBWC : Hid (BB ≤ wC.heap.size) := Lib.hid (Nat.le_trans HBW.out hbC.size)
      have s5 : wC.cell? ⟨RS, 5, none⟩ = some (.slice (some ⟨RL, 0, none⟩) (n + 1) scap) := by
        have := (HBX.out.kept hbC).cell 5
        simpa using this
      have cp : wC.cell? ⟨RL, j, none⟩ = some (.pointer (some ⟨P j, 0, none⟩)) := ((HCU.out.kept hbC).cell j).trans hp
      clear hbC hbs HST HZA HBL HBW HBX HCU HLV HLN PC
      have e7 : IntKind.i64.wrap ((f : Int) + (cd : Int)) = (f : Int) + (cd : Int) := by rw [wrapI_eq64]; unfold wrap64; omega
      have q0 : (0 : Int) ≤ (f : Int) := by omega
      have q1 : (f : Int) ≤ (f : Int) + (cd : Int) := by omega
      have q2 : (f : Int) + (cd : Int) ≤ (capa : Int) := by have := HCA.out; omega
      have q3 : f ≤ f + cd := by omega
      have q4 : f + cd ≤ capa := by have := HCA.out; omega
      have q5 : f < capa := by omega
      have q6 : ¬ capa = f := by omega
      have q7 : ((f : Int) + (cd : Int)).toNat = f + cd := by omega
      have q8 : ((f : Int) + (cd : Int) - (f : Int)).toNat = cd := by omega
      have q9 : f + cd - f = cd := by omega
      go_wp2_with fail
      refine wp_region_still_tail 13 (by kernel_rfl) (by kernel_rfl) ?_
      simp only [List.take_succ_cons, List.take_zero, List.drop_succ_cons, List.drop_zero]
      have HB1 : Hid (Below wC.heap.size wC { heap := wC.heap, tape := wC.tape, drawn := wC.drawn + 1, os := wC.os, output := wC.output }) := Lib.hid (below_drewN (Below.refl _ _) 1)
      have HSTD := Lib.hid (HSTC.out.kept HB1.out)
      have HZAD := Lib.hid (Only.zat (F := fun _ => False) ⟨rfl, rfl, rfl, Nat.le_refl _, fun k hk _ => HB1.out.block k hk⟩ HZAC.out (fun h => h))
      have HBLD := Lib.hid (btr HBLC.out HB1.out)
      have HBWD : Hid (BB ≤ ({ heap := wC.heap, tape := wC.tape, drawn := wC.drawn + 1, os := wC.os, output := wC.output } : World).heap.size) := HBWC
      have s5d : World.cell? ({ heap := wC.heap, tape := wC.tape, drawn := wC.drawn + 1, os := wC.os, output := wC.output } : World) ⟨RS, 5, none⟩ = some (.slice (some ⟨RL, 0, none⟩) (n + 1) scap) := s5
      have cpd : World.cell? ({ heap := wC.heap, tape := wC.tape, drawn := wC.drawn + 1, os := wC.os, output := wC.output } : World) ⟨RL, j, none⟩ = some (.pointer (some ⟨P j, 0, none⟩)) := cp
      clear HB1 HSTC HZAC HBLC HBWC s5 cp
      generalize ({ heap := wC.heap, tape := wC.tape, drawn := wC.drawn + 1, os := wC.os, output := wC.output } : World) = wd at *
      repeat still_step
      refine wpStill_nil ?_
      have PLD := Lib.hid (rlload wd (F j) (P j) (n : Int) r d m s (j : Int) (Z j) (partZ (n : Int) r d m zs j) (.slice (some ⟨ga, f, none⟩) cd (capa - f)) (HSTD.out.lev j (by simp; omega)) HRT.out
        (by have := HZAD.out.part f cd hfz; rw [Nat.zero_add] at this; rw [HPZ.out]; exact this)
        (fun g2 off2 c2 e hf2 => by
          simp only [Value.slice.injEq, Option.some.injEq, Addr.mk.injEq] at e
          obtain ⟨⟨rfl, -, -⟩, -, -⟩ := e
          have := HSTD.out.fin j ga (by simp; omega) hf2
          have := HGAL.out
          omega) (HYS.out j hlt).1)
      go_wp2_with fail
      with_reducible refine PLD.out.mono ?_
      rintro e wE ⟨⟨v, rfl⟩, F', hl1, hf1, ho1⟩
      have HSTE := Lib.hid (HSTD.out.load (by simp; omega) HBWD.out hl1 hf1 ho1)
      have HZAE := Lib.hid (Only.zat ho1 HZAD.out (fun hf2 => by
        have := HSTD.out.fin j ga (by simp; omega) hf2
        have := HGAL.out
        omega))
      have HBLE : Hid (Below w.heap.size w wE) := Lib.hid (HBLD.out.trans (ho1.below (fun x hx => by have := HSTD.out.fin j x (by simp; omega) hx; have := HWA.out; omega) HBLD.out.size))
      have HBWE : Hid (BB ≤ wE.heap.size) := Lib.hid (Nat.le_trans HBWD.out ho1.2.2.2.1)
      clear hl1 hf1 ho1 HSTD HZAD HBLD HBWD PLD s5d cpd
      go_wp2_with fail
      go_roundw
      case rel =>
        refine ⟨j + 1, upN F j F', upN Z j (partZ (n : Int) r d m zs j), by omega, ?_, by go_num, HSTE.out, fun q hq => ?_, HZAE.out, HBLE.out, HBWE.out⟩
        · rw [sizeUp, ← HF.out, ← HCD.out]; simp
        · by_cases e : q = j
          · subst e; rw [upN_same]
          · rw [upN_other _ _ e]; exact HZQ.out q (by omega)
      case measure => simp [intOf]; omega
    · obtain rfl : j = n + 1 := by omega
      have i1 : ¬ (((n + 1 : Nat) : Int) < (n : Int) + 1) := by omega
      clear hrowp
      go_wp2_with fail
      go_ret2
      exact ⟨.inl ⟨(n : Int), r, d, m, s, Z, RS, RL, P, F, HDS.out.congr (fun q hq => HZQ.out q (by simp at hq; omega)), rfl, HRS.out, HST.out.low_ HWA.out⟩, HBL.out⟩
theorem rdec_any (w : World) (v : Value) (bs : List Int) (hv : BytesAt w v bs) (hb : Byts bs) (hl : bs.length ≤ 100000) :
    Calls Try.prog 9 #[v] w (RDecRes w bs) := by
  by_cases h4 : bs.length < 4
  · exact rdec_few w v bs hv h4
  · obtain ⟨ao, cap, rfl, hcap, hmx, hc⟩ := hv
    rcases hc with ⟨rfl, rfl⟩ | ⟨g, off, rfl, hg, hcc⟩
    · simp at h4
    · exact rdec_many w g off cap bs ⟨_, cap, rfl, hcap, hmx, .inr ⟨g, off, rfl, hg, hcc⟩⟩ hb (by omega) hl
end Go.Proofs.Ytbghchgmoiniiaa

/-
  A slice of bytes as an argument; the walk of WireOne. Conditions: none beyond those stated at each theorem.
-/
namespace Go.Proofs.Ytbghchgmoiniiaa
open Go.RowKit
set_option linter.unusedVariables false
set_option linter.unusedSimpArgs false

def shBytes : Sh := .slice (.int .u8)
/-- a slice of bytes that came in -/
def ArgB (w : World) (v : Value) (bs : List Int) : Prop :=
  ∃ (ao : Option Addr) (cap : Nat), v = .slice ao bs.length cap ∧ bs.length ≤ cap ∧ cap ≤ maxLen ∧ (0 < bs.length → ∃ g off, ao = some ⟨g, off, none⟩ ∧ g < w.heap.size ∧ ∀ (i : Nat) (u : Int), bs[i]? = some u → w.cell? ⟨g, off + i, none⟩ = some (.int .u8 u))
theorem bytes_of_val {w : World} {v : Value} (h : shBytes.Val w v) : ∃ bs, ArgB w v bs ∧ Byts bs := by
  obtain ⟨ao, len, cap, h1, hl, hm, hx⟩ := h
  have h1 : v = .slice ao len cap := by simpa using h1
  subst h1
  by_cases h0 : 0 < len
  · obtain ⟨b, off, rfl, hb, hc⟩ := hx h0
    have key : ∀ i, i < len → ∃ x : Int, (0 ≤ x ∧ x ≤ 255) ∧ w.cell? ⟨b, off + i, none⟩ = some (.int .u8 x) := by
      intro i hi
      obtain ⟨cs', hcl, hcell, hr⟩ := hc i hi
      obtain ⟨n, rfl, hn⟩ := hr
      have := hcell 0 (by decide)
      refine ⟨n, ?_, by simpa [Sh.size] using this⟩
      have h2 := hn
      simp [Lit.wf, IntKind.min, IntKind.max, IntKind.signed, IntKind.bits] at h2
      omega
    refine ⟨(List.range len).map fun i => if h : i < len then (key i h).choose else 0, ⟨some ⟨b, off, none⟩, cap, by simp, by simpa using hl, hm, fun _ => ⟨b, off, rfl, hb, fun i u hu => ?_⟩⟩, fun u hu => ?_⟩
    · have hi : i < len := by
        have := (List.getElem?_eq_some_iff.1 hu).1
        simpa using this
      simp [hi] at hu
      subst hu
      exact (key i hi).choose_spec.2
    · simp at hu
      obtain ⟨i, hi, rfl⟩ := hu
      simp only [dif_pos hi]
      exact (key i hi).choose_spec.1
  · obtain rfl : len = 0 := by omega
    exact ⟨[], ⟨ao, cap, rfl, by simp, hm, fun h => by simp at h⟩, fun u hu => by simp at hu⟩
theorem ArgB.kept {w w' : World} {v : Value} {bs : List Int} (h : ArgB w v bs) (hb : Below w.heap.size w w') : ArgB w' v bs := by
  obtain ⟨ao, cap, e, hc, hm, h⟩ := h
  refine ⟨ao, cap, e, hc, hm, fun h0 => ?_⟩
  obtain ⟨b, off, e2, hg, hc⟩ := h h0
  exact ⟨b, off, e2, Nat.lt_of_lt_of_le hg hb.size, fun i u hu => (hb.cell (p := ⟨b, off + i, none⟩) hg).trans (hc i u hu)⟩
theorem ArgB.news {w : World} {ao : Option Addr} {n cap : Nat} {bs : List Int} (h : ArgB w (.slice ao n cap) bs) (k : Nat) (hk : k ≤ n) :
    0 < k → ∃ ad, ao = some ad ∧ ∀ j u, ((bs.take k).map (Value.int .u8))[j]? = some u → w.cell? (ad.add j) = some u := by
  intro h0
  obtain ⟨ao2, cap2, e, h1, h2, h3⟩ := h
  simp only [Value.slice.injEq] at e
  obtain ⟨rfl, rfl, rfl⟩ := e
  obtain ⟨g, off, rfl, hg, hcc⟩ := h3 (by omega)
  refine ⟨_, rfl, fun j u hu => ?_⟩
  rw [List.getElem?_map, List.getElem?_take] at hu
  split at hu
  · cases hz : bs[j]? with
    | none => rw [hz] at hu; simp at hu
    | some z =>
      rw [hz] at hu
      simp at hu
      subst hu
      rw [addr_add]
      exact hcc j z hz
  · simp at hu
/-- how many of the bytes are taken -/
def cutN (n : Nat) : Nat := min n 1000
def cutB (bs : List Int) (sg : Bool) : List Int := if sg then signB (bs.take (cutN bs.length)) else bs.take (cutN bs.length)
theorem cutB_byts {bs : List Int} (h : Byts bs) (sg : Bool) : Byts (cutB bs sg) := by
  unfold cutB
  split
  · exact signB_byts (h.take _)
  · exact h.take _
theorem cutB_len (bs : List Int) (sg : Bool) : (cutB bs sg).length ≤ 1004 := by
  unfold cutB cutN
  split
  · rw [signB_len]; simp; omega
  · simp; omega
theorem errOf_two (bs : List Int) : errOf bs = 8 ∨ (errOf bs = 9 ∧ 4 ≤ bs.length ∧ signB (bs.take (bs.length - 4)) ≠ bs) := by
  unfold errOf
  split
  · exact .inl rfl
  · split
    · exact .inl rfl
    · rename_i h1 h2; exact .inr ⟨rfl, by omega, h2⟩
theorem sign_own (bs : List Int) : signB ((signB bs).take ((signB bs).length - 4)) = signB bs := by
  have : (signB bs).take ((signB bs).length - 4) = bs := by
    rw [signB_len, Nat.add_sub_cancel, signB, List.take_left]
  rw [this]
theorem errOf_signed (bs : List Int) : errOf (signB bs) = 8 := by
  rcases errOf_two (signB bs) with h | ⟨-, -, h⟩
  · exact h
  · exact absurd (sign_own bs) h
set_option maxRecDepth 100000 in
set_option maxHeartbeats 8000000 in
theorem WireOne_walk (v0 v1 : Value) (w : World) (h0 : shBytes.Val w v0) (h1 : Sh.bool.Val w v1) :
    Calls Try.prog 5 #[v0, v1] w fun e w' => e = .returned (.bool true) ∧ Below w.heap.size w w' := by
  obtain ⟨i0', hi, hz0, hz1, hz2⟩ := info_parts Try.info8
  obtain ⟨bs, hab, hby⟩ := bytes_of_val h0
  obtain ⟨sg, hsg⟩ : ∃ sg, v1 = .bool sg := by obtain ⟨b, hb⟩ := h1; exact ⟨b, by simpa using hb⟩
  subst hsg
  clear h0 h1
  have PS := Lib.hid (fun w => shown23 w)
  have HAB := Lib.hid hab
  have HBY := Lib.hid hby
  obtain ⟨ao, cap, rfl, hcap, hmx, -⟩ := hab
  obtain ⟨n, hn⟩ : ∃ n, n = bs.length := ⟨_, rfl⟩
  have HN := Lib.hid hn
  rw [← hn] at hcap ⊢
  clear hn hby
  obtain ⟨k, hk⟩ : ∃ k, k = cutN n := ⟨_, rfl⟩
  have hkn : k ≤ n := by rw [hk]; exact Nat.min_le_left _ _
  have hk1 : k ≤ 1000 := by rw [hk]; exact Nat.min_le_right _ _
  have hmin : min (n : Int) 1000 = (k : Int) := by rw [hk]; unfold cutN; omega
  have hkc : k ≤ cap := by omega
  have hkci : (k : Int) ≤ (cap : Int) := by omega
  have HTL : Hid ((bs.take k).length = k) := Lib.hid (by simp; have := HN.out; omega)
  have HCB : Hid (cutB bs sg = if sg then signB (bs.take k) else bs.take k) := Lib.hid (by unfold cutB; rw [← HN.out, ← hk])
  have HCL := Lib.hid (cutB_len bs sg)
  have HCY := Lib.hid (cutB_byts HBY.out sg)
  have HK := Lib.hid hk
  clear hk
  go_enter Try.func5, Try.ntmps5
  go_wp2_with fail
  with_reducible refine (PS.out _).mono ?_
  rintro e w2 ⟨rfl, hb⟩
  have HB2 := Lib.hid hb
  have HAB2 := Lib.hid (HAB.out.kept hb)
  rw [← HN.out] at HAB2
  clear hb PS
  have hown0 := World.ownsRow_lit (base := w.heap.size) (e := 5) (size := 1) w2 #[] 0 HB2.out.size (by unfold maxLen; omega) (by simp)
  have HO1 := Lib.hid hown0
  have HB3 : Hid (Below w2.heap.size w2 (w2.alloc (.cells #[] 5))) := Lib.hid ((Below.refl _ _).alloc (Nat.le_refl _) _)
  have HNEWS := Lib.hid ((HAB2.out.kept HB3.out).news k hkn)
  clear hown0
  go_wp2_with (at_builtin; refine wpList_append_lit rfl _ _ 22 rfl w.heap.size 5 i0' (.int .u8 0) 1 Try.underlying22 hi hz0 hz1 hz2 rfl w2.heap.size 0 rfl HO1.out ao k cap ((bs.take k).map (Value.int .u8)) rfl (by rw [List.length_map]; exact HTL.out) HNEWS.out (fun u hu => by obtain ⟨z, -, rfl⟩ := List.mem_map.1 hu; rfl) (by unfold maxLen; omega) (by omega) (by have := HB2.out.size; simp; omega) ?_)
  intro v5 w5 o5 g5 n5 q5
  have hlz := HTL.out
  have HO5 : Hid (OwnB w5 w.heap.size v5 (bs.take k)) := Lib.hid (by unfold OwnB; rw [hlz, List.map_take]; exact o5)
  have HB5 : Hid (Below w.heap.size w w5) := Lib.hid ((btr HB2.out HB3.out).grown g5 (by have := HB2.out.size; simp; omega) (fun q e => by have := Option.some.inj e; have := HB2.out.size; omega))
  obtain ⟨xo, xl, xc, rfl⟩ := HO5.out.open2
  clear o5 g5 n5 q5 HO1 HB2 HB3 HAB2 HNEWS hlz
  have PSG := Lib.hid (signed_any w5 (.slice xo xl xc) (bs.take k) HO5.out.at (HBY.out.take k) (by rw [HTL.out]; omega))
  cases sg
  rotate_left
  go_wp2_with fail
  with_reducible refine PSG.out.mono ?_
  rintro e w6 ⟨v6, rfl, ho6, -, hb6⟩
  have HV6 : Hid (BytesAt w6 v6 (cutB bs true)) := Lib.hid (by rw [HCB.out]; exact ho6.at)
  have HB6 := Lib.hid (btr HB5.out hb6)
  have HER : Hid (errOf (cutB bs true) = 8 ∨ (errOf (cutB bs true) = 9 ∧ 4 ≤ (cutB bs true).length ∧ true = false)) := Lib.hid (.inl (by rw [HCB.out]; exact errOf_signed _))
  obtain ⟨yo, yl, yc, rfl⟩ := ho6.open2
  clear ho6 hb6 HO5 HB5
  rotate_left
  obtain ⟨w6, hw6⟩ : ∃ w6, w6 = w5 := ⟨_, rfl⟩
  obtain ⟨yo, yl, yc, hyo, hyl, hyc⟩ : ∃ yo yl yc, yo = xo ∧ yl = xl ∧ yc = xc := ⟨_, _, _, rfl, rfl, rfl⟩
  subst hw6 hyo hyl hyc
  have HV6 : Hid (BytesAt w6 (.slice yo yl yc) (cutB bs false)) := Lib.hid (by rw [HCB.out]; exact HO5.out.at)
  have HB6 := HB5
  have HER : Hid (errOf (cutB bs false) = 8 ∨ (errOf (cutB bs false) = 9 ∧ 4 ≤ (cutB bs false).length ∧ false = false)) := Lib.hid (by
    rcases errOf_two (cutB bs false) with h | ⟨h1, h2, -⟩
    · exact .inl h
    · exact .inr ⟨h1, h2, rfl⟩)
  clear HO5 HB5
  all_goals
    clear PSG HCB
    generalize cutB bs _ = l at *
    have PD := Lib.hid (decode_any w6 (.slice yo yl yc) l HV6.out HCY.out (by have := HCL.out; omega))
    have hyl : yl = l.length := by obtain ⟨ao2, cap2, e, -⟩ := HV6.out; simp only [Value.slice.injEq] at e; exact e.2.1
    have HYL := Lib.hid hyl
    clear hyl
    go_wp2_with fail
    with_reducible refine PD.out.mono ?_
    rintro e w7 ⟨⟨b, r, d, m, s, Z, S, L, X, A, G, C, hds, rfl, hS, hst⟩ | ⟨hno, rfl⟩, hb7⟩
    rotate_left
    · have HB7 := Lib.hid (btr HB6.out hb7)
      clear hb7 hno PD
      rcases HER.out with h8 | ⟨h9, h4, hf⟩
      · rw [h8]
        clear h8
        go_wp2
        go_ret
        exact ⟨rfl, HB7.out⟩
      · first
        | (exact absurd hf (by decide))
        | (rw [h9]
           have hy4 : 4 ≤ yl := by rw [HYL.out]; exact h4
           have hy4i : (4 : Int) ≤ (yl : Int) := by omega
           clear h9 h4 hf
           go_wp2
           go_ret
           exact ⟨rfl, HB7.out⟩)
    · have HB7 := Lib.hid (btr HB6.out hb7)
      have HDS := Lib.hid hds
      have HST7 := Lib.hid hst
      have HV7 := Lib.hid (HV6.out.kept hb7)
      clear hds hst hb7 hS PD
      have HEN : Hid (encB b r d m s Z = l) := Lib.hid HDS.out.2.2.2.2.symm
      have PE := Lib.hid (fun wq hq => encode_any wq w6.heap.size S L b r d m s X A G C Z hq HDS.out.2.1 HDS.out.2.2.1 (by
        have h1 := HCL.out
        have h2 := congrArg List.length HEN.out
        rw [encB, signB_len] at h2
        omega))
      rw [HEN.out] at PE
      have HCV := Lib.hid (fun (wq : World) (v : Value) (hq : BytesAt wq v l) => strB_conv (P := Try.prog) hq 22 5 9 Try.underlying22 Try.underlying5 Try.underlying9)
      go_wp2_with fail
      refine wp_region_held_drew (S := fun w' => StIs w' w6.heap.size S L b r d m s X A G C Z ∧ BytesAt w' (.slice yo yl yc) l ∧ Sem.run Try.prog (convert 22 9 (.slice yo yl yc)) w' = .ok (.string (strB l)) w' ∧ Below w.heap.size w w') (by kernel_rfl) (by exact ⟨HST7.out.kept (below_drewN (Below.refl _ _) 1), HV7.out.kept (below_drewN (Below.refl _ _) 1), HCV.out _ _ (HV7.out.kept (below_drewN (Below.refl _ _) 1)), below_drewN HB7.out 1⟩) (fun hHeld => ?_)
      refine wpAnyH_take (i := 0) (v := ?_) rfl (by kernel_rfl) (by kernel_rfl) (by kernel_rfl) (fun _ _ _ h => h) (Or.inl ⟨by rfl, ?_⟩) (by assumption) ?_
      rotate_left
      · intro w hSw
        try dsimp only at hSw
        go_simp
        try with_reducible rfl
      simp only [Act.put, List.setIfInBounds_toArray, List.set_cons_zero, List.set_cons_succ, List.getElem_toArray, List.getElem_cons_zero, List.getElem_cons_succ]
      refine wpAnyH_take (i := 1) (v := ?_) rfl (by kernel_rfl) (by kernel_rfl) (by kernel_rfl) (fun _ _ _ h => h) (Or.inl ⟨by rfl, ?_⟩) (by assumption) ?_
      rotate_left
      · intro w hSw
        try dsimp only at hSw
        go_simp
        try with_reducible rfl
      simp only [Act.put, List.setIfInBounds_toArray, List.set_cons_zero, List.set_cons_succ, List.getElem_toArray, List.getElem_cons_zero, List.getElem_cons_succ]
      refine wpAnyH_take (i := 2) (v := ?_) rfl (by kernel_rfl) (by kernel_rfl) (by kernel_rfl) (fun _ _ _ h => h) (Or.inl ⟨by rfl, ?_⟩) (by assumption) ?_
      rotate_left
      · intro w hSw
        try dsimp only at hSw
        go_simp
        try with_reducible rfl
      simp only [Act.put, List.setIfInBounds_toArray, List.set_cons_zero, List.set_cons_succ, List.getElem_toArray, List.getElem_cons_zero, List.getElem_cons_succ]
      refine wpAnyH_take (i := 5) (v := ?_) rfl (by kernel_rfl) (by kernel_rfl) (by kernel_rfl) (fun _ _ _ h => h) (Or.inl ⟨by rfl, ?_⟩) (by assumption) ?_
      rotate_left
      · intro w hSw
        try dsimp only at hSw
        go_simp
        try with_reducible rfl
      simp only [Act.put, List.setIfInBounds_toArray, List.set_cons_zero, List.set_cons_succ, List.getElem_toArray, List.getElem_cons_zero, List.getElem_cons_succ]
      refine wpAnyH_take (i := 6) (v := ?_) rfl (by kernel_rfl) (by kernel_rfl) (by kernel_rfl) (fun _ _ _ h => h) (Or.inl ⟨by rfl, ?_⟩) (by assumption) ?_
      rotate_left
      · intro w hSw
        try dsimp only at hSw
        go_simp
        try with_reducible rfl
      simp only [Act.put, List.setIfInBounds_toArray, List.set_cons_zero, List.set_cons_succ, List.getElem_toArray, List.getElem_cons_zero, List.getElem_cons_succ]
      refine wpAnyH_ready (rs := [3]) (by kernel_rfl) (by simp) ?_
      refine AllReadyH.cons rfl (fun Kc hKc => ?_) AllReadyH.nil
      go_simp
      go_wp2_with (go_at_call 13; refine (PE.out _ hHeld.1).mono ?_; rintro e w8 ⟨v8, rfl, ho8, hb'⟩; have cv8 := HCV.out _ _ ho8.at; clear ho8)
      refine hKc.out _ _ ?_ (fun hHeld => ?_)
      · first | assumption | exact ⟨hHeld.1.kept hb', hHeld.2.1.kept hb', HCV.out _ _ (hHeld.2.1.kept hb'), btr hHeld.2.2.2 hb'⟩
      clear hKc Kc
      refine wpAnyH_ready (rs := [4]) (by kernel_rfl) (by simp) ?_
      refine AllReadyH.cons rfl (fun Kc hKc => ?_) AllReadyH.nil
      go_simp
      refine hKc.out _ _ ?_ (fun hHeld => ?_)
      · first | assumption | exact ⟨hHeld.1.kept hb', hHeld.2.1.kept hb', HCV.out _ _ (hHeld.2.1.kept hb'), btr hHeld.2.2.2 hb'⟩
      clear hKc Kc
      refine wpAnyH_take (i := 7) (v := ?_) rfl (by kernel_rfl) (by kernel_rfl) (by kernel_rfl) (fun _ _ _ h => h) (Or.inl ⟨by rfl, ?_⟩) (by assumption) ?_
      rotate_left
      · intro w hSw
        try dsimp only at hSw
        go_simp
        try with_reducible rfl
      simp only [Act.put, List.setIfInBounds_toArray, List.set_cons_zero, List.set_cons_succ, List.getElem_toArray, List.getElem_cons_zero, List.getElem_cons_succ]
      refine wpAnyH_take (i := 8) (v := ?_) rfl (by kernel_rfl) (by kernel_rfl) (by kernel_rfl) (fun _ _ _ h => h) (Or.inl ⟨by rfl, ?_⟩) (by assumption) ?_
      rotate_left
      · intro w hSw
        try dsimp only at hSw
        go_simp
        try with_reducible rfl
      simp only [Act.put, List.setIfInBounds_toArray, List.set_cons_zero, List.set_cons_succ, List.getElem_toArray, List.getElem_cons_zero, List.getElem_cons_succ]
      refine wpAnyH_take (i := 9) (v := ?_) rfl (by kernel_rfl) (by kernel_rfl) (by kernel_rfl) (fun _ _ _ h => h) (Or.inl ⟨by rfl, ?_⟩) (by assumption) ?_
      rotate_left
      · intro w hSw
        try dsimp only at hSw
        go_simp
        try with_reducible rfl
      simp only [Act.put, List.setIfInBounds_toArray, List.set_cons_zero, List.set_cons_succ, List.getElem_toArray, List.getElem_cons_zero, List.getElem_cons_succ]
      refine wpAnyH_done (by kernel_rfl) ?_ _
      go_wp2
      go_ret
      exact ⟨rfl, hHeld.2.2.2⟩
end Go.Proofs.Ytbghchgmoiniiaa

/-
  The walk of gaugerlaw23.same for two stacks that are the same. Conditions: none beyond those stated at each theorem.
-/
namespace Go.Proofs.Ytbghchgmoiniiaa
open Go.RowKit
set_option linter.unusedVariables false
set_option linter.unusedSimpArgs false

theorem cell_kept {w w' : World} {g i : Nat} {u : Value} (h : w.cell? ⟨g, i, none⟩ = some u) (hb : Below w.heap.size w w') : w'.cell? ⟨g, i, none⟩ = some u :=
  Only.cell (F := fun _ => False) ⟨hb.os, hb.tape, hb.output, hb.size, fun k hk _ => hb.block k hk⟩ (fun h => h) h
theorem ints_kept {w w' : World} {v : Value} {zs : List Int} (hb : Below w.heap.size w w') (h : IntsAt w v zs) : IntsAt w' v zs := h.kept hb
theorem same06_self (va vb : Value) (xs : List Int) (w : World) (ha : IntsAt w va xs) (hb : IntsAt w vb xs) (hx : xs.length ≤ 1024) :
    Calls Try.prog 31 #[va, vb] w fun e w' => e = .returned (.bool true) ∧ Below w.heap.size w w' := by
  refine (same06_any va vb xs xs w ha hb (by omega) (by omega)).mono ?_
  rintro e w' ⟨rfl, hb⟩
  exact ⟨by simp, hb⟩
theorem cfgEq_self (b r d m s : Int) : cfgEq b r d m s b r d m s = true := by simp [cfgEq]
set_option maxRecDepth 100000 in
set_option maxHeartbeats 16000000 in
theorem same_yes23 (w : World) (base S L : Nat) (b r d m s : Int) (X : Nat → Value) (A G C : Nat → Nat) (Z : Nat → List Int) (base' RS RL : Nat) (P : Nat → Nat) (F : Nat → Nat → Prop) (Y : Nat → List Int)
    (h : StIs w base S L b r d m s X A G C Z) (k : RStIs w base' RS RL b r d m s P F Y) (e : ∀ q, q ≤ b.toNat → Z q = Y q) :
    Calls Try.prog 10 #[.pointer (some ⟨S, 0, none⟩), .pointer (some ⟨RS, 0, none⟩)] w fun e w' => e = .returned (.bool true) ∧ Below w.heap.size w w' := by
  have hgd : Try.prog.eqGuardType Try.prog.depth 36 = false := by kernel_rfl
  have EQ := eqCfg b r d m s b r d m s
  rw [cfgEq_self] at EQ
  have HRT := Lib.hid k.right
  have hR := right_of k.right
  have HS := Lib.hid h
  have HK := Lib.hid k
  have HE := Lib.hid e
  obtain ⟨n, hn⟩ : ∃ n : Nat, b = (n : Int) := ⟨b.toNat, by omega⟩
  subst hn
  obtain ⟨scap, hbox, hscap⟩ := k.box
  obtain ⟨cur, hcur, hrowp⟩ := k.row
  have hbox' : Blk w RS 61 #[.int .i64 (n : Int), .int .i64 r, .int .i64 d, .int .i64 m, .int .u64 s, .slice (some ⟨RL, 0, none⟩) (n + 1) scap] := hbox
  have HBX := Lib.hid hbox'
  have PSC := Lib.hid (fun wq hq => stconfig wq base S L (n : Int) r d m s X A G C Z hq)
  have hsc : n + 1 ≤ scap := hscap
  clear h k e hbox hbox' hcur hrowp hscap
  go_enter Try.func10, Try.ntmps10
  go_wp2_with fail
  refine wp_region_held_drew (S := fun w' => StIs w' base S L (n : Int) r d m s X A G C Z ∧ Blk w' RS 61 #[.int .i64 (n : Int), .int .i64 r, .int .i64 d, .int .i64 m, .int .u64 s, .slice (some ⟨RL, 0, none⟩) (n + 1) scap] ∧ Below w.heap.size w w') (by kernel_rfl) (by exact ⟨HS.out.kept (below_drewN (Below.refl _ _) 1), HBX.out.drewN 1, below_drewN (Below.refl _ _) 1⟩) (fun hHeld => ?_)
  refine wpAnyH_take (i := 0) (v := ?_) rfl (by kernel_rfl) (by kernel_rfl) (by kernel_rfl) (fun _ _ _ h => h) (Or.inl ⟨by rfl, ?_⟩) (by assumption) ?_
  rotate_left
  · intro w hSw
    try dsimp only at hSw
    go_simp
    try with_reducible rfl
  simp only [Act.put, List.setIfInBounds_toArray, List.set_cons_zero, List.set_cons_succ, List.getElem_toArray, List.getElem_cons_zero, List.getElem_cons_succ]
  refine wpAnyH_take (i := 1) (v := ?_) rfl (by kernel_rfl) (by kernel_rfl) (by kernel_rfl) (fun _ _ _ h => h) (Or.inl ⟨by rfl, ?_⟩) (by assumption) ?_
  rotate_left
  · intro w hSw
    try dsimp only at hSw
    go_simp
    try with_reducible rfl
  simp only [Act.put, List.setIfInBounds_toArray, List.set_cons_zero, List.set_cons_succ, List.getElem_toArray, List.getElem_cons_zero, List.getElem_cons_succ]
  refine wpAnyH_take (i := 2) (v := ?_) rfl (by kernel_rfl) (by kernel_rfl) (by kernel_rfl) (fun _ _ _ h => h) (Or.inl ⟨by rfl, ?_⟩) (by assumption) ?_
  rotate_left
  · intro w hSw
    try dsimp only at hSw
    go_simp
    try with_reducible rfl
  simp only [Act.put, List.setIfInBounds_toArray, List.set_cons_zero, List.set_cons_succ, List.getElem_toArray, List.getElem_cons_zero, List.getElem_cons_succ]
  refine wpAnyH_take (i := 3) (v := ?_) rfl (by kernel_rfl) (by kernel_rfl) (by kernel_rfl) (fun _ _ _ h => h) (Or.inl ⟨by rfl, ?_⟩) (by assumption) ?_
  rotate_left
  · intro w hSw
    try dsimp only at hSw
    go_simp
    try with_reducible rfl
  simp only [Act.put, List.setIfInBounds_toArray, List.set_cons_zero, List.set_cons_succ, List.getElem_toArray, List.getElem_cons_zero, List.getElem_cons_succ]
  refine wpAnyH_take (i := 4) (v := ?_) rfl (by kernel_rfl) (by kernel_rfl) (by kernel_rfl) (fun _ _ _ h => h) (Or.inl ⟨by rfl, ?_⟩) (by assumption) ?_
  rotate_left
  · intro w hSw
    try dsimp only at hSw
    go_simp
    try with_reducible rfl
  simp only [Act.put, List.setIfInBounds_toArray, List.set_cons_zero, List.set_cons_succ, List.getElem_toArray, List.getElem_cons_zero, List.getElem_cons_succ]
  refine wpAnyH_take (i := 5) (v := ?_) rfl (by kernel_rfl) (by kernel_rfl) (by kernel_rfl) (fun _ _ _ h => h) (Or.inl ⟨by rfl, ?_⟩) (by assumption) ?_
  rotate_left
  · intro w hSw
    try dsimp only at hSw
    go_simp
    try with_reducible rfl
  simp only [Act.put, List.setIfInBounds_toArray, List.set_cons_zero, List.set_cons_succ, List.getElem_toArray, List.getElem_cons_zero, List.getElem_cons_succ]
  refine wpAnyH_take (i := 6) (v := ?_) rfl (by kernel_rfl) (by kernel_rfl) (by kernel_rfl) (fun _ _ _ h => h) (Or.inl ⟨by rfl, ?_⟩) (by assumption) ?_
  rotate_left
  · intro w hSw
    try dsimp only at hSw
    go_simp
    try with_reducible rfl
  simp only [Act.put, List.setIfInBounds_toArray, List.set_cons_zero, List.set_cons_succ, List.getElem_toArray, List.getElem_cons_zero, List.getElem_cons_succ]
  refine wpAnyH_take (i := 7) (v := ?_) rfl (by kernel_rfl) (by kernel_rfl) (by kernel_rfl) (fun _ _ _ h => h) (Or.inl ⟨by rfl, ?_⟩) (by assumption) ?_
  rotate_left
  · intro w hSw
    try dsimp only at hSw
    go_simp
    try with_reducible rfl
  simp only [Act.put, List.setIfInBounds_toArray, List.set_cons_zero, List.set_cons_succ, List.getElem_toArray, List.getElem_cons_zero, List.getElem_cons_succ]
  refine wpAnyH_take (i := 9) (v := ?_) rfl (by kernel_rfl) (by kernel_rfl) (by kernel_rfl) (fun _ _ _ h => h) (Or.inl ⟨by rfl, ?_⟩) (by assumption) ?_
  rotate_left
  · intro w hSw
    try dsimp only at hSw
    go_simp
    try with_reducible rfl
  simp only [Act.put, List.setIfInBounds_toArray, List.set_cons_zero, List.set_cons_succ, List.getElem_toArray, List.getElem_cons_zero, List.getElem_cons_succ]
  refine wpAnyH_take (i := 10) (v := ?_) rfl (by kernel_rfl) (by kernel_rfl) (by kernel_rfl) (fun _ _ _ h => h) (Or.inl ⟨by rfl, ?_⟩) (by assumption) ?_
  rotate_left
  · intro w hSw
    try dsimp only at hSw
    go_simp
    try with_reducible rfl
  simp only [Act.put, List.setIfInBounds_toArray, List.set_cons_zero, List.set_cons_succ, List.getElem_toArray, List.getElem_cons_zero, List.getElem_cons_succ]
  refine wpAnyH_take (i := 11) (v := ?_) rfl (by kernel_rfl) (by kernel_rfl) (by kernel_rfl) (fun _ _ _ h => h) (Or.inl ⟨by rfl, ?_⟩) (by assumption) ?_
  rotate_left
  · intro w hSw
    try dsimp only at hSw
    go_simp
    try with_reducible rfl
  simp only [Act.put, List.setIfInBounds_toArray, List.set_cons_zero, List.set_cons_succ, List.getElem_toArray, List.getElem_cons_zero, List.getElem_cons_succ]
  refine wpAnyH_take (i := 12) (v := ?_) rfl (by kernel_rfl) (by kernel_rfl) (by kernel_rfl) (fun _ _ _ h => h) (Or.inl ⟨by rfl, ?_⟩) (by assumption) ?_
  rotate_left
  · intro w hSw
    have q0 := hSw.2.1.cell 0
    have q1 := hSw.2.1.cell 1
    have q2 := hSw.2.1.cell 2
    have q3 := hSw.2.1.cell 3
    have q4 := hSw.2.1.cell 4
    simp at q0 q1 q2 q3 q4
    go_simp
    try with_reducible rfl
  simp only [Act.put, List.setIfInBounds_toArray, List.set_cons_zero, List.set_cons_succ, List.getElem_toArray, List.getElem_cons_zero, List.getElem_cons_succ]
  refine wpAnyH_ready (rs := [8]) (by kernel_rfl) (by simp) ?_
  refine AllReadyH.cons rfl (fun Kc hKc => ?_) AllReadyH.nil
  go_simp
  go_wp2_with (go_at_call 15; refine (PSC.out _ hHeld.1).mono ?_; rintro e w3 ⟨rfl, hb'⟩)
  refine hKc.out _ _ ?_ (fun hHeld => ?_)
  · first | assumption | exact ⟨hHeld.1.kept hb', hHeld.2.1.kept hb', btr hHeld.2.2 hb'⟩
  clear hKc Kc
  refine wpAnyH_take (i := 13) (v := ?_) rfl (by kernel_rfl) (by kernel_rfl) (by kernel_rfl) (fun _ _ _ h => h) (Or.inl ⟨by rfl, ?_⟩) (by assumption) ?_
  rotate_left
  · intro w hSw
    try dsimp only at hSw
    go_simp
    try with_reducible rfl
  simp only [Act.put, List.setIfInBounds_toArray, List.set_cons_zero, List.set_cons_succ, List.getElem_toArray, List.getElem_cons_zero, List.getElem_cons_succ]
  refine wpAnyH_take (i := 14) (v := ?_) rfl (by kernel_rfl) (by kernel_rfl) (by kernel_rfl) (fun _ _ _ h => h) (Or.inl ⟨by rfl, ?_⟩) (by assumption) ?_
  rotate_left
  · intro w hSw
    try dsimp only at hSw
    go_simp
    try with_reducible rfl
  simp only [Act.put, List.setIfInBounds_toArray, List.set_cons_zero, List.set_cons_succ, List.getElem_toArray, List.getElem_cons_zero, List.getElem_cons_succ]
  refine wpAnyH_done (by kernel_rfl) ?_ _
  have HS3 := Lib.hid hHeld.1
  have HK3 := Lib.hid (HK.out.kept hHeld.2.2)
  have HB3 := Lib.hid hHeld.2.2
  clear hHeld HS HK HBX PSC EQ hgd hb'
  have hwr : True := trivial
  go_wp2_with fail
  go_loopw [5] (fun i wr => ∃ j : Nat, j ≤ n + 1 ∧ i = .int .i64 (j : Int) ∧ StIs wr base S L (n : Int) r d m s X A G C Z ∧ RStIs wr base' RS RL (n : Int) r d m s P F Y ∧ Below w.heap.size w wr) (fun i _ => n + 1 - (intOf i).toNat)
  case atStart => exact ⟨0, by omega, rfl, HS3.out, HK3.out, HB3.out⟩
  case round =>
    obtain ⟨j, hj, rfl, hst, hk, hbl⟩ := hrel
    have HST := Lib.hid hst
    have HKK := Lib.hid hk
    have HBL := Lib.hid hbl
    obtain ⟨scap2, hbox, hscap⟩ := hk.box
    obtain ⟨cur2, hcur, hrowp⟩ := hk.row
    have hbox' : Blk wr RS 61 #[.int .i64 (n : Int), .int .i64 r, .int .i64 d, .int .i64 m, .int .u64 s, .slice (some ⟨RL, 0, none⟩) (n + 1) scap2] := hbox
    have s5 : wr.cell? ⟨RS, 5, none⟩ = some (.slice (some ⟨RL, 0, none⟩) (n + 1) scap2) := by
      have := hbox'.cell 5
      simpa using this
    have HS5 := Lib.hid s5
    clear hst hk hbl hbox hbox' HS3 HK3 HB3
    by_cases hlt : j < n + 1
    · have i0 : (0 : Int) ≤ (j : Int) := by omega
      have i1 : (j : Int) < (n : Int) + 1 := by omega
      have hp := hrowp j (by simp; omega)
      have cp : wr.cell? ⟨RL, j, none⟩ = some (.pointer (some ⟨P j, 0, none⟩)) := (hcur.cell j).trans hp
      have hYZ : Y j = Z j := (HE.out j (by simp; omega)).symm
      have HLE : Hid ((Z j).length ≤ 1024) := Lib.hid (by rw [← hYZ, (HKK.out.lev j (by simp; omega)).len]; exact cellsN_le HRT.out)
      have PCE := Lib.hid (fun wq hq => stcells wq base S L (n : Int) r d m s X A G C Z hq j (by simp; omega))
      have PRC : Hid (∀ wq, RStIs wq base' RS RL (n : Int) r d m s P F Y → Calls Try.prog 29 #[.pointer (some ⟨P j, 0, none⟩)] wq (IntsNew wq (Z j))) := Lib.hid (fun wq hq => by
        have := rlcells wq (F j) (P j) (n : Int) r d m s (j : Int) (Y j) (hq.lev j (by simp; omega)) (by rw [hYZ]; exact HLE.out)
        rw [hYZ] at this
        exact this)
      have HCP := Lib.hid cp
      clear hp hrowp hcur hYZ
      go_wp2_with fail
      refine wp_region_held_drew (S := fun w' => StIs w' base S L (n : Int) r d m s X A G C Z ∧ RStIs w' base' RS RL (n : Int) r d m s P F Y ∧ w'.cell? ⟨RS, 5, none⟩ = some (.slice (some ⟨RL, 0, none⟩) (n + 1) scap2) ∧ w'.cell? ⟨RL, j, none⟩ = some (.pointer (some ⟨P j, 0, none⟩)) ∧ Below wr.heap.size wr w') (by kernel_rfl) (by exact ⟨HST.out.kept (below_drewN (Below.refl _ _) 1), HKK.out.kept (below_drewN (Below.refl _ _) 1), HS5.out, HCP.out, below_drewN (Below.refl _ _) 1⟩) (fun hHeld => ?_)
      refine wpAnyH_take (i := 0) (v := ?_) rfl (by kernel_rfl) (by kernel_rfl) (by kernel_rfl) (fun _ _ _ h => h) (Or.inl ⟨by rfl, ?_⟩) (by assumption) ?_
      rotate_left
      · intro w hSw
        try dsimp only at hSw
        go_simp
        try with_reducible rfl
      simp only [Act.put, List.setIfInBounds_toArray, List.set_cons_zero, List.set_cons_succ, List.getElem_toArray, List.getElem_cons_zero, List.getElem_cons_succ]
      refine wpAnyH_take (i := 1) (v := ?_) rfl (by kernel_rfl) (by kernel_rfl) (by kernel_rfl) (fun _ _ _ h => h) (Or.inl ⟨by rfl, ?_⟩) (by assumption) ?_
      rotate_left
      · intro w hSw
        try dsimp only at hSw
        go_simp
        try with_reducible rfl
      simp only [Act.put, List.setIfInBounds_toArray, List.set_cons_zero, List.set_cons_succ, List.getElem_toArray, List.getElem_cons_zero, List.getElem_cons_succ]
      refine wpAnyH_take (i := 3) (v := ?_) rfl (by kernel_rfl) (by kernel_rfl) (by kernel_rfl) (fun _ _ _ h => h) (Or.inl ⟨by rfl, ?_⟩) (by assumption) ?_
      rotate_left
      · intro w hSw
        try dsimp only at hSw
        go_simp
        try with_reducible rfl
      simp only [Act.put, List.setIfInBounds_toArray, List.set_cons_zero, List.set_cons_succ, List.getElem_toArray, List.getElem_cons_zero, List.getElem_cons_succ]
      refine wpAnyH_take (i := 4) (v := ?_) rfl (by kernel_rfl) (by kernel_rfl) (by kernel_rfl) (fun _ _ _ h => h) (Or.inl ⟨by rfl, ?_⟩) (by assumption) ?_
      rotate_left
      · intro w hSw
        try dsimp only at hSw
        go_simp
        try with_reducible rfl
      simp only [Act.put, List.setIfInBounds_toArray, List.set_cons_zero, List.set_cons_succ, List.getElem_toArray, List.getElem_cons_zero, List.getElem_cons_succ]
      refine wpAnyH_take (i := 5) (v := ?_) rfl (by kernel_rfl) (by kernel_rfl) (by kernel_rfl) (fun _ _ _ h => h) (Or.inl ⟨by rfl, ?_⟩) (by assumption) ?_
      rotate_left
      · intro w hSw
        try dsimp only at hSw
        go_simp
        try with_reducible rfl
      simp only [Act.put, List.setIfInBounds_toArray, List.set_cons_zero, List.set_cons_succ, List.getElem_toArray, List.getElem_cons_zero, List.getElem_cons_succ]
      refine wpAnyH_take (i := 6) (v := ?_) rfl (by kernel_rfl) (by kernel_rfl) (by kernel_rfl) (fun _ _ _ h => h) (Or.inl ⟨by rfl, ?_⟩) (by assumption) ?_
      rotate_left
      · intro w hSw
        have q5 := hSw.2.2.1
        have q6 := hSw.2.2.2.1
        go_simp
        try with_reducible rfl
      simp only [Act.put, List.setIfInBounds_toArray, List.set_cons_zero, List.set_cons_succ, List.getElem_toArray, List.getElem_cons_zero, List.getElem_cons_succ]
      refine wpAnyH_take (i := 7) (v := ?_) rfl (by kernel_rfl) (by kernel_rfl) (by kernel_rfl) (fun _ _ _ h => h) (Or.inl ⟨by rfl, ?_⟩) (by assumption) ?_
      rotate_left
      · intro w hSw
        try dsimp only at hSw
        go_simp
        try with_reducible rfl
      simp only [Act.put, List.setIfInBounds_toArray, List.set_cons_zero, List.set_cons_succ, List.getElem_toArray, List.getElem_cons_zero, List.getElem_cons_succ]
      refine wpAnyH_take (i := 8) (v := ?_) rfl (by kernel_rfl) (by kernel_rfl) (by kernel_rfl) (fun _ _ _ h => h) (Or.inl ⟨by rfl, ?_⟩) (by assumption) ?_
      rotate_left
      · intro w hSw
        try dsimp only at hSw
        go_simp
        try with_reducible rfl
      simp only [Act.put, List.setIfInBounds_toArray, List.set_cons_zero, List.set_cons_succ, List.getElem_toArray, List.getElem_cons_zero, List.getElem_cons_succ]
      refine wpAnyH_take (i := 9) (v := ?_) rfl (by kernel_rfl) (by kernel_rfl) (by kernel_rfl) (fun _ _ _ h => h) (Or.inl ⟨by rfl, ?_⟩) (by assumption) ?_
      rotate_left
      · intro w hSw
        have q5 := hSw.2.2.1
        have q6 := hSw.2.2.2.1
        go_simp
        try with_reducible rfl
      simp only [Act.put, List.setIfInBounds_toArray, List.set_cons_zero, List.set_cons_succ, List.getElem_toArray, List.getElem_cons_zero, List.getElem_cons_succ]
      refine wpAnyH_ready (rs := [2]) (by kernel_rfl) (by simp) ?_
      refine AllReadyH.cons rfl (fun Kc hKc => ?_) AllReadyH.nil
      go_simp
      go_wp2_with (first | (go_at_call 32; refine (PCE.out _ hHeld.1).mono ?_; rintro e w5 ⟨v5, rfl, ho5, -, hb'⟩; have hi5 := IntsAt.of_own ho5 rfl; (try have hi6 := ints_kept hb' hi6); clear ho5) | (go_at_call 29; refine (PRC.out _ hHeld.2.1).mono ?_; rintro e w6 ⟨g6, cap6, rfl, -, -, hi6, hb'⟩; (try have hi5 := ints_kept hb' hi5)) | (go_at_call 31; refine (same06_self _ _ (Z j) _ hi5 hi6 HLE.out).mono ?_; rintro e w7 ⟨rfl, hb'⟩))
      refine hKc.out _ _ ?_ (fun hHeld => ?_)
      · first | assumption | exact ⟨hHeld.1.kept hb', hHeld.2.1.kept hb', cell_kept hHeld.2.2.1 hb', cell_kept hHeld.2.2.2.1 hb', btr hHeld.2.2.2.2 hb'⟩
      clear hKc Kc
      refine wpAnyH_ready (rs := [10]) (by kernel_rfl) (by simp) ?_
      refine AllReadyH.cons rfl (fun Kc hKc => ?_) AllReadyH.nil
      go_simp
      go_wp2_with (first | (go_at_call 32; refine (PCE.out _ hHeld.1).mono ?_; rintro e w5 ⟨v5, rfl, ho5, -, hb'⟩; have hi5 := IntsAt.of_own ho5 rfl; (try have hi6 := ints_kept hb' hi6); clear ho5) | (go_at_call 29; refine (PRC.out _ hHeld.2.1).mono ?_; rintro e w6 ⟨g6, cap6, rfl, -, -, hi6, hb'⟩; (try have hi5 := ints_kept hb' hi5)) | (go_at_call 31; refine (same06_self _ _ (Z j) _ hi5 hi6 HLE.out).mono ?_; rintro e w7 ⟨rfl, hb'⟩))
      refine hKc.out _ _ ?_ (fun hHeld => ?_)
      · first | assumption | exact ⟨hHeld.1.kept hb', hHeld.2.1.kept hb', cell_kept hHeld.2.2.1 hb', cell_kept hHeld.2.2.2.1 hb', btr hHeld.2.2.2.2 hb'⟩
      clear hKc Kc
      refine wpAnyH_ready (rs := [11]) (by kernel_rfl) (by simp) ?_
      refine AllReadyH.cons rfl (fun Kc hKc => ?_) AllReadyH.nil
      go_simp
      go_wp2_with (first | (go_at_call 32; refine (PCE.out _ hHeld.1).mono ?_; rintro e w5 ⟨v5, rfl, ho5, -, hb'⟩; have hi5 := IntsAt.of_own ho5 rfl; (try have hi6 := ints_kept hb' hi6); clear ho5) | (go_at_call 29; refine (PRC.out _ hHeld.2.1).mono ?_; rintro e w6 ⟨g6, cap6, rfl, -, -, hi6, hb'⟩; (try have hi5 := ints_kept hb' hi5)) | (go_at_call 31; refine (same06_self _ _ (Z j) _ hi5 hi6 HLE.out).mono ?_; rintro e w7 ⟨rfl, hb'⟩))
      refine hKc.out _ _ ?_ (fun hHeld => ?_)
      · first | assumption | exact ⟨hHeld.1.kept hb', hHeld.2.1.kept hb', cell_kept hHeld.2.2.1 hb', cell_kept hHeld.2.2.2.1 hb', btr hHeld.2.2.2.2 hb'⟩
      clear hKc Kc
      refine wpAnyH_take (i := 12) (v := ?_) rfl (by kernel_rfl) (by kernel_rfl) (by kernel_rfl) (fun _ _ _ h => h) (Or.inl ⟨by rfl, ?_⟩) (by assumption) ?_
      rotate_left
      · intro w hSw
        try dsimp only at hSw
        go_simp
        try with_reducible rfl
      simp only [Act.put, List.setIfInBounds_toArray, List.set_cons_zero, List.set_cons_succ, List.getElem_toArray, List.getElem_cons_zero, List.getElem_cons_succ]
      refine wpAnyH_done (by kernel_rfl) ?_ _
      have HST9 := Lib.hid hHeld.1
      have HKK9 := Lib.hid hHeld.2.1
      have HBL9 := Lib.hid (btr HBL.out hHeld.2.2.2.2)
      clear hHeld HST HKK HBL hb' hi5 hi6 HS5 HCP s5 cp
      go_wp2_with fail
      go_roundw
      case rel => exact ⟨j + 1, by omega, by go_num, HST9.out, HKK9.out, HBL9.out⟩
      case measure => simp [intOf]; omega
    · obtain rfl : j = n + 1 := by omega
      have i1 : ¬ (((n + 1 : Nat) : Int) < (n : Int) + 1) := by omega
      clear hrowp hcur
      go_wp2_with fail
      go_ret
      exact ⟨rfl, HBL.out⟩
end Go.Proofs.Ytbghchgmoiniiaa

/-
  The walk of WireReads. Conditions: none beyond those stated at each theorem.
-/
namespace Go.Proofs.Ytbghchgmoiniiaa
open Go.RowKit
set_option linter.unusedVariables false
set_option linter.unusedSimpArgs false

set_option maxRecDepth 100000 in
set_option maxHeartbeats 8000000 in
theorem WireReads_walk (v0 v1 : Value) (w : World) (h0 : shBytes.Val w v0) (h1 : Sh.bool.Val w v1) :
    Calls Try.prog 3 #[v0, v1] w fun e w' => e = .returned (.bool true) ∧ Below w.heap.size w w' := by
  obtain ⟨i0', hi, hz0, hz1, hz2⟩ := info_parts Try.info8
  obtain ⟨bs, hab, hby⟩ := bytes_of_val h0
  obtain ⟨sg, hsg⟩ : ∃ sg, v1 = .bool sg := by obtain ⟨b, hb⟩ := h1; exact ⟨b, by simpa using hb⟩
  subst hsg
  clear h0 h1
  have PS := Lib.hid (fun w => shown23 w)
  have HAB := Lib.hid hab
  have HBY := Lib.hid hby
  obtain ⟨ao, cap, rfl, hcap, hmx, -⟩ := hab
  obtain ⟨n, hn⟩ : ∃ n, n = bs.length := ⟨_, rfl⟩
  have HN := Lib.hid hn
  rw [← hn] at hcap ⊢
  clear hn hby
  obtain ⟨k, hk⟩ : ∃ k, k = cutN n := ⟨_, rfl⟩
  have hkn : k ≤ n := by rw [hk]; exact Nat.min_le_left _ _
  have hk1 : k ≤ 1000 := by rw [hk]; exact Nat.min_le_right _ _
  have hmin : min (n : Int) 1000 = (k : Int) := by rw [hk]; unfold cutN; omega
  have hkc : k ≤ cap := by omega
  have hkci : (k : Int) ≤ (cap : Int) := by omega
  have HTL : Hid ((bs.take k).length = k) := Lib.hid (by simp; have := HN.out; omega)
  have HCB : Hid (cutB bs sg = if sg then signB (bs.take k) else bs.take k) := Lib.hid (by unfold cutB; rw [← HN.out, ← hk])
  have HCL := Lib.hid (cutB_len bs sg)
  have HCY := Lib.hid (cutB_byts HBY.out sg)
  have HK := Lib.hid hk
  clear hk
  go_enter Try.func3, Try.ntmps3
  go_wp2_with fail
  with_reducible refine (PS.out _).mono ?_
  rintro e w2 ⟨rfl, hb⟩
  have HB2 := Lib.hid hb
  have HAB2 := Lib.hid (HAB.out.kept hb)
  rw [← HN.out] at HAB2
  clear hb PS
  have hown0 := World.ownsRow_lit (base := w.heap.size) (e := 5) (size := 1) w2 #[] 0 HB2.out.size (by unfold maxLen; omega) (by simp)
  have HO1 := Lib.hid hown0
  have HB3 : Hid (Below w2.heap.size w2 (w2.alloc (.cells #[] 5))) := Lib.hid ((Below.refl _ _).alloc (Nat.le_refl _) _)
  have HNEWS := Lib.hid ((HAB2.out.kept HB3.out).news k hkn)
  clear hown0
  go_wp2_with (at_builtin; refine wpList_append_lit rfl _ _ 22 rfl w.heap.size 5 i0' (.int .u8 0) 1 Try.underlying22 hi hz0 hz1 hz2 rfl w2.heap.size 0 rfl HO1.out ao k cap ((bs.take k).map (Value.int .u8)) rfl (by rw [List.length_map]; exact HTL.out) HNEWS.out (fun u hu => by obtain ⟨z, -, rfl⟩ := List.mem_map.1 hu; rfl) (by unfold maxLen; omega) (by omega) (by have := HB2.out.size; simp; omega) ?_)
  intro v5 w5 o5 g5 n5 q5
  have hlz := HTL.out
  have HO5 : Hid (OwnB w5 w.heap.size v5 (bs.take k)) := Lib.hid (by unfold OwnB; rw [hlz, List.map_take]; exact o5)
  have HB5 : Hid (Below w.heap.size w w5) := Lib.hid ((btr HB2.out HB3.out).grown g5 (by have := HB2.out.size; simp; omega) (fun q e => by have := Option.some.inj e; have := HB2.out.size; omega))
  obtain ⟨xo, xl, xc, rfl⟩ := HO5.out.open2
  clear o5 g5 n5 q5 HO1 HB2 HB3 HAB2 HNEWS hlz
  have PSG := Lib.hid (signed_any w5 (.slice xo xl xc) (bs.take k) HO5.out.at (HBY.out.take k) (by rw [HTL.out]; omega))
  cases sg
  rotate_left
  go_wp2_with fail
  with_reducible refine PSG.out.mono ?_
  rintro e w6 ⟨v6, rfl, ho6, -, hb6⟩
  have HV6 : Hid (BytesAt w6 v6 (cutB bs true)) := Lib.hid (by rw [HCB.out]; exact ho6.at)
  have HB6 := Lib.hid (btr HB5.out hb6)
  have HER : Hid (errOf (cutB bs true) = 8 ∨ (errOf (cutB bs true) = 9 ∧ 4 ≤ (cutB bs true).length ∧ true = false)) := Lib.hid (.inl (by rw [HCB.out]; exact errOf_signed _))
  obtain ⟨yo, yl, yc, rfl⟩ := ho6.open2
  clear ho6 hb6 HO5 HB5
  rotate_left
  obtain ⟨w6, hw6⟩ : ∃ w6, w6 = w5 := ⟨_, rfl⟩
  obtain ⟨yo, yl, yc, hyo, hyl, hyc⟩ : ∃ yo yl yc, yo = xo ∧ yl = xl ∧ yc = xc := ⟨_, _, _, rfl, rfl, rfl⟩
  subst hw6 hyo hyl hyc
  have HV6 : Hid (BytesAt w6 (.slice yo yl yc) (cutB bs false)) := Lib.hid (by rw [HCB.out]; exact HO5.out.at)
  have HB6 := HB5
  have HER : Hid (errOf (cutB bs false) = 8 ∨ (errOf (cutB bs false) = 9 ∧ 4 ≤ (cutB bs false).length ∧ false = false)) := Lib.hid (by
    rcases errOf_two (cutB bs false) with h | ⟨h1, h2, -⟩
    · exact .inl h
    · exact .inr ⟨h1, h2, rfl⟩)
  clear HO5 HB5
  all_goals
    clear PSG HCB
    generalize cutB bs _ = l at *
    have PR := Lib.hid (fun wq hq => rdec_any wq (.slice yo yl yc) l hq HCY.out (by have := HCL.out; omega))
    have PD := Lib.hid (decode_any w6 (.slice yo yl yc) l HV6.out HCY.out (by have := HCL.out; omega))
    have hyl : yl = l.length := by obtain ⟨ao2, cap2, e, -⟩ := HV6.out; simp only [Value.slice.injEq] at e; exact e.2.1
    have HYL := Lib.hid hyl
    clear hyl
    go_wp2_with fail
    with_reducible refine PD.out.mono ?_
    rintro e w7 ⟨hres, hb7⟩
    have HB7 := Lib.hid (btr HB6.out hb7)
    have HV7 := Lib.hid (HV6.out.kept hb7)
    have PR7 := Lib.hid (PR.out w7 HV7.out)
    clear hb7 PD PR HV6 HB6
    rcases hres with ⟨b, r, d, m, s, Z, S, L, X, A, G, C, hds, rfl, hS, hst⟩ | ⟨hno, rfl⟩
    · have HDS := Lib.hid hds
      have HST := Lib.hid hst
      clear hds hst hS HER
      go_wp2_with fail
      with_reducible refine PR7.out.mono ?_
      rintro e w8 ⟨⟨b', r', d', m', s', Z', RS, RL, P, F, hds', rfl, hRS, hst'⟩ | ⟨hno, rfl⟩, hb8⟩
      rotate_left
      · exact absurd HDS.out (hno _ _ _ _ _ _)
      obtain ⟨rfl, rfl, rfl, rfl, rfl, hz⟩ := HDS.out.unique hds'
      have PSM := Lib.hid (same_yes23 w8 w6.heap.size S L b r d m s X A G C Z w7.heap.size RS RL P F Z' (HST.out.kept hb8) hst' hz)
      have HB8 := Lib.hid (btr HB7.out hb8)
      clear hds' hst' hb8 hz HST PR7 HV7 HB7 hRS
      go_wp2_with fail
      with_reducible refine PSM.out.mono ?_
      rintro e w9 ⟨rfl, hb9⟩
      have HB9 := Lib.hid (btr HB8.out hb9)
      clear hb9 PSM
      go_wp2_with fail
      go_ret
      exact ⟨rfl, HB9.out⟩
    · have HNO := Lib.hid hno
      clear hno
      have HER8 : Hid (errOf l = 8 ∨ errOf l = 9) := Lib.hid (by rcases HER.out with h | ⟨h, -⟩; exact .inl h; exact .inr h)
      clear HER
      obtain ⟨er, her⟩ : ∃ er, er = errOf l := ⟨_, rfl⟩
      have HEE := Lib.hid her
      rw [← her]
      clear her
      go_wp2_with fail
      with_reducible refine PR7.out.mono ?_
      rintro e w8 ⟨⟨b', r', d', m', s', Z', RS, RL, P, F, hds', rfl, hRS, hst'⟩ | ⟨hno, rfl⟩, hb8⟩
      · exact absurd hds' (HNO.out _ _ _ _ _ _)
      have HB8 := Lib.hid (btr HB7.out hb8)
      rw [← HEE.out]
      have h89 : er = 8 ∨ er = 9 := by rw [HEE.out]; exact HER8.out
      clear hb8 hno PR7 HV7 HB7
      rcases h89 with rfl | rfl
      · go_wp2_with fail
        go_ret
        exact ⟨rfl, HB8.out⟩
      · go_wp2_with fail
        go_ret
        exact ⟨rfl, HB8.out⟩
end Go.Proofs.Ytbghchgmoiniiaa
