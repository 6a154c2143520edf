/-
  The walks of check.Extend, check.Sum. Conditions: none beyond those stated at each theorem.
-/
import Derived.Test.YtbghchgmoiniiaaCrcW
import Derived.Deep.Cut
namespace Go.Proofs.Ytbghchgmoiniiaa
open Go.RowKit
set_option linter.unusedVariables false
set_option linter.unusedSimpArgs false

theorem not_form (x : BitVec 32) : bits BinOp.xor IntKind.u32 (if IntKind.u32.signed = true then -1 else IntKind.u32.max) (nw x) = nw (~~~ x) := by
  have h : (if IntKind.u32.signed = true then -1 else IntKind.u32.max) = (4294967295 : Int) := by decide +kernel
  rw [h, ← not_nw]
  show IntKind.u32.wrap ((BitVec.ofInt 32 4294967295 ^^^ BitVec.ofInt 32 (nw x)).toNat : Int) = IntKind.u32.wrap ((BitVec.ofInt 32 (nw x) ^^^ BitVec.ofInt 32 4294967295).toNat : Int)
  rw [BitVec.xor_comm]
def qI (r : BitVec 32) (x : Int) : Nat := ((r ^^^ bw x) &&& 255#32).toNat
theorem qI_lt (r : BitVec 32) (x : Int) : qI r x < 256 := by
  unfold qI
  rw [BitVec.toNat_and]
  exact Nat.lt_of_le_of_lt Nat.and_le_right (by decide)
theorem qI_val (r : BitVec 32) (x : Int) (hx : 0 ≤ x ∧ x ≤ 255) : bits BinOp.xor IntKind.u8 (IntKind.u8.wrap (nw r)) x = (qI r x : Int) := by
  obtain ⟨n, rfl⟩ := Int.eq_ofNat_of_zero_le hx.1
  have hn : n ≤ 255 := by omega
  have ha : IntKind.u8.wrap (nw r) = ((r.toNat % 256 : Nat) : Int) := by
    unfold nw
    simp [IntKind.wrap, IntKind.bits, IntKind.signed]
  have hr : r.toNat % 256 < 256 := Nat.mod_lt _ (by decide)
  have e1 : BitVec.ofInt 8 ((r.toNat % 256 : Nat) : Int) = BitVec.ofNat 8 (r.toNat % 256) := BitVec.ofInt_natCast ..
  have e2 : BitVec.ofInt 8 (n : Int) = BitVec.ofNat 8 n := BitVec.ofInt_natCast ..
  rw [ha]
  show IntKind.u8.wrap ((BitVec.ofInt 8 ((r.toNat % 256 : Nat) : Int) ^^^ BitVec.ofInt 8 (n : Int)).toNat : Int) = _
  rw [e1, e2, BitVec.toNat_xor, BitVec.toNat_ofNat, BitVec.toNat_ofNat]
  have h8 : (2 : Nat) ^ 8 = 256 := rfl
  rw [h8, Nat.mod_mod, Nat.mod_eq_of_lt (show n < 256 by omega)]
  have hq : qI r (n : Int) = (r.toNat % 256) ^^^ n := by
    unfold qI
    rw [BitVec.toNat_and, BitVec.toNat_xor]
    have : (bw (n : Int)).toNat = n := by
      unfold bw
      rw [BitVec.toNat_ofInt]
      omega
    rw [this, show (255#32).toNat = 2 ^ 8 - 1 from rfl, Nat.and_two_pow_sub_one_eq_mod, Nat.xor_mod_two_pow, h8, Nat.mod_eq_of_lt (show n < 256 by omega)]
  rw [hq]
  have hlt : (r.toNat % 256) ^^^ n < 256 := by rw [← h8]; exact Nat.xor_lt_two_pow (by omega) (by omega)
  simp [IntKind.wrap, IntKind.bits, IntKind.signed]
  omega
theorem crcB_q (r : BitVec 32) (x : Int) (hx : 0 ≤ x ∧ x ≤ 255) : bits BinOp.xor IntKind.u32 (nw (r >>> 8)) (tabI (qI r x)) = nw (crcB r (bw x)) := by
  have h := crcB_table r (bw x) (by have := nw_bw x hx.1 (by omega); unfold nw at this; omega)
  unfold tabI
  rw [xor_nw, h]
  congr 3
  unfold qI
  rw [BitVec.ofNat_toNat, BitVec.setWidth_eq]
set_option maxRecDepth 100000 in
set_option maxHeartbeats 4000000 in
theorem estep_any (w : World) (x : Int) (r : BitVec 32) (RB TB : Nat) (hx : 0 ≤ x ∧ x ≤ 255) (hR : Blk w RB 43 #[.int .u32 (nw r)]) (hT : Blk w TB 115 tabA) :
    Calls Try.prog 58 #[.int .u8 x, .pointer (some ⟨RB, 0, none⟩), .pointer (some ⟨TB, 0, none⟩)] w fun e w' => (∃ v, e = .returned v) ∧ w' = (w.drewN 1).setCell ⟨RB, 0, none⟩ (.int .u32 (nw (crcB r (bw x)))) := by
  have e1 := qI_val r x hx
  have e2 := crcB_q r x hx
  have hq := qI_lt r x
  have e3 : (0 : Int) ≤ (qI r x : Int) := by omega
  have e4 : (qI r x : Int) < 256 := by omega
  have e5 : nw r / (256 : Int) = nw (r >>> 8) := by have := shr_nw r 8; simpa using this
  have HR := Lib.hid hR
  have HT := Lib.hid hT
  have ct := (hT.cell (qI r x)).trans (tabA_get _ hq)
  have c0 := hR.cell 0
  have f0 := hR.frozen 0
  simp at c0
  clear hR hT hq
  generalize qI r x = q at *
  generalize crcB r (bw x) = z at *
  generalize tabI q = tq at *
  go_enter Try.func58, Try.ntmps58
  go_wp2_with fail
  refine wp_region_still_tail 9 (by kernel_rfl) (by kernel_rfl) ?_
  simp only [List.take_succ_cons, List.take_zero, List.drop_succ_cons, List.drop_zero]
  have HWD : Hid (({ heap := w.heap, tape := w.tape, drawn := w.drawn + 1, os := w.os, output := w.output } : World) = w.drewN 1) := Lib.hid rfl
  change World.cell? { heap := w.heap, tape := w.tape, drawn := w.drawn + 1, os := w.os, output := w.output } _ = _ at c0 ct
  change World.frozen? { heap := w.heap, tape := w.tape, drawn := w.drawn + 1, os := w.os, output := w.output } _ = _ at f0
  generalize ({ heap := w.heap, tape := w.tape, drawn := w.drawn + 1, os := w.os, output := w.output } : World) = wd at *
  repeat still_step
  refine wpStill_nil ?_
  go_wp2
  (try simp only [Exit.inBlock, Exit.then])
  refine bodyPost_end (results_none rfl _ _ _) rfl ?_
  exact ⟨⟨_, rfl⟩, by rw [HWD.out]⟩
set_option maxRecDepth 100000 in
set_option maxHeartbeats 4000000 in
theorem extend_any (s : Int) (v : Value) (bs : List Int) (w : World) (hv : BytesAt w v bs) (hb : Byts bs) (h0 : 0 ≤ s) (h1 : s ≤ 4294967295) (hlen : bs.length ≤ 100000) :
    Calls Try.prog 40 #[.int .u32 s, v] w fun e w' => e = .returned (.int .u32 (sumI s bs)) ∧ Below w.heap.size w w' := by
  have PS := Lib.hid steps_any
  have HV := Lib.hid hv
  obtain ⟨ao, cap, rfl, hcap, hmx, hc⟩ := hv
  obtain ⟨n, hn⟩ : ∃ n, n = bs.length := ⟨_, rfl⟩
  have HN := Lib.hid hn
  rw [← hn] at hcap hlen ⊢
  clear hc hn
  have HB := Lib.hid hb
  have hmf : ∀ (fn : Fn) (first cap : Array Value) (w : World), (Instr.makeFunc fn first cap).run Try.prog w = .ok (.func fn first cap) w := fun _ _ _ _ => rfl
  go_enter Try.func40, Try.ntmps40
  go_wp2_with fail
  with_reducible refine (PS.out _).mono ?_
  rintro e w2 ⟨rfl, hb⟩
  have HB2 := Lib.hid hb
  have HIn := tab_info
  have HZS : Hid (tabA.size = Try.zeroCells115.size) := Lib.hid (tabA_size.trans Try.zeroCells115_size.symm)
  have HZB := Lib.hid (Blk.new w2 115 Try.zeroCells115)
  go_upto_region 2 with (refine wpList_store_row rfl 115 _ _ rfl w2.heap.size tabA rfl rfl 115 Try.zeroCells115 HZB.out HIn HZS.out tabA_one ?_)
  have HT3 : Hid (Blk ((w2.alloc (.cells Try.zeroCells115 115)).setRow w2.heap.size tabA) w2.heap.size 115 tabA) := Lib.hid (setRow_heap _ _ _ _ _ _ HZB.out)
  have HB3 : Hid (Below w.heap.size w ((w2.alloc (.cells Try.zeroCells115 115)).setRow w2.heap.size tabA)) := Lib.hid ((HB2.out.alloc HB2.out.size _).trans ⟨rfl, rfl, rfl, by simp, fun k hk => setRow_other _ w2.heap.size k tabA (by have := HB2.out.size; omega)⟩)
  have HS3 : Hid (((w2.alloc (.cells Try.zeroCells115 115)).setRow w2.heap.size tabA).heap.size = w2.heap.size + 1) := Lib.hid (by simp)
  generalize ((w2.alloc (.cells Try.zeroCells115 115)).setRow w2.heap.size tabA) = w3 at *
  have HTL : Hid (w.heap.size ≤ w2.heap.size) := Lib.hid HB2.out.size
  generalize w2.heap.size = TB at *
  clear hb HIn HZS HZB HB2
  have e0 : bits BinOp.xor IntKind.u32 (if IntKind.u32.signed = true then -1 else IntKind.u32.max) s = nw (~~~ (bw s)) := by
    conv => lhs; rw [← nw_bw s h0 h1]
    exact not_form _
  generalize hx0 : ~~~ (bw s) = x0 at *
  have HX0 := Lib.hid hx0
  clear hx0
  go_upto_region 4 with fail
  have hRB : Blk (w3.alloc (.cells #[.int .u32 (nw x0)] 43)) w3.heap.size 43 #[.int .u32 (nw x0)] := Blk.new _ _ _
  have HRB := Lib.hid hRB
  have HT4 := Lib.hid (HT3.out.alloc (.cells #[.int .u32 (nw x0)] 43))
  have HB4 := Lib.hid (HB3.out.alloc HB3.out.size (.cells #[.int .u32 (nw x0)] 43))
  have HNE : Hid (w3.heap.size ≠ TB ∧ w.heap.size ≤ w3.heap.size) := Lib.hid ⟨by have := HT3.out.lt; omega, HB3.out.size⟩
  clear hRB e0 HS3
  generalize (w3.alloc (.cells #[.int .u32 (nw x0)] 43)) = w4 at *
  generalize w3.heap.size = RB at *
  go_wp2_with fail
  go_loopw [16] (fun i wr => ∃ j : Nat, j ≤ n ∧ i = .int .i64 (j : Int) ∧ Blk wr RB 43 #[.int .u32 (nw (crcL x0 (bs.take j)))] ∧ Blk wr TB 115 tabA ∧ Below w.heap.size w wr) (fun i _ => n - (intOf i).toNat)
  case atStart => exact ⟨0, by omega, rfl, HRB.out, HT4.out, HB4.out⟩
  case round =>
    obtain ⟨j, hj, rfl, hr, ht, hbel⟩ := hrel
    clear HRB HT4 HB4 HB3 HT3
    have HR := Lib.hid hr
    have HT := Lib.hid ht
    have HBL := Lib.hid hbel
    clear hr ht
    by_cases hlt : j < n
    · have hjl : j < bs.length := by have := HN.out; omega
      have HNX := Lib.hid (crcL_take (r := x0) hjl)
      obtain ⟨g, off, rfl, hg, cx0⟩ := HV.out.cell hjl
      have cx := (hbel.cell (p := ⟨g, off + j, none⟩) hg).trans cx0
      have hb8 := HB.out.cellD j
      have i0 : (0 : Int) ≤ (j : Int) := by omega
      have i1 : (j : Int) < (n : Int) := by omega
      have PE := estep_any wr (cellD bs j) (crcL x0 (bs.take j)) RB TB hb8 HR.out HT.out
      have PE := Lib.hid PE
      generalize cellD bs j = u at *
      clear hjl cx0 hb8
      go_wp2_with fail
      with_reducible refine PE.out.mono ?_
      rintro e w5 ⟨⟨v5, rfl⟩, hw5⟩
      have hcr : crcB (crcL x0 (bs.take j)) (bw u) = crcL x0 (bs.take (j + 1)) := HNX.out.symm
      rw [hcr] at hw5
      have HR5 : Hid (Blk w5 RB 43 #[.int .u32 (nw (crcL x0 (bs.take (j + 1))))]) := Lib.hid (by rw [hw5]; simpa using (HR.out.drewN 1).set_ 0 (.int .u32 (nw (crcL x0 (bs.take (j + 1))))))
      have HT5 : Hid (Blk w5 TB 115 tabA) := Lib.hid (by rw [hw5]; exact (HT.out.drewN 1).far (by have := HNE.out.1; simp; omega) _)
      have HB5 : Hid (Below w.heap.size w w5) := Lib.hid (by rw [hw5]; exact (below_drewN HBL.out 1).setCell HNE.out.2 _)
      clear hw5 hcr PE
      go_wp2
      go_roundw
      case rel => exact ⟨j + 1, by omega, by go_num, HR5.out, HT5.out, HB5.out⟩
      case measure => simp [intOf]; omega
    · obtain rfl : j = n := by omega
      have ht : bs.take j = bs := List.take_of_length_le (by have := HN.out; omega)
      have HT2 := Lib.hid ht
      have c0 := HR.out.cell 0
      simp at c0
      rw [ht] at c0
      have HS : Hid (sumI s bs = nw (~~~ (crcL x0 bs))) := Lib.hid (by rw [← HX0.out]; rfl)
      have hnt := not_form (crcL x0 bs)
      generalize crcL x0 bs = x at *
      clear ht
      go_wp2
      go_ret
      exact ⟨congrArg (fun z => Ending.returned (.int .u32 z)) HS.out.symm, HBL.out⟩
theorem sum_any (v : Value) (bs : List Int) (w : World) (hv : BytesAt w v bs) (hb : Byts bs) (hlen : bs.length ≤ 100000) :
    Calls Try.prog 19 #[v] w fun e w' => e = .returned (.int .u32 (sumI 0 bs)) ∧ Below w.heap.size w w' := by
  have P := Lib.hid (extend_any 0 v bs w hv hb (by decide) (by decide) hlen)
  obtain ⟨ao, cap, rfl, hcap, hmx, hc⟩ := hv
  clear hc hlen
  generalize bs.length = n at *
  go_enter Try.func19, Try.ntmps19
  go_wp2_with fail
  with_reducible refine P.out.mono ?_
  rintro e w2 ⟨rfl, hb⟩
  have HB := Lib.hid hb
  clear hb
  go_wp2
  go_ret
  exact ⟨rfl, HB.out⟩
end Go.Proofs.Ytbghchgmoiniiaa
