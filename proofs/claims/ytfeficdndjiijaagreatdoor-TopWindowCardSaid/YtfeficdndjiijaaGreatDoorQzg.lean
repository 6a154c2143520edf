import Derived.Test.YtfeficdndjiijaaGreatDoorQzf
import Derived.Maps.OwnOps
import Derived.Maps.OwnSet
import Derived.Maps.Views
import Derived.Maps.Keyed
import Derived.RangeFuncNested
import Derived.RangeFuncBound
import Derived.RangeFuncCalls
import Derived.RangeFuncLeaves
import Derived.RangeFuncWrites
import Derived.Shelf.Abstract
import Derived.Shelf.RegionOpen
import Derived.WalkKit
import Derived.OwnWalkIn
import Derived.TacticsInMore
import Derived.LoopNIn
import Derived.LoopIn
import Derived.Deep.RegionHeld3
import Derived.StillTailTactics
import Derived.Test.YtfeficdndjiijaaGreatDoorQza
import Derived.Test.YtfeficdndjiijaaGreatDoorQzd
/-
  Contracts of the functions that TopWindow reaches, and the plain laws that it leans on. Conditions: none beyond those stated at each theorem.
-/
namespace Go.Proofs.YtfeficdndjiijaaGreatDoor
open Go.RowKit
set_option linter.unusedVariables false
set_option linter.unusedSimpArgs false

theorem itoa_head (n : Int) : (Lib.itoa n).head? ≠ some 34 := by
  cases h : Lib.itoa n with
  | nil => exact absurd h (itoa_ne n)
  | cons c r =>
    intro e
    have := itoa_chars n c (by rw [h]; simp)
    simp at e
    subst e
    revert this
    decide
theorem itoa_llen (n : Int) (h0 : -9223372036854775808 ≤ n) (h1 : n ≤ 9223372036854775807) : (Lib.itoa n).length ≤ 65536 := by
  have := Lib.itoa_length_le n h0 h1
  omega
theorem gr_setRowNew {w w' : World} {row : Option Nat} (h : w.grownBy w' row) {g : Nat} (hg : w.heap.size ≤ g) (cs : Array Value) : w.grownBy (w'.setRow g cs) row :=
  ⟨h.os, h.tape, h.output, by simpa using h.size, fun k hk hne => (setRow_other w' g k cs (by omega)).trans (h.block k hk hne)⟩
set_option maxRecDepth 100000 in
set_option maxHeartbeats 4000000 in
theorem rdadd (w : World) (R : Nat) (v : Value) (ws : List (List UInt8)) (k : Nat) (en h key d : Int) (hr : Rd w R v k en) (hv : WdAt w v ws) (h1 : ws[k]? = some (Lib.itoa h)) (h2 : ws[k + 1]? = some (Lib.itoa key)) (h3 : ws[k + 1 + 1]? = some (Lib.itoa d)) (hl : ws.length ≤ 65536)
  (hh : In64 h) (hk0 : 0 ≤ key) (hk1 : key ≤ 9223372036854775807) (hd : In64 d) (ht : Tab w) :
  Calls Tryz.prog 79 #[.pointer (some ⟨R, 0, none⟩)] w fun e w' => e = .returned (.agg #[.int .i64 h, .bool false, .string ⟨#[]⟩, .int .u64 key, .int .i64 d]) ∧ Rd w' R v ((k + 1 + 1 + 1 : Nat) : Int) en ∧ w.grownBy w' (some R) := by
 have HL := Lib.hid hl
 have HH := Lib.hid (And.intro hh hd)
 have HK := Lib.hid (And.intro hk0 hk1)
 have H12 := Lib.hid (And.intro h1 (And.intro h2 h3))
 have hkw : IntKind.u64.wrap key = key := by simp [IntKind.wrap, IntKind.bits, IntKind.signed]; omega
 obtain ⟨ww, hww⟩ : ∃ ww, ww = w.alloc (.cells #[.int .i64 0, .bool false, .string ⟨#[]⟩, .int .u64 0, .int .i64 0] 117) := ⟨_, rfl⟩
 have hb1 : Below w.heap.size w ww := by rw [hww]; exact (Below.refl _ w).alloc (Nat.le_refl _) _
 have HZ1 : Hid (Blk ww w.heap.size 117 #[.int .i64 0, .bool false, .string ⟨#[]⟩, .int .u64 0, .int .i64 0]) := Lib.hid (by rw [hww]; exact Blk.new w _ _)
 have HR1 := Lib.hid (Blk.kept hr hb1)
 have HV1 := Lib.hid (hv.kept hb1)
 have HT1 := Lib.hid (ht.kept hb1)
 have HB1 : Hid (w.grownBy ww (some R)) := Lib.hid (below_gr hb1)
 have HRL := Lib.hid (Blk.lt hr)
 have PN1 := Lib.hid (rdnum ww R v ws k en h HR1.out HV1.out h1 hl hh.1 hh.2 HT1.out)
 clear hr hv h1 h2 h3 hl hh hd ht hb1 hk0 hk1
 go_enter Tryz.func79, Tryz.ntmps79
 go_wp2_with fail
 rw [← hww]
 clear hww
 with_reducible refine PN1.out.mono ?_
 rintro e w2 ⟨rfl, hr2, hg2⟩
 have hRne : R ≠ w.heap.size := by have := HRL.out; omega
 have HZ2 := Lib.hid (Blk.grown HZ1.out hg2 (by simp; omega))
 have HV2 := Lib.hid (HV1.out.grown HR1.out (by decide) hg2)
 have HT2 := Lib.hid (HT1.out.grown HR1.out (by simp) hg2)
 have HB2 := Lib.hid (gr_trans HB1.out hg2)
 have HR2 := Lib.hid hr2
 clear hr2 hg2 HZ1 HV1 HT1 HB1 HR1 PN1
 -- the struct that is filled
 obtain ⟨w3, hw3⟩ : ∃ w3, w3 = w2.alloc (.cells #[.int .i64 h, .bool false, .string ⟨#[]⟩, .int .u64 0, .int .i64 0] 117) := ⟨_, rfl⟩
 have hb3 : Below w2.heap.size w2 w3 := by rw [hw3]; exact (Below.refl _ w2).alloc (Nat.le_refl _) _
 have HA3 : Hid (Blk w3 w2.heap.size 117 #[.int .i64 h, .bool false, .string ⟨#[]⟩, .int .u64 0, .int .i64 0]) := Lib.hid (by rw [hw3]; exact Blk.new w2 _ _)
 have HZ3 := Lib.hid (HZ2.out.kept hb3)
 have HV3 := Lib.hid (HV2.out.kept hb3)
 have HT3 := Lib.hid (HT2.out.kept hb3)
 have HR3 := Lib.hid (Blk.kept HR2.out hb3)
 have HB3 : Hid (w.grownBy w3 (some R)) := Lib.hid (gr_trans HB2.out (below_gr hb3))
 have hAR : R < w2.heap.size := Blk.lt HR2.out
 have hAZ : w.heap.size < w2.heap.size := Blk.lt HZ2.out
 clear hb3 HZ2 HV2 HT2 HR2 HB2
 have PX := Lib.hid (rdnext w3 R v ws (k + 1) en _ HR3.out HV3.out H12.out.2.1 HL.out)
 go_wp2_with fail
 rw [← hw3]
 clear hw3
 generalize w2.heap.size = A at *
 with_reducible refine PX.out.mono ?_
 rintro e w4 ⟨rfl, hb⟩
 have HA4 := Lib.hid (HA3.out.kept hb)
 have HZ4 := Lib.hid (HZ3.out.kept hb)
 have HV4 := Lib.hid (HV3.out.kept hb)
 have HT4 := Lib.hid (HT3.out.kept hb)
 have HR4 := Lib.hid (Blk.kept HR3.out hb)
 have HB4 : Hid (w.grownBy w4 (some R)) := Lib.hid (gr_trans HB3.out (below_gr hb))
 clear hb HA3 HZ3 HV3 HT3 HR3 HB3 PX
 have PU := Lib.hid (fun w => named_no (Lib.itoa key) (itoa_head key) (itoa_llen key (by have := HK.out.1; omega) HK.out.2) w)
 have PN2 := Lib.hid (rdnum w4 R v ws (k + 1) en key HR4.out HV4.out H12.out.2.1 HL.out (by have := HK.out.1; omega) HK.out.2 HT4.out)
 generalize sB (Lib.itoa key) = S at *
 go_wp2_with fail
 with_reducible refine (PU.out _).mono ?_
 rintro e w5 ⟨rfl, hw5⟩
 subst hw5
 clear PU
 go_wp2_with fail
 with_reducible refine PN2.out.mono ?_
 rintro e w6 ⟨rfl, hr6, hg6⟩
 have ha6 := Blk.grown HA4.out hg6 (by simp; omega)
 have HA6 := Lib.hid ha6
 have HZ6 := Lib.hid (Blk.grown HZ4.out hg6 (by simp; omega))
 have HV6 := Lib.hid (HV4.out.grown HR4.out (by decide) hg6)
 have HT6 := Lib.hid (HT4.out.grown HR4.out (by simp) hg6)
 have HB6 := Lib.hid (gr_trans HB4.out hg6)
 have HR6 := Lib.hid hr6
 clear hr6 hg6 HA4 HZ4 HV4 HT4 HB4 HR4 PN2
 have c3 := ha6.cell 3
 have f3 := ha6.frozen 3
 simp at c3
 clear ha6
 have hga : w6.grownBy (w6.setCell ⟨A, 3, none⟩ (.int .u64 key)) (some A) := gr_setC (World.grownBy.refl _ _) 3 _
 have HA7 : Hid (Blk (w6.setCell ⟨A, 3, none⟩ (.int .u64 key)) A 117 #[.int .i64 h, .bool false, .string ⟨#[]⟩, .int .u64 key, .int .i64 0]) := Lib.hid (by simpa using Blk.set_ HA6.out 3 (.int .u64 key))
 have HZ7 := Lib.hid (Blk.grown HZ6.out hga (by simp; omega))
 have HV7 := Lib.hid (HV6.out.grown HA6.out (by decide) hga)
 have HT7 := Lib.hid (HT6.out.grown HA6.out (by simp) hga)
 have HR7 := Lib.hid (Blk.grown HR6.out hga (by simp; omega))
 have HB7 : Hid (w.grownBy (w6.setCell ⟨A, 3, none⟩ (.int .u64 key)) (some R)) := Lib.hid (gr_setNew HB6.out (by simp; omega) _)
 clear hga HA6 HZ6 HV6 HT6 HB6 HR6
 have PN3 := Lib.hid (rdnum (w6.setCell ⟨A, 3, none⟩ (.int .u64 key)) R v ws (k + 1 + 1) en d HR7.out HV7.out H12.out.2.2 HL.out HH.out.2.1 HH.out.2.2 HT7.out)
 go_wp2_with fail
 generalize w6.setCell ⟨A, 3, none⟩ (.int .u64 key) = w7 at *
 with_reducible refine PN3.out.mono ?_
 rintro e w8 ⟨rfl, hr8, hg8⟩
 have ha8 := Blk.grown HA7.out hg8 (by simp; omega)
 have HZ8 := Lib.hid (Blk.grown HZ7.out hg8 (by simp; omega))
 have HB8 := Lib.hid (gr_trans HB7.out hg8)
 have HR8 := Lib.hid hr8
 have c4 := ha8.cell 4
 have f4 := ha8.frozen 4
 simp at c4
 have hga : w8.grownBy (w8.setCell ⟨A, 4, none⟩ (.int .i64 d)) (some A) := gr_setC (World.grownBy.refl _ _) 4 _
 have HA9 : Hid (Blk (w8.setCell ⟨A, 4, none⟩ (.int .i64 d)) A 117 #[.int .i64 h, .bool false, .string ⟨#[]⟩, .int .u64 key, .int .i64 d]) := Lib.hid (by simpa using Blk.set_ ha8 4 (.int .i64 d))
 have HZ9 := Lib.hid (Blk.grown HZ8.out hga (by simp; omega))
 have HR9 := Lib.hid (Blk.grown HR8.out hga (by simp; omega))
 have HB9 : Hid (w.grownBy (w8.setCell ⟨A, 4, none⟩ (.int .i64 d)) (some R)) := Lib.hid (gr_setNew HB8.out (by simp; omega) _)
 clear hga ha8 hr8 hg8 HZ8 HB8 HR8 HA7 HZ7 HV7 HT7 HB7 HR7 PN3
 have HI : (Tryz.prog.info? 117).map (·.size) = some (#[Value.int .i64 h, .bool false, .string ⟨#[]⟩, .int .u64 key, .int .i64 d] : Array Value).size := by kernel_rfl
 go_wp2_with (first | refine wpList_load_row rfl 117 _ rfl A rfl 117 _ (0, 0) _ HA9.out Tryz.underlying117 rfl HI ?_ | refine wpList_store_row rfl 117 _ _ rfl w.heap.size #[.int .i64 h, .bool false, .string ⟨#[]⟩, .int .u64 key, .int .i64 d] rfl rfl 117 _ HZ9.out HI rfl (by simp [Value.oneCell']) ?_)
 have hzz : (Blk ((w8.setCell ⟨A, 4, none⟩ (.int .i64 d)).setRow w.heap.size #[.int .i64 h, .bool false, .string ⟨#[]⟩, .int .u64 key, .int .i64 d]) w.heap.size 117 #[.int .i64 h, .bool false, .string ⟨#[]⟩, .int .u64 key, .int .i64 d]) := setRow_heap _ _ _ _ _ _ HZ9.out
 refine bodyPost_ret (results_cell_row rfl _ _ w.heap.size 117 #[.int .i64 h, .bool false, .string ⟨#[]⟩, .int .u64 key, .int .i64 d] (0, 0) _ rfl hzz Tryz.underlying117 rfl HI) rfl ⟨rfl, ?_, gr_setRowNew HB9.out (Nat.le_refl _) _⟩
 exact (setRow_other _ _ _ _ (by omega)).trans HR9.out
end Go.Proofs.YtfeficdndjiijaaGreatDoor


namespace Go.Proofs.YtfeficdndjiijaaGreatDoor
open Go.RowKit
set_option linter.unusedVariables false
set_option linter.unusedSimpArgs false

theorem gr_drewN {w w' : World} {row : Option Nat} (h : w.grownBy w' row) (n : Nat) : w.grownBy (w'.drewN n) row := ⟨h.os, h.tape, h.output, h.size, h.block⟩
set_option maxRecDepth 100000 in
set_option maxHeartbeats 4000000 in
theorem cmd_tick (w : World) (R : Nat) (v : Value) (ws : List (List UInt8)) (en : Int) (hr : Rd w R v 0 en) (hv : WdAt w v ws) (h0 : ws[0]? = some [116, 105, 99, 107]) (hl : ws.length ≤ 65536) :
  Calls Tryz.prog 44 #[.pointer (some ⟨R, 0, none⟩)] w fun e w' => e = .returned (.iface 120 (.agg #[])) ∧ Rd w' R v 1 en ∧ w.grownBy w' (some R) := by
 have PX := Lib.hid (rdnext w R v ws 0 en _ hr hv h0 hl)
 have HR := Lib.hid hr
 have HV := Lib.hid hv
 have HL := Lib.hid hl
 clear hr hv h0 hl
 have hvl := sB_list [116, 105, 99, 107]
 obtain ⟨S, hS⟩ : ∃ S, S = sB [116, 105, 99, 107] := ⟨_, rfl⟩
 rw [← hS] at PX hvl
 clear hS
 go_enter Tryz.func44, Tryz.ntmps44
 go_wp2_with fail
 with_reducible refine PX.out.mono ?_
 rintro e w2 ⟨rfl, hb⟩
 have hr2 := Blk.kept HR.out hb
 have c1 := hr2.cell 1
 have f1 := hr2.frozen 1
 simp at c1
 have hg1 : w2.grownBy (w2.setCell ⟨R, 1, none⟩ (.int .i64 1)) (some R) := gr_setC (World.grownBy.refl _ _) 1 _
 have HR3 : Hid (Rd (w2.setCell ⟨R, 1, none⟩ (.int .i64 1)) R v 1 en) := Lib.hid (by unfold Rd; simpa using Blk.set_ hr2 1 (.int .i64 1))
 have HV3 := Lib.hid ((HV.out.kept hb).grown hr2 (by decide) hg1)
 have HB3 := Lib.hid (gr_trans (below_gr (row := some R) hb) hg1)
 clear hb hr2 hg1 PX HR HV
 go_wp2_with fail
 go_ret
 exact ⟨rfl, HR3.out, HB3.out⟩
set_option maxRecDepth 100000 in
set_option maxHeartbeats 4000000 in
theorem cmd_add (w : World) (R : Nat) (v : Value) (ws : List (List UInt8)) (en : Int) (h key d : Int) (hr : Rd w R v 0 en) (hv : WdAt w v ws) (h0 : ws[0]? = some [97, 100, 100]) (hl : ws.length ≤ 65536) (h1 : ws[1]? = some (Lib.itoa h)) (h2 : ws[2]? = some (Lib.itoa key)) (h3 : ws[3]? = some (Lib.itoa d)) (hh : In64 h) (hk0 : 0 ≤ key) (hk1 : key ≤ 9223372036854775807) (hd : In64 d) (ht : Tab w) :
  Calls Tryz.prog 44 #[.pointer (some ⟨R, 0, none⟩)] w fun e w' => e = .returned (.iface 117 (.agg #[.int .i64 h, .bool false, .string ⟨#[]⟩, .int .u64 key, .int .i64 d])) ∧ Rd w' R v 4 en ∧ w.grownBy w' (some R) := by
 have PX := Lib.hid (rdnext w R v ws 0 en _ hr hv h0 hl)
 have HR := Lib.hid hr
 have HV := Lib.hid hv
 have HL := Lib.hid hl
 have HT := Lib.hid ht
 have PA := Lib.hid (fun w hr hv ht => rdadd w R v ws 1 en h key d hr hv h1 h2 h3 hl hh hk0 hk1 hd ht)
 clear hr hv h0 hl ht h1 h2 h3 hh hk0 hk1 hd
 have hvl := sB_list [97, 100, 100]
 obtain ⟨S, hS⟩ : ∃ S, S = sB [97, 100, 100] := ⟨_, rfl⟩
 rw [← hS] at PX hvl
 clear hS
 go_enter Tryz.func44, Tryz.ntmps44
 go_wp2_with fail
 with_reducible refine PX.out.mono ?_
 rintro e w2 ⟨rfl, hb⟩
 have hr2 := Blk.kept HR.out hb
 have c1 := hr2.cell 1
 have f1 := hr2.frozen 1
 simp at c1
 have hg1 : w2.grownBy (w2.setCell ⟨R, 1, none⟩ (.int .i64 1)) (some R) := gr_setC (World.grownBy.refl _ _) 1 _
 have HR3 : Hid (Rd (w2.setCell ⟨R, 1, none⟩ (.int .i64 1)) R v 1 en) := Lib.hid (by unfold Rd; simpa using Blk.set_ hr2 1 (.int .i64 1))
 have HV3 := Lib.hid ((HV.out.kept hb).grown hr2 (by decide) hg1)
 have HB3 := Lib.hid (gr_trans (below_gr (row := some R) hb) hg1)
 have HT3 := Lib.hid ((HT.out.kept hb).grown hr2 (by simp) hg1)
 clear hb hr2 hg1 PX HR HV
 have PA3 := Lib.hid (PA.out _ HR3.out HV3.out HT3.out)
 go_wp2_with fail
 generalize w2.setCell ⟨R, 1, none⟩ (.int .i64 1) = w3 at *
 with_reducible refine PA3.out.mono ?_
 rintro e w4 ⟨rfl, hr4, hg4⟩
 have HR4 := Lib.hid hr4
 have HB4 := Lib.hid (gr_trans HB3.out hg4)
 clear hr4 hg4
 go_wp2_with fail
 go_ret
 exact ⟨rfl, HR4.out, HB4.out⟩
set_option maxRecDepth 100000 in
set_option maxHeartbeats 4000000 in
theorem cmd_export (w : World) (R : Nat) (v : Value) (ws : List (List UInt8)) (en : Int) (h : Int) (hr : Rd w R v 0 en) (hv : WdAt w v ws) (h0 : ws[0]? = some [101, 120, 112, 111, 114, 116]) (hl : ws.length ≤ 65536) (h1 : ws[1]? = some (Lib.itoa h)) (hh : In64 h) (ht : Tab w) :
  Calls Tryz.prog 44 #[.pointer (some ⟨R, 0, none⟩)] w fun e w' => e = .returned (.iface 123 (.agg #[.string (sB [101, 120, 112, 111, 114, 116]), .int .i64 h, .slice none 0 0])) ∧ Rd w' R v 2 en ∧ w.grownBy w' (some R) := by
 have PX := Lib.hid (rdnext w R v ws 0 en _ hr hv h0 hl)
 have HR := Lib.hid hr
 have HV := Lib.hid hv
 have HL := Lib.hid hl
 have HT := Lib.hid ht
 have PA := Lib.hid (fun w hr hv ht => rdnum w R v ws 1 en h hr hv h1 hl hh.1 hh.2 ht)
 clear hr hv h0 hl ht h1 hh
 have hvl := sB_list [101, 120, 112, 111, 114, 116]
 obtain ⟨S, hS⟩ : ∃ S, S = sB [101, 120, 112, 111, 114, 116] := ⟨_, rfl⟩
 rw [← hS] at PX hvl ⊢
 clear hS
 go_enter Tryz.func44, Tryz.ntmps44
 go_wp2_with fail
 with_reducible refine PX.out.mono ?_
 rintro e w2 ⟨rfl, hb⟩
 have hr2 := Blk.kept HR.out hb
 have c1 := hr2.cell 1
 have f1 := hr2.frozen 1
 simp at c1
 have hg1 : w2.grownBy (w2.setCell ⟨R, 1, none⟩ (.int .i64 1)) (some R) := gr_setC (World.grownBy.refl _ _) 1 _
 have HR3 : Hid (Rd (w2.setCell ⟨R, 1, none⟩ (.int .i64 1)) R v 1 en) := Lib.hid (by unfold Rd; simpa using Blk.set_ hr2 1 (.int .i64 1))
 have HV3 := Lib.hid ((HV.out.kept hb).grown hr2 (by decide) hg1)
 have HB3 := Lib.hid (gr_trans (below_gr (row := some R) hb) hg1)
 have HT3 := Lib.hid ((HT.out.kept hb).grown hr2 (by simp) hg1)
 clear hb hr2 hg1 PX HR HV
 have PA3 := Lib.hid (PA.out _ HR3.out HV3.out HT3.out)
 go_wp2_with fail
 generalize w2.setCell ⟨R, 1, none⟩ (.int .i64 1) = w3 at *
 with_reducible refine PA3.out.mono ?_
 rintro e w4 ⟨rfl, hr4, hg4⟩
 have HR4 := Lib.hid hr4
 have HB4 := Lib.hid (gr_trans HB3.out hg4)
 clear hr4 hg4
 go_wp2_with fail
 go_ret
 exact ⟨rfl, HR4.out, HB4.out⟩
set_option maxRecDepth 100000 in
set_option maxHeartbeats 4000000 in
theorem cmd_create (w : World) (R : Nat) (v : Value) (ws : List (List UInt8)) (en : Int) (x0 x1 x2 x3 x4 : Int) (hr : Rd w R v 0 en) (hv : WdAt w v ws) (h0 : ws[0]? = some [99, 114, 101, 97, 116, 101]) (hl : ws.length ≤ 65536) (h1 : ws[1]? = some (Lib.itoa x0)) (h2 : ws[2]? = some (Lib.itoa x1)) (h3 : ws[3]? = some (Lib.itoa x2)) (h4 : ws[4]? = some (Lib.itoa x3)) (h5 : ws[5]? = some (Lib.itoa x4)) (b0 : In64 x0) (b1 : In64 x1) (b2 : In64 x2) (b3 : In64 x3) (b4 : In64 x4) (ht : Tab w) (sd : Int) (hws : IntKind.u64.wrap x4 = sd) :
  Calls Tryz.prog 44 #[.pointer (some ⟨R, 0, none⟩)] w fun e w' => e = .returned (.iface 110 (.agg #[.int .i64 x0, .int .i64 x1, .int .i64 x2, .int .i64 x3, .int .u64 sd])) ∧ Rd w' R v 6 en ∧ w.grownBy w' (some R) := by
 have PX := Lib.hid (rdnext w R v ws 0 en _ hr hv h0 hl)
 have HR := Lib.hid hr
 have HV := Lib.hid hv
 have HL := Lib.hid hl
 have HT := Lib.hid ht
 have PA := Lib.hid (fun w hr hv ht => rdnums w R v ws 1 5 5 rfl en [x0, x1, x2, x3, x4] hr hv rfl (by decide) (fun j x hj => by
  match j with
  | 0 => simp at hj; subst hj; exact h1
  | 1 => simp at hj; subst hj; exact h2
  | 2 => simp at hj; subst hj; exact h3
  | 3 => simp at hj; subst hj; exact h4
  | 4 => simp at hj; subst hj; exact h5
  | j + 5 => simp at hj) (fun x hx => by
  simp at hx
  rcases hx with rfl | rfl | rfl | rfl | rfl
  ·exact ⟨b0.1, b0.2⟩
  ·exact ⟨b1.1, b1.2⟩
  ·exact ⟨b2.1, b2.2⟩
  ·exact ⟨b3.1, b3.2⟩
  ·exact ⟨b4.1, b4.2⟩
  ) hl ht)
 clear hr hv h0 hl ht h1 h2 h3 h4 h5
 have hvl := sB_list [99, 114, 101, 97, 116, 101]
 obtain ⟨S, hS⟩ : ∃ S, S = sB [99, 114, 101, 97, 116, 101] := ⟨_, rfl⟩
 rw [← hS] at PX hvl
 clear hS
 go_enter Tryz.func44, Tryz.ntmps44
 go_wp2_with fail
 with_reducible refine PX.out.mono ?_
 rintro e w2 ⟨rfl, hb⟩
 have hr2 := Blk.kept HR.out hb
 have c1 := hr2.cell 1
 have f1 := hr2.frozen 1
 simp at c1
 have hg1 : w2.grownBy (w2.setCell ⟨R, 1, none⟩ (.int .i64 1)) (some R) := gr_setC (World.grownBy.refl _ _) 1 _
 have HR3 : Hid (Rd (w2.setCell ⟨R, 1, none⟩ (.int .i64 1)) R v 1 en) := Lib.hid (by unfold Rd; simpa using Blk.set_ hr2 1 (.int .i64 1))
 have HV3 := Lib.hid ((HV.out.kept hb).grown hr2 (by decide) hg1)
 have HB3 := Lib.hid (gr_trans (below_gr (row := some R) hb) hg1)
 have HT3 := Lib.hid ((HT.out.kept hb).grown hr2 (by simp) hg1)
 clear hb hr2 hg1 PX HR HV
 have PA3 := Lib.hid (PA.out _ HR3.out HV3.out HT3.out)
 go_wp2_with fail
 generalize w2.setCell ⟨R, 1, none⟩ (.int .i64 1) = w3 at *
 with_reducible refine PA3.out.mono ?_
 rintro e w4 ⟨g, rfl, hgw, hrow, hr4, hg4⟩
 have k0 : w4.cell? ⟨g, 0, none⟩ = some (.int .i64 x0) := hrow.cell (by decide)
 have k1 : w4.cell? ⟨g, 1, none⟩ = some (.int .i64 x1) := hrow.cell (by decide)
 have k2 : w4.cell? ⟨g, 2, none⟩ = some (.int .i64 x2) := hrow.cell (by decide)
 have k3 : w4.cell? ⟨g, 3, none⟩ = some (.int .i64 x3) := hrow.cell (by decide)
 have k4 : w4.cell? ⟨g, 4, none⟩ = some (.int .i64 x4) := hrow.cell (by decide)
 have HROW := Lib.hid hrow
 have HR4 := Lib.hid hr4
 have HB4 := Lib.hid (gr_trans HB3.out hg4)
 have HGW : Hid (w.heap.size ≤ g) := Lib.hid (Nat.le_trans HB3.out.size hgw)
 clear hr4 hg4 hrow hgw
 go_wp2_with fail
 go_quiet (fail)
 go_wp2_with fail
 go_ret
 exact ⟨rfl, Blk.drewN HR4.out _, gr_drewN HB4.out _⟩
set_option maxRecDepth 100000 in
set_option maxHeartbeats 4000000 in
theorem cmd_window (w : World) (R : Nat) (v : Value) (ws : List (List UInt8)) (en : Int) (x0 x1 x2 x3 x4 : Int) (hr : Rd w R v 0 en) (hv : WdAt w v ws) (h0 : ws[0]? = some [119, 105, 110, 100, 111, 119]) (hl : ws.length ≤ 65536) (h1 : ws[1]? = some (Lib.itoa x0)) (h2 : ws[2]? = some (Lib.itoa x1)) (h3 : ws[3]? = some (Lib.itoa x2)) (h4 : ws[4]? = some (Lib.itoa x3)) (h5 : ws[5]? = some (Lib.itoa x4)) (b0 : In64 x0) (b1 : In64 x1) (b2 : In64 x2) (b3 : In64 x3) (b4 : In64 x4) (ht : Tab w) (sd : Int) (hws : IntKind.u64.wrap x3 = sd) :
  Calls Tryz.prog 44 #[.pointer (some ⟨R, 0, none⟩)] w fun e w' => e = .returned (.iface 113 (.agg #[.int .i64 x0, .int .i64 x1, .int .i64 x2, .int .i64 1, .int .u64 sd, .int .i64 x4])) ∧ Rd w' R v 6 en ∧ w.grownBy w' (some R) := by
 have PX := Lib.hid (rdnext w R v ws 0 en _ hr hv h0 hl)
 have HR := Lib.hid hr
 have HV := Lib.hid hv
 have HL := Lib.hid hl
 have HT := Lib.hid ht
 have PA := Lib.hid (fun w hr hv ht => rdnums w R v ws 1 5 5 rfl en [x0, x1, x2, x3, x4] hr hv rfl (by decide) (fun j x hj => by
  match j with
  | 0 => simp at hj; subst hj; exact h1
  | 1 => simp at hj; subst hj; exact h2
  | 2 => simp at hj; subst hj; exact h3
  | 3 => simp at hj; subst hj; exact h4
  | 4 => simp at hj; subst hj; exact h5
  | j + 5 => simp at hj) (fun x hx => by
  simp at hx
  rcases hx with rfl | rfl | rfl | rfl | rfl
  ·exact ⟨b0.1, b0.2⟩
  ·exact ⟨b1.1, b1.2⟩
  ·exact ⟨b2.1, b2.2⟩
  ·exact ⟨b3.1, b3.2⟩
  ·exact ⟨b4.1, b4.2⟩
  ) hl ht)
 clear hr hv h0 hl ht h1 h2 h3 h4 h5
 have hvl := sB_list [119, 105, 110, 100, 111, 119]
 obtain ⟨S, hS⟩ : ∃ S, S = sB [119, 105, 110, 100, 111, 119] := ⟨_, rfl⟩
 rw [← hS] at PX hvl
 clear hS
 go_enter Tryz.func44, Tryz.ntmps44
 go_wp2_with fail
 with_reducible refine PX.out.mono ?_
 rintro e w2 ⟨rfl, hb⟩
 have hr2 := Blk.kept HR.out hb
 have c1 := hr2.cell 1
 have f1 := hr2.frozen 1
 simp at c1
 have hg1 : w2.grownBy (w2.setCell ⟨R, 1, none⟩ (.int .i64 1)) (some R) := gr_setC (World.grownBy.refl _ _) 1 _
 have HR3 : Hid (Rd (w2.setCell ⟨R, 1, none⟩ (.int .i64 1)) R v 1 en) := Lib.hid (by unfold Rd; simpa using Blk.set_ hr2 1 (.int .i64 1))
 have HV3 := Lib.hid ((HV.out.kept hb).grown hr2 (by decide) hg1)
 have HB3 := Lib.hid (gr_trans (below_gr (row := some R) hb) hg1)
 have HT3 := Lib.hid ((HT.out.kept hb).grown hr2 (by simp) hg1)
 clear hb hr2 hg1 PX HR HV
 have PA3 := Lib.hid (PA.out _ HR3.out HV3.out HT3.out)
 go_wp2_with fail
 generalize w2.setCell ⟨R, 1, none⟩ (.int .i64 1) = w3 at *
 with_reducible refine PA3.out.mono ?_
 rintro e w4 ⟨g, rfl, hgw, hrow, hr4, hg4⟩
 have k0 : w4.cell? ⟨g, 0, none⟩ = some (.int .i64 x0) := hrow.cell (by decide)
 have k1 : w4.cell? ⟨g, 1, none⟩ = some (.int .i64 x1) := hrow.cell (by decide)
 have k2 : w4.cell? ⟨g, 2, none⟩ = some (.int .i64 x2) := hrow.cell (by decide)
 have k3 : w4.cell? ⟨g, 3, none⟩ = some (.int .i64 x3) := hrow.cell (by decide)
 have k4 : w4.cell? ⟨g, 4, none⟩ = some (.int .i64 x4) := hrow.cell (by decide)
 have HROW := Lib.hid hrow
 have HR4 := Lib.hid hr4
 have HB4 := Lib.hid (gr_trans HB3.out hg4)
 have HGW : Hid (w.heap.size ≤ g) := Lib.hid (Nat.le_trans HB3.out.size hgw)
 clear hr4 hg4 hrow hgw
 go_wp2_with fail
 go_quiet (fail)
 go_wp2_with fail
 go_ret
 exact ⟨rfl, Blk.drewN HR4.out _, gr_drewN HB4.out _⟩
set_option maxRecDepth 100000 in
set_option maxHeartbeats 4000000 in
theorem cmd_quantile (w : World) (R : Nat) (v : Value) (ws : List (List UInt8)) (en : Int) (x0 x1 : Int) (hr : Rd w R v 0 en) (hv : WdAt w v ws) (h0 : ws[0]? = some [113, 117, 97, 110, 116, 105, 108, 101]) (hl : ws.length ≤ 65536) (h1 : ws[1]? = some (Lib.itoa x0)) (h2 : ws[2]? = some (Lib.itoa x1)) (b0 : In64 x0) (b1 : In64 x1) (ht : Tab w) :
  Calls Tryz.prog 44 #[.pointer (some ⟨R, 0, none⟩)] w fun e w' => (∃ g, e = .returned (.iface 123 (.agg #[.string (sB [113, 117, 97, 110, 116, 105, 108, 101]), .int .i64 x0, .slice (some ⟨g, 1, none⟩) 1 1])) ∧ w.heap.size ≤ g ∧ w'.rowIs g 2 2 (fun j => .int .i64 (cellD [x0, x1] j))) ∧ Rd w' R v 3 en ∧ w.grownBy w' (some R) := by
 have PX := Lib.hid (rdnext w R v ws 0 en _ hr hv h0 hl)
 have HR := Lib.hid hr
 have HV := Lib.hid hv
 have HL := Lib.hid hl
 have HT := Lib.hid ht
 have PA := Lib.hid (fun w hr hv ht => rdnums w R v ws 1 2 2 rfl en [x0, x1] hr hv rfl (by decide) (fun j x hj => by
  match j with
  | 0 => simp at hj; subst hj; exact h1
  | 1 => simp at hj; subst hj; exact h2
  | j + 2 => simp at hj) (fun x hx => by
  simp at hx
  rcases hx with rfl | rfl
  ·exact ⟨b0.1, b0.2⟩
  ·exact ⟨b1.1, b1.2⟩
  ) hl ht)
 clear hr hv h0 hl ht h1 h2
 have hvl := sB_list [113, 117, 97, 110, 116, 105, 108, 101]
 obtain ⟨S, hS⟩ : ∃ S, S = sB [113, 117, 97, 110, 116, 105, 108, 101] := ⟨_, rfl⟩
 rw [← hS] at PX hvl ⊢
 clear hS
 go_enter Tryz.func44, Tryz.ntmps44
 go_wp2_with fail
 with_reducible refine PX.out.mono ?_
 rintro e w2 ⟨rfl, hb⟩
 have hr2 := Blk.kept HR.out hb
 have c1 := hr2.cell 1
 have f1 := hr2.frozen 1
 simp at c1
 have hg1 : w2.grownBy (w2.setCell ⟨R, 1, none⟩ (.int .i64 1)) (some R) := gr_setC (World.grownBy.refl _ _) 1 _
 have HR3 : Hid (Rd (w2.setCell ⟨R, 1, none⟩ (.int .i64 1)) R v 1 en) := Lib.hid (by unfold Rd; simpa using Blk.set_ hr2 1 (.int .i64 1))
 have HV3 := Lib.hid ((HV.out.kept hb).grown hr2 (by decide) hg1)
 have HB3 := Lib.hid (gr_trans (below_gr (row := some R) hb) hg1)
 have HT3 := Lib.hid ((HT.out.kept hb).grown hr2 (by simp) hg1)
 clear hb hr2 hg1 PX HR HV
 have PA3 := Lib.hid (PA.out _ HR3.out HV3.out HT3.out)
 go_wp2_with fail
 generalize w2.setCell ⟨R, 1, none⟩ (.int .i64 1) = w3 at *
 with_reducible refine PA3.out.mono ?_
 rintro e w4 ⟨g, rfl, hgw, hrow, hr4, hg4⟩
 have k0 : w4.cell? ⟨g, 0, none⟩ = some (.int .i64 x0) := hrow.cell (by decide)
 have k1 : w4.cell? ⟨g, 1, none⟩ = some (.int .i64 x1) := hrow.cell (by decide)
 have HROW := Lib.hid hrow
 have HR4 := Lib.hid hr4
 have HB4 := Lib.hid (gr_trans HB3.out hg4)
 have HGW : Hid (w.heap.size ≤ g) := Lib.hid (Nat.le_trans HB3.out.size hgw)
 clear hr4 hg4 hrow hgw
 go_wp2_with fail
 go_quiet (fail)
 go_wp2_with fail
 go_ret
 exact ⟨⟨g, rfl, HGW.out, HROW.out⟩, Blk.drewN HR4.out _, gr_drewN HB4.out _⟩
set_option maxRecDepth 100000 in
set_option maxHeartbeats 4000000 in
theorem cmd_range (w : World) (R : Nat) (v : Value) (ws : List (List UInt8)) (en : Int) (x0 x1 x2 : Int) (hr : Rd w R v 0 en) (hv : WdAt w v ws) (h0 : ws[0]? = some [114, 97, 110, 103, 101]) (hl : ws.length ≤ 65536) (h1 : ws[1]? = some (Lib.itoa x0)) (h2 : ws[2]? = some (Lib.itoa x1)) (h3 : ws[3]? = some (Lib.itoa x2)) (b0 : In64 x0) (b1 : In64 x1) (b2 : In64 x2) (ht : Tab w) :
  Calls Tryz.prog 44 #[.pointer (some ⟨R, 0, none⟩)] w fun e w' => (∃ g, e = .returned (.iface 123 (.agg #[.string (sB [114, 97, 110, 103, 101]), .int .i64 x0, .slice (some ⟨g, 1, none⟩) 2 2])) ∧ w.heap.size ≤ g ∧ w'.rowIs g 2 3 (fun j => .int .i64 (cellD [x0, x1, x2] j))) ∧ Rd w' R v 4 en ∧ w.grownBy w' (some R) := by
 have PX := Lib.hid (rdnext w R v ws 0 en _ hr hv h0 hl)
 have HR := Lib.hid hr
 have HV := Lib.hid hv
 have HL := Lib.hid hl
 have HT := Lib.hid ht
 have PA := Lib.hid (fun w hr hv ht => rdnums w R v ws 1 3 3 rfl en [x0, x1, x2] hr hv rfl (by decide) (fun j x hj => by
  match j with
  | 0 => simp at hj; subst hj; exact h1
  | 1 => simp at hj; subst hj; exact h2
  | 2 => simp at hj; subst hj; exact h3
  | j + 3 => simp at hj) (fun x hx => by
  simp at hx
  rcases hx with rfl | rfl | rfl
  ·exact ⟨b0.1, b0.2⟩
  ·exact ⟨b1.1, b1.2⟩
  ·exact ⟨b2.1, b2.2⟩
  ) hl ht)
 clear hr hv h0 hl ht h1 h2 h3
 have hvl := sB_list [114, 97, 110, 103, 101]
 obtain ⟨S, hS⟩ : ∃ S, S = sB [114, 97, 110, 103, 101] := ⟨_, rfl⟩
 rw [← hS] at PX hvl ⊢
 clear hS
 go_enter Tryz.func44, Tryz.ntmps44
 go_wp2_with fail
 with_reducible refine PX.out.mono ?_
 rintro e w2 ⟨rfl, hb⟩
 have hr2 := Blk.kept HR.out hb
 have c1 := hr2.cell 1
 have f1 := hr2.frozen 1
 simp at c1
 have hg1 : w2.grownBy (w2.setCell ⟨R, 1, none⟩ (.int .i64 1)) (some R) := gr_setC (World.grownBy.refl _ _) 1 _
 have HR3 : Hid (Rd (w2.setCell ⟨R, 1, none⟩ (.int .i64 1)) R v 1 en) := Lib.hid (by unfold Rd; simpa using Blk.set_ hr2 1 (.int .i64 1))
 have HV3 := Lib.hid ((HV.out.kept hb).grown hr2 (by decide) hg1)
 have HB3 := Lib.hid (gr_trans (below_gr (row := some R) hb) hg1)
 have HT3 := Lib.hid ((HT.out.kept hb).grown hr2 (by simp) hg1)
 clear hb hr2 hg1 PX HR HV
 have PA3 := Lib.hid (PA.out _ HR3.out HV3.out HT3.out)
 go_wp2_with fail
 generalize w2.setCell ⟨R, 1, none⟩ (.int .i64 1) = w3 at *
 with_reducible refine PA3.out.mono ?_
 rintro e w4 ⟨g, rfl, hgw, hrow, hr4, hg4⟩
 have k0 : w4.cell? ⟨g, 0, none⟩ = some (.int .i64 x0) := hrow.cell (by decide)
 have k1 : w4.cell? ⟨g, 1, none⟩ = some (.int .i64 x1) := hrow.cell (by decide)
 have k2 : w4.cell? ⟨g, 2, none⟩ = some (.int .i64 x2) := hrow.cell (by decide)
 have HROW := Lib.hid hrow
 have HR4 := Lib.hid hr4
 have HB4 := Lib.hid (gr_trans HB3.out hg4)
 have HGW : Hid (w.heap.size ≤ g) := Lib.hid (Nat.le_trans HB3.out.size hgw)
 clear hr4 hg4 hrow hgw
 go_wp2_with fail
 go_quiet (fail)
 go_wp2_with fail
 go_ret
 exact ⟨⟨g, rfl, HGW.out, HROW.out⟩, Blk.drewN HR4.out _, gr_drewN HB4.out _⟩
set_option maxRecDepth 100000 in
set_option maxHeartbeats 4000000 in
theorem cmd_heavy (w : World) (R : Nat) (v : Value) (ws : List (List UInt8)) (en : Int) (x0 x1 x2 : Int) (hr : Rd w R v 0 en) (hv : WdAt w v ws) (h0 : ws[0]? = some [104, 101, 97, 118, 121]) (hl : ws.length ≤ 65536) (h1 : ws[1]? = some (Lib.itoa x0)) (h2 : ws[2]? = some (Lib.itoa x1)) (h3 : ws[3]? = some (Lib.itoa x2)) (b0 : In64 x0) (b1 : In64 x1) (b2 : In64 x2) (ht : Tab w) :
  Calls Tryz.prog 44 #[.pointer (some ⟨R, 0, none⟩)] w fun e w' => (∃ g, e = .returned (.iface 123 (.agg #[.string (sB [104, 101, 97, 118, 121]), .int .i64 x0, .slice (some ⟨g, 1, none⟩) 2 2])) ∧ w.heap.size ≤ g ∧ w'.rowIs g 2 3 (fun j => .int .i64 (cellD [x0, x1, x2] j))) ∧ Rd w' R v 4 en ∧ w.grownBy w' (some R) := by
 have PX := Lib.hid (rdnext w R v ws 0 en _ hr hv h0 hl)
 have HR := Lib.hid hr
 have HV := Lib.hid hv
 have HL := Lib.hid hl
 have HT := Lib.hid ht
 have PA := Lib.hid (fun w hr hv ht => rdnums w R v ws 1 3 3 rfl en [x0, x1, x2] hr hv rfl (by decide) (fun j x hj => by
  match j with
  | 0 => simp at hj; subst hj; exact h1
  | 1 => simp at hj; subst hj; exact h2
  | 2 => simp at hj; subst hj; exact h3
  | j + 3 => simp at hj) (fun x hx => by
  simp at hx
  rcases hx with rfl | rfl | rfl
  ·exact ⟨b0.1, b0.2⟩
  ·exact ⟨b1.1, b1.2⟩
  ·exact ⟨b2.1, b2.2⟩
  ) hl ht)
 clear hr hv h0 hl ht h1 h2 h3
 have hvl := sB_list [104, 101, 97, 118, 121]
 obtain ⟨S, hS⟩ : ∃ S, S = sB [104, 101, 97, 118, 121] := ⟨_, rfl⟩
 rw [← hS] at PX hvl ⊢
 clear hS
 go_enter Tryz.func44, Tryz.ntmps44
 go_wp2_with fail
 with_reducible refine PX.out.mono ?_
 rintro e w2 ⟨rfl, hb⟩
 have hr2 := Blk.kept HR.out hb
 have c1 := hr2.cell 1
 have f1 := hr2.frozen 1
 simp at c1
 have hg1 : w2.grownBy (w2.setCell ⟨R, 1, none⟩ (.int .i64 1)) (some R) := gr_setC (World.grownBy.refl _ _) 1 _
 have HR3 : Hid (Rd (w2.setCell ⟨R, 1, none⟩ (.int .i64 1)) R v 1 en) := Lib.hid (by unfold Rd; simpa using Blk.set_ hr2 1 (.int .i64 1))
 have HV3 := Lib.hid ((HV.out.kept hb).grown hr2 (by decide) hg1)
 have HB3 := Lib.hid (gr_trans (below_gr (row := some R) hb) hg1)
 have HT3 := Lib.hid ((HT.out.kept hb).grown hr2 (by simp) hg1)
 clear hb hr2 hg1 PX HR HV
 have PA3 := Lib.hid (PA.out _ HR3.out HV3.out HT3.out)
 go_wp2_with fail
 generalize w2.setCell ⟨R, 1, none⟩ (.int .i64 1) = w3 at *
 with_reducible refine PA3.out.mono ?_
 rintro e w4 ⟨g, rfl, hgw, hrow, hr4, hg4⟩
 have k0 : w4.cell? ⟨g, 0, none⟩ = some (.int .i64 x0) := hrow.cell (by decide)
 have k1 : w4.cell? ⟨g, 1, none⟩ = some (.int .i64 x1) := hrow.cell (by decide)
 have k2 : w4.cell? ⟨g, 2, none⟩ = some (.int .i64 x2) := hrow.cell (by decide)
 have HROW := Lib.hid hrow
 have HR4 := Lib.hid hr4
 have HB4 := Lib.hid (gr_trans HB3.out hg4)
 have HGW : Hid (w.heap.size ≤ g) := Lib.hid (Nat.le_trans HB3.out.size hgw)
 clear hr4 hg4 hrow hgw
 go_wp2_with fail
 go_quiet (fail)
 go_wp2_with fail
 go_ret
 exact ⟨⟨g, rfl, HGW.out, HROW.out⟩, Blk.drewN HR4.out _, gr_drewN HB4.out _⟩
set_option maxRecDepth 100000 in
set_option maxHeartbeats 4000000 in
theorem cmd_inner (w : World) (R : Nat) (v : Value) (ws : List (List UInt8)) (en : Int) (x0 x1 : Int) (hr : Rd w R v 0 en) (hv : WdAt w v ws) (h0 : ws[0]? = some [105, 110, 110, 101, 114]) (hl : ws.length ≤ 65536) (h1 : ws[1]? = some (Lib.itoa x0)) (h2 : ws[2]? = some (Lib.itoa x1)) (b0 : In64 x0) (b1 : In64 x1) (ht : Tab w) :
  Calls Tryz.prog 44 #[.pointer (some ⟨R, 0, none⟩)] w fun e w' => e = .returned (.iface 126 (.agg #[.string (sB [105, 110, 110, 101, 114]), .int .i64 x0, .int .i64 x1])) ∧ Rd w' R v 3 en ∧ w.grownBy w' (some R) := by
 have PX := Lib.hid (rdnext w R v ws 0 en _ hr hv h0 hl)
 have HR := Lib.hid hr
 have HV := Lib.hid hv
 have HL := Lib.hid hl
 have HT := Lib.hid ht
 have PA := Lib.hid (fun w hr hv ht => rdnums w R v ws 1 2 2 rfl en [x0, x1] hr hv rfl (by decide) (fun j x hj => by
  match j with
  | 0 => simp at hj; subst hj; exact h1
  | 1 => simp at hj; subst hj; exact h2
  | j + 2 => simp at hj) (fun x hx => by
  simp at hx
  rcases hx with rfl | rfl
  ·exact ⟨b0.1, b0.2⟩
  ·exact ⟨b1.1, b1.2⟩
  ) hl ht)
 clear hr hv h0 hl ht h1 h2
 have hvl := sB_list [105, 110, 110, 101, 114]
 obtain ⟨S, hS⟩ : ∃ S, S = sB [105, 110, 110, 101, 114] := ⟨_, rfl⟩
 rw [← hS] at PX hvl ⊢
 clear hS
 go_enter Tryz.func44, Tryz.ntmps44
 go_wp2_with fail
 with_reducible refine PX.out.mono ?_
 rintro e w2 ⟨rfl, hb⟩
 have hr2 := Blk.kept HR.out hb
 have c1 := hr2.cell 1
 have f1 := hr2.frozen 1
 simp at c1
 have hg1 : w2.grownBy (w2.setCell ⟨R, 1, none⟩ (.int .i64 1)) (some R) := gr_setC (World.grownBy.refl _ _) 1 _
 have HR3 : Hid (Rd (w2.setCell ⟨R, 1, none⟩ (.int .i64 1)) R v 1 en) := Lib.hid (by unfold Rd; simpa using Blk.set_ hr2 1 (.int .i64 1))
 have HV3 := Lib.hid ((HV.out.kept hb).grown hr2 (by decide) hg1)
 have HB3 := Lib.hid (gr_trans (below_gr (row := some R) hb) hg1)
 have HT3 := Lib.hid ((HT.out.kept hb).grown hr2 (by simp) hg1)
 clear hb hr2 hg1 PX HR HV
 have PA3 := Lib.hid (PA.out _ HR3.out HV3.out HT3.out)
 go_wp2_with fail
 generalize w2.setCell ⟨R, 1, none⟩ (.int .i64 1) = w3 at *
 with_reducible refine PA3.out.mono ?_
 rintro e w4 ⟨g, rfl, hgw, hrow, hr4, hg4⟩
 have k0 : w4.cell? ⟨g, 0, none⟩ = some (.int .i64 x0) := hrow.cell (by decide)
 have k1 : w4.cell? ⟨g, 1, none⟩ = some (.int .i64 x1) := hrow.cell (by decide)
 have HROW := Lib.hid hrow
 have HR4 := Lib.hid hr4
 have HB4 := Lib.hid (gr_trans HB3.out hg4)
 have HGW : Hid (w.heap.size ≤ g) := Lib.hid (Nat.le_trans HB3.out.size hgw)
 clear hr4 hg4 hrow hgw
 go_wp2_with fail
 go_quiet (fail)
 go_wp2_with fail
 go_ret
 exact ⟨rfl, Blk.drewN HR4.out _, gr_drewN HB4.out _⟩
end Go.Proofs.YtfeficdndjiijaaGreatDoor


namespace Go.Proofs.YtfeficdndjiijaaGreatDoor
open Go.RowKit
set_option linter.unusedVariables false
set_option linter.unusedSimpArgs false

def Stays (PC : Value → World → Prop) : Prop := ∀ c w w', PC c w → Below w.heap.size w w' → PC c w'
set_option maxRecDepth 100000 in
set_option maxHeartbeats 4000000 in
theorem parse_of (PC : Value → World → Prop) (hPC : Stays PC) (l : List UInt8) (ws : List (List UInt8)) (hl : l = joinW ws) (hg : ∀ a ∈ ws, GoodW a) (hasc : Asc l) (hn : l.length ≤ 65536) (hwl : ws.length ≤ 65536) (hws : ws ≠ []) (w : World) (ht : Tab w)
  (hcmd : ∀ (w1 : World) (R : Nat) (v : Value) (en : Int), w.heap.size ≤ w1.heap.size → Rd w1 R v 0 en → WdAt w1 v ws → Tab w1 →
   Calls Tryz.prog 44 #[.pointer (some ⟨R, 0, none⟩)] w1 fun e w' => ∃ c, e = .returned c ∧ PC c w' ∧ Rd w' R v (ws.length : Int) en ∧ w1.grownBy w' (some R)) :
  Calls Tryz.prog 21 #[.string (sB l)] w fun e w' => ∃ c, e = .returned (.tuple #[c, .int .i64 0, .int .i64 0]) ∧ PC c w' ∧ Below w.heap.size w w' := by
 have PT := Lib.hid (fun w => torn_any (sB l) (fun i h => hasc.str i h) w)
 have PW := Lib.hid (fun w => words_any l ws hl hg hn w)
 have HT := Lib.hid ht
 have HC := Lib.hid hcmd
 have HPC := Lib.hid hPC
 have HWS := Lib.hid hws
 have hsz : (sB l).size = l.length := sB_size l
 obtain ⟨n, hnn⟩ : ∃ n, n = l.length := ⟨_, rfl⟩
 rw [← hnn] at hsz hn
 have hn' : ¬ ((n : Int) > 65536) := by omega
 clear hl hg hasc ht hcmd hPC hws hnn
 generalize sB l = S at *
 go_enter Tryz.func21, Tryz.ntmps21
 go_wp2_with fail
 with_reducible refine (PT.out _).mono ?_
 rintro e w2 ⟨rfl, hb⟩
 have HB2 := Lib.hid hb
 have HT2 := Lib.hid (HT.out.kept hb)
 clear hb
 go_wp2_with fail
 with_reducible refine (PW.out _).mono ?_
 rintro e w3 ⟨v, rfl, hv, hb⟩
 have HB3 := Lib.hid (btr HB2.out hb)
 have HT3 := Lib.hid (HT2.out.kept hb)
 have hat := hv.at_ HWS.out
 obtain ⟨g, cap, cur, rfl, hgb, hgc⟩ := hat
 have HV3 : Hid (WdAt w3 (.slice (some ⟨g, 0, none⟩) ws.length cap) ws) := Lib.hid ⟨g, cap, cur, rfl, hgb, hgc⟩
 obtain ⟨m, hm⟩ : ∃ m, m = ws.length := ⟨_, rfl⟩
 have HM := Lib.hid hm
 have hm0 : 0 < m := by rw [hm]; exact List.length_pos_iff.2 HWS.out
 rw [← hm] at HV3 ⊢
 rw [← hm] at hwl
 rw [← hm] at HC
 clear hb hv hgb hgc hm
 obtain ⟨w4, hw4⟩ : ∃ w4, w4 = w3.alloc (.cells #[.slice (some ⟨g, 0, none⟩) m cap, .int .i64 0, .int .i64 (-1), .int .i64 (n : Int)] 107) := ⟨_, rfl⟩
 have hb4 : Below w3.heap.size w3 w4 := by rw [hw4]; exact (Below.refl _ w3).alloc (Nat.le_refl _) _
 have hr4 : Rd w4 w3.heap.size (.slice (some ⟨g, 0, none⟩) m cap) 0 (n : Int) := by rw [hw4]; exact Blk.new w3 _ _
 have HV4 := Lib.hid (HV3.out.kept hb4)
 have HT4 := Lib.hid (HT3.out.kept hb4)
 have HB4 := Lib.hid (btr HB3.out hb4)
 have HR4 := Lib.hid hr4
 have PC4 := Lib.hid (HC.out w4 w3.heap.size _ (n : Int) HB4.out.size HR4.out HV4.out HT4.out)
 have hR := HB3.out.size
 have c0 := hr4.cell 0
 simp at c0
 have hm1 : ¬ (m = 0) := by omega
 have hm2 : ¬ ((m : Int) = 0) := by omega
 clear hb4 hr4
 go_wp2_with fail
 rw [← hw4]
 clear hw4
 generalize w3.heap.size = R at *
 go_wp2_with fail
 with_reducible refine PC4.out.mono ?_
 rintro e w5 ⟨c, rfl, hpc, hr5, hg5⟩
 have HPC5 := Lib.hid hpc
 have HB5 : Hid (Below w.heap.size w w5) := Lib.hid (HB4.out.grown hg5 HB4.out.size (fun k e => by have := Option.some.inj e; omega))
 have c0 := hr5.cell 0
 have c1 := hr5.cell 1
 have c2 := hr5.cell 2
 simp at c0 c1 c2
 have hbad : ((-1 : Int) < 0) := by decide
 have hbad2 : ¬ ((0 : Int) ≤ -1) := by decide
 have hlt : ¬ ((m : Int) < (m : Int)) := by omega
 have HR5 := Lib.hid hr5
 clear hpc hr5 hg5 PC4
 go_wp2_with fail
 go_quiet (fail)
 go_wp2_with fail
 go_ret3
 exact ⟨c, rfl, HPC.out _ _ _ HPC5.out (below_drewN (Below.refl _ _) _), btr HB5.out (below_drewN (Below.refl _ _) _)⟩
end Go.Proofs.YtfeficdndjiijaaGreatDoor


namespace Go.Proofs.YtfeficdndjiijaaGreatDoor
open Go.RowKit Go.Maps
set_option linter.unusedVariables false
set_option linter.unusedSimpArgs false

theorem blkRange {w : World} {g : Nat} {t : TypeId} {cs : Array Value} (h : Blk w g t cs) (o : Nat) (xs : List Value) (hx : ∀ (j : Nat) (u : Value), xs[j]? = some u → cs[o + j]? = some u) : w.rangeAt g o xs := fun j u hu => by
  rw [h.cell (o + j)]
  exact hx j u hu
theorem wpStill_load_blk {P : Program} {ops : Array Oper} {rest : List Oper} {op : Oper} {a : Act} {w : World} {Q : Act → Prop} (hw : Region.wanted op (yielded ops a.tmps) = true) (ty : TypeId) (x : Operand) (ho : op.op = .load ty x)
    (b : Nat) (hx : a.eval x = .pointer (some ⟨b, 0, none⟩)) (cs : Array Value) (t : TypeId) (d : TypeDesc) (hc : Blk w b t cs)
    (hu : P.underlying ty = some d) (hd : d.isRow = true) (hi : (P.info? ty).map (·.size) = some cs.size)
    (h : wpStill P ops w Q rest (a.put op.dst (.agg cs))) : wpStill P ops w Q (op :: rest) a :=
  wpStill_load_mid hw ty x ho b 0 hx cs.toList d (blkRange hc 0 cs.toList (fun j u hu => by rw [Nat.zero_add]; simpa using hu)) hu hd (by simpa using hi) (by simpa using h)
def thPtr (p : Option Nat) : Value := .pointer (p.map fun b => ⟨b, 0, none⟩)
def thVal (p q : Option Nat) : Value := .agg #[thPtr p, thPtr q]
def thNum (p : Option Nat) : DataW Unit := match p with
  | none => .nil
  | some b => .lit (.int .u64 (b : Int))
def thD (p q : Option Nat) : DataW Unit := .agg [thNum p, thNum q]
theorem thPtr_inj {p q : Option Nat} (h : thPtr p = thPtr q) : p = q := by
  unfold thPtr at h
  cases p <;> cases q <;> simp_all
theorem thVal_inj {p q p' q' : Option Nat} (h : thVal p q = thVal p' q') : p = p' ∧ q = q' := by
  unfold thVal at h
  simp at h
  exact ⟨thPtr_inj h.1, thPtr_inj h.2⟩
theorem thNum_inj {p q : Option Nat} (h : thNum p = thNum q) : p = q := by
  unfold thNum at h
  cases p <;> cases q <;> simp_all
  omega
theorem thD_inj {p q p' q' : Option Nat} (h : thD p q = thD p' q') : p = p' ∧ q = q' := by
  unfold thD at h
  simp at h
  exact ⟨thNum_inj h.1, thNum_inj h.2⟩
open Classical in
noncomputable def thElem (v : Value) : Option (DataW Unit × List MemPlace) :=
  if h : ∃ pq : Option Nat × Option Nat, v = thVal pq.1 pq.2 then some (thD h.choose.1 h.choose.2, []) else none
theorem thElem_mk (p q : Option Nat) : thElem (thVal p q) = some (thD p q, []) := by
  have h : ∃ pq : Option Nat × Option Nat, thVal p q = thVal pq.1 pq.2 := ⟨(p, q), rfl⟩
  unfold thElem
  rw [dif_pos h]
  have := thVal_inj h.choose_spec
  rw [← this.1, ← this.2]
theorem thElem_inv {v : Value} {p q : Option Nat} {ps : List MemPlace} (h : thElem v = some (thD p q, ps)) : v = thVal p q := by
  unfold thElem at h
  split at h
  · rename_i hx
    simp only [Option.some.injEq, Prod.mk.injEq] at h
    have := thD_inj h.1
    rw [hx.choose_spec, this.1, this.2]
  · cases h
theorem keyInt : Keyed Tryz.prog 3 := int_keyed Tryz.underlying3
theorem keyOfInt (h : Int) (h0 : In64 h) : keyOf Tryz.prog 3 (.int .i64 h) = some (.int .i64 h) := keyOf_int_mk Tryz.underlying3 (by
  simp [Lit.wf, IntKind.min, IntKind.max, IntKind.signed, IntKind.bits]
  unfold In64 at h0
  omega)
def AggIs (w : World) (A b n : Nat) (T : Nat → Option Nat × Option Nat) : Prop :=
  Blk w A 77 #[.map (some b), .int .i64 (n : Int)] ∧ ∃ D : DataW Unit, w.ownsMap Tryz.prog 3 thElem b n D ∧ Maps.size D = n ∧
    ∀ h : Int, In64 h → has D (.int .i64 h) = decide (1 ≤ h ∧ h ≤ (n : Int)) ∧ (1 ≤ h ∧ h ≤ (n : Int) → D.atKey (.int .i64 h) (thD none none) = thD (T h.toNat).1 (T h.toNat).2)
theorem AggIs.kept {w w' : World} {A b n : Nat} {T : Nat → Option Nat × Option Nat} (h : AggIs w A b n T) (hb : Below w.heap.size w w') : AggIs w' A b n T := by
  obtain ⟨h1, D, h2, h3⟩ := h
  exact ⟨h1.kept hb, D, h2.kept (row := none) ⟨hb.os, hb.tape, hb.output, hb.size, fun k hk _ => hb.block k hk⟩ (by simp), h3⟩
theorem AggIs.grown {w w' : World} {A b n : Nat} {T : Nat → Option Nat × Option Nat} {row : Option Nat} (h : AggIs w A b n T) (hb : w.grownBy w' row) (hA : some A ≠ row) (hB : some b ≠ row) : AggIs w' A b n T := by
  obtain ⟨h1, D, h2, h3⟩ := h
  exact ⟨h1.grown hb hA, D, h2.kept hb hB, h3⟩
theorem AggIs.lt {w : World} {A b n : Nat} {T : Nat → Option Nat × Option Nat} (h : AggIs w A b n T) : A < w.heap.size ∧ b < w.heap.size := by
  obtain ⟨h1, D, h2, h3⟩ := h
  exact ⟨h1.lt, h2.lt⟩
theorem AggIs.ne {w : World} {A b n : Nat} {T : Nat → Option Nat × Option Nat} (h : AggIs w A b n T) : A ≠ b := by
  obtain ⟨h1, D, ⟨es, clock, h2, -⟩, h3⟩ := h
  intro e
  subst e
  rw [show w.heap[A]? = _ from h1] at h2
  cases h2
def Chg (l : List Nat) (w w' : World) : Prop := w'.os = w.os ∧ w'.tape = w.tape ∧ w'.output = w.output ∧ w.heap.size ≤ w'.heap.size ∧ ∀ k, k < w.heap.size → k ∉ l → w'.heap[k]? = w.heap[k]?
theorem Chg.below {l : List Nat} {w w' : World} (h : Below w.heap.size w w') : Chg l w w' := ⟨h.os, h.tape, h.output, h.size, fun k hk _ => h.block k hk⟩
theorem Chg.gr {w w' : World} {g : Nat} (h : w.grownBy w' (some g)) : Chg [g] w w' := ⟨h.os, h.tape, h.output, h.size, fun k hk hn => h.block k hk (fun e => hn (by rw [Option.some.inj e]; simp))⟩
theorem Chg.mono {l l' : List Nat} {w w' : World} (h : Chg l w w') (hl : ∀ k ∈ l, k ∈ l' ∨ w.heap.size ≤ k) : Chg l' w w' := ⟨h.1, h.2.1, h.2.2.1, h.2.2.2.1, fun k hk hn => h.2.2.2.2 k hk (fun hm => by rcases hl k hm with h1 | h1; exact hn h1; omega)⟩
theorem Chg.trans {l : List Nat} {w w1 w2 : World} (h : Chg l w w1) (k : Chg l w1 w2) : Chg l w w2 :=
  ⟨k.1.trans h.1, k.2.1.trans h.2.1, k.2.2.1.trans h.2.2.1, Nat.le_trans h.2.2.2.1 k.2.2.2.1, fun x hx hn => (k.2.2.2.2 x (Nat.lt_of_lt_of_le hx h.2.2.2.1) hn).trans (h.2.2.2.2 x hx hn)⟩
set_option maxRecDepth 100000 in
set_option maxHeartbeats 2000000 in
theorem aggnew (w : World) : Calls Tryz.prog 13 #[] w fun e w' => ∃ A b, e = .returned (.pointer (some ⟨A, 0, none⟩)) ∧ w.heap.size ≤ A ∧ w.heap.size ≤ b ∧ AggIs w' A b 0 (fun _ => (none, none)) ∧ Below w.heap.size w w' := by
  have hmm := run_makeMap (P := Tryz.prog) 75
  go_enter Tryz.func13, Tryz.ntmps13
  go_wp2_with fail
  go_ret
  refine ⟨w.heap.size + 1, w.heap.size, rfl, by omega, Nat.le_refl _, ⟨?_, .map [], (World.ownsMap_made w _ _ _).alloc _, rfl, fun h _ => ⟨?_, fun h1 => ?_⟩⟩, ((Below.refl _ w).alloc (Nat.le_refl _) _).alloc (by simp) _⟩
  · have := Blk.new (w.alloc (.map #[] 0)) 77 #[.map (some w.heap.size), .int .i64 0]
    simpa using this
  · have e : decide (1 ≤ h ∧ h ≤ ((0 : Nat) : Int)) = false := decide_eq_false (by omega)
    rw [e]
    simp [has]
  · omega
def upT (T : Nat → Option Nat × Option Nat) (n : Nat) (p q : Option Nat) : Nat → Option Nat × Option Nat := fun k => if k = n then (p, q) else T k
theorem keyLitInt (h : Int) (h0 : In64 h) : WideAt.IsKeyLit (.int .i64 h) := keyInt.key (keyOfInt h h0)
theorem AggIs.put {p q : Option Nat} {w' : World} {A b n : Nat} {T : Nat → Option Nat × Option Nat} {D : DataW Unit} (hn : n < 32) (hm : IsMap D) (hs : Maps.size D = n) (hsz : Maps.size (D.put (.int .i64 ((n : Int) + 1)) (thD p q)) = n + 1)
  (hD : ∀ h : Int, In64 h → has D (.int .i64 h) = decide (1 ≤ h ∧ h ≤ (n : Int)) ∧ (1 ≤ h ∧ h ≤ (n : Int) → D.atKey (.int .i64 h) (thD none none) = thD (T h.toNat).1 (T h.toNat).2))
  (hb : Blk w' A 77 #[.map (some b), .int .i64 ((n : Int) + 1)]) (ho : w'.ownsMap Tryz.prog 3 thElem b (n + 1) (D.put (.int .i64 ((n : Int) + 1)) (thD p q))) : AggIs w' A b (n + 1) (upT T (n + 1) p q) := by
 refine ⟨by simpa using hb, _, ho, hsz, fun h h0 => ?_⟩
 have hn1 : In64 ((n : Int) + 1) := by unfold In64; omega
 by_cases e : h = (n : Int) + 1
 ·subst e
  refine ⟨?_, fun _ => ?_⟩
  ·rw [has_put_same hm (keyLitInt _ hn1)]
   exact (decide_eq_true (by omega)).symm
  ·rw [atKey_put_same hm (keyLitInt _ hn1)]
   have e2 : ((n : Int) + 1).toNat = n + 1 := by omega
   rw [e2]
   simp [upT]
 ·have hne : (Lit.int .i64 h) ≠ .int .i64 ((n : Int) + 1) := by simpa using e
  rw [has_put_other hne, atKey_put_other hne]
  obtain ⟨h1, h2⟩ := hD h h0
  refine ⟨?_, fun h3 => ?_⟩
  ·rw [h1]
   have : (1 ≤ h ∧ h ≤ (n : Int)) ↔ (1 ≤ h ∧ h ≤ ((n + 1 : Nat) : Int)) := by omega
   simp only [this]
  ·rw [h2 (by omega)]
   have e2 : h.toNat ≠ n + 1 := by omega
   simp [upT, e2]
theorem zeroTh (w : World) : (zeroValue 84).run Tryz.prog w = .ok (thVal none none) w := by kernel_rfl
set_option maxRecDepth 100000 in
set_option maxHeartbeats 4000000 in
theorem aggmade (w : World) (A b n : Nat) (T : Nat → Option Nat × Option Nat) (p q : Option Nat) (h : AggIs w A b n T) (hn : n < 32) :
  Calls Tryz.prog 47 #[.pointer (some ⟨A, 0, none⟩), thVal p q, .int .i64 0] w fun e w' => e = .returned (.tuple #[.iface 135 (.agg #[.int .i64 ((n : Int) + 1)]), .int .i64 0]) ∧ AggIs w' A b (n + 1) (upT T (n + 1) p q) ∧ Chg [A, b] w w' := by
 obtain ⟨h1, D, h2, h3, h4⟩ := h
 have HD := Lib.hid h4
 have HS := Lib.hid h3
 have HM := Lib.hid h2.isMap
 have HTI := Lib.hid (h2.tidy keyInt)
 have HNE : Hid (A ≠ b) := Lib.hid (AggIs.ne ⟨h1, D, h2, h3, h4⟩)
 have HLT := Lib.hid (And.intro h1.lt h2.lt)
 unfold thVal
 obtain ⟨vp, hvp⟩ : ∃ vp, vp = thPtr p := ⟨_, rfl⟩
 obtain ⟨vq, hvq⟩ : ∃ vq, vq = thPtr q := ⟨_, rfl⟩
 rw [← hvp, ← hvq]
 have HV := Lib.hid (And.intro hvp hvq)
 have hb1 : Below w.heap.size w (w.alloc (.cells #[vp, vq] 84)) := (Below.refl _ w).alloc (Nat.le_refl _) _
 have HX1 := Lib.hid (Blk.new w 84 #[vp, vq])
 have ho := h2.kept (w' := w.alloc (.cells #[vp, vq] 84)) (row := none) (below_gr hb1) (by simp)
 have HO := Lib.hid ho
 have ha := h1.kept hb1
 have HA := Lib.hid ha
 have HB1 := Lib.hid hb1
 have c0 := ha.cell 0
 have c1 := ha.cell 1
 have f1 := ha.frozen 1
 simp at c0 c1
 have hn2 : ¬ ((32 : Int) ≤ (Maps.size D : Int)) := by omega
 clear h1 h2 h3 h4 hb1 ha ho hvp hvq
 go_enter Tryz.func47, Tryz.ntmps47
 go_wp2_with (at_len; refine wpList_len_own _ rfl _ 75 rfl 3 84 Tryz.underlying75 thElem b n D rfl HO.out ?_)
 have hgA : (w.alloc (.cells #[vp, vq] 84)).grownBy ((w.alloc (.cells #[vp, vq] 84)).setCell ⟨A, 1, none⟩ (.int .i64 ((n : Int) + 1))) (some A) := gr_setC (World.grownBy.refl _ _) 1 _
 have hA2 : Blk ((w.alloc (.cells #[vp, vq] 84)).setCell ⟨A, 1, none⟩ (.int .i64 ((n : Int) + 1))) A 77 #[.map (some b), .int .i64 ((n : Int) + 1)] := by simpa using Blk.set_ HA.out 1 (.int .i64 ((n : Int) + 1))
 have hO2 := HO.out.kept hgA (by simp; exact fun e => HNE.out e.symm)
 have hX2 := HX1.out.grown hgA (by have := HLT.out.1; simp; omega)
 have HC2 : Hid (Chg [A, b] w ((w.alloc (.cells #[vp, vq] 84)).setCell ⟨A, 1, none⟩ (.int .i64 ((n : Int) + 1)))) := Lib.hid ((Chg.below HB1.out).trans ((Chg.gr hgA).mono (fun k hk => .inl (by simp at hk; simp [hk]))))
 have HLX : Hid (w.heap.size < ((w.alloc (.cells #[vp, vq] 84)).setCell ⟨A, 1, none⟩ (.int .i64 ((n : Int) + 1))).heap.size) := Lib.hid hX2.lt
 generalize ((w.alloc (.cells #[vp, vq] 84)).setCell ⟨A, 1, none⟩ (.int .i64 ((n : Int) + 1))) = w2 at *
 clear c0 c1 f1 hgA
 refine wp_region_still_tail 9 (by kernel_rfl) (by kernel_rfl) ?_
 simp only [List.take_succ_cons, List.take_zero, List.drop_succ_cons, List.drop_zero]
 have hbd : Below w2.heap.size w2 { heap := w2.heap, tape := w2.tape, drawn := w2.drawn + 1, os := w2.os, output := w2.output } := below_drewN (Below.refl _ _) 1
 have ha3 := hA2.kept hbd
 have hx3 := hX2.kept hbd
 have hO3 := hO2.kept (below_gr (row := none) hbd) (by simp)
 have HC3 := Lib.hid (HC2.out.trans (Chg.below hbd))
 generalize ({ heap := w2.heap, tape := w2.tape, drawn := w2.drawn + 1, os := w2.os, output := w2.output } : World) = w3 at *
 have HA3 := Lib.hid ha3
 have HO3 := Lib.hid hO3
 have c0 := ha3.cell 0
 have c1 := ha3.cell 1
 simp at c0 c1
 clear hA2 hO2 hX2 hbd ha3 hO3
 have hIt : (Tryz.prog.info? 84).map (·.size) = some (#[vp, vq] : Array Value).size := by kernel_rfl
 repeat (first | refine wpStill_load_blk (by rfl) 84 _ rfl w.heap.size rfl #[vp, vq] _ _ hx3 Tryz.underlying84 rfl hIt ?_ | still_step)
 refine wpStill_nil ?_
 have hval : thElem (.agg #[vp, vq]) = some (thD p q, []) := by
  rw [HV.out.1, HV.out.2]; exact thElem_mk p q
 have hk64 : In64 ((n : Int) + 1) := by unfold In64; omega
 have hnm : n < maxLen := by unfold maxLen; omega
 go_frame
 go_wp2_with (at_mapUpdate; go_loud (refine wpList_mapUpdate_own _ rfl _ _ _ 75 rfl 3 84 keyInt Tryz.underlying75 thElem b n D rfl HO3.out hnm _ _ _ rfl rfl (keyOfInt _ hk64) (thD p q) [] hval ?_))
 intro w5 hown5 hgrow5
 have ha5 := HA3.out.grown hgrow5 (by simpa using HNE.out)
 have c1' := ha5.cell 1
 simp at c1'
 have HA5 := Lib.hid ha5
 have HO5 := Lib.hid hown5
 have HC5 := Lib.hid (HC3.out.trans ((Chg.gr hgrow5).mono (fun k hk => .inl (by simp at hk; simp [hk]))))
 clear c0 c1 ha5 hown5 hgrow5
 go_wp2_with fail
 go_ret2
 refine ⟨rfl, AggIs.put hn HM.out HS.out ?_ HD.out HA5.out HO5.out, HC5.out⟩
 rw [size_put HTI.out, (HD.out _ hk64).1, decide_eq_false (by omega), HS.out]
 rfl
end Go.Proofs.YtfeficdndjiijaaGreatDoor


namespace Go.Proofs.YtfeficdndjiijaaGreatDoor
open Go.RowKit
set_option linter.unusedVariables false
set_option linter.unusedSimpArgs false

theorem pcAt_of_own {w : World} {base g cap : Nat} {l : List (Nat × Nat)} (h : w.ownsRow base 155 2 (.slice (some ⟨g, 0, none⟩) l.length cap) l.length (pCells l)) : PcAt w g l := by
 rcases h.2 with ⟨e, h0⟩ | ⟨g', cap', cur, e, hb, hg, hnc, hcm, hsz, htake⟩
 ·cases e
 ·simp only [Value.slice.injEq, Option.some.injEq, Addr.mk.injEq] at e
  obtain ⟨⟨rfl, -⟩, -, rfl⟩ := e
  refine ⟨(show Blk w g 155 cur from hg).lt, fun o => (show Blk w g 155 cur from hg).frozen o, fun t p hp => ?_⟩
  refine blkRange (show Blk w g 155 cur from hg) _ _ (fun j u hu => ?_)
  have hj : j < 2 := by have := (List.getElem?_eq_some_iff.1 hu).1; simpa [pc2] using this
  have key : ∀ (l : List (Nat × Nat)) (t : Nat), l[t]? = some p → (pCells l)[t * 2 + j]? = some u := by
   intro l
   induction l with
   | nil => intro t ht; simp at ht
   | cons a r ih =>
    intro t ht
    cases t with
    | zero =>
     simp at ht
     subst ht
     show (pc2 a ++ pCells r)[0 * 2 + j]? = _
     rw [List.getElem?_append_left (by simp [pc2]; omega)]
     simpa using hu
    | succ t =>
     simp only [List.getElem?_cons_succ] at ht
     show (pc2 a ++ pCells r)[(t + 1) * 2 + j]? = _
     rw [List.getElem?_append_right (by simp [pc2]; omega), show (t + 1) * 2 + j - (pc2 a).length = t * 2 + j by simp [pc2]; omega]
     exact ih t ht
  have h1 := key l t hp
  have hlt : t * 2 + j < l.length * 2 := by
   have := (List.getElem?_eq_some_iff.1 hp).1
   omega
  rw [← htake, List.getElem?_take, if_pos hlt] at h1
  simpa using h1
theorem pcAt_cells {w : World} {g : Nat} {l : List (Nat × Nat)} (h : PcAt w g l) : ∀ j u, (pCells l)[j]? = some u → w.cell? ((Addr.mk g 0 none).add j) = some u := by
  have key : ∀ (l' : List (Nat × Nat)) (o : Nat), (∀ t p, l'[t]? = some p → w.rangeAt g ((o + t) * 2) (pc2 p)) → ∀ j u, (pCells l')[j]? = some u → w.cell? ⟨g, o * 2 + j, none⟩ = some u := by
    intro l'
    induction l' with
    | nil => intro o _ j u hu; simp [pCells] at hu
    | cons a r ih =>
      intro o ha j u hu
      rw [show pCells (a :: r) = pc2 a ++ pCells r from rfl] at hu
      by_cases hj : j < 2
      · rw [List.getElem?_append_left (by simpa [pc2] using hj)] at hu
        exact ha 0 a rfl j u hu
      · rw [List.getElem?_append_right (by simp [pc2]; omega)] at hu
        have := ih (o + 1) (fun t p ht => by have := ha (t + 1) p (by simpa using ht); rwa [show o + (t + 1) = o + 1 + t by omega] at this) _ u hu
        rw [show o * 2 + j = (o + 1) * 2 + (j - (pc2 a).length) by simp [pc2]; omega]
        exact this
  intro j u hu
  have := key l 0 (fun t p ht => by rw [Nat.zero_add]; exact h.rng t p ht) j u hu
  rw [Addr.add_mid]
  simpa using this
set_option maxRecDepth 100000 in
set_option maxHeartbeats 4000000 in
theorem covdoor (w0 w : World) (O R : Nat) (vo vr : Value) (ol rl : List (Nat × Nat)) (h : CvI w0 w O R vo vr ol rl) (hr : rl ≠ []) (hlen : ol.length + rl.length ≤ 1000) :
  CallsD Tryz.prog 211 #[.pointer (some ⟨R, 0, none⟩), .pointer (some ⟨O, 0, none⟩)] .returning w fun e u' w' => u' = .returning ∧ (e = .returned (.tuple #[]) ∧ ∃ v', Blk w' O 256 #[v'] ∧ w'.ownsRow w0.heap.size 155 2 v' (ol.length + rl.length) (pCells (ol ++ rl.reverse)) ∧ Below w0.heap.size w0 w') := by
 obtain ⟨iP, hP, hP0, hP1, hP2⟩ := info_parts (show (Tryz.prog.info? 155).map (fun i => (i.zero, i.size, i.bytes)) = some (some (.agg #[.int .i64 0, .int .u64 0]), 2, 16) by kernel_rfl)
 obtain ⟨ro, rn, rcap, rfl⟩ : ∃ ro rn rcap, vr = .slice ro rn rcap := by
  obtain ⟨ao, cap, e⟩ := own_form h.ro
  exact ⟨_, _, _, e⟩
 have hor := h.ro
 rcases hor.2 with ⟨e, h0⟩ | ⟨g, cap, cur, e, hb, hgb, hnc, hcm, hsz, htake⟩
 ·exact absurd (List.eq_nil_of_length_eq_zero h0) hr
 simp only [Value.slice.injEq] at e
 obtain ⟨rfl, rfl, rfl⟩ := e
 have hat := pcAt_of_own hor
 have PR := Lib.hid (pcrev g rcap rl (by omega) w hat)
 have H := Lib.hid h
 have c0 := h.br.cell 0
 have c1 := h.bo.cell 0
 simp at c0 c1
 clear hor hb hgb hnc hcm hsz htake hat h
 go_enter_d Tryz.func211, Tryz.ntmps211
 go_wp2_with fail
 with_reducible refine PR.out.mono ?_
 rintro e w2 ⟨rfl, hat2, hg2⟩
 obtain ⟨cur0, hcur0⟩ := ownBlk H.out.ro g rfl
 have ho2 := H.out.bo.grown hg2 (fun e => by
  have e := Option.some.inj e
  have := H.out.bo
  rw [e] at this
  exact absurd rfl (this.ne_ hcur0 (by decide)))
 have hr2 := H.out.br.grown hg2 (fun e => by
  have e := Option.some.inj e
  have := H.out.br
  rw [e] at this
  exact absurd rfl (this.ne_ hcur0 (by decide)))
 have hoo2 := ownKeep H.out.oo hg2 (fun k hk e => by
  have e := Option.some.inj e
  subst e
  exact H.out.sep _ hk rfl)
 have HOO := Lib.hid hoo2
 have HO2 := Lib.hid ho2
 have HCE := Lib.hid (pcAt_cells hat2)
 have HB2 : Hid (Below w0.heap.size w0 w2) := Lib.hid (H.out.bel.grown hg2 H.out.bel.size (fun k e => by
  have e := Option.some.inj e
  subst e
  exact (H.out.ro.lt _ rfl).1))
 have c0 := hr2.cell 0
 have c1 := ho2.cell 0
 have f1 := ho2.frozen 0
 simp at c0 c1
 obtain ⟨oo, ocap, hvo⟩ := own_form H.out.oo
 have hln : (pCells rl.reverse).length = rl.length * 2 := by rw [pCells_len]; simp
 have hone : ∀ u ∈ pCells rl.reverse, u.oneCell' = true := by
  intro u hu
  simp only [pCells, List.mem_flatMap] at hu
  obtain ⟨p, -, hp⟩ := hu
  simp [pc2] at hp
  rcases hp with rfl | rfl <;> rfl
 have h63 : ol.length + rl.length ≤ maxLen := by unfold maxLen; omega
 have hby : (ol.length + rl.length) * 16 ≤ 140737488355328 := by omega
 have HLO := Lib.hid H.out.lo.1
 subst hvo
 clear hat2 hg2 ho2 hr2 hoo2 hcur0 PR
 go_wp2_with (at_builtin; go_loud (refine wpList_append_own_at _ rfl _ _ 256 rfl w0.heap.size 155 iP (.agg #[.int .i64 0, .int .u64 0]) 2 16 Tryz.underlying256 hP hP0 hP1 hP2 rfl (by decide) _ ol.length _ rfl HOO.out ⟨g, 0, none⟩ rl.length rcap (pCells rl.reverse) rfl hln HCE.out hone h63 hby HB2.out.size ?_))
 intro v' w3 hown hgrow hnil hloc
 have ho3 := HO2.out.grown hgrow (fun e => by
  obtain ⟨cs, hc⟩ := ownBlk HOO.out O e.symm
  exact absurd rfl (HO2.out.ne_ hc (by decide)))
 have c3 := ho3.cell 0
 have f3 := ho3.frozen 0
 simp at c3
 have HO3 := Lib.hid ho3
 have HW3 := Lib.hid hown
 have HB3 : Hid (Below w0.heap.size w0 w3) := Lib.hid (HB2.out.grown hgrow HB2.out.size (fun k e => (HOO.out.lt k e).1))
 have hg3 : w3.grownBy (w3.setCell ⟨O, 0, none⟩ v') (some O) := gr_setC (World.grownBy.refl _ _) 0 _
 have HW4 := Lib.hid (ownKeep hown hg3 (fun k hk e => by
  have e := Option.some.inj e
  obtain ⟨cs, hc⟩ := ownBlk hown k hk
  rw [← e] at hc
  exact absurd rfl (ho3.ne_ hc (by decide))))
 have HO4 : Hid (Blk (w3.setCell ⟨O, 0, none⟩ v') O 256 #[v']) := Lib.hid (by simpa using ho3.set_ 0 v')
 have HB4 : Hid (Below w0.heap.size w0 (w3.setCell ⟨O, 0, none⟩ v')) := Lib.hid (HB3.out.setCell HLO.out _)
 have HPA := Lib.hid (pCells_append ol rl.reverse)
 obtain ⟨vo3, vc3, hv3⟩ := own_form hown
 clear hown hgrow hnil hloc ho3 hg3 c0 c1 f1
 subst hv3
 go_wp2_with fail
 go_end0
 refine ⟨rfl, _, HO4.out, ?_, HB4.out⟩
 rw [HPA.out]
 exact HW4.out
end Go.Proofs.YtfeficdndjiijaaGreatDoor


namespace Go.Proofs.YtfeficdndjiijaaGreatDoor
open Go.RowKit
set_option linter.unusedVariables false
set_option linter.unusedSimpArgs false

def lo1 (lo : Nat) : Nat := lo + lo % 2
def hi1 (hi : Nat) : Nat := hi - (1 - hi % 2)
def covO : Nat → Nat → Nat → Nat → List (Nat × Nat)
  | 0, _, _, _ => []
  | f + 1, k, lo, hi => if lo = hi then [(k, lo)] else (if lo % 2 = 1 then [(k, lo)] else []) ++ (if hi1 hi < lo1 lo then [] else covO f (k + 1) (lo1 lo / 2) (hi1 hi / 2))
def covR : Nat → Nat → Nat → Nat → List (Nat × Nat)
  | 0, _, _, _ => []
  | f + 1, k, lo, hi => if lo = hi then [] else (if hi % 2 = 0 then [(k, hi)] else []) ++ (if hi1 hi < lo1 lo then [] else covR f (k + 1) (lo1 lo / 2) (hi1 hi / 2))
theorem and1 (a : Nat) (h : a < 18446744073709551616) : bits BinOp.and IntKind.u64 (a : Int) 1 = ((a % 2 : Nat) : Int) := by
  have h2 := u64_and (a : Int) 1 (by omega) (by omega) (by omega) (by omega)
  rw [h2]
  simp
theorem cover_results (tmps : Array Value) (w : World) (O : Nat) (v : Value) (h6 : tmps[6]?.getD undef = .pointer (some ⟨O, 0, none⟩)) (h7 : tmps[7]?.getD undef = .bool true) (ho : w.cell? ⟨O, 0, none⟩ = some v) (hv : ∃ a n c, v = .slice a n c) :
    (results Tryz.f174 tmps).run Tryz.prog w = .ok (.tuple #[v, .bool true]) w := by
  obtain ⟨a, n, c, rfl⟩ := hv
  simp [results, Tryz.results174, go_sem, h6, h7, ho]
theorem cov_len (f k lo hi : Nat) : (covO f k lo hi).length ≤ 2 * f ∧ (covR f k lo hi).length ≤ f := by
  induction f generalizing k lo hi with
  | zero => simp [covO, covR]
  | succ f ih =>
    have h := ih (k + 1) (lo1 lo / 2) (hi1 hi / 2)
    simp only [covO, covR]
    by_cases e : lo = hi
    · rw [if_pos e, if_pos e]; simp; omega
    · rw [if_neg e, if_neg e]
      simp only [List.length_append]
      constructor
      · split <;> split <;> simp <;> omega
      · split <;> split <;> simp <;> omega
def CovRes (w : World) (OL RL : List (Nat × Nat)) (e : Ending) (w' : World) : Prop :=
  ∃ v, e = .returned (.tuple #[v, .bool true]) ∧ w'.ownsRow w.heap.size 155 2 v (OL ++ RL.reverse).length (pCells (OL ++ RL.reverse)) ∧ Below w.heap.size w w'
theorem CvI.same {w0 wr : World} {O R : Nat} {vo vr : Value} {ol rl : List (Nat × Nat)} (h : CvI w0 wr O R vo vr ol rl) : CvI w0 (wr.setCell ⟨O, 0, none⟩ vo) O R vo vr ol rl := by
  have hgs : wr.grownBy (wr.setCell ⟨O, 0, none⟩ vo) (some O) := gr_setC (World.grownBy.refl _ _) 0 _
  exact { bo := by simpa using h.bo.set_ 0 vo, br := h.br.grown hgs (by simpa using Ne.symm h.lo.2.2), oo := ownKeep h.oo hgs (fun k hk e => by
            have e := Option.some.inj e
            obtain ⟨cs, hc⟩ := ownBlk h.oo k hk
            rw [← e] at hc
            exact absurd rfl (h.bo.ne_ hc (by decide))), ro := ownKeep h.ro hgs (fun k hk e => by
            have e := Option.some.inj e
            obtain ⟨cs, hc⟩ := ownBlk h.ro k hk
            rw [← e] at hc
            exact absurd rfl (h.bo.ne_ hc (by decide))), sep := h.sep, bel := h.bel.setCell h.lo.1 _, lo := h.lo }
theorem cov_ret {w wz : World} {t : Array Value} {O R : Nat} {vo vr : Value} {ol rl : List (Nat × Nat)} (h : CvI w wz O R vo vr ol rl) (hr : rl ≠ []) (hlen : ol.length + rl.length ≤ 1000) (h6 : t[6]?.getD undef = .pointer (some ⟨O, 0, none⟩)) (h7 : t[7]?.getD undef = .bool true) :
    bodyPostD Tryz.prog Tryz.f174 (CovRes w ol rl) Exit.ret { tmps := t, defers := [{ target := .fn (.func 211) #[.pointer (some ⟨R, 0, none⟩), .pointer (some ⟨O, 0, none⟩)], args := #[] }] } wz := by
  refine leaves_cons (f := 211) (args := #[.pointer (some ⟨R, 0, none⟩), .pointer (some ⟨O, 0, none⟩)]) (by simp) (by simp [go_sem]) ?_
  refine (covdoor w wz O R vo vr ol rl h hr hlen).mono ?_
  rintro e u' w'' ⟨rfl, rfl, v', hb, ho, hB⟩
  obtain ⟨ao, cap, hv⟩ := own_form ho
  refine ⟨_, cover_results t _ _ v' h6 h7 (by simpa using hb.cell 0) ⟨_, _, _, hv⟩, v', rfl, ?_, hB⟩
  rw [List.length_append, List.length_reverse]
  exact ho
theorem covO_s {b k lo hi : Nat} (hk : k ≤ b) : covO (b + 1 - k) k lo hi = if lo = hi then [(k, lo)] else (if lo % 2 = 1 then [(k, lo)] else []) ++ (if hi1 hi < lo1 lo then [] else covO (b + 1 - (k + 1)) (k + 1) (lo1 lo / 2) (hi1 hi / 2)) := by
  rw [show b + 1 - k = (b - k) + 1 by omega, covO, show b + 1 - (k + 1) = b - k by omega]
theorem covR_s {b k lo hi : Nat} (hk : k ≤ b) : covR (b + 1 - k) k lo hi = if lo = hi then [] else (if hi % 2 = 0 then [(k, hi)] else []) ++ (if hi1 hi < lo1 lo then [] else covR (b + 1 - (k + 1)) (k + 1) (lo1 lo / 2) (hi1 hi / 2)) := by
  rw [show b + 1 - k = (b - k) + 1 by omega, covR, show b + 1 - (k + 1) = b - k by omega]
set_option maxRecDepth 100000 in
set_option maxHeartbeats 16000000 in
theorem cover_any (b l0 h0 : Nat) (hb1 : 1 ≤ b) (hb : b ≤ 59) (hlh : l0 ≤ h0) (hhi : h0 < 2 ^ b) (hne : covR (b + 1) 0 l0 h0 ≠ []) (w : World) :
  Calls Tryz.prog 174 #[.int .i64 (b : Int), .int .u64 (l0 : Int), .int .u64 (h0 : Int)] w (CovRes w (covO (b + 1) 0 l0 h0) (covR (b + 1) 0 l0 h0)) := by
 obtain ⟨iP, hP, hP0, hP1, hP2⟩ := info_parts (show (Tryz.prog.info? 155).map (fun i => (i.zero, i.size, i.bytes)) = some (some (.agg #[.int .i64 0, .int .u64 0]), 2, 16) by kernel_rfl)
 have HNE := Lib.hid hne
 obtain ⟨OL, hOL⟩ : ∃ OL, OL = covO (b + 1) 0 l0 h0 := ⟨_, rfl⟩
 obtain ⟨RL, hRL⟩ : ∃ RL, RL = covR (b + 1) 0 l0 h0 := ⟨_, rfl⟩
 rw [← hRL] at HNE
 rw [← hOL, ← hRL]
 have HL := Lib.hid (And.intro hOL hRL)
 have HLN : Hid (OL.length ≤ 2 * (b + 1) ∧ RL.length ≤ b + 1) := Lib.hid (by rw [hOL, hRL]; exact cov_len _ _ _ _)
 have h60 : 2 ^ b ≤ 2 ^ 59 := Nat.pow_le_pow_right (by decide) hb
 have h59 : (2 : Nat) ^ 59 = 576460752303423488 := by decide
 have hsh : wrap64 ((2 : Int) ^ b) = (2 : Int) ^ b ∨ True := .inr trivial
 have HHI := Lib.hid hhi
 have h2b : ((2 ^ b : Nat) : Int) = (2 : Int) ^ b := by simp
 have e1 : ¬ ((b : Int) < 1) := by omega
 have e2 : ¬ ((b : Int) > 59) := by omega
 have e2' : ¬ ((59 : Int) < (b : Int)) := by omega
 have e3 : ¬ ((l0 : Int) > (h0 : Int)) := by omega
 have e3' : ¬ ((h0 : Int) < (l0 : Int)) := by omega
 have e4 : ¬ ((h0 : Int) ≥ (2 : Int) ^ b) := by rw [← h2b]; omega
 have e4' : ¬ ((2 : Int) ^ b ≤ (h0 : Int)) := by rw [← h2b]; omega
 have e4'' : ¬ (2 ^ b ≤ h0) := by omega
 have hsw : IntKind.u64.wrap ((2 : Int) ^ b) = (2 : Int) ^ b := by rw [← h2b]; simp [IntKind.wrap, IntKind.bits, IntKind.signed]; omega
 have hmf : ∀ (fn : Fn) (first cap : Array Value) (w : World), (Instr.makeFunc fn first cap).run Tryz.prog w = .ok (.func fn first cap) w := fun _ _ _ _ => rfl
 have HI0 : Hid (CvI w ((w.alloc (.cells #[.slice none 0 0] 256)).alloc (.cells #[.slice none 0 0] 256)) w.heap.size (w.heap.size + 1) (.slice none 0 0) (.slice none 0 0) [] []) := Lib.hid {
  bo := (Blk.new w _ _).alloc _
  br := by simpa using Blk.new (w.alloc (.cells #[.slice none 0 0] 256)) 256 #[.slice none 0 0]
  oo := World.ownsRow_nil _ _ _ _
  ro := World.ownsRow_nil _ _ _ _
  sep := fun k hk => by simp [Value.ownBlock] at hk
  bel := ((Below.refl _ w).alloc (Nat.le_refl _) _).alloc (by simp) _
  lo := ⟨Nat.le_refl _, by omega, by omega⟩ }
 clear hne hOL hRL hsh
 go_enter_defers Tryz.func174, Tryz.ntmps174
 go_wp2_with fail
 have HSZ : Hid (w.heap.size + 1 ≠ w.heap.size) := Lib.hid (by omega)
 generalize ((w.alloc (.cells #[.slice none 0 0] 256)).alloc (.cells #[.slice none 0 0] 256)) = wA at *
 generalize w.heap.size + 1 = R at *
 clear e1 e2 e2' e3 e3' e4 e4' e4'' h59
 go_loopw [1, 2, 9] (fun a1 a2 a9 wr => ∃ (k lo hi : Nat) (vo vr : Value) (ol rl : List (Nat × Nat)), a1 = .int .u64 (lo : Int) ∧ a2 = .int .u64 (hi : Int) ∧ a9 = .int .i64 (k : Int) ∧ CvI w wr w.heap.size R vo vr ol rl ∧ OL = ol ++ covO (b + 1 - k) k lo hi ∧ RL = rl ++ covR (b + 1 - k) k lo hi ∧ lo ≤ hi ∧ hi < 2 ^ (b - k) ∧ k ≤ b) (fun _ _ a9 _ => b + 1 - (intOf a9).toNat)
 case atStart => exact ⟨0, l0, h0, _, _, [], [], rfl, rfl, rfl, HI0.out, by simpa using HL.out.1, by simpa using HL.out.2, hlh, by simpa using HHI.out, by omega⟩
 case round =>
  obtain ⟨k, lo, hi, vo, vr, ol, rl, rfl, rfl, rfl, hI, hO, hR, hlh1, hhi1, hk⟩ := hrel
  obtain ⟨ao, ac, hav⟩ := own_form hI.oo
  obtain ⟨ro, rc, hrv⟩ := own_form hI.ro
  subst hav
  subst hrv
  have HI := Lib.hid hI
  rw [covO_s hk] at hO
  rw [covR_s hk] at hR
  have hpw : 2 ^ (b - k) ≤ 2 ^ b := Nat.pow_le_pow_right (by decide) (by omega)
  have hhs : hi < 576460752303423488 := by rw [← show (2 : Nat) ^ 59 = 576460752303423488 by decide]; omega
  have HHK : Hid (hi < 2 ^ (b - k)) := Lib.hid hhi1
  have HLEN : Hid (OL.length ≤ 120 ∧ RL.length ≤ 60) := Lib.hid (by have := HLN.out; omega)
  clear hI hhi1 hpw HI0 HL HLN h60 h2b hsw
  by_cases heq : lo = hi
  ·subst heq
   rw [if_pos rfl] at hO hR
   rw [List.append_nil] at hR
   subst hR
   have HO := Lib.hid hO
   clear hO
   have hlO : ol.length ≤ 120 := by have := HLEN.out; rw [HO.out, List.length_append] at this; omega
   have hlR : RL.length ≤ 60 := HLEN.out.2
   have c1 := HI.out.bo.cell 0
   simp at c1
   have HAL1 := Lib.hid (Blk.new wr 155 #[.int .i64 (k : Int), .int .u64 (lo : Int)])
   have HOO1 : Hid (World.ownsRow (wr.alloc (.cells #[.int .i64 (k : Int), .int .u64 (lo : Int)] 155)) w.heap.size 155 2 (.slice ao (ol).length ac) (ol).length (pCells (ol))) := Lib.hid (ownKeep HI.out.oo (below_gr (row := none) ((Below.refl _ wr).alloc (Nat.le_refl _) _)) (fun k _ => by simp))
   have HCE1 : Hid (∀ j u, ([.int .i64 (k : Int), .int .u64 (lo : Int)] : List Value)[j]? = some u → World.cell? (wr.alloc (.cells #[.int .i64 (k : Int), .int .u64 (lo : Int)] 155)) ((Addr.mk wr.heap.size 0 none).add j) = some u) := Lib.hid (fun j u hu => by
    rw [Addr.add_mid, Nat.zero_add]
    exact (HAL1.out.cell j).trans (by simpa using hu))
   have hone1 : ∀ u ∈ ([.int .i64 (k : Int), .int .u64 (lo : Int)] : List Value), u.oneCell' = true := by
    intro u hu
    simp at hu
    rcases hu with rfl | rfl <;> rfl
   have HLA1 : Hid ((ol).length ≤ 122) := Lib.hid (by first | omega | (simp only [List.length_append, List.length_cons, List.length_nil]; omega))
   have HSI1 : Hid (w.heap.size ≤ (wr.alloc (.cells #[.int .i64 (k : Int), .int .u64 (lo : Int)] 155)).heap.size) := Lib.hid (by have := HI.out.bel.size; simp; omega)
   have h631 : (ol).length + 1 ≤ maxLen := by have := HLA1.out; unfold maxLen; omega
   have hby1 : ((ol).length + 1) * 16 ≤ 140737488355328 := by have := HLA1.out; omega
   go_wp2_with (at_builtin; go_loud (refine wpList_append_own_at _ rfl _ _ 256 rfl w.heap.size 155 iP (.agg #[.int .i64 0, .int .u64 0]) 2 16 Tryz.underlying256 hP hP0 hP1 hP2 rfl (by decide) _ (ol).length _ rfl HOO1.out ⟨wr.heap.size, 0, none⟩ 1 1 [.int .i64 (k : Int), .int .u64 (lo : Int)] rfl rfl HCE1.out hone1 h631 hby1 HSI1.out ?_))
   intro v1 w1 hown1 hgrow1 hnil1 hloc1
   obtain ⟨hbo1, hI1⟩ := CvI.midO HI.out (k, lo) hown1 hgrow1 (by simpa using hloc1)
   have d1 := hbo1.cell 0
   have f1 := hbo1.frozen 0
   simp at d1
   have HI1 := Lib.hid hI1
   obtain ⟨bo1, bc1, hbv1⟩ := own_form hown1
   subst hbv1
   clear hown1 hgrow1 hnil1 hloc1 hbo1 hI1 hone1 h631 hby1 c1
   clear HAL1 HOO1 HCE1 HLA1 HSI1
   go_wp2_with fail
   rw [HO.out]
   exact cov_ret HI1.out.same HNE.out (by have := HLEN.out.2; simp only [List.length_append, List.length_cons, List.length_nil]; omega) rfl rfl
  ·rw [if_neg heq] at hO hR
   have hlO : ol.length ≤ 120 := by have := HLEN.out; rw [hO, List.length_append] at this; omega
   have hlR : rl.length ≤ 60 := by have := HLEN.out; rw [hR, List.length_append] at this; omega
   have hlt : lo < hi := by omega
   have hkb : k < b := by
    have := HHK.out
    by_cases e : b - k = 0
    ·rw [e] at this; omega
    ·omega
   have heq2 : ¬ ((lo : Int) = (hi : Int)) := by omega
   obtain ⟨LO, hLO⟩ : ∃ x, x = lo1 lo := ⟨_, rfl⟩
   obtain ⟨HH, hHH⟩ : ∃ x, x = hi1 hi := ⟨_, rfl⟩
   rw [← hLO, ← hHH] at hO hR
   have HO := Lib.hid hO
   have HR := Lib.hid hR
   unfold lo1 at hLO
   unfold hi1 at hHH
   have HPW : Hid (LO ≤ HH → HH / 2 < 2 ^ (b - (k + 1))) := Lib.hid (fun _ => by
    have h1 := HHK.out
    rw [show b - k = (b - (k + 1)) + 1 by omega, Nat.pow_succ] at h1
    omega)
   have HKB := Lib.hid hkb
   have el : (lo % 2 = 1) → IntKind.u64.wrap ((lo : Int) + 1) = (LO : Int) := fun h => by rw [wrapU_mod]; omega
   have eh : (hi % 2 = 0) → IntKind.u64.wrap ((hi : Int) - 1) = (HH : Int) := fun h => by rw [wrapU_mod]; omega
   have HLO := Lib.hid hLO
   have HHH := Lib.hid hHH
   clear hO hR hkb
   by_cases ho : lo % 2 = 1
   ·have ea : bits BinOp.and IntKind.u64 (lo : Int) 1 = 1 := by rw [and1 _ (by omega), ho]; rfl
    have HO1 : Hid (OL = (ol ++ [(k, lo)]) ++ (if HH < LO then [] else covO (b + 1 - (k + 1)) (k + 1) (LO / 2) (HH / 2))) := Lib.hid (by rw [HO.out, if_pos ho]; simp)
    have elo := el ho
    have c2 := HI.out.bo.cell 0
    simp at c2
    have HAL2 := Lib.hid (Blk.new wr 155 #[.int .i64 (k : Int), .int .u64 (lo : Int)])
    have HOO2 : Hid (World.ownsRow (wr.alloc (.cells #[.int .i64 (k : Int), .int .u64 (lo : Int)] 155)) w.heap.size 155 2 (.slice ao (ol).length ac) (ol).length (pCells (ol))) := Lib.hid (ownKeep HI.out.oo (below_gr (row := none) ((Below.refl _ wr).alloc (Nat.le_refl _) _)) (fun k _ => by simp))
    have HCE2 : Hid (∀ j u, ([.int .i64 (k : Int), .int .u64 (lo : Int)] : List Value)[j]? = some u → World.cell? (wr.alloc (.cells #[.int .i64 (k : Int), .int .u64 (lo : Int)] 155)) ((Addr.mk wr.heap.size 0 none).add j) = some u) := Lib.hid (fun j u hu => by
     rw [Addr.add_mid, Nat.zero_add]
     exact (HAL2.out.cell j).trans (by simpa using hu))
    have hone2 : ∀ u ∈ ([.int .i64 (k : Int), .int .u64 (lo : Int)] : List Value), u.oneCell' = true := by
     intro u hu
     simp at hu
     rcases hu with rfl | rfl <;> rfl
    have HLA2 : Hid ((ol).length ≤ 122) := Lib.hid (by first | omega | (simp only [List.length_append, List.length_cons, List.length_nil]; omega))
    have HSI2 : Hid (w.heap.size ≤ (wr.alloc (.cells #[.int .i64 (k : Int), .int .u64 (lo : Int)] 155)).heap.size) := Lib.hid (by have := HI.out.bel.size; simp; omega)
    have h632 : (ol).length + 1 ≤ maxLen := by have := HLA2.out; unfold maxLen; omega
    have hby2 : ((ol).length + 1) * 16 ≤ 140737488355328 := by have := HLA2.out; omega
    go_wp2_with (at_builtin; go_loud (refine wpList_append_own_at _ rfl _ _ 256 rfl w.heap.size 155 iP (.agg #[.int .i64 0, .int .u64 0]) 2 16 Tryz.underlying256 hP hP0 hP1 hP2 rfl (by decide) _ (ol).length _ rfl HOO2.out ⟨wr.heap.size, 0, none⟩ 1 1 [.int .i64 (k : Int), .int .u64 (lo : Int)] rfl rfl HCE2.out hone2 h632 hby2 HSI2.out ?_))
    intro v2 w2 hown2 hgrow2 hnil2 hloc2
    obtain ⟨hbo2, hI2⟩ := CvI.midO HI.out (k, lo) hown2 hgrow2 (by simpa using hloc2)
    have d2 := hbo2.cell 0
    have f2 := hbo2.frozen 0
    simp at d2
    have HI2 := Lib.hid hI2
    obtain ⟨bo2, bc2, hbv2⟩ := own_form hown2
    subst hbv2
    clear hown2 hgrow2 hnil2 hloc2 hbo2 hI2 hone2 h632 hby2 c2
    clear HAL2 HOO2 HCE2 HLA2 HSI2
    go_upto_region 12 with fail
    generalize (w2.setCell ⟨w.heap.size, 0, none⟩ (.slice bo2 (((ol)).length + 1) bc2)) = wb at *
    obtain rfl : LO = lo + 1 := by omega
    clear hLO el elo HLO
    clear d2 f2
    by_cases he : hi % 2 = 0
    ·have ec : bits BinOp.and IntKind.u64 (hi : Int) 1 = 0 := by rw [and1 _ (by omega), he]; rfl
     have HR1 : Hid (RL = (rl ++ [(k, hi)]) ++ (if HH < (lo + 1) then [] else covR (b + 1 - (k + 1)) (k + 1) ((lo + 1) / 2) (HH / 2))) := Lib.hid (by rw [HR.out, if_pos he]; simp)
     have ehi := eh he
     have c3 := HI2.out.br.cell 0
     simp at c3
     have HAL3 := Lib.hid (Blk.new wb 155 #[.int .i64 (k : Int), .int .u64 (hi : Int)])
     have HOO3 : Hid (World.ownsRow (wb.alloc (.cells #[.int .i64 (k : Int), .int .u64 (hi : Int)] 155)) w.heap.size 155 2 (.slice ro (rl).length rc) (rl).length (pCells (rl))) := Lib.hid (ownKeep HI2.out.ro (below_gr (row := none) ((Below.refl _ wb).alloc (Nat.le_refl _) _)) (fun k _ => by simp))
     have HCE3 : Hid (∀ j u, ([.int .i64 (k : Int), .int .u64 (hi : Int)] : List Value)[j]? = some u → World.cell? (wb.alloc (.cells #[.int .i64 (k : Int), .int .u64 (hi : Int)] 155)) ((Addr.mk wb.heap.size 0 none).add j) = some u) := Lib.hid (fun j u hu => by
      rw [Addr.add_mid, Nat.zero_add]
      exact (HAL3.out.cell j).trans (by simpa using hu))
     have hone3 : ∀ u ∈ ([.int .i64 (k : Int), .int .u64 (hi : Int)] : List Value), u.oneCell' = true := by
      intro u hu
      simp at hu
      rcases hu with rfl | rfl <;> rfl
     have HLA3 : Hid ((rl).length ≤ 122) := Lib.hid (by first | omega | (simp only [List.length_append, List.length_cons, List.length_nil]; omega))
     have HSI3 : Hid (w.heap.size ≤ (wb.alloc (.cells #[.int .i64 (k : Int), .int .u64 (hi : Int)] 155)).heap.size) := Lib.hid (by have := HI2.out.bel.size; simp; omega)
     have h633 : (rl).length + 1 ≤ maxLen := by have := HLA3.out; unfold maxLen; omega
     have hby3 : ((rl).length + 1) * 16 ≤ 140737488355328 := by have := HLA3.out; omega
     go_wp2_with (at_builtin; go_loud (refine wpList_append_own_at _ rfl _ _ 256 rfl w.heap.size 155 iP (.agg #[.int .i64 0, .int .u64 0]) 2 16 Tryz.underlying256 hP hP0 hP1 hP2 rfl (by decide) _ (rl).length _ rfl HOO3.out ⟨wb.heap.size, 0, none⟩ 1 1 [.int .i64 (k : Int), .int .u64 (hi : Int)] rfl rfl HCE3.out hone3 h633 hby3 HSI3.out ?_))
     intro v3 w3 hown3 hgrow3 hnil3 hloc3
     obtain ⟨hbo3, hI3⟩ := CvI.midR HI2.out (k, hi) hown3 hgrow3 (by simpa using hloc3)
     have d3 := hbo3.cell 0
     have f3 := hbo3.frozen 0
     simp at d3
     have HI3 := Lib.hid hI3
     obtain ⟨bo3, bc3, hbv3⟩ := own_form hown3
     subst hbv3
     clear hown3 hgrow3 hnil3 hloc3 hbo3 hI3 hone3 h633 hby3 c3
     clear HAL3 HOO3 HCE3 HLA3 HSI3
     go_upto_region 15 with fail
     generalize (w3.setCell ⟨R, 0, none⟩ (.slice bo3 (((rl)).length + 1) bc3)) = wc at *
     obtain rfl : HH = hi - 1 := by omega
     clear hHH eh ehi HHH
     by_cases hx : (hi - 1) < (lo + 1)
     ·have hx1 : (((hi - 1 : Nat) : Int) < (lo : Int) + 1) := by omega
      have HOF : Hid (OL = ol ++ [(k, lo)]) := Lib.hid (by rw [HO1.out, if_pos hx]; simp)
      have HRF : Hid (RL = rl ++ [(k, hi)]) := Lib.hid (by rw [HR1.out, if_pos hx]; simp)
      have cc0 := HI3.out.bo.cell 0
      have cf0 := HI3.out.bo.frozen 0
      simp at cc0
      go_wp2_with fail
      rw [HOF.out, HRF.out]
      refine cov_ret HI3.out.same (by rw [← HRF.out]; exact HNE.out) (by have := HLEN.out; rw [HOF.out, HRF.out] at this; omega) rfl rfl
     ·have hx1 : ¬ (((hi - 1 : Nat) : Int) < (lo : Int) + 1) := by omega
      have HOF : Hid (OL = ol ++ [(k, lo)] ++ covO (b + 1 - (k + 1)) (k + 1) ((lo + 1) / 2) ((hi - 1) / 2)) := Lib.hid (by rw [HO1.out, if_neg hx])
      have HRF : Hid (RL = rl ++ [(k, hi)] ++ covR (b + 1 - (k + 1)) (k + 1) ((lo + 1) / 2) ((hi - 1) / 2)) := Lib.hid (by rw [HR1.out, if_neg hx])
      have hk1 : IntKind.i64.wrap ((k : Int) + 1) = (k : Int) + 1 := wrapI_of _ (by omega) (by omega)
      go_wp2_with fail
      go_roundw
      case rel => exact ⟨k + 1, (lo + 1) / 2, (hi - 1) / 2, _, _, _, _, by go_num, by go_num, by go_num, HI3.out, HOF.out, HRF.out, by omega, HPW.out (by omega), HKB.out⟩
      case measure => simp [intOf]; have := HKB.out; omega
    ·have ec : bits BinOp.and IntKind.u64 (hi : Int) 1 = 1 := by rw [and1 _ (by omega), show hi % 2 = 1 by omega]; rfl
     have HR1 : Hid (RL = rl ++ (if HH < (lo + 1) then [] else covR (b + 1 - (k + 1)) (k + 1) ((lo + 1) / 2) (HH / 2))) := Lib.hid (by rw [HR.out, if_neg he]; simp)
     obtain rfl : hi = HH := by omega
     clear hHH eh HHH
     by_cases hx : hi < (lo + 1)
     ·exact absurd hx (by omega)
     ·have hx1 : ¬ ((hi : Int) < (lo : Int) + 1) := by omega
      have HOF : Hid (OL = ol ++ [(k, lo)] ++ covO (b + 1 - (k + 1)) (k + 1) ((lo + 1) / 2) (hi / 2)) := Lib.hid (by rw [HO1.out, if_neg hx])
      have HRF : Hid (RL = rl ++ covR (b + 1 - (k + 1)) (k + 1) ((lo + 1) / 2) (hi / 2)) := Lib.hid (by rw [HR1.out, if_neg hx])
      have hk1 : IntKind.i64.wrap ((k : Int) + 1) = (k : Int) + 1 := wrapI_of _ (by omega) (by omega)
      go_wp2_with fail
      go_roundw
      case rel => exact ⟨k + 1, (lo + 1) / 2, hi / 2, _, _, _, _, by go_num, by go_num, by go_num, HI2.out, HOF.out, HRF.out, by omega, HPW.out (by omega), HKB.out⟩
      case measure => simp [intOf]; have := HKB.out; omega
   ·have ea : bits BinOp.and IntKind.u64 (lo : Int) 1 = 0 := by rw [and1 _ (by omega), show lo % 2 = 0 by omega]; rfl
    have HO1 : Hid (OL = ol ++ (if HH < LO then [] else covO (b + 1 - (k + 1)) (k + 1) (LO / 2) (HH / 2))) := Lib.hid (by rw [HO.out, if_neg ho]; simp)
    obtain rfl : lo = LO := by omega
    clear hLO el HLO
    by_cases he : hi % 2 = 0
    ·have ec : bits BinOp.and IntKind.u64 (hi : Int) 1 = 0 := by rw [and1 _ (by omega), he]; rfl
     have HR1 : Hid (RL = (rl ++ [(k, hi)]) ++ (if HH < lo then [] else covR (b + 1 - (k + 1)) (k + 1) (lo / 2) (HH / 2))) := Lib.hid (by rw [HR.out, if_pos he]; simp)
     have ehi := eh he
     have c4 := HI.out.br.cell 0
     simp at c4
     have HAL4 := Lib.hid (Blk.new wr 155 #[.int .i64 (k : Int), .int .u64 (hi : Int)])
     have HOO4 : Hid (World.ownsRow (wr.alloc (.cells #[.int .i64 (k : Int), .int .u64 (hi : Int)] 155)) w.heap.size 155 2 (.slice ro (rl).length rc) (rl).length (pCells (rl))) := Lib.hid (ownKeep HI.out.ro (below_gr (row := none) ((Below.refl _ wr).alloc (Nat.le_refl _) _)) (fun k _ => by simp))
     have HCE4 : Hid (∀ j u, ([.int .i64 (k : Int), .int .u64 (hi : Int)] : List Value)[j]? = some u → World.cell? (wr.alloc (.cells #[.int .i64 (k : Int), .int .u64 (hi : Int)] 155)) ((Addr.mk wr.heap.size 0 none).add j) = some u) := Lib.hid (fun j u hu => by
      rw [Addr.add_mid, Nat.zero_add]
      exact (HAL4.out.cell j).trans (by simpa using hu))
     have hone4 : ∀ u ∈ ([.int .i64 (k : Int), .int .u64 (hi : Int)] : List Value), u.oneCell' = true := by
      intro u hu
      simp at hu
      rcases hu with rfl | rfl <;> rfl
     have HLA4 : Hid ((rl).length ≤ 122) := Lib.hid (by first | omega | (simp only [List.length_append, List.length_cons, List.length_nil]; omega))
     have HSI4 : Hid (w.heap.size ≤ (wr.alloc (.cells #[.int .i64 (k : Int), .int .u64 (hi : Int)] 155)).heap.size) := Lib.hid (by have := HI.out.bel.size; simp; omega)
     have h634 : (rl).length + 1 ≤ maxLen := by have := HLA4.out; unfold maxLen; omega
     have hby4 : ((rl).length + 1) * 16 ≤ 140737488355328 := by have := HLA4.out; omega
     go_wp2_with (at_builtin; go_loud (refine wpList_append_own_at _ rfl _ _ 256 rfl w.heap.size 155 iP (.agg #[.int .i64 0, .int .u64 0]) 2 16 Tryz.underlying256 hP hP0 hP1 hP2 rfl (by decide) _ (rl).length _ rfl HOO4.out ⟨wr.heap.size, 0, none⟩ 1 1 [.int .i64 (k : Int), .int .u64 (hi : Int)] rfl rfl HCE4.out hone4 h634 hby4 HSI4.out ?_))
     intro v4 w4 hown4 hgrow4 hnil4 hloc4
     obtain ⟨hbo4, hI4⟩ := CvI.midR HI.out (k, hi) hown4 hgrow4 (by simpa using hloc4)
     have d4 := hbo4.cell 0
     have f4 := hbo4.frozen 0
     simp at d4
     have HI4 := Lib.hid hI4
     obtain ⟨bo4, bc4, hbv4⟩ := own_form hown4
     subst hbv4
     clear hown4 hgrow4 hnil4 hloc4 hbo4 hI4 hone4 h634 hby4 c4
     clear HAL4 HOO4 HCE4 HLA4 HSI4
     go_upto_region 15 with fail
     generalize (w4.setCell ⟨R, 0, none⟩ (.slice bo4 (((rl)).length + 1) bc4)) = wc at *
     obtain rfl : HH = hi - 1 := by omega
     clear hHH eh ehi HHH
     by_cases hx : (hi - 1) < lo
     ·exact absurd hx (by omega)
     ·have hx1 : ¬ (((hi - 1 : Nat) : Int) < (lo : Int)) := by omega
      have HOF : Hid (OL = ol ++ covO (b + 1 - (k + 1)) (k + 1) (lo / 2) ((hi - 1) / 2)) := Lib.hid (by rw [HO1.out, if_neg hx])
      have HRF : Hid (RL = rl ++ [(k, hi)] ++ covR (b + 1 - (k + 1)) (k + 1) (lo / 2) ((hi - 1) / 2)) := Lib.hid (by rw [HR1.out, if_neg hx])
      have hk1 : IntKind.i64.wrap ((k : Int) + 1) = (k : Int) + 1 := wrapI_of _ (by omega) (by omega)
      go_wp2_with fail
      go_roundw
      case rel => exact ⟨k + 1, lo / 2, (hi - 1) / 2, _, _, _, _, by go_num, by go_num, by go_num, HI4.out, HOF.out, HRF.out, by omega, HPW.out (by omega), HKB.out⟩
      case measure => simp [intOf]; have := HKB.out; omega
    ·have ec : bits BinOp.and IntKind.u64 (hi : Int) 1 = 1 := by rw [and1 _ (by omega), show hi % 2 = 1 by omega]; rfl
     have HR1 : Hid (RL = rl ++ (if HH < lo then [] else covR (b + 1 - (k + 1)) (k + 1) (lo / 2) (HH / 2))) := Lib.hid (by rw [HR.out, if_neg he]; simp)
     obtain rfl : hi = HH := by omega
     clear hHH eh HHH
     by_cases hx : hi < lo
     ·exact absurd hx (by omega)
     ·have hx1 : ¬ ((hi : Int) < (lo : Int)) := by omega
      have HOF : Hid (OL = ol ++ covO (b + 1 - (k + 1)) (k + 1) (lo / 2) (hi / 2)) := Lib.hid (by rw [HO1.out, if_neg hx])
      have HRF : Hid (RL = rl ++ covR (b + 1 - (k + 1)) (k + 1) (lo / 2) (hi / 2)) := Lib.hid (by rw [HR1.out, if_neg hx])
      have hk1 : IntKind.i64.wrap ((k : Int) + 1) = (k : Int) + 1 := wrapI_of _ (by omega) (by omega)
      go_wp2_with fail
      go_roundw
      case rel => exact ⟨k + 1, lo / 2, hi / 2, _, _, _, _, by go_num, by go_num, by go_num, HI.out, HOF.out, HRF.out, by omega, HPW.out (by omega), HKB.out⟩
      case measure => simp [intOf]; have := HKB.out; omega
end Go.Proofs.YtfeficdndjiijaaGreatDoor


namespace Go.Proofs.YtfeficdndjiijaaGreatDoor
open Go.RowKit
set_option linter.unusedVariables false
set_option linter.unusedSimpArgs false

section
variable {P : Program}
def noDefer (o : Oper) : Bool := match o.op with
  | .defer _ => false
  | _ => true
theorem noDefer_ne {o : Oper} (h : noDefer o = true) : ∀ c, o.op ≠ .defer c := fun c e => by
  unfold noDefer at h
  rw [e] at h
  cases h
theorem upon_round {l n : Nat} {o : Oper} {a : Act} {next next' : Act → World → Prop} {Q : Exit → Act → World → Prop} {r : Result Next} (hn : ∀ a w, next a w → next' a w) (h : o.upon P a next Q r) : o.uponIn (Fence.wide.inRound l) n P a next' Q r := by
  unfold Oper.upon at h
  split at h
  · exact hn _ _ h
  · exact hn _ _ h
  · exact hn _ _ h
  · refine ⟨(fun hh => by cases hh), CallsIn.inRound l (callsIn_wide.2 (h.mono ?_))⟩
    intro e w' hq
    cases e with
    | returned v => exact hn _ _ hq
    | panicked c => exact hq
    | outgrown => exact hq
  · refine ⟨(fun hh => by cases hh), fun c cs _ => ?_⟩
    obtain ⟨v, w', hr, hs⟩ := h c cs
    exact ⟨v, w', hn _ _ hr, stepsIn_wide.2 hs⟩
  · exact h
  · exact h.elim
theorem wpOps_round {l n : Nat} {ops : Array Oper} {Q : Exit → Act → World → Prop} (hno : ¬ LetsOut Q) (hd : ∀ (i : Nat) (o : Oper), ops[i]? = some o → noDefer o = true) :
    ∀ (is : List Nat) (a : Act) (w : World), wpOps P ops Q is a w → wpOpsIn (Fence.wide.inRound l) n P ops Q is a w := by
  intro is
  induction is with
  | nil => exact fun a w h => h
  | cons i is ih =>
    intro a w h
    simp only [wpOps] at h
    simp only [wpOpsIn]
    cases ho : ops[i]? with
    | none =>
      rw [ho] at h
      exact ih a w h
    | some o =>
      rw [ho] at h
      simp only [] at h ⊢
      by_cases hw : Region.wanted o (yielded ops a.tmps) = true
      · rw [if_pos hw] at h
        rw [if_pos hw]
        rcases h with h | ⟨_, h⟩
        · refine ⟨fun _ _ => trivial, ?_⟩
          show o.uponIn (Fence.wide.inRound l) n P a _ Q ((o.semAt (some l) a.eval).run P w)
          rw [Oper.semAt_some l a.eval o (noDefer_ne (hd i o ho))]
          exact upon_round ih h
        · exact absurd h hno
      · rw [if_neg hw] at h
        rw [if_neg hw]
        exact ⟨fun _ _ => trivial, ih _ _ h⟩
theorem wpIn_round_any {l n id : Nat} {ops : Array Oper} {Q : Exit → Act → World → Prop} {a : Act} {w : World} (hm : P.follows .mixedOrders = true) (hd : ops.all noDefer = true) (hno : ¬ LetsOut Q)
    (h : wpAny P .any ops Q ops.size (Array.replicate ops.size false) a w.drew) : (Code.region id ops true).wpIn (Fence.wide.inRound l) n P Q a w :=
  wpIn_region_draw fun t => by
    simp only [Region.schedule, hm, Bool.true_or, if_true]
    refine wpOps_round hno (fun i o ho => ?_) _ _ _ (wpAny_sound ops.size t _ a _ h)
    have := Array.all_eq_true.1 hd i (Array.getElem?_eq_some_iff.1 ho).1
    rwa [(Array.getElem?_eq_some_iff.1 ho).2] at this
end
def KpB (l : List Nat) (W W' : World) : Prop := W.heap.size ≤ W'.heap.size ∧ ∀ i ∈ l, W'.heap[i]? = W.heap[i]?
theorem KpB.trans {l : List Nat} {A B C : World} (h : KpB l A B) (k : KpB l B C) : KpB l A C := ⟨Nat.le_trans h.1 k.1, fun i hi => (k.2 i hi).trans (h.2 i hi)⟩
theorem KpB.put {l : List Nat} {w : World} (hl : ∀ i ∈ l, i < w.heap.size) (W : World) (k : Nat) (o o' : Obj) (hk : w.heap.size ≤ k) (_ : W.heap[k]? = some o) (_ : o.isCells = false) (_ : o.isWalk = false) : KpB l W (W.putObj k o') :=
  ⟨by simp, fun i hi => World.putObj_heap_other (by have := hl i hi; omega)⟩
theorem KpB.blk {l : List Nat} {W W' : World} (h : KpB l W W') {g : Nat} (hg : g ∈ l) {t : TypeId} {cs : Array Value} (hb : Blk W g t cs) : Blk W' g t cs := (h.2 g hg).trans hb
theorem KpB.of_below {l : List Nat} {n : Nat} {W W' : World} (h : Below n W W') (hl : ∀ i ∈ l, i < n) : KpB l W W' := ⟨h.size, fun i hi => h.block i (hl i hi)⟩
theorem KpB.of_grown {l : List Nat} {row : Option Nat} {W W' : World} (h : W.grownBy W' row) (hl : ∀ i ∈ l, i < W.heap.size ∧ some i ≠ row) : KpB l W W' := ⟨h.size, fun i hi => h.block i (hl i hi).1 (hl i hi).2⟩
theorem kept_others {W W' : World} {row : Option Nat} (h : W.grownBy W' row) (hr : ∀ g, row = some g → ∃ t cs, Blk W g t cs) : KeepsOthers W W' :=
  ⟨h.size, fun k o hk ho => (h.block k (Array.getElem?_eq_some_iff.1 hk).1 (fun e => by
    obtain ⟨t, cs, hb⟩ := hr k e.symm
    unfold Blk at hb
    rw [hb] at hk
    injection hk with hk
    subst hk
    cases ho)).trans hk⟩
theorem Blk.not_other {W : World} {g r : Nat} {t : TypeId} {cs : Array Value} {o : Obj} (h : Blk W g t cs) (hr : W.heap[r]? = some o) (ho : o.isCells = false) : g ≠ r := by
  rintro rfl
  unfold Blk at h
  rw [h] at hr
  injection hr with hr
  subst hr
  cases ho
theorem Blk.walked {W W' : World} {row : Option Nat} {g : Nat} {t : TypeId} {cs : Array Value} (h : Blk W g t cs) (hg : W.grownBy W' row) (hr : ∀ r, row = some r → ∃ o : Obj, W.heap[r]? = some o ∧ o.isCells = false) : Blk W' g t cs :=
  h.grown hg (fun e => by
    obtain ⟨o, ho, hc⟩ := hr g e.symm
    exact h.not_other ho hc rfl)
end Go.Proofs.YtfeficdndjiijaaGreatDoor


namespace Go.Proofs.YtfeficdndjiijaaGreatDoor
open Go.RowKit
set_option linter.unusedVariables false
set_option linter.unusedSimpArgs false

def SkUpPost (w : World) (A G C : Nat) (b r d m s l : Int) (zs : List Int) (k x : Int) (e : Ending) (w' : World) : Prop :=
  e = .returned (.int .i64 (skErr b r d m s l zs k x)) ∧ SkIs w' A G C b r d m s l (skUpd b r d m s l zs k x) ∧ w.grownBy w' (some C)
theorem skErr_ok {b r d m s l : Int} {zs : List Int} {k x : Int} (h : skErr b r d m s l zs k x = 0) : k < keysI b r d m l ∧ (m = 2 → 0 ≤ x ∧ In64 (kthL (readZ d.toNat zs (colsZ d s l k r.toNat)) 0 + x)) ∧ (m ≠ 2 → changeFits d.toNat zs (colsZ d s l k r.toNat) x) := by
  unfold skErr at h
  split at h
  · cases h
  · rename_i h1
    refine ⟨by omega, fun hm => ?_, fun hm => ?_⟩
    · rw [if_pos hm] at h
      split at h
      · cases h
      · split at h
        · rename_i h2 h3; exact ⟨by omega, h3⟩
        · cases h
    · rw [if_neg hm] at h
      split at h
      · assumption
      · cases h
set_option maxRecDepth 100000 in
set_option maxHeartbeats 8000000 in
theorem skupdate (w : World) (A G C : Nat) (b r d m s l : Int) (zs : List Int) (h : SkIs w A G C b r d m s l zs) (hr : rightB b r d m = true) (s0 : 0 ≤ s) (s1 : s ≤ 18446744073709551615) (k x : Int) (k0 : 0 ≤ k) (k1 : k ≤ 18446744073709551615) (hx : In64 x) :
  Calls Tryz.prog 287 #[.pointer (some ⟨A, 0, none⟩), .int .u64 k, .int .i64 x] w (SkUpPost w A G C b r d m s l zs k x) := by
 have PC := Lib.hid (skcheck w A G C b r d m s l zs h hr s0 s1 k x k0 k1 hx)
 have HA := Lib.hid h
 have HNE := Lib.hid h.neA
 by_cases h0 : skErr b r d m s l zs k x = 0
 ·obtain ⟨hk, hc2, hcn⟩ := skErr_ok h0
  obtain ⟨R, W, rfl, rfl, h1, h2, h3, h4⟩ := sk_nat (w := w) (A := A) (G := G) (C := C) (s := s) (l := l) (zs := zs) hr
  rw [h0] at PC
  have H0 := Lib.hid h0
  have PK := Lib.hid (fun w => cols_any b W m s l k R s0 s1 k0 k1 hk w)
  have HM : Hid (meetB R W (colsZ W s l k R) = true) := Lib.hid (by have := colsZ_meet (d := (W : Int)) (s := s) (l := l) (k := k) h1 (by omega); simpa using this)
  rw [Int.toNat_natCast, Int.toNat_natCast] at hc2 hcn
  clear h hk
  by_cases hm : m = 2
  ·have HC2 := Lib.hid (hc2 hm)
   have HU : Hid (skUpd b R W m s l zs k x = raiseZ W zs (colsZ W s l k R) (kthL (readZ W zs (colsZ W s l k R)) 0 + x)) := Lib.hid (by unfold skUpd; rw [if_pos h0, if_pos hm, Int.toNat_natCast, Int.toNat_natCast])
   clear h0 hc2 hcn
   subst hm
   go_enter Tryz.func287, Tryz.ntmps287
   go_wp2_with fail
   with_reducible refine PC.out.mono ?_
   rintro e w2 ⟨rfl, hb⟩
   have HA1 := Lib.hid (HA.out.kept hb)
   have HB1 := Lib.hid hb
   clear hb
   go_wp2_with fail
   refine wp_region_still_tail 9 (by kernel_rfl) (by kernel_rfl) ?_
   simp only [List.take_succ_cons, List.take_zero, List.drop_succ_cons, List.drop_zero]
   have HA2 : Hid (SkIs { heap := w2.heap, tape := w2.tape, drawn := w2.drawn + 1, os := w2.os, output := w2.output } A G C b R W _ s l zs) := Lib.hid (HA1.out.kept (below_drewN (Below.refl _ _) 1))
   have HB2 : Hid (Below w.heap.size w { heap := w2.heap, tape := w2.tape, drawn := w2.drawn + 1, os := w2.os, output := w2.output }) := Lib.hid (below_drewN HB1.out 1)
   generalize ({ heap := w2.heap, tape := w2.tape, drawn := w2.drawn + 1, os := w2.os, output := w2.output } : World) = wd at *
   have q1 := HA2.out.box.cell 1
   have q2 := HA2.out.box.cell 2
   have q3 := HA2.out.box.cell 3
   have q4 := HA2.out.box.cell 4
   have q5 := HA2.out.box.cell 5
   have q6 := HA2.out.box.cell 6
   simp at q1 q2 q3 q4 q5 q6
   repeat still_step
   refine wpStill_nil ?_
   go_wp2_with fail
   with_reducible refine (PK.out _).mono ?_
   intro e w3 hpost
   obtain ⟨gc, rfl, hgc, -, hints, hb⟩ := hpost.ints
   have HA3 := Lib.hid (HA2.out.kept hb)
   have HB3 := Lib.hid (btr HB2.out hb)
   have HGR : Hid (GridIs w3 G C R W zs) := Lib.hid (by
    have h1 := HA3.out.grid
    rw [Int.toNat_natCast, Int.toNat_natCast] at h1
    exact h1)
   have HIN := Lib.hid hints
   have hgC : gc ≠ C := by have := HA2.out.grid.ltC; omega
   have HGC : Hid ((Value.slice (some ⟨gc, 0, none⟩) R R).ownBlock ≠ some C) := Lib.hid (by simpa [Value.ownBlock] using hgC)
   clear hb hpost hints q1 q2 q3 q4 q5 q6 hgc hgC
   have q0 := HA3.out.box.cell 0
   have q4 := HA3.out.box.cell 4
   simp at q0 q4
   go_wp2_with fail
   have PR := Lib.hid (raise_yes w3 G C R W zs (colsZ W s l k R) x _ HGR.out HIN.out HM.out hx HGC.out)
   clear q0 q4
   with_reducible refine PR.out.mono ?_
   rintro e w4 ⟨u, hu, hpost⟩
   have hku := kthL_of hu
   obtain ⟨c0, c1⟩ := HC2.out
   rw [hku] at c1
   have hres : e = .returned (.int .i64 0) ∧ GridIs w4 G C R W (raiseZ W zs (colsZ W s l k R) (u + x)) ∧ w3.grownBy w4 (some C) := by
    rcases hpost with ⟨h1, -⟩ | ⟨-, h1, -⟩ | ⟨-, -, h1, h2, h3⟩
    ·omega
    ·exact absurd c1 h1
    ·exact ⟨h1, h2, h3⟩
   obtain ⟨rfl, hg, hgr⟩ := hres
   have HS4 : Hid (SkIs w4 A G C b R W 2 s l (skUpd b R W 2 s l zs k x)) := Lib.hid (by
    rw [HU.out, hku]
    exact ⟨HA3.out.box.grown hgr (by simpa using HNE.out), by rw [Int.toNat_natCast, Int.toNat_natCast]; exact hg⟩)
   have HG4 : Hid (w.grownBy w4 (some C)) := Lib.hid (gr_trans (below_gr HB3.out) hgr)
   clear hu hpost hku c0 c1 hg hgr
   go_wp2
   go_ret
   exact ⟨ret_err H0.out.symm, HS4.out, HG4.out⟩
  ·have HCN := Lib.hid (hcn hm)
   have HU : Hid (skUpd b R W m s l zs k x = changeZ W zs (colsZ W s l k R) x) := Lib.hid (by unfold skUpd; rw [if_pos h0, if_neg hm, Int.toNat_natCast, Int.toNat_natCast])
   have em : (m == 2) = false := by simp [hm]
   have em' : decide (m = 2) = false := by simp [hm]
   clear h0 hc2 hcn
   go_enter Tryz.func287, Tryz.ntmps287
   go_wp2_with fail
   with_reducible refine PC.out.mono ?_
   rintro e w2 ⟨rfl, hb⟩
   have HA1 := Lib.hid (HA.out.kept hb)
   have HB1 := Lib.hid hb
   clear hb
   go_wp2_with fail
   refine wp_region_still_tail 9 (by kernel_rfl) (by kernel_rfl) ?_
   simp only [List.take_succ_cons, List.take_zero, List.drop_succ_cons, List.drop_zero]
   have HA2 : Hid (SkIs { heap := w2.heap, tape := w2.tape, drawn := w2.drawn + 1, os := w2.os, output := w2.output } A G C b R W _ s l zs) := Lib.hid (HA1.out.kept (below_drewN (Below.refl _ _) 1))
   have HB2 : Hid (Below w.heap.size w { heap := w2.heap, tape := w2.tape, drawn := w2.drawn + 1, os := w2.os, output := w2.output }) := Lib.hid (below_drewN HB1.out 1)
   generalize ({ heap := w2.heap, tape := w2.tape, drawn := w2.drawn + 1, os := w2.os, output := w2.output } : World) = wd at *
   have q1 := HA2.out.box.cell 1
   have q2 := HA2.out.box.cell 2
   have q3 := HA2.out.box.cell 3
   have q4 := HA2.out.box.cell 4
   have q5 := HA2.out.box.cell 5
   have q6 := HA2.out.box.cell 6
   simp at q1 q2 q3 q4 q5 q6
   repeat still_step
   refine wpStill_nil ?_
   go_wp2_with fail
   with_reducible refine (PK.out _).mono ?_
   intro e w3 hpost
   obtain ⟨gc, rfl, hgc, -, hints, hb⟩ := hpost.ints
   have HA3 := Lib.hid (HA2.out.kept hb)
   have HB3 := Lib.hid (btr HB2.out hb)
   have HGR : Hid (GridIs w3 G C R W zs) := Lib.hid (by
    have h1 := HA3.out.grid
    rw [Int.toNat_natCast, Int.toNat_natCast] at h1
    exact h1)
   have HIN := Lib.hid hints
   have hgC : gc ≠ C := by have := HA2.out.grid.ltC; omega
   have HGC : Hid ((Value.slice (some ⟨gc, 0, none⟩) R R).ownBlock ≠ some C) := Lib.hid (by simpa [Value.ownBlock] using hgC)
   clear hb hpost hints q1 q2 q3 q4 q5 q6 hgc hgC
   have q0 := HA3.out.box.cell 0
   have q4 := HA3.out.box.cell 4
   simp at q0 q4
   go_wp2_with fail
   have PR := Lib.hid (change_yes w3 G C R W zs (colsZ W s l k R) x _ HGR.out HIN.out HM.out hx HGC.out)
   clear q0 q4
   with_reducible refine PR.out.mono ?_
   intro e w4 hpost
   have hres : e = .returned (.int .i64 0) ∧ GridIs w4 G C R W (changeZ W zs (colsZ W s l k R) x) ∧ w3.grownBy w4 (some C) := by
    rcases hpost with ⟨-, h1⟩ | ⟨h1, -⟩
    ·exact h1
    ·exact absurd HCN.out h1
   obtain ⟨rfl, hg, hgr⟩ := hres
   have HS4 : Hid (SkIs w4 A G C b R W m s l (skUpd b R W m s l zs k x)) := Lib.hid (by
    rw [HU.out]
    exact ⟨HA3.out.box.grown hgr (by simpa using HNE.out), by rw [Int.toNat_natCast, Int.toNat_natCast]; exact hg⟩)
   have HG4 : Hid (w.grownBy w4 (some C)) := Lib.hid (gr_trans (below_gr HB3.out) hgr)
   clear hpost hg hgr
   go_wp2
   go_ret
   exact ⟨ret_err H0.out.symm, HS4.out, HG4.out⟩
 ·have HU : Hid (skUpd b r d m s l zs k x = zs) := Lib.hid (by unfold skUpd; rw [if_neg h0])
  have e0 : (skErr b r d m s l zs k x != 0) = true := by simp [h0]
  unfold SkUpPost
  generalize skErr b r d m s l zs k x = q at *
  clear h h0
  go_enter Tryz.func287, Tryz.ntmps287
  go_wp2_with fail
  with_reducible refine PC.out.mono ?_
  rintro e w2 ⟨rfl, hb⟩
  have HA1 := Lib.hid (HA.out.kept hb)
  have HB1 := Lib.hid hb
  clear hb
  go_wp2
  go_ret
  exact ⟨rfl, by rw [HU.out]; exact HA1.out, below_gr HB1.out⟩
end Go.Proofs.YtfeficdndjiijaaGreatDoor

