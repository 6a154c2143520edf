import Derived.Test.YtfeficdndjiijaaGreatDoorQxg
import Derived.StillTail
import Derived.Deep.MidRow
import Derived.Test.YtfeficdndjiijaaGreatDoorQxa
import Derived.Maps.OwnOps
import Derived.Maps.OwnSet
import Derived.Maps.Views
import Derived.Maps.Keyed
import Derived.Test.YtfeficdndjiijaaGreatDoorQxe
import Derived.Test.YtfeficdndjiijaaGreatDoorQxb
import Derived.Test.YtfeficdndjiijaaGreatDoorQxd
import Derived.Test.YtfeficdndjiijaaGreatDoorQxc
/-
  Contracts of the functions that TopFits reaches, and the plain laws that it leans on. Conditions: none beyond those stated at each theorem.
-/
namespace Go.Proofs.YtfeficdndjiijaaGreatDoor
open Go.RowKit
set_option linter.unusedVariables false
set_option linter.unusedSimpArgs false

theorem gr_drewN {w w' : World} {row : Option Nat} (h : w.grownBy w' row) (n : Nat) : w.grownBy (w'.drewN n) row := ⟨h.os, h.tape, h.output, h.size, h.block⟩
set_option maxRecDepth 100000 in
set_option maxHeartbeats 4000000 in
theorem cmd_add (w : World) (R : Nat) (v : Value) (ws : List (List UInt8)) (en : Int) (h key d : Int) (hr : Rd w R v 0 en) (hv : WdAt w v ws) (h0 : ws[0]? = some [97, 100, 100]) (hl : ws.length ≤ 65536) (h1 : ws[1]? = some (Lib.itoa h)) (h2 : ws[2]? = some (Lib.itoa key)) (h3 : ws[3]? = some (Lib.itoa d)) (hh : In64 h) (hk0 : 0 ≤ key) (hk1 : key ≤ 9223372036854775807) (hd : In64 d) (ht : Tab w) :
  Calls Tryz.prog 44 #[.pointer (some ⟨R, 0, none⟩)] w fun e w' => e = .returned (.iface 117 (.agg #[.int .i64 h, .bool false, .string ⟨#[]⟩, .int .u64 key, .int .i64 d])) ∧ Rd w' R v 4 en ∧ w.grownBy w' (some R) := by
 have PX := Lib.hid (rdnext w R v ws 0 en _ hr hv h0 hl)
 have HR := Lib.hid hr
 have HV := Lib.hid hv
 have HL := Lib.hid hl
 have HT := Lib.hid ht
 have PA := Lib.hid (fun w hr hv ht => rdadd w R v ws 1 en h key d hr hv h1 h2 h3 hl hh hk0 hk1 hd ht)
 clear hr hv h0 hl ht h1 h2 h3 hh hk0 hk1 hd
 have hvl := sB_list [97, 100, 100]
 obtain ⟨S, hS⟩ : ∃ S, S = sB [97, 100, 100] := ⟨_, rfl⟩
 rw [← hS] at PX hvl
 clear hS
 go_enter Tryz.func44, Tryz.ntmps44
 go_wp2_with fail
 with_reducible refine PX.out.mono ?_
 rintro e w2 ⟨rfl, hb⟩
 have hr2 := Blk.kept HR.out hb
 have c1 := hr2.cell 1
 have f1 := hr2.frozen 1
 simp at c1
 have hg1 : w2.grownBy (w2.setCell ⟨R, 1, none⟩ (.int .i64 1)) (some R) := gr_setC (World.grownBy.refl _ _) 1 _
 have HR3 : Hid (Rd (w2.setCell ⟨R, 1, none⟩ (.int .i64 1)) R v 1 en) := Lib.hid (by unfold Rd; simpa using Blk.set_ hr2 1 (.int .i64 1))
 have HV3 := Lib.hid ((HV.out.kept hb).grown hr2 (by decide) hg1)
 have HB3 := Lib.hid (gr_trans (below_gr (row := some R) hb) hg1)
 have HT3 := Lib.hid ((HT.out.kept hb).grown hr2 (by simp) hg1)
 clear hb hr2 hg1 PX HR HV
 have PA3 := Lib.hid (PA.out _ HR3.out HV3.out HT3.out)
 go_wp2_with fail
 generalize w2.setCell ⟨R, 1, none⟩ (.int .i64 1) = w3 at *
 with_reducible refine PA3.out.mono ?_
 rintro e w4 ⟨rfl, hr4, hg4⟩
 have HR4 := Lib.hid hr4
 have HB4 := Lib.hid (gr_trans HB3.out hg4)
 clear hr4 hg4
 go_wp2_with fail
 go_ret
 exact ⟨rfl, HR4.out, HB4.out⟩
set_option maxRecDepth 100000 in
set_option maxHeartbeats 4000000 in
theorem cmd_create (w : World) (R : Nat) (v : Value) (ws : List (List UInt8)) (en : Int) (x0 x1 x2 x3 x4 : Int) (hr : Rd w R v 0 en) (hv : WdAt w v ws) (h0 : ws[0]? = some [99, 114, 101, 97, 116, 101]) (hl : ws.length ≤ 65536) (h1 : ws[1]? = some (Lib.itoa x0)) (h2 : ws[2]? = some (Lib.itoa x1)) (h3 : ws[3]? = some (Lib.itoa x2)) (h4 : ws[4]? = some (Lib.itoa x3)) (h5 : ws[5]? = some (Lib.itoa x4)) (b0 : In64 x0) (b1 : In64 x1) (b2 : In64 x2) (b3 : In64 x3) (b4 : In64 x4) (ht : Tab w) (sd : Int) (hws : IntKind.u64.wrap x4 = sd) :
  Calls Tryz.prog 44 #[.pointer (some ⟨R, 0, none⟩)] w fun e w' => e = .returned (.iface 110 (.agg #[.int .i64 x0, .int .i64 x1, .int .i64 x2, .int .i64 x3, .int .u64 sd])) ∧ Rd w' R v 6 en ∧ w.grownBy w' (some R) := by
 have PX := Lib.hid (rdnext w R v ws 0 en _ hr hv h0 hl)
 have HR := Lib.hid hr
 have HV := Lib.hid hv
 have HL := Lib.hid hl
 have HT := Lib.hid ht
 have PA := Lib.hid (fun w hr hv ht => rdnums w R v ws 1 5 5 rfl en [x0, x1, x2, x3, x4] hr hv rfl (by decide) (fun j x hj => by
  match j with
  | 0 => simp at hj; subst hj; exact h1
  | 1 => simp at hj; subst hj; exact h2
  | 2 => simp at hj; subst hj; exact h3
  | 3 => simp at hj; subst hj; exact h4
  | 4 => simp at hj; subst hj; exact h5
  | j + 5 => simp at hj) (fun x hx => by
  simp at hx
  rcases hx with rfl | rfl | rfl | rfl | rfl
  ·exact ⟨b0.1, b0.2⟩
  ·exact ⟨b1.1, b1.2⟩
  ·exact ⟨b2.1, b2.2⟩
  ·exact ⟨b3.1, b3.2⟩
  ·exact ⟨b4.1, b4.2⟩
  ) hl ht)
 clear hr hv h0 hl ht h1 h2 h3 h4 h5
 have hvl := sB_list [99, 114, 101, 97, 116, 101]
 obtain ⟨S, hS⟩ : ∃ S, S = sB [99, 114, 101, 97, 116, 101] := ⟨_, rfl⟩
 rw [← hS] at PX hvl
 clear hS
 go_enter Tryz.func44, Tryz.ntmps44
 go_wp2_with fail
 with_reducible refine PX.out.mono ?_
 rintro e w2 ⟨rfl, hb⟩
 have hr2 := Blk.kept HR.out hb
 have c1 := hr2.cell 1
 have f1 := hr2.frozen 1
 simp at c1
 have hg1 : w2.grownBy (w2.setCell ⟨R, 1, none⟩ (.int .i64 1)) (some R) := gr_setC (World.grownBy.refl _ _) 1 _
 have HR3 : Hid (Rd (w2.setCell ⟨R, 1, none⟩ (.int .i64 1)) R v 1 en) := Lib.hid (by unfold Rd; simpa using Blk.set_ hr2 1 (.int .i64 1))
 have HV3 := Lib.hid ((HV.out.kept hb).grown hr2 (by decide) hg1)
 have HB3 := Lib.hid (gr_trans (below_gr (row := some R) hb) hg1)
 have HT3 := Lib.hid ((HT.out.kept hb).grown hr2 (by simp) hg1)
 clear hb hr2 hg1 PX HR HV
 have PA3 := Lib.hid (PA.out _ HR3.out HV3.out HT3.out)
 go_wp2_with fail
 generalize w2.setCell ⟨R, 1, none⟩ (.int .i64 1) = w3 at *
 with_reducible refine PA3.out.mono ?_
 rintro e w4 ⟨g, rfl, hgw, hrow, hr4, hg4⟩
 have k0 : w4.cell? ⟨g, 0, none⟩ = some (.int .i64 x0) := hrow.cell (by decide)
 have k1 : w4.cell? ⟨g, 1, none⟩ = some (.int .i64 x1) := hrow.cell (by decide)
 have k2 : w4.cell? ⟨g, 2, none⟩ = some (.int .i64 x2) := hrow.cell (by decide)
 have k3 : w4.cell? ⟨g, 3, none⟩ = some (.int .i64 x3) := hrow.cell (by decide)
 have k4 : w4.cell? ⟨g, 4, none⟩ = some (.int .i64 x4) := hrow.cell (by decide)
 have HROW := Lib.hid hrow
 have HR4 := Lib.hid hr4
 have HB4 := Lib.hid (gr_trans HB3.out hg4)
 have HGW : Hid (w.heap.size ≤ g) := Lib.hid (Nat.le_trans HB3.out.size hgw)
 clear hr4 hg4 hrow hgw
 go_wp2_with fail
 go_quiet (fail)
 go_wp2_with fail
 go_ret
 exact ⟨rfl, Blk.drewN HR4.out _, gr_drewN HB4.out _⟩
set_option maxRecDepth 100000 in
set_option maxHeartbeats 4000000 in
theorem cmd_quantile (w : World) (R : Nat) (v : Value) (ws : List (List UInt8)) (en : Int) (x0 x1 : Int) (hr : Rd w R v 0 en) (hv : WdAt w v ws) (h0 : ws[0]? = some [113, 117, 97, 110, 116, 105, 108, 101]) (hl : ws.length ≤ 65536) (h1 : ws[1]? = some (Lib.itoa x0)) (h2 : ws[2]? = some (Lib.itoa x1)) (b0 : In64 x0) (b1 : In64 x1) (ht : Tab w) :
  Calls Tryz.prog 44 #[.pointer (some ⟨R, 0, none⟩)] w fun e w' => (∃ g, e = .returned (.iface 123 (.agg #[.string (sB [113, 117, 97, 110, 116, 105, 108, 101]), .int .i64 x0, .slice (some ⟨g, 1, none⟩) 1 1])) ∧ w.heap.size ≤ g ∧ w'.rowIs g 2 2 (fun j => .int .i64 (cellD [x0, x1] j))) ∧ Rd w' R v 3 en ∧ w.grownBy w' (some R) := by
 have PX := Lib.hid (rdnext w R v ws 0 en _ hr hv h0 hl)
 have HR := Lib.hid hr
 have HV := Lib.hid hv
 have HL := Lib.hid hl
 have HT := Lib.hid ht
 have PA := Lib.hid (fun w hr hv ht => rdnums w R v ws 1 2 2 rfl en [x0, x1] hr hv rfl (by decide) (fun j x hj => by
  match j with
  | 0 => simp at hj; subst hj; exact h1
  | 1 => simp at hj; subst hj; exact h2
  | j + 2 => simp at hj) (fun x hx => by
  simp at hx
  rcases hx with rfl | rfl
  ·exact ⟨b0.1, b0.2⟩
  ·exact ⟨b1.1, b1.2⟩
  ) hl ht)
 clear hr hv h0 hl ht h1 h2
 have hvl := sB_list [113, 117, 97, 110, 116, 105, 108, 101]
 obtain ⟨S, hS⟩ : ∃ S, S = sB [113, 117, 97, 110, 116, 105, 108, 101] := ⟨_, rfl⟩
 rw [← hS] at PX hvl ⊢
 clear hS
 go_enter Tryz.func44, Tryz.ntmps44
 go_wp2_with fail
 with_reducible refine PX.out.mono ?_
 rintro e w2 ⟨rfl, hb⟩
 have hr2 := Blk.kept HR.out hb
 have c1 := hr2.cell 1
 have f1 := hr2.frozen 1
 simp at c1
 have hg1 : w2.grownBy (w2.setCell ⟨R, 1, none⟩ (.int .i64 1)) (some R) := gr_setC (World.grownBy.refl _ _) 1 _
 have HR3 : Hid (Rd (w2.setCell ⟨R, 1, none⟩ (.int .i64 1)) R v 1 en) := Lib.hid (by unfold Rd; simpa using Blk.set_ hr2 1 (.int .i64 1))
 have HV3 := Lib.hid ((HV.out.kept hb).grown hr2 (by decide) hg1)
 have HB3 := Lib.hid (gr_trans (below_gr (row := some R) hb) hg1)
 have HT3 := Lib.hid ((HT.out.kept hb).grown hr2 (by simp) hg1)
 clear hb hr2 hg1 PX HR HV
 have PA3 := Lib.hid (PA.out _ HR3.out HV3.out HT3.out)
 go_wp2_with fail
 generalize w2.setCell ⟨R, 1, none⟩ (.int .i64 1) = w3 at *
 with_reducible refine PA3.out.mono ?_
 rintro e w4 ⟨g, rfl, hgw, hrow, hr4, hg4⟩
 have k0 : w4.cell? ⟨g, 0, none⟩ = some (.int .i64 x0) := hrow.cell (by decide)
 have k1 : w4.cell? ⟨g, 1, none⟩ = some (.int .i64 x1) := hrow.cell (by decide)
 have HROW := Lib.hid hrow
 have HR4 := Lib.hid hr4
 have HB4 := Lib.hid (gr_trans HB3.out hg4)
 have HGW : Hid (w.heap.size ≤ g) := Lib.hid (Nat.le_trans HB3.out.size hgw)
 clear hr4 hg4 hrow hgw
 go_wp2_with fail
 go_quiet (fail)
 go_wp2_with fail
 go_ret
 exact ⟨⟨g, rfl, HGW.out, HROW.out⟩, Blk.drewN HR4.out _, gr_drewN HB4.out _⟩
set_option maxRecDepth 100000 in
set_option maxHeartbeats 4000000 in
theorem cmd_range (w : World) (R : Nat) (v : Value) (ws : List (List UInt8)) (en : Int) (x0 x1 x2 : Int) (hr : Rd w R v 0 en) (hv : WdAt w v ws) (h0 : ws[0]? = some [114, 97, 110, 103, 101]) (hl : ws.length ≤ 65536) (h1 : ws[1]? = some (Lib.itoa x0)) (h2 : ws[2]? = some (Lib.itoa x1)) (h3 : ws[3]? = some (Lib.itoa x2)) (b0 : In64 x0) (b1 : In64 x1) (b2 : In64 x2) (ht : Tab w) :
  Calls Tryz.prog 44 #[.pointer (some ⟨R, 0, none⟩)] w fun e w' => (∃ g, e = .returned (.iface 123 (.agg #[.string (sB [114, 97, 110, 103, 101]), .int .i64 x0, .slice (some ⟨g, 1, none⟩) 2 2])) ∧ w.heap.size ≤ g ∧ w'.rowIs g 2 3 (fun j => .int .i64 (cellD [x0, x1, x2] j))) ∧ Rd w' R v 4 en ∧ w.grownBy w' (some R) := by
 have PX := Lib.hid (rdnext w R v ws 0 en _ hr hv h0 hl)
 have HR := Lib.hid hr
 have HV := Lib.hid hv
 have HL := Lib.hid hl
 have HT := Lib.hid ht
 have PA := Lib.hid (fun w hr hv ht => rdnums w R v ws 1 3 3 rfl en [x0, x1, x2] hr hv rfl (by decide) (fun j x hj => by
  match j with
  | 0 => simp at hj; subst hj; exact h1
  | 1 => simp at hj; subst hj; exact h2
  | 2 => simp at hj; subst hj; exact h3
  | j + 3 => simp at hj) (fun x hx => by
  simp at hx
  rcases hx with rfl | rfl | rfl
  ·exact ⟨b0.1, b0.2⟩
  ·exact ⟨b1.1, b1.2⟩
  ·exact ⟨b2.1, b2.2⟩
  ) hl ht)
 clear hr hv h0 hl ht h1 h2 h3
 have hvl := sB_list [114, 97, 110, 103, 101]
 obtain ⟨S, hS⟩ : ∃ S, S = sB [114, 97, 110, 103, 101] := ⟨_, rfl⟩
 rw [← hS] at PX hvl ⊢
 clear hS
 go_enter Tryz.func44, Tryz.ntmps44
 go_wp2_with fail
 with_reducible refine PX.out.mono ?_
 rintro e w2 ⟨rfl, hb⟩
 have hr2 := Blk.kept HR.out hb
 have c1 := hr2.cell 1
 have f1 := hr2.frozen 1
 simp at c1
 have hg1 : w2.grownBy (w2.setCell ⟨R, 1, none⟩ (.int .i64 1)) (some R) := gr_setC (World.grownBy.refl _ _) 1 _
 have HR3 : Hid (Rd (w2.setCell ⟨R, 1, none⟩ (.int .i64 1)) R v 1 en) := Lib.hid (by unfold Rd; simpa using Blk.set_ hr2 1 (.int .i64 1))
 have HV3 := Lib.hid ((HV.out.kept hb).grown hr2 (by decide) hg1)
 have HB3 := Lib.hid (gr_trans (below_gr (row := some R) hb) hg1)
 have HT3 := Lib.hid ((HT.out.kept hb).grown hr2 (by simp) hg1)
 clear hb hr2 hg1 PX HR HV
 have PA3 := Lib.hid (PA.out _ HR3.out HV3.out HT3.out)
 go_wp2_with fail
 generalize w2.setCell ⟨R, 1, none⟩ (.int .i64 1) = w3 at *
 with_reducible refine PA3.out.mono ?_
 rintro e w4 ⟨g, rfl, hgw, hrow, hr4, hg4⟩
 have k0 : w4.cell? ⟨g, 0, none⟩ = some (.int .i64 x0) := hrow.cell (by decide)
 have k1 : w4.cell? ⟨g, 1, none⟩ = some (.int .i64 x1) := hrow.cell (by decide)
 have k2 : w4.cell? ⟨g, 2, none⟩ = some (.int .i64 x2) := hrow.cell (by decide)
 have HROW := Lib.hid hrow
 have HR4 := Lib.hid hr4
 have HB4 := Lib.hid (gr_trans HB3.out hg4)
 have HGW : Hid (w.heap.size ≤ g) := Lib.hid (Nat.le_trans HB3.out.size hgw)
 clear hr4 hg4 hrow hgw
 go_wp2_with fail
 go_quiet (fail)
 go_wp2_with fail
 go_ret
 exact ⟨⟨g, rfl, HGW.out, HROW.out⟩, Blk.drewN HR4.out _, gr_drewN HB4.out _⟩
set_option maxRecDepth 100000 in
set_option maxHeartbeats 4000000 in
theorem cmd_heavy (w : World) (R : Nat) (v : Value) (ws : List (List UInt8)) (en : Int) (x0 x1 x2 : Int) (hr : Rd w R v 0 en) (hv : WdAt w v ws) (h0 : ws[0]? = some [104, 101, 97, 118, 121]) (hl : ws.length ≤ 65536) (h1 : ws[1]? = some (Lib.itoa x0)) (h2 : ws[2]? = some (Lib.itoa x1)) (h3 : ws[3]? = some (Lib.itoa x2)) (b0 : In64 x0) (b1 : In64 x1) (b2 : In64 x2) (ht : Tab w) :
  Calls Tryz.prog 44 #[.pointer (some ⟨R, 0, none⟩)] w fun e w' => (∃ g, e = .returned (.iface 123 (.agg #[.string (sB [104, 101, 97, 118, 121]), .int .i64 x0, .slice (some ⟨g, 1, none⟩) 2 2])) ∧ w.heap.size ≤ g ∧ w'.rowIs g 2 3 (fun j => .int .i64 (cellD [x0, x1, x2] j))) ∧ Rd w' R v 4 en ∧ w.grownBy w' (some R) := by
 have PX := Lib.hid (rdnext w R v ws 0 en _ hr hv h0 hl)
 have HR := Lib.hid hr
 have HV := Lib.hid hv
 have HL := Lib.hid hl
 have HT := Lib.hid ht
 have PA := Lib.hid (fun w hr hv ht => rdnums w R v ws 1 3 3 rfl en [x0, x1, x2] hr hv rfl (by decide) (fun j x hj => by
  match j with
  | 0 => simp at hj; subst hj; exact h1
  | 1 => simp at hj; subst hj; exact h2
  | 2 => simp at hj; subst hj; exact h3
  | j + 3 => simp at hj) (fun x hx => by
  simp at hx
  rcases hx with rfl | rfl | rfl
  ·exact ⟨b0.1, b0.2⟩
  ·exact ⟨b1.1, b1.2⟩
  ·exact ⟨b2.1, b2.2⟩
  ) hl ht)
 clear hr hv h0 hl ht h1 h2 h3
 have hvl := sB_list [104, 101, 97, 118, 121]
 obtain ⟨S, hS⟩ : ∃ S, S = sB [104, 101, 97, 118, 121] := ⟨_, rfl⟩
 rw [← hS] at PX hvl ⊢
 clear hS
 go_enter Tryz.func44, Tryz.ntmps44
 go_wp2_with fail
 with_reducible refine PX.out.mono ?_
 rintro e w2 ⟨rfl, hb⟩
 have hr2 := Blk.kept HR.out hb
 have c1 := hr2.cell 1
 have f1 := hr2.frozen 1
 simp at c1
 have hg1 : w2.grownBy (w2.setCell ⟨R, 1, none⟩ (.int .i64 1)) (some R) := gr_setC (World.grownBy.refl _ _) 1 _
 have HR3 : Hid (Rd (w2.setCell ⟨R, 1, none⟩ (.int .i64 1)) R v 1 en) := Lib.hid (by unfold Rd; simpa using Blk.set_ hr2 1 (.int .i64 1))
 have HV3 := Lib.hid ((HV.out.kept hb).grown hr2 (by decide) hg1)
 have HB3 := Lib.hid (gr_trans (below_gr (row := some R) hb) hg1)
 have HT3 := Lib.hid ((HT.out.kept hb).grown hr2 (by simp) hg1)
 clear hb hr2 hg1 PX HR HV
 have PA3 := Lib.hid (PA.out _ HR3.out HV3.out HT3.out)
 go_wp2_with fail
 generalize w2.setCell ⟨R, 1, none⟩ (.int .i64 1) = w3 at *
 with_reducible refine PA3.out.mono ?_
 rintro e w4 ⟨g, rfl, hgw, hrow, hr4, hg4⟩
 have k0 : w4.cell? ⟨g, 0, none⟩ = some (.int .i64 x0) := hrow.cell (by decide)
 have k1 : w4.cell? ⟨g, 1, none⟩ = some (.int .i64 x1) := hrow.cell (by decide)
 have k2 : w4.cell? ⟨g, 2, none⟩ = some (.int .i64 x2) := hrow.cell (by decide)
 have HROW := Lib.hid hrow
 have HR4 := Lib.hid hr4
 have HB4 := Lib.hid (gr_trans HB3.out hg4)
 have HGW : Hid (w.heap.size ≤ g) := Lib.hid (Nat.le_trans HB3.out.size hgw)
 clear hr4 hg4 hrow hgw
 go_wp2_with fail
 go_quiet (fail)
 go_wp2_with fail
 go_ret
 exact ⟨⟨g, rfl, HGW.out, HROW.out⟩, Blk.drewN HR4.out _, gr_drewN HB4.out _⟩
set_option maxRecDepth 100000 in
set_option maxHeartbeats 4000000 in
theorem cmd_inner (w : World) (R : Nat) (v : Value) (ws : List (List UInt8)) (en : Int) (x0 x1 : Int) (hr : Rd w R v 0 en) (hv : WdAt w v ws) (h0 : ws[0]? = some [105, 110, 110, 101, 114]) (hl : ws.length ≤ 65536) (h1 : ws[1]? = some (Lib.itoa x0)) (h2 : ws[2]? = some (Lib.itoa x1)) (b0 : In64 x0) (b1 : In64 x1) (ht : Tab w) :
  Calls Tryz.prog 44 #[.pointer (some ⟨R, 0, none⟩)] w fun e w' => e = .returned (.iface 126 (.agg #[.string (sB [105, 110, 110, 101, 114]), .int .i64 x0, .int .i64 x1])) ∧ Rd w' R v 3 en ∧ w.grownBy w' (some R) := by
 have PX := Lib.hid (rdnext w R v ws 0 en _ hr hv h0 hl)
 have HR := Lib.hid hr
 have HV := Lib.hid hv
 have HL := Lib.hid hl
 have HT := Lib.hid ht
 have PA := Lib.hid (fun w hr hv ht => rdnums w R v ws 1 2 2 rfl en [x0, x1] hr hv rfl (by decide) (fun j x hj => by
  match j with
  | 0 => simp at hj; subst hj; exact h1
  | 1 => simp at hj; subst hj; exact h2
  | j + 2 => simp at hj) (fun x hx => by
  simp at hx
  rcases hx with rfl | rfl
  ·exact ⟨b0.1, b0.2⟩
  ·exact ⟨b1.1, b1.2⟩
  ) hl ht)
 clear hr hv h0 hl ht h1 h2
 have hvl := sB_list [105, 110, 110, 101, 114]
 obtain ⟨S, hS⟩ : ∃ S, S = sB [105, 110, 110, 101, 114] := ⟨_, rfl⟩
 rw [← hS] at PX hvl ⊢
 clear hS
 go_enter Tryz.func44, Tryz.ntmps44
 go_wp2_with fail
 with_reducible refine PX.out.mono ?_
 rintro e w2 ⟨rfl, hb⟩
 have hr2 := Blk.kept HR.out hb
 have c1 := hr2.cell 1
 have f1 := hr2.frozen 1
 simp at c1
 have hg1 : w2.grownBy (w2.setCell ⟨R, 1, none⟩ (.int .i64 1)) (some R) := gr_setC (World.grownBy.refl _ _) 1 _
 have HR3 : Hid (Rd (w2.setCell ⟨R, 1, none⟩ (.int .i64 1)) R v 1 en) := Lib.hid (by unfold Rd; simpa using Blk.set_ hr2 1 (.int .i64 1))
 have HV3 := Lib.hid ((HV.out.kept hb).grown hr2 (by decide) hg1)
 have HB3 := Lib.hid (gr_trans (below_gr (row := some R) hb) hg1)
 have HT3 := Lib.hid ((HT.out.kept hb).grown hr2 (by simp) hg1)
 clear hb hr2 hg1 PX HR HV
 have PA3 := Lib.hid (PA.out _ HR3.out HV3.out HT3.out)
 go_wp2_with fail
 generalize w2.setCell ⟨R, 1, none⟩ (.int .i64 1) = w3 at *
 with_reducible refine PA3.out.mono ?_
 rintro e w4 ⟨g, rfl, hgw, hrow, hr4, hg4⟩
 have k0 : w4.cell? ⟨g, 0, none⟩ = some (.int .i64 x0) := hrow.cell (by decide)
 have k1 : w4.cell? ⟨g, 1, none⟩ = some (.int .i64 x1) := hrow.cell (by decide)
 have HROW := Lib.hid hrow
 have HR4 := Lib.hid hr4
 have HB4 := Lib.hid (gr_trans HB3.out hg4)
 have HGW : Hid (w.heap.size ≤ g) := Lib.hid (Nat.le_trans HB3.out.size hgw)
 clear hr4 hg4 hrow hgw
 go_wp2_with fail
 go_quiet (fail)
 go_wp2_with fail
 go_ret
 exact ⟨rfl, Blk.drewN HR4.out _, gr_drewN HB4.out _⟩
set_option maxRecDepth 100000 in
set_option maxHeartbeats 4000000 in
theorem cmd_merge (w : World) (R : Nat) (v : Value) (ws : List (List UInt8)) (en : Int) (x0 x1 : Int) (hr : Rd w R v 0 en) (hv : WdAt w v ws) (h0 : ws[0]? = some [109, 101, 114, 103, 101]) (hl : ws.length ≤ 65536) (h1 : ws[1]? = some (Lib.itoa x0)) (h2 : ws[2]? = some (Lib.itoa x1)) (b0 : In64 x0) (b1 : In64 x1) (ht : Tab w) :
  Calls Tryz.prog 44 #[.pointer (some ⟨R, 0, none⟩)] w fun e w' => e = .returned (.iface 126 (.agg #[.string (sB [109, 101, 114, 103, 101]), .int .i64 x0, .int .i64 x1])) ∧ Rd w' R v 3 en ∧ w.grownBy w' (some R) := by
 have PX := Lib.hid (rdnext w R v ws 0 en _ hr hv h0 hl)
 have HR := Lib.hid hr
 have HV := Lib.hid hv
 have HL := Lib.hid hl
 have HT := Lib.hid ht
 have PA := Lib.hid (fun w hr hv ht => rdnums w R v ws 1 2 2 rfl en [x0, x1] hr hv rfl (by decide) (fun j x hj => by
  match j with
  | 0 => simp at hj; subst hj; exact h1
  | 1 => simp at hj; subst hj; exact h2
  | j + 2 => simp at hj) (fun x hx => by
  simp at hx
  rcases hx with rfl | rfl
  ·exact ⟨b0.1, b0.2⟩
  ·exact ⟨b1.1, b1.2⟩
  ) hl ht)
 clear hr hv h0 hl ht h1 h2
 have hvl := sB_list [109, 101, 114, 103, 101]
 obtain ⟨S, hS⟩ : ∃ S, S = sB [109, 101, 114, 103, 101] := ⟨_, rfl⟩
 rw [← hS] at PX hvl ⊢
 clear hS
 go_enter Tryz.func44, Tryz.ntmps44
 go_wp2_with fail
 with_reducible refine PX.out.mono ?_
 rintro e w2 ⟨rfl, hb⟩
 have hr2 := Blk.kept HR.out hb
 have c1 := hr2.cell 1
 have f1 := hr2.frozen 1
 simp at c1
 have hg1 : w2.grownBy (w2.setCell ⟨R, 1, none⟩ (.int .i64 1)) (some R) := gr_setC (World.grownBy.refl _ _) 1 _
 have HR3 : Hid (Rd (w2.setCell ⟨R, 1, none⟩ (.int .i64 1)) R v 1 en) := Lib.hid (by unfold Rd; simpa using Blk.set_ hr2 1 (.int .i64 1))
 have HV3 := Lib.hid ((HV.out.kept hb).grown hr2 (by decide) hg1)
 have HB3 := Lib.hid (gr_trans (below_gr (row := some R) hb) hg1)
 have HT3 := Lib.hid ((HT.out.kept hb).grown hr2 (by simp) hg1)
 clear hb hr2 hg1 PX HR HV
 have PA3 := Lib.hid (PA.out _ HR3.out HV3.out HT3.out)
 go_wp2_with fail
 generalize w2.setCell ⟨R, 1, none⟩ (.int .i64 1) = w3 at *
 with_reducible refine PA3.out.mono ?_
 rintro e w4 ⟨g, rfl, hgw, hrow, hr4, hg4⟩
 have k0 : w4.cell? ⟨g, 0, none⟩ = some (.int .i64 x0) := hrow.cell (by decide)
 have k1 : w4.cell? ⟨g, 1, none⟩ = some (.int .i64 x1) := hrow.cell (by decide)
 have HROW := Lib.hid hrow
 have HR4 := Lib.hid hr4
 have HB4 := Lib.hid (gr_trans HB3.out hg4)
 have HGW : Hid (w.heap.size ≤ g) := Lib.hid (Nat.le_trans HB3.out.size hgw)
 clear hr4 hg4 hrow hgw
 go_wp2_with fail
 go_quiet (fail)
 go_wp2_with fail
 go_ret
 exact ⟨rfl, Blk.drewN HR4.out _, gr_drewN HB4.out _⟩
set_option maxRecDepth 100000 in
set_option maxHeartbeats 4000000 in
theorem cmd_subtract (w : World) (R : Nat) (v : Value) (ws : List (List UInt8)) (en : Int) (x0 x1 : Int) (hr : Rd w R v 0 en) (hv : WdAt w v ws) (h0 : ws[0]? = some [115, 117, 98, 116, 114, 97, 99, 116]) (hl : ws.length ≤ 65536) (h1 : ws[1]? = some (Lib.itoa x0)) (h2 : ws[2]? = some (Lib.itoa x1)) (b0 : In64 x0) (b1 : In64 x1) (ht : Tab w) :
  Calls Tryz.prog 44 #[.pointer (some ⟨R, 0, none⟩)] w fun e w' => e = .returned (.iface 126 (.agg #[.string (sB [115, 117, 98, 116, 114, 97, 99, 116]), .int .i64 x0, .int .i64 x1])) ∧ Rd w' R v 3 en ∧ w.grownBy w' (some R) := by
 have PX := Lib.hid (rdnext w R v ws 0 en _ hr hv h0 hl)
 have HR := Lib.hid hr
 have HV := Lib.hid hv
 have HL := Lib.hid hl
 have HT := Lib.hid ht
 have PA := Lib.hid (fun w hr hv ht => rdnums w R v ws 1 2 2 rfl en [x0, x1] hr hv rfl (by decide) (fun j x hj => by
  match j with
  | 0 => simp at hj; subst hj; exact h1
  | 1 => simp at hj; subst hj; exact h2
  | j + 2 => simp at hj) (fun x hx => by
  simp at hx
  rcases hx with rfl | rfl
  ·exact ⟨b0.1, b0.2⟩
  ·exact ⟨b1.1, b1.2⟩
  ) hl ht)
 clear hr hv h0 hl ht h1 h2
 have hvl := sB_list [115, 117, 98, 116, 114, 97, 99, 116]
 obtain ⟨S, hS⟩ : ∃ S, S = sB [115, 117, 98, 116, 114, 97, 99, 116] := ⟨_, rfl⟩
 rw [← hS] at PX hvl ⊢
 clear hS
 go_enter Tryz.func44, Tryz.ntmps44
 go_wp2_with fail
 with_reducible refine PX.out.mono ?_
 rintro e w2 ⟨rfl, hb⟩
 have hr2 := Blk.kept HR.out hb
 have c1 := hr2.cell 1
 have f1 := hr2.frozen 1
 simp at c1
 have hg1 : w2.grownBy (w2.setCell ⟨R, 1, none⟩ (.int .i64 1)) (some R) := gr_setC (World.grownBy.refl _ _) 1 _
 have HR3 : Hid (Rd (w2.setCell ⟨R, 1, none⟩ (.int .i64 1)) R v 1 en) := Lib.hid (by unfold Rd; simpa using Blk.set_ hr2 1 (.int .i64 1))
 have HV3 := Lib.hid ((HV.out.kept hb).grown hr2 (by decide) hg1)
 have HB3 := Lib.hid (gr_trans (below_gr (row := some R) hb) hg1)
 have HT3 := Lib.hid ((HT.out.kept hb).grown hr2 (by simp) hg1)
 clear hb hr2 hg1 PX HR HV
 have PA3 := Lib.hid (PA.out _ HR3.out HV3.out HT3.out)
 go_wp2_with fail
 generalize w2.setCell ⟨R, 1, none⟩ (.int .i64 1) = w3 at *
 with_reducible refine PA3.out.mono ?_
 rintro e w4 ⟨g, rfl, hgw, hrow, hr4, hg4⟩
 have k0 : w4.cell? ⟨g, 0, none⟩ = some (.int .i64 x0) := hrow.cell (by decide)
 have k1 : w4.cell? ⟨g, 1, none⟩ = some (.int .i64 x1) := hrow.cell (by decide)
 have HROW := Lib.hid hrow
 have HR4 := Lib.hid hr4
 have HB4 := Lib.hid (gr_trans HB3.out hg4)
 have HGW : Hid (w.heap.size ≤ g) := Lib.hid (Nat.le_trans HB3.out.size hgw)
 clear hr4 hg4 hrow hgw
 go_wp2_with fail
 go_quiet (fail)
 go_wp2_with fail
 go_ret
 exact ⟨rfl, Blk.drewN HR4.out _, gr_drewN HB4.out _⟩
end Go.Proofs.YtfeficdndjiijaaGreatDoor


namespace Go.Proofs.YtfeficdndjiijaaGreatDoor
open Go.RowKit
set_option linter.unusedVariables false
set_option linter.unusedSimpArgs false

def Stays (PC : Value → World → Prop) : Prop := ∀ c w w', PC c w → Below w.heap.size w w' → PC c w'
set_option maxRecDepth 100000 in
set_option maxHeartbeats 4000000 in
theorem parse_of (PC : Value → World → Prop) (hPC : Stays PC) (l : List UInt8) (ws : List (List UInt8)) (hl : l = joinW ws) (hg : ∀ a ∈ ws, GoodW a) (hasc : Asc l) (hn : l.length ≤ 65536) (hwl : ws.length ≤ 65536) (hws : ws ≠ []) (w : World) (ht : Tab w)
  (hcmd : ∀ (w1 : World) (R : Nat) (v : Value) (en : Int), w.heap.size ≤ w1.heap.size → Rd w1 R v 0 en → WdAt w1 v ws → Tab w1 →
   Calls Tryz.prog 44 #[.pointer (some ⟨R, 0, none⟩)] w1 fun e w' => ∃ c, e = .returned c ∧ PC c w' ∧ Rd w' R v (ws.length : Int) en ∧ w1.grownBy w' (some R)) :
  Calls Tryz.prog 21 #[.string (sB l)] w fun e w' => ∃ c, e = .returned (.tuple #[c, .int .i64 0, .int .i64 0]) ∧ PC c w' ∧ Below w.heap.size w w' := by
 have PT := Lib.hid (fun w => torn_any (sB l) (fun i h => hasc.str i h) w)
 have PW := Lib.hid (fun w => words_any l ws hl hg hn w)
 have HT := Lib.hid ht
 have HC := Lib.hid hcmd
 have HPC := Lib.hid hPC
 have HWS := Lib.hid hws
 have hsz : (sB l).size = l.length := sB_size l
 obtain ⟨n, hnn⟩ : ∃ n, n = l.length := ⟨_, rfl⟩
 rw [← hnn] at hsz hn
 have hn' : ¬ ((n : Int) > 65536) := by omega
 clear hl hg hasc ht hcmd hPC hws hnn
 generalize sB l = S at *
 go_enter Tryz.func21, Tryz.ntmps21
 go_wp2_with fail
 with_reducible refine (PT.out _).mono ?_
 rintro e w2 ⟨rfl, hb⟩
 have HB2 := Lib.hid hb
 have HT2 := Lib.hid (HT.out.kept hb)
 clear hb
 go_wp2_with fail
 with_reducible refine (PW.out _).mono ?_
 rintro e w3 ⟨v, rfl, hv, hb⟩
 have HB3 := Lib.hid (btr HB2.out hb)
 have HT3 := Lib.hid (HT2.out.kept hb)
 have hat := hv.at_ HWS.out
 obtain ⟨g, cap, cur, rfl, hgb, hgc⟩ := hat
 have HV3 : Hid (WdAt w3 (.slice (some ⟨g, 0, none⟩) ws.length cap) ws) := Lib.hid ⟨g, cap, cur, rfl, hgb, hgc⟩
 obtain ⟨m, hm⟩ : ∃ m, m = ws.length := ⟨_, rfl⟩
 have HM := Lib.hid hm
 have hm0 : 0 < m := by rw [hm]; exact List.length_pos_iff.2 HWS.out
 rw [← hm] at HV3 ⊢
 rw [← hm] at hwl
 rw [← hm] at HC
 clear hb hv hgb hgc hm
 obtain ⟨w4, hw4⟩ : ∃ w4, w4 = w3.alloc (.cells #[.slice (some ⟨g, 0, none⟩) m cap, .int .i64 0, .int .i64 (-1), .int .i64 (n : Int)] 107) := ⟨_, rfl⟩
 have hb4 : Below w3.heap.size w3 w4 := by rw [hw4]; exact (Below.refl _ w3).alloc (Nat.le_refl _) _
 have hr4 : Rd w4 w3.heap.size (.slice (some ⟨g, 0, none⟩) m cap) 0 (n : Int) := by rw [hw4]; exact Blk.new w3 _ _
 have HV4 := Lib.hid (HV3.out.kept hb4)
 have HT4 := Lib.hid (HT3.out.kept hb4)
 have HB4 := Lib.hid (btr HB3.out hb4)
 have HR4 := Lib.hid hr4
 have PC4 := Lib.hid (HC.out w4 w3.heap.size _ (n : Int) HB4.out.size HR4.out HV4.out HT4.out)
 have hR := HB3.out.size
 have c0 := hr4.cell 0
 simp at c0
 have hm1 : ¬ (m = 0) := by omega
 have hm2 : ¬ ((m : Int) = 0) := by omega
 clear hb4 hr4
 go_wp2_with fail
 rw [← hw4]
 clear hw4
 generalize w3.heap.size = R at *
 go_wp2_with fail
 with_reducible refine PC4.out.mono ?_
 rintro e w5 ⟨c, rfl, hpc, hr5, hg5⟩
 have HPC5 := Lib.hid hpc
 have HB5 : Hid (Below w.heap.size w w5) := Lib.hid (HB4.out.grown hg5 HB4.out.size (fun k e => by have := Option.some.inj e; omega))
 have c0 := hr5.cell 0
 have c1 := hr5.cell 1
 have c2 := hr5.cell 2
 simp at c0 c1 c2
 have hbad : ((-1 : Int) < 0) := by decide
 have hbad2 : ¬ ((0 : Int) ≤ -1) := by decide
 have hlt : ¬ ((m : Int) < (m : Int)) := by omega
 have HR5 := Lib.hid hr5
 clear hpc hr5 hg5 PC4
 go_wp2_with fail
 go_quiet (fail)
 go_wp2_with fail
 go_ret3
 exact ⟨c, rfl, HPC.out _ _ _ HPC5.out (below_drewN (Below.refl _ _) _), btr HB5.out (below_drewN (Below.refl _ _) _)⟩
end Go.Proofs.YtfeficdndjiijaaGreatDoor


namespace Go.Proofs.YtfeficdndjiijaaGreatDoor
open Go
set_option linter.unusedVariables false
set_option linter.unusedSimpArgs false
section
variable {P : Program} {ops : Array Oper} {md : Region.Mode} {w : World}
def sinkS (md : Region.Mode) (ops : Array Oper) (skip : List Nat) (n : Nat) : Bool :=
  (List.range n).all fun i => skip.contains i || (List.range (n + 1)).any fun j => decide (i < j) && Region.waitsFor md ops j i
theorem tail_waits_s {skip : List Nat} {n : Nat} {listed : Array Bool} (hs : sinkS md ops skip n = true) (hc : Region.chainB md ops n = true) (hn : n < ops.size) (inv : HeadInv md ops n listed) (hk : ∀ i ∈ skip, listed.getD i true ≠ false) :
  ∀ (d i : Nat), n - i = d → i < n → listed.getD i true = false → ∀ t, n ≤ t → t ∉ Region.ready md ops listed := by
 intro d
 induction d using Nat.strongRecOn with
 | _ d ih =>
  intro i hd hi hun t ht hr
  obtain ⟨_, ot, hot, hall⟩ := mem_ready.1 hr
  have htlt : t < ops.size := (Array.getElem?_eq_some_iff.1 hot).1
  by_cases htn : t = n
  ·subst htn
   have h0 := List.all_eq_true.1 hs i (List.mem_range.2 hi)
   rw [Bool.or_eq_true] at h0
   have h1 : (List.range (t + 1)).any (fun j => decide (i < j) && Region.waitsFor md ops j i) = true := by
    rcases h0 with h0 | h0
    ·exact absurd hun (hk i (by simpa using h0))
    ·exact h0
   obtain ⟨j, hj, hj2⟩ := List.any_eq_true.1 h1
   simp only [Bool.and_eq_true, decide_eq_true_eq] at hj2
   obtain ⟨oj, hoj, e, he, hb, hon⟩ := Region.waitsFor_spec hj2.2
   have hjle : j ≤ t := by have := List.mem_range.1 hj; omega
   by_cases hjt : j = t
   ·subst hjt
    have : oj = ot := Option.some.inj (hoj.symm.trans hot)
    subst this
    have h2 := hall e he hb
    rw [hon, getD_both hun] at h2
    cases h2
   ·cases hl : listed.getD j false with
    | true =>
     have h2 := inv.closed j oj hoj hl e he hb
     rw [hon, getD_both hun] at h2
     cases h2
    | false =>
     have hjs : j < listed.size := by rw [inv.size]; omega
     exact ih (t - j) (by omega) j rfl (by omega) (getD_in hjs hl) t (Nat.le_refl _) hr
  ·have h1 := List.all_eq_true.1 hc t (List.mem_range.2 htlt)
   simp only [Bool.or_eq_true, decide_eq_true_eq] at h1
   rcases h1 with h1 | h1
   ·omega
   ·obtain ⟨o', ho', e, he, hb, hon⟩ := Region.waitsFor_spec h1
    have : o' = ot := Option.some.inj (ho'.symm.trans hot)
    subst this
    have h2 := hall e he hb
    rw [hon, getD_both (inv.tail (t - 1) (by omega) (by omega))] at h2
    cases h2
theorem skip_set {skip : List Nat} {listed : Array Bool} (hk : ∀ i ∈ skip, listed.getD i true ≠ false) (j : Nat) : ∀ i ∈ skip, (listed.setIfInBounds j true).getD i true ≠ false := fun i hi => by
  by_cases h : j = i
  · subst h
    intro h2
    rcases Nat.lt_or_ge j listed.size with h3 | h3
    · simp [h3] at h2
    · simp [Array.getElem?_eq_none h3] at h2
  · rw [getD_set_ne true h]; exact hk i hi
theorem wpAnyL_first_s {skip : List Nat} {n i : Nat} {oi : Oper} {v : Value} {L : Array Bool → Act → Prop} (hi : ops[i]? = some oi) (hsel : ∀ (j : Nat) (o : Oper) cs b, ops[j]? = some o → o.op ≠ .select cs b)
  (hs : sinkS md ops skip n = true) (hc : Region.chainB md ops n = true) (hn : n < ops.size) (hin : i < n)
  (hdone : ∀ listed a, L listed a → ∀ j ∈ Region.ready md ops listed, n ≤ j) :
  ∀ (f : Nat) (listed : Array Bool) (a : Act), HeadInv md ops n listed → (∀ i ∈ skip, listed.getD i true ≠ false) →
   (∀ j oj, ops[j]? = some oj → j ≠ i → listed.getD j true = false → (∀ e ∈ oj.after, Region.binds md e = true → e.on ≠ i) → oi.apart ops oj = true) →
   i ∈ Region.ready md ops listed → YieldsAt P ops w oi v a →
   wpAnyL P md ops w n L f (listed.setIfInBounds i true) (a.put oi.dst v) → wpAnyL P md ops w n L (f + 1) listed a := by
 intro f
 induction f with
 | zero =>
  intro listed a inv hk _ hr hy H
  have hun := (mem_ready.1 hr).1
  refine ⟨fun h => (by rw [h] at hr; cases hr), fun j hj => ?_⟩
  have hjn : j < n := by
   rcases Nat.lt_or_ge j n with h | h
   ·exact h
   ·exact absurd hj (tail_waits_s hs hc hn inv hk _ i rfl hin hun j h)
  refine ⟨hjn, ?_⟩
  by_cases hji : j = i
  ·subst hji; exact hy.stOp hi H
  ·have := hdone _ _ H j (ready_mono hj hji)
   omega
 | succ f ih =>
  intro listed a inv hk hfree hr hy H
  have hun := (mem_ready.1 hr).1
  refine ⟨fun h => (by rw [h] at hr; cases hr), fun j hj => ?_⟩
  have hjn : j < n := by
   rcases Nat.lt_or_ge j n with h | h
   ·exact h
   ·exact absurd hj (tail_waits_s hs hc hn inv hk _ i rfl hin hun j h)
  refine ⟨hjn, ?_⟩
  by_cases hji : j = i
  ·subst hji; exact hy.stOp hi H
  ·have h1 := (H.2 j (ready_mono hj hji)).2
   obtain ⟨hjun, oj, hoj, hall⟩ := mem_ready.1 hj
   have hnot : ∀ e ∈ oj.after, Region.binds md e = true → e.on ≠ i := fun e he hb heq => by
    have h1 := hall e he hb
    rw [heq, getD_both hun] at h1
    cases h1
   have h2 := stOp_put hoj (hfree j oj hoj hji hjun hnot) (fun cs b => hsel i oi cs b hi) (fun cs b => hsel j oj cs b hoj) hy h1
   have hfree' : ∀ k ok, ops[k]? = some ok → k ≠ i → (listed.setIfInBounds j true).getD k true = false →
     (∀ e ∈ ok.after, Region.binds md e = true → e.on ≠ i) → oi.apart ops ok = true := fun k ok hk hki hun hno => by
    refine hfree k ok hk hki ?_ hno
    by_cases hjk : j = k
    ·subst hjk; exact hjun
    ·rw [getD_set_ne true hjk] at hun; exact hun
   refine stOp_mono (fun a' h3 => ih (listed.setIfInBounds j true) a' (inv.set hj hjn) (skip_set hk j) hfree' (ready_mono hr (Ne.symm hji)) h3.1 ?_) h2
   rw [Array.setIfInBounds_comm _ _ hji]
   exact h3.2
def lexHeadM (md : Region.Mode) (ops : Array Oper) (g : Nat) : List Bool → Nat → Array Bool → Bool
  | [], k, listed => Region.seqB md ops g k listed
  | true :: m, k, listed => (Region.ready md ops listed).contains k && Region.free md ops listed k && lexHeadM md ops g m (k + 1) (listed.setIfInBounds k true)
  | false :: m, k, listed => lexHeadM md ops g m (k + 1) listed
def dropAt {α : Type} : List Bool → List α → List α
  | true :: m, x :: l => x :: dropAt m l
  | false :: m, _ :: l => dropAt m l
  | _, _ => []
def cntM : List Bool → Nat
  | [] => 0
  | true :: m => cntM m + 1
  | false :: m => cntM m
theorem wpAnyL_lexM {skip : List Nat} {n g : Nat} {Lq : Act → Prop} (hsel : Region.noSelect ops = true) (hs : sinkS md ops skip n = true) (hc : Region.chainB md ops n = true) (hn : n < ops.size) :
  ∀ (m : List Bool) (l : List Oper) (k : Nat) (listed : Array Bool) (a : Act), (∀ j, j < m.length → l[j]? = ops[k + j]?) → m.length ≤ l.length → k + m.length = n → HeadInv md ops n listed → (∀ i ∈ skip, listed.getD i true ≠ false) →
  lexHeadM md ops g m k listed = true → wpStill P ops w Lq (dropAt m l) a →
  wpAnyL P md ops w n (fun listed' a' => Region.seqB md ops g n listed' = true ∧ Lq a') (cntM m) listed a
 | [], l, k, listed, a, _, _, hk, _, _, hB, h => by
  have : k = n := by simpa using hk
  subst this
  exact ⟨by simpa [lexHeadM] using hB, by cases l <;> exact h⟩
 | _ :: _, [], k, listed, a, _, hl, _, _, _, _, _ => by simp at hl
 | true :: m, o :: l, k, listed, a, hl, hml, hk, inv, hsk, hB, h => by
  have h0 : ops[k]? = some o := by simpa using (hl 0 (by simp)).symm
  simp only [lexHeadM, Bool.and_eq_true] at hB
  obtain ⟨⟨hr, hf⟩, hB'⟩ := hB
  have hkn : k < n := by simp only [List.length_cons] at hk; omega
  have hr' : k ∈ Region.ready md ops listed := by simpa using hr
  have hst : stOp P ops w k (wpStill P ops w Lq (dropAt m l)) a := by unfold stOp; simp only [h0]; exact h
  obtain ⟨v, hy, hK⟩ := yieldsAt_of_stOp h0 hst
  exact wpAnyL_first_s h0 (Region.noSelect_spec hsel) hs hc hn hkn (fun listed' a' hL => seqB_ready hL.1) (cntM m) listed a inv hsk (Region.free_spec h0 hf) hr' hy
   (wpAnyL_lexM hsel hs hc hn m l (k + 1) _ _ (fun j hj => by have := hl (j + 1) (by simp; omega); simpa [Nat.add_assoc, Nat.add_comm 1 j] using this) (by simpa using hml) (by simp only [List.length_cons] at hk; omega) (inv.set hr' hkn) (skip_set hsk k) hB' hK)
 | false :: m, o :: l, k, listed, a, hl, hml, hk, inv, hsk, hB, h => by
  exact wpAnyL_lexM hsel hs hc hn m l (k + 1) listed a (fun j hj => by have := hl (j + 1) (by simp; omega); simpa [Nat.add_assoc, Nat.add_comm 1 j] using this) (by simpa using hml) (by simp only [List.length_cons] at hk; omega) inv hsk hB h
def closedB (md : Region.Mode) (ops : Array Oper) (listed : Array Bool) : Bool :=
  (List.range ops.size).all fun j => !(listed.getD j false) || match ops[j]? with
    | some oj => oj.after.all fun e => !(Region.binds md e) || listed.getD e.on false
    | none => true
def stillB (md : Region.Mode) (ops : Array Oper) (m : List Bool) (skip : List Nat) (listed : Array Bool) : Bool :=
  Region.noSelect ops && decide (m.length < ops.size) && sinkS md ops skip m.length && Region.chainB md ops m.length && decide (listed.size = ops.size) && closedB md ops listed &&
    ((List.range ops.size).all fun t => decide (t < m.length) || !(listed.getD t true)) && (skip.all fun i => listed.getD i true) && lexHeadM md ops (ops.size - m.length) m 0 listed
theorem wpAny_still_tail {Q : Exit → Act → World → Prop} {a : Act} {l : List Oper} {listed : Array Bool} (m : List Bool) (skip : List Nat) (f : Nat) (hf : f = cntM m + (l.toArray.size - m.length)) (hB : stillB .any l.toArray m skip listed = true)
  (h : wpStill P l.toArray w (fun a' => wpList P l.toArray Q (l.drop m.length) a' w) (dropAt m l) a) : wpAny P .any l.toArray Q f listed a w := by
 simp only [stillB, Bool.and_eq_true, decide_eq_true_eq] at hB
 obtain ⟨⟨⟨⟨⟨⟨⟨⟨hsel, hn⟩, hs⟩, hc⟩, hsz⟩, hcl⟩, htl⟩, hsk⟩, hlex⟩ := hB
 have inv0 : HeadInv .any l.toArray m.length listed := by
  refine ⟨hsz, fun j oj hj hl e he hb => ?_, fun t ht ht' => ?_⟩
  ·have h1 := List.all_eq_true.1 hcl j (List.mem_range.2 (Array.getElem?_eq_some_iff.1 hj).1)
   rw [hl, hj] at h1
   simp only [Bool.not_true, Bool.false_or] at h1
   have h2 := Array.all_eq_true'.1 h1 e he
   rw [hb] at h2
   simpa using h2
  ·have h1 := List.all_eq_true.1 htl t (List.mem_range.2 ht')
   have h2 : ¬ t < m.length := by omega
   simpa [h2] using h1
 have hsk' : ∀ i ∈ skip, listed.getD i true ≠ false := fun i hi => by
  have := List.all_eq_true.1 hsk i hi
  rw [this]; decide
 have H := wpAnyL_lexM (md := .any) (g := l.toArray.size - m.length) hsel hs hc hn m l 0 listed a (fun j hj => by simp) (by simp at hn; omega) (by simp) inv0 hsk' hlex h
 have hdl : (l.drop m.length).length = l.toArray.size - m.length := by simp
 have := wpAny_of_head (Q' := Q) (g := l.toArray.size - m.length) (fun listed a' hL => by
  have := wpAny_of_seq (md := .any) (Q' := Q) (l.drop m.length) m.length listed a' w (fun j => by simp [List.getElem?_drop]) (by rw [hdl]; exact hL.1) hL.2
  rwa [hdl] at this) (cntM m) listed a H
 rw [hf]
 exact this
end
section
variable {P : Program}
theorem still_load_mid {op : Oper} {a : Act} {w : World} {K : Act → Prop} (ty : TypeId) (x : Operand) (ho : op.op = .load ty x)
    (b o : Nat) (hx : a.eval x = .pointer (some ⟨b, o, none⟩)) (cs : List Value) (d : TypeDesc) (hc : w.rangeAt b o cs)
    (hu : P.underlying ty = some d) (hd : d.isRow = true) (hi : (P.info? ty).map (·.size) = some cs.length)
    (h : K (a.put op.dst (.agg cs.toArray))) : op.still P a w K := by
  unfold Oper.still execOp
  simp only [ho, hx, Instr.loadAt, Instr.sureAddr, Sem.run_bind, Sem.run_pure, Result.andThen_ok, run_loadVar_mid w b o ty cs d hc hu hd hi, Oper.stillUpon]
  exact ⟨trivial, h⟩
theorem wpStill_load_mid {ops : Array Oper} {rest : List Oper} {op : Oper} {a : Act} {w : World} {Q : Act → Prop} (hw : Region.wanted op (yielded ops a.tmps) = true) (ty : TypeId) (x : Operand) (ho : op.op = .load ty x)
    (b o : Nat) (hx : a.eval x = .pointer (some ⟨b, o, none⟩)) (cs : List Value) (d : TypeDesc) (hc : w.rangeAt b o cs)
    (hu : P.underlying ty = some d) (hd : d.isRow = true) (hi : (P.info? ty).map (·.size) = some cs.length)
    (h : wpStill P ops w Q rest (a.put op.dst (.agg cs.toArray))) : wpStill P ops w Q (op :: rest) a := by
  refine wpStill_step (fun K hK => ?_)
  rw [if_pos hw]
  exact still_load_mid ty x ho b o hx cs d hc hu hd hi (hK _ h)
end
end Go.Proofs.YtfeficdndjiijaaGreatDoor


namespace Go.Proofs.YtfeficdndjiijaaGreatDoor
open Go.RowKit Go.Maps
set_option linter.unusedVariables false
set_option linter.unusedSimpArgs false

theorem blkRange {w : World} {g : Nat} {t : TypeId} {cs : Array Value} (h : Blk w g t cs) (o : Nat) (xs : List Value) (hx : ∀ (j : Nat) (u : Value), xs[j]? = some u → cs[o + j]? = some u) : w.rangeAt g o xs := fun j u hu => by
  rw [h.cell (o + j)]
  exact hx j u hu
theorem wpStill_load_blk {P : Program} {ops : Array Oper} {rest : List Oper} {op : Oper} {a : Act} {w : World} {Q : Act → Prop} (hw : Region.wanted op (yielded ops a.tmps) = true) (ty : TypeId) (x : Operand) (ho : op.op = .load ty x)
    (b : Nat) (hx : a.eval x = .pointer (some ⟨b, 0, none⟩)) (cs : Array Value) (t : TypeId) (d : TypeDesc) (hc : Blk w b t cs)
    (hu : P.underlying ty = some d) (hd : d.isRow = true) (hi : (P.info? ty).map (·.size) = some cs.size)
    (h : wpStill P ops w Q rest (a.put op.dst (.agg cs))) : wpStill P ops w Q (op :: rest) a :=
  wpStill_load_mid hw ty x ho b 0 hx cs.toList d (blkRange hc 0 cs.toList (fun j u hu => by rw [Nat.zero_add]; simpa using hu)) hu hd (by simpa using hi) (by simpa using h)
def thPtr (p : Option Nat) : Value := .pointer (p.map fun b => ⟨b, 0, none⟩)
def thVal (p q : Option Nat) : Value := .agg #[thPtr p, thPtr q]
def thNum (p : Option Nat) : DataW Unit := match p with
  | none => .nil
  | some b => .lit (.int .u64 (b : Int))
def thD (p q : Option Nat) : DataW Unit := .agg [thNum p, thNum q]
theorem thPtr_inj {p q : Option Nat} (h : thPtr p = thPtr q) : p = q := by
  unfold thPtr at h
  cases p <;> cases q <;> simp_all
theorem thVal_inj {p q p' q' : Option Nat} (h : thVal p q = thVal p' q') : p = p' ∧ q = q' := by
  unfold thVal at h
  simp at h
  exact ⟨thPtr_inj h.1, thPtr_inj h.2⟩
theorem thNum_inj {p q : Option Nat} (h : thNum p = thNum q) : p = q := by
  unfold thNum at h
  cases p <;> cases q <;> simp_all
  omega
theorem thD_inj {p q p' q' : Option Nat} (h : thD p q = thD p' q') : p = p' ∧ q = q' := by
  unfold thD at h
  simp at h
  exact ⟨thNum_inj h.1, thNum_inj h.2⟩
open Classical in
noncomputable def thElem (v : Value) : Option (DataW Unit × List MemPlace) :=
  if h : ∃ pq : Option Nat × Option Nat, v = thVal pq.1 pq.2 then some (thD h.choose.1 h.choose.2, []) else none
theorem thElem_mk (p q : Option Nat) : thElem (thVal p q) = some (thD p q, []) := by
  have h : ∃ pq : Option Nat × Option Nat, thVal p q = thVal pq.1 pq.2 := ⟨(p, q), rfl⟩
  unfold thElem
  rw [dif_pos h]
  have := thVal_inj h.choose_spec
  rw [← this.1, ← this.2]
theorem thElem_inv {v : Value} {p q : Option Nat} {ps : List MemPlace} (h : thElem v = some (thD p q, ps)) : v = thVal p q := by
  unfold thElem at h
  split at h
  · rename_i hx
    simp only [Option.some.injEq, Prod.mk.injEq] at h
    have := thD_inj h.1
    rw [hx.choose_spec, this.1, this.2]
  · cases h
theorem keyInt : Keyed Tryz.prog 3 := int_keyed Tryz.underlying3
theorem keyOfInt (h : Int) (h0 : In64 h) : keyOf Tryz.prog 3 (.int .i64 h) = some (.int .i64 h) := keyOf_int_mk Tryz.underlying3 (by
  simp [Lit.wf, IntKind.min, IntKind.max, IntKind.signed, IntKind.bits]
  unfold In64 at h0
  omega)
def AggIs (w : World) (A b n : Nat) (T : Nat → Option Nat × Option Nat) : Prop :=
  Blk w A 77 #[.map (some b), .int .i64 (n : Int)] ∧ ∃ D : DataW Unit, w.ownsMap Tryz.prog 3 thElem b n D ∧ Maps.size D = n ∧
    ∀ h : Int, In64 h → has D (.int .i64 h) = decide (1 ≤ h ∧ h ≤ (n : Int)) ∧ (1 ≤ h ∧ h ≤ (n : Int) → D.atKey (.int .i64 h) (thD none none) = thD (T h.toNat).1 (T h.toNat).2)
theorem AggIs.kept {w w' : World} {A b n : Nat} {T : Nat → Option Nat × Option Nat} (h : AggIs w A b n T) (hb : Below w.heap.size w w') : AggIs w' A b n T := by
  obtain ⟨h1, D, h2, h3⟩ := h
  exact ⟨h1.kept hb, D, h2.kept (row := none) ⟨hb.os, hb.tape, hb.output, hb.size, fun k hk _ => hb.block k hk⟩ (by simp), h3⟩
theorem AggIs.grown {w w' : World} {A b n : Nat} {T : Nat → Option Nat × Option Nat} {row : Option Nat} (h : AggIs w A b n T) (hb : w.grownBy w' row) (hA : some A ≠ row) (hB : some b ≠ row) : AggIs w' A b n T := by
  obtain ⟨h1, D, h2, h3⟩ := h
  exact ⟨h1.grown hb hA, D, h2.kept hb hB, h3⟩
theorem AggIs.lt {w : World} {A b n : Nat} {T : Nat → Option Nat × Option Nat} (h : AggIs w A b n T) : A < w.heap.size ∧ b < w.heap.size := by
  obtain ⟨h1, D, h2, h3⟩ := h
  exact ⟨h1.lt, h2.lt⟩
theorem AggIs.ne {w : World} {A b n : Nat} {T : Nat → Option Nat × Option Nat} (h : AggIs w A b n T) : A ≠ b := by
  obtain ⟨h1, D, ⟨es, clock, h2, -⟩, h3⟩ := h
  intro e
  subst e
  rw [show w.heap[A]? = _ from h1] at h2
  cases h2
def Chg (l : List Nat) (w w' : World) : Prop := w'.os = w.os ∧ w'.tape = w.tape ∧ w'.output = w.output ∧ w.heap.size ≤ w'.heap.size ∧ ∀ k, k < w.heap.size → k ∉ l → w'.heap[k]? = w.heap[k]?
theorem Chg.below {l : List Nat} {w w' : World} (h : Below w.heap.size w w') : Chg l w w' := ⟨h.os, h.tape, h.output, h.size, fun k hk _ => h.block k hk⟩
theorem Chg.gr {w w' : World} {g : Nat} (h : w.grownBy w' (some g)) : Chg [g] w w' := ⟨h.os, h.tape, h.output, h.size, fun k hk hn => h.block k hk (fun e => hn (by rw [Option.some.inj e]; simp))⟩
theorem Chg.mono {l l' : List Nat} {w w' : World} (h : Chg l w w') (hl : ∀ k ∈ l, k ∈ l' ∨ w.heap.size ≤ k) : Chg l' w w' := ⟨h.1, h.2.1, h.2.2.1, h.2.2.2.1, fun k hk hn => h.2.2.2.2 k hk (fun hm => by rcases hl k hm with h1 | h1; exact hn h1; omega)⟩
theorem Chg.trans {l : List Nat} {w w1 w2 : World} (h : Chg l w w1) (k : Chg l w1 w2) : Chg l w w2 :=
  ⟨k.1.trans h.1, k.2.1.trans h.2.1, k.2.2.1.trans h.2.2.1, Nat.le_trans h.2.2.2.1 k.2.2.2.1, fun x hx hn => (k.2.2.2.2 x (Nat.lt_of_lt_of_le hx h.2.2.2.1) hn).trans (h.2.2.2.2 x hx hn)⟩
set_option maxRecDepth 100000 in
set_option maxHeartbeats 2000000 in
theorem aggnew (w : World) : Calls Tryz.prog 13 #[] w fun e w' => ∃ A b, e = .returned (.pointer (some ⟨A, 0, none⟩)) ∧ w.heap.size ≤ A ∧ w.heap.size ≤ b ∧ AggIs w' A b 0 (fun _ => (none, none)) ∧ Below w.heap.size w w' := by
  have hmm := run_makeMap (P := Tryz.prog) 75
  go_enter Tryz.func13, Tryz.ntmps13
  go_wp2_with fail
  go_ret
  refine ⟨w.heap.size + 1, w.heap.size, rfl, by omega, Nat.le_refl _, ⟨?_, .map [], (World.ownsMap_made w _ _ _).alloc _, rfl, fun h _ => ⟨?_, fun h1 => ?_⟩⟩, ((Below.refl _ w).alloc (Nat.le_refl _) _).alloc (by simp) _⟩
  · have := Blk.new (w.alloc (.map #[] 0)) 77 #[.map (some w.heap.size), .int .i64 0]
    simpa using this
  · have e : decide (1 ≤ h ∧ h ≤ ((0 : Nat) : Int)) = false := decide_eq_false (by omega)
    rw [e]
    simp [has]
  · omega
def upT (T : Nat → Option Nat × Option Nat) (n : Nat) (p q : Option Nat) : Nat → Option Nat × Option Nat := fun k => if k = n then (p, q) else T k
theorem keyLitInt (h : Int) (h0 : In64 h) : WideAt.IsKeyLit (.int .i64 h) := keyInt.key (keyOfInt h h0)
theorem AggIs.put {p q : Option Nat} {w' : World} {A b n : Nat} {T : Nat → Option Nat × Option Nat} {D : DataW Unit} (hn : n < 32) (hm : IsMap D) (hs : Maps.size D = n) (hsz : Maps.size (D.put (.int .i64 ((n : Int) + 1)) (thD p q)) = n + 1)
  (hD : ∀ h : Int, In64 h → has D (.int .i64 h) = decide (1 ≤ h ∧ h ≤ (n : Int)) ∧ (1 ≤ h ∧ h ≤ (n : Int) → D.atKey (.int .i64 h) (thD none none) = thD (T h.toNat).1 (T h.toNat).2))
  (hb : Blk w' A 77 #[.map (some b), .int .i64 ((n : Int) + 1)]) (ho : w'.ownsMap Tryz.prog 3 thElem b (n + 1) (D.put (.int .i64 ((n : Int) + 1)) (thD p q))) : AggIs w' A b (n + 1) (upT T (n + 1) p q) := by
 refine ⟨by simpa using hb, _, ho, hsz, fun h h0 => ?_⟩
 have hn1 : In64 ((n : Int) + 1) := by unfold In64; omega
 by_cases e : h = (n : Int) + 1
 ·subst e
  refine ⟨?_, fun _ => ?_⟩
  ·rw [has_put_same hm (keyLitInt _ hn1)]
   exact (decide_eq_true (by omega)).symm
  ·rw [atKey_put_same hm (keyLitInt _ hn1)]
   have e2 : ((n : Int) + 1).toNat = n + 1 := by omega
   rw [e2]
   simp [upT]
 ·have hne : (Lit.int .i64 h) ≠ .int .i64 ((n : Int) + 1) := by simpa using e
  rw [has_put_other hne, atKey_put_other hne]
  obtain ⟨h1, h2⟩ := hD h h0
  refine ⟨?_, fun h3 => ?_⟩
  ·rw [h1]
   have : (1 ≤ h ∧ h ≤ (n : Int)) ↔ (1 ≤ h ∧ h ≤ ((n + 1 : Nat) : Int)) := by omega
   simp only [this]
  ·rw [h2 (by omega)]
   have e2 : h.toNat ≠ n + 1 := by omega
   simp [upT, e2]
theorem zeroTh (w : World) : (zeroValue 84).run Tryz.prog w = .ok (thVal none none) w := by kernel_rfl
set_option maxRecDepth 100000 in
set_option maxHeartbeats 4000000 in
theorem aggmade (w : World) (A b n : Nat) (T : Nat → Option Nat × Option Nat) (p q : Option Nat) (h : AggIs w A b n T) (hn : n < 32) :
  Calls Tryz.prog 47 #[.pointer (some ⟨A, 0, none⟩), thVal p q, .int .i64 0] w fun e w' => e = .returned (.tuple #[.iface 135 (.agg #[.int .i64 ((n : Int) + 1)]), .int .i64 0]) ∧ AggIs w' A b (n + 1) (upT T (n + 1) p q) ∧ Chg [A, b] w w' := by
 obtain ⟨h1, D, h2, h3, h4⟩ := h
 have HD := Lib.hid h4
 have HS := Lib.hid h3
 have HM := Lib.hid h2.isMap
 have HTI := Lib.hid (h2.tidy keyInt)
 have HNE : Hid (A ≠ b) := Lib.hid (AggIs.ne ⟨h1, D, h2, h3, h4⟩)
 have HLT := Lib.hid (And.intro h1.lt h2.lt)
 unfold thVal
 obtain ⟨vp, hvp⟩ : ∃ vp, vp = thPtr p := ⟨_, rfl⟩
 obtain ⟨vq, hvq⟩ : ∃ vq, vq = thPtr q := ⟨_, rfl⟩
 rw [← hvp, ← hvq]
 have HV := Lib.hid (And.intro hvp hvq)
 have hb1 : Below w.heap.size w (w.alloc (.cells #[vp, vq] 84)) := (Below.refl _ w).alloc (Nat.le_refl _) _
 have HX1 := Lib.hid (Blk.new w 84 #[vp, vq])
 have ho := h2.kept (w' := w.alloc (.cells #[vp, vq] 84)) (row := none) (below_gr hb1) (by simp)
 have HO := Lib.hid ho
 have ha := h1.kept hb1
 have HA := Lib.hid ha
 have HB1 := Lib.hid hb1
 have c0 := ha.cell 0
 have c1 := ha.cell 1
 have f1 := ha.frozen 1
 simp at c0 c1
 have hn2 : ¬ ((32 : Int) ≤ (Maps.size D : Int)) := by omega
 clear h1 h2 h3 h4 hb1 ha ho hvp hvq
 go_enter Tryz.func47, Tryz.ntmps47
 go_wp2_with (at_len; refine wpList_len_own _ rfl _ 75 rfl 3 84 Tryz.underlying75 thElem b n D rfl HO.out ?_)
 have hgA : (w.alloc (.cells #[vp, vq] 84)).grownBy ((w.alloc (.cells #[vp, vq] 84)).setCell ⟨A, 1, none⟩ (.int .i64 ((n : Int) + 1))) (some A) := gr_setC (World.grownBy.refl _ _) 1 _
 have hA2 : Blk ((w.alloc (.cells #[vp, vq] 84)).setCell ⟨A, 1, none⟩ (.int .i64 ((n : Int) + 1))) A 77 #[.map (some b), .int .i64 ((n : Int) + 1)] := by simpa using Blk.set_ HA.out 1 (.int .i64 ((n : Int) + 1))
 have hO2 := HO.out.kept hgA (by simp; exact fun e => HNE.out e.symm)
 have hX2 := HX1.out.grown hgA (by have := HLT.out.1; simp; omega)
 have HC2 : Hid (Chg [A, b] w ((w.alloc (.cells #[vp, vq] 84)).setCell ⟨A, 1, none⟩ (.int .i64 ((n : Int) + 1)))) := Lib.hid ((Chg.below HB1.out).trans ((Chg.gr hgA).mono (fun k hk => .inl (by simp at hk; simp [hk]))))
 have HLX : Hid (w.heap.size < ((w.alloc (.cells #[vp, vq] 84)).setCell ⟨A, 1, none⟩ (.int .i64 ((n : Int) + 1))).heap.size) := Lib.hid hX2.lt
 generalize ((w.alloc (.cells #[vp, vq] 84)).setCell ⟨A, 1, none⟩ (.int .i64 ((n : Int) + 1))) = w2 at *
 clear c0 c1 f1 hgA
 refine wp_region_still_tail 9 (by kernel_rfl) (by kernel_rfl) ?_
 simp only [List.take_succ_cons, List.take_zero, List.drop_succ_cons, List.drop_zero]
 have hbd : Below w2.heap.size w2 { heap := w2.heap, tape := w2.tape, drawn := w2.drawn + 1, os := w2.os, output := w2.output } := below_drewN (Below.refl _ _) 1
 have ha3 := hA2.kept hbd
 have hx3 := hX2.kept hbd
 have hO3 := hO2.kept (below_gr (row := none) hbd) (by simp)
 have HC3 := Lib.hid (HC2.out.trans (Chg.below hbd))
 generalize ({ heap := w2.heap, tape := w2.tape, drawn := w2.drawn + 1, os := w2.os, output := w2.output } : World) = w3 at *
 have HA3 := Lib.hid ha3
 have HO3 := Lib.hid hO3
 have c0 := ha3.cell 0
 have c1 := ha3.cell 1
 simp at c0 c1
 clear hA2 hO2 hX2 hbd ha3 hO3
 have hIt : (Tryz.prog.info? 84).map (·.size) = some (#[vp, vq] : Array Value).size := by kernel_rfl
 repeat (first | refine wpStill_load_blk (by rfl) 84 _ rfl w.heap.size rfl #[vp, vq] _ _ hx3 Tryz.underlying84 rfl hIt ?_ | still_step)
 refine wpStill_nil ?_
 have hval : thElem (.agg #[vp, vq]) = some (thD p q, []) := by
  rw [HV.out.1, HV.out.2]; exact thElem_mk p q
 have hk64 : In64 ((n : Int) + 1) := by unfold In64; omega
 have hnm : n < maxLen := by unfold maxLen; omega
 go_frame
 go_wp2_with (at_mapUpdate; go_loud (refine wpList_mapUpdate_own _ rfl _ _ _ 75 rfl 3 84 keyInt Tryz.underlying75 thElem b n D rfl HO3.out hnm _ _ _ rfl rfl (keyOfInt _ hk64) (thD p q) [] hval ?_))
 intro w5 hown5 hgrow5
 have ha5 := HA3.out.grown hgrow5 (by simpa using HNE.out)
 have c1' := ha5.cell 1
 simp at c1'
 have HA5 := Lib.hid ha5
 have HO5 := Lib.hid hown5
 have HC5 := Lib.hid (HC3.out.trans ((Chg.gr hgrow5).mono (fun k hk => .inl (by simp at hk; simp [hk]))))
 clear c0 c1 ha5 hown5 hgrow5
 go_wp2_with fail
 go_ret2
 refine ⟨rfl, AggIs.put hn HM.out HS.out ?_ HD.out HA5.out HO5.out, HC5.out⟩
 rw [size_put HTI.out, (HD.out _ hk64).1, decide_eq_false (by omega), HS.out]
 rfl
end Go.Proofs.YtfeficdndjiijaaGreatDoor


namespace Go.Proofs.YtfeficdndjiijaaGreatDoor
open Go.RowKit
set_option linter.unusedVariables false
set_option linter.unusedSimpArgs false

set_option maxRecDepth 100000 in
set_option maxHeartbeats 4000000 in
theorem line_of (A : Nat) (S : ByteArray) (w : World) (PC : Value → World → Prop) (R1 : Value → World → Prop) (Fin : ByteArray → World → Prop) (hif : ∀ c w, PC c w → ∃ t v, c = .iface t v)
  (hp : Calls Tryz.prog 21 #[.string S] w fun e w' => ∃ c, e = .returned (.tuple #[c, .int .i64 0, .int .i64 0]) ∧ PC c w' ∧ Below w.heap.size w w')
  (hd : ∀ c w1, Below w.heap.size w w1 → PC c w1 → Calls Tryz.prog 24 #[.pointer (some ⟨A, 0, none⟩), c] w1 fun e w' => ∃ r, e = .returned (.tuple #[r, .int .i64 0]) ∧ R1 r w')
  (ht : ∀ r w2, R1 r w2 → Calls Tryz.prog 25 #[r] w2 fun e w' => ∃ s, e = .returned (.string s) ∧ Fin s w') :
  Calls Tryz.prog 8 #[.pointer (some ⟨A, 0, none⟩), .string S] w fun e w' => ∃ s, e = .returned (.tuple #[.string s, .bool true]) ∧ Fin s w' := by
 have HP := Lib.hid hp
 have HD := Lib.hid hd
 have HT := Lib.hid ht
 have HIF := Lib.hid hif
 clear hp hd ht hif
 go_enter Tryz.func8, Tryz.ntmps8
 go_wp2_with fail
 with_reducible refine HP.out.mono ?_
 rintro e w1 ⟨c, rfl, hc, hb⟩
 obtain ⟨t, v, rfl⟩ := HIF.out _ _ hc
 have HD1 := Lib.hid (HD.out _ _ hb hc)
 clear hb hc HD HIF HP
 go_wp2_with fail
 with_reducible refine HD1.out.mono ?_
 rintro e w2 ⟨r, rfl, hr⟩
 have HT1 := Lib.hid (HT.out _ _ hr)
 clear hr HT HD1
 go_wp2_with fail
 with_reducible refine HT1.out.mono ?_
 rintro e w3 ⟨s, rfl, hf⟩
 have HF := Lib.hid hf
 clear hf HT1
 go_wp2_with fail
 go_ret2
 exact ⟨s, rfl, HF.out⟩
end Go.Proofs.YtfeficdndjiijaaGreatDoor


namespace Go.Proofs.YtfeficdndjiijaaGreatDoor
open Go.RowKit
set_option linter.unusedVariables false
set_option linter.unusedSimpArgs false

theorem fmtUintSmall (k : Nat) (hk : k < 100) (w : World) : Calls Tryz.prog 54 #[.int .u64 (k : Int), .int .i64 10] w fun e w' => e = .returned (.string (sB (Lib.decDigits k))) ∧ w = w' := by
  have P := Lib.hid (fun w => Tryz.internal_strconv_small k hk w)
  have hk' : (k : Int) < 100 := by omega
  have hk2 : IntKind.i64.wrap (k : Int) = (k : Int) := wrapI_of _ (by omega) (by omega)
  have P2 : Hid (∀ w, Calls Tryz.prog 101 #[.int .u64 (k : Int), .int .i64 10] w fun e w' => e = .returned (.string (sB (Lib.decDigits k))) ∧ w = w') := Lib.hid (fun w => by
    go_enter Tryz.func101, Tryz.ntmps101
    go_wp2_with fail
    with_reducible refine (P.out _).mono ?_
    rintro e w2 ⟨rfl, hw⟩
    subst hw
    go_wp2_with fail
    go_ret
    exact ⟨rfl, rfl⟩)
  go_enter Tryz.func54, Tryz.ntmps54
  go_wp2_with fail
  with_reducible refine (P2.out _).mono ?_
  rintro e w2 ⟨rfl, hw⟩
  subst hw
  go_wp2_with fail
  go_ret
  exact ⟨rfl, rfl⟩
theorem hd_size (a : List UInt8) (n : Int) (h0 : -9223372036854775808 ≤ n) (h1 : n ≤ 9223372036854775807) (ha : a.length ≤ 100) : ¬ 9223372036854775807 < (sB a).size + (sB (Lib.itoa n)).size := by
  have := itoa_len n h0 h1
  rw [sB_size]
  omega
theorem taDoneDone (w : World) : (Instr.typeAssert (.iface 133 (.agg #[])) 68 133 true).run Tryz.prog w = .ok (.tuple #[.agg #[], .bool true]) w := by kernel_rfl
theorem taHandleDone (n : Int) (w : World) : (Instr.typeAssert (.iface 135 (.agg #[.int .i64 n])) 68 133 true).run Tryz.prog w = .ok (.tuple #[.agg #[], .bool false]) w := by kernel_rfl
theorem taHandleHandle (n : Int) (w : World) : (Instr.typeAssert (.iface 135 (.agg #[.int .i64 n])) 68 135 true).run Tryz.prog w = .ok (.tuple #[.agg #[.int .i64 n], .bool true]) w := by kernel_rfl
theorem taNumberDone (n : Int) (w : World) : (Instr.typeAssert (.iface 137 (.agg #[.int .i64 n])) 68 133 true).run Tryz.prog w = .ok (.tuple #[.agg #[], .bool false]) w := by kernel_rfl
theorem taNumberHandle (n : Int) (w : World) : (Instr.typeAssert (.iface 137 (.agg #[.int .i64 n])) 68 135 true).run Tryz.prog w = .ok (.tuple #[.agg #[.int .i64 0], .bool false]) w := by kernel_rfl
theorem taNumberNumber (n : Int) (w : World) : (Instr.typeAssert (.iface 137 (.agg #[.int .i64 n])) 68 137 true).run Tryz.prog w = .ok (.tuple #[.agg #[.int .i64 n], .bool true]) w := by kernel_rfl
theorem taKeyDone (n : Int) (w : World) : (Instr.typeAssert (.iface 140 (.agg #[.int .u64 n])) 68 133 true).run Tryz.prog w = .ok (.tuple #[.agg #[], .bool false]) w := by kernel_rfl
theorem taKeyHandle (n : Int) (w : World) : (Instr.typeAssert (.iface 140 (.agg #[.int .u64 n])) 68 135 true).run Tryz.prog w = .ok (.tuple #[.agg #[.int .i64 0], .bool false]) w := by kernel_rfl
theorem taKeyNumber (n : Int) (w : World) : (Instr.typeAssert (.iface 140 (.agg #[.int .u64 n])) 68 137 true).run Tryz.prog w = .ok (.tuple #[.agg #[.int .i64 0], .bool false]) w := by kernel_rfl
theorem taKeyKey (n : Int) (w : World) : (Instr.typeAssert (.iface 140 (.agg #[.int .u64 n])) 68 140 true).run Tryz.prog w = .ok (.tuple #[.agg #[.int .u64 n], .bool true]) w := by kernel_rfl
set_option maxRecDepth 100000 in
set_option maxHeartbeats 4000000 in
theorem text_done (w : World) : Calls Tryz.prog 25 #[.iface 133 (.agg #[])] w fun e w' => e = .returned (.string (sB [100, 111, 110, 101])) ∧ Below w.heap.size w w' := by
  have t1 := taDoneDone
  go_enter Tryz.func25, Tryz.ntmps25
  go_wp2_with fail
  go_ret
  exact ⟨rfl, ((Below.refl _ w).alloc (Nat.le_refl _) _).alloc (by simp) _⟩
set_option maxRecDepth 100000 in
set_option maxHeartbeats 4000000 in
theorem text_handle (n : Int) (h0 : -9223372036854775808 ≤ n) (h1 : n ≤ 9223372036854775807) (w : World) (ht : Tab w) : Calls Tryz.prog 25 #[.iface 135 (.agg #[.int .i64 n])] w fun e w' => e = .returned (.string (sB ([104, 97, 110, 100, 108, 101, 32] ++ Lib.itoa n))) ∧ Below w.heap.size w w' := by
 have P := Lib.hid (fun w ht => itoaAny n h0 h1 w ht)
 have HT := Lib.hid ht
 have hsz := hd_size [104, 97, 110, 100, 108, 101, 32] n h0 h1 (by decide)
 have HAP := Lib.hid (sB_append [104, 97, 110, 100, 108, 101, 32] (Lib.itoa n))
 have HB : Hid (Below w.heap.size w ((w.alloc (.cells #[.pointer none, .slice none 0 0] 132)).alloc (.cells #[.int .i64 n] 135))) := Lib.hid (((Below.refl _ w).alloc (Nat.le_refl _) _).alloc (by simp) _)
 have t0 := taHandleDone n
 have t1 := taHandleHandle n
 clear ht h0 h1
 obtain ⟨S, hS⟩ : ∃ S, S = sB (Lib.itoa n) := ⟨_, rfl⟩
 rw [← hS] at P hsz HAP
 obtain ⟨H, hH⟩ : ∃ H, H = sB [104, 97, 110, 100, 108, 101, 32] := ⟨_, rfl⟩
 have HH := Lib.hid hH
 have hsz' : ¬ 9223372036854775807 < 7 + S.size := by rw [sB_size] at hsz; exact hsz
 clear hS hH
 go_enter Tryz.func25, Tryz.ntmps25
 go_wp2_with fail
 with_reducible refine (P.out _ (HT.out.kept HB.out)).mono ?_
 rintro e w2 ⟨rfl, hb⟩
 have HB2 := Lib.hid (btr HB.out hb)
 clear hb
 go_wp2_with fail
 go_ret
 exact ⟨congrArg (fun s => Ending.returned (Value.string s)) HAP.out, HB2.out⟩
set_option maxRecDepth 100000 in
set_option maxHeartbeats 4000000 in
theorem text_number (n : Int) (h0 : -9223372036854775808 ≤ n) (h1 : n ≤ 9223372036854775807) (w : World) (ht : Tab w) : Calls Tryz.prog 25 #[.iface 137 (.agg #[.int .i64 n])] w fun e w' => e = .returned (.string (sB ([110, 117, 109, 98, 101, 114, 32] ++ Lib.itoa n))) ∧ Below w.heap.size w w' := by
 have P := Lib.hid (fun w ht => fmtInt n h0 h1 w ht)
 have HT := Lib.hid ht
 have hsz := hd_size [110, 117, 109, 98, 101, 114, 32] n h0 h1 (by decide)
 have HAP := Lib.hid (sB_append [110, 117, 109, 98, 101, 114, 32] (Lib.itoa n))
 have HB : Hid (Below w.heap.size w ((w.alloc (.cells #[.pointer none, .slice none 0 0] 132)).alloc (.cells #[.int .i64 n] 137))) := Lib.hid (((Below.refl _ w).alloc (Nat.le_refl _) _).alloc (by simp) _)
 have t0 := taNumberDone n
 have t1 := taNumberHandle n
 have t2 := taNumberNumber n
 clear ht h0 h1
 obtain ⟨S, hS⟩ : ∃ S, S = sB (Lib.itoa n) := ⟨_, rfl⟩
 rw [← hS] at P hsz HAP
 obtain ⟨H, hH⟩ : ∃ H, H = sB [110, 117, 109, 98, 101, 114, 32] := ⟨_, rfl⟩
 have HH := Lib.hid hH
 have hsz' : ¬ 9223372036854775807 < 7 + S.size := by rw [sB_size] at hsz; exact hsz
 clear hS hH
 go_enter Tryz.func25, Tryz.ntmps25
 go_wp2_with fail
 with_reducible refine (P.out _ (HT.out.kept HB.out)).mono ?_
 rintro e w2 ⟨rfl, hb⟩
 have HB2 := Lib.hid (btr HB.out hb)
 clear hb
 go_wp2_with fail
 go_ret
 exact ⟨congrArg (fun s => Ending.returned (Value.string s)) HAP.out, HB2.out⟩
set_option maxRecDepth 100000 in
set_option maxHeartbeats 4000000 in
theorem text_key (k : Nat) (hk : k < 100) (w : World) : Calls Tryz.prog 25 #[.iface 140 (.agg #[.int .u64 (k : Int)])] w fun e w' => e = .returned (.string (sB ([107, 101, 121, 32] ++ Lib.decDigits k))) ∧ Below w.heap.size w w' := by
  have P := Lib.hid (fun w => fmtUintSmall k hk w)
  have hsz : ¬ 9223372036854775807 < 4 + (sB (Lib.decDigits k)).size := by
    rw [sB_size]; have := dec_len k (by omega); omega
  have HAP := Lib.hid (sB_append [107, 101, 121, 32] (Lib.decDigits k))
  have t0 := taKeyDone (k : Int)
  have t1 := taKeyHandle (k : Int)
  have t2 := taKeyNumber (k : Int)
  have t3 := taKeyKey (k : Int)
  clear hk
  generalize sB (Lib.decDigits k) = S at *
  go_enter Tryz.func25, Tryz.ntmps25
  go_wp2_with fail
  with_reducible refine (P.out _).mono ?_
  rintro e w2 ⟨rfl, hw⟩
  subst hw
  go_wp2_with fail
  go_ret
  exact ⟨congrArg (fun s => Ending.returned (Value.string s)) HAP.out, ((Below.refl _ w).alloc (Nat.le_refl _) _).alloc (by simp) _⟩
end Go.Proofs.YtfeficdndjiijaaGreatDoor


namespace Go.Proofs.YtfeficdndjiijaaGreatDoor
open Go.RowKit Go.Maps
set_option linter.unusedVariables false
set_option linter.unusedSimpArgs false

theorem AggIs.look {w : World} {A b n : Nat} {T : Nat → Option Nat × Option Nat} (h : AggIs w A b n T) (k : Int) (h1 : 1 ≤ k) (h2 : k ≤ (n : Int)) (hn : n ≤ 100) :
    (Instr.lookup 75 (.map (some b)) (.int .i64 k) true).run Tryz.prog w = .ok (.tuple #[thVal (T k.toNat).1 (T k.toNat).2, .bool true]) w := by
  obtain ⟨-, D, ho, -, hD⟩ := h
  have hk : In64 k := by unfold In64; omega
  obtain ⟨v, ps, hrun, hv⟩ := ho.look_ok keyInt Tryz.underlying75 (zeroTh w) (thElem_mk none none) (keyOfInt k hk)
  obtain ⟨h3, h4⟩ := hD k hk
  rw [hrun, h3, decide_eq_true ⟨h1, h2⟩]
  rw [h4 ⟨h1, h2⟩] at hv
  rw [thElem_inv hv]
theorem done_ok (w : World) : Calls Tryz.prog 85 #[.int .i64 0] w fun e w' => e = .returned (.tuple #[.iface 133 (.agg #[]), .int .i64 0]) ∧ w = w' := by
  go_enter Tryz.func85, Tryz.ntmps85
  go_wp2_with fail
  go_ret2
  exact ⟨rfl, rfl⟩
theorem num_ok (n : Int) (w : World) : Calls Tryz.prog 93 #[.int .i64 n, .int .i64 0] w fun e w' => e = .returned (.tuple #[.iface 137 (.agg #[.int .i64 n]), .int .i64 0]) ∧ w = w' := by
  go_enter Tryz.func93, Tryz.ntmps93
  go_wp2_with fail
  go_ret2
  exact ⟨rfl, rfl⟩
theorem thstack (S : Nat) (w : World) : Calls Tryz.prog 90 #[.agg #[.pointer (some ⟨S, 0, none⟩), .pointer none]] w fun e w' => e = .returned (.pointer (some ⟨S, 0, none⟩)) ∧ Below w.heap.size w w' := by
  go_enter Tryz.func90, Tryz.ntmps90
  go_wp2_with fail
  go_ret
  exact ⟨rfl, (Below.refl _ w).alloc (Nat.le_refl _) _⟩
theorem thstackP (S : Nat) (w : World) : Calls Tryz.prog 90 #[.agg #[thPtr (some S), thPtr none]] w fun e w' => e = .returned (.pointer (some ⟨S, 0, none⟩)) ∧ Below w.heap.size w w' := thstack S w
theorem freshOf {B : Nat} {w w1 : World} {cs : Array Value} {t : TypeId} (h : Below B w (w1.alloc (.cells cs t))) : Blk (w1.alloc (.cells cs t)) w1.heap.size t cs := Blk.new w1 t cs
theorem freshDrew {B : Nat} {w w1 : World} {cs : Array Value} {t : TypeId} (h : Below B w (w1.alloc (.cells cs t)).drew) : Blk (w1.alloc (.cells cs t)).drew w1.heap.size t cs := Blk.new w1 t cs
theorem blkRowNew {w : World} {g : Nat} {t : TypeId} {cs cs' : Array Value} (h : Blk w g t cs) : Blk (w.setRow g cs') g t cs' := setRow_heap w g cs cs' t (0, 0) h
set_option maxRecDepth 100000 in
set_option maxHeartbeats 4000000 in
theorem aggadd (w : World) (A b n : Nat) (T : Nat → Option Nat × Option Nat) (h key d : Int) (S : Nat) (hA : AggIs w A b n T) (h1 : 1 ≤ h) (h2 : h ≤ (n : Int)) (hn : n ≤ 100) (hT : T h.toNat = (some S, none)) (U : World → World → Prop)
  (hU : ∀ w1, Below w.heap.size w w1 → Calls Tryz.prog 87 #[.pointer (some ⟨S, 0, none⟩), .int .u64 key, .int .i64 d] w1 fun e w' => e = .returned (.int .i64 0) ∧ U w1 w') :
  Calls Tryz.prog 49 #[.pointer (some ⟨A, 0, none⟩), .agg #[.int .i64 h, .bool false, .string ⟨#[]⟩, .int .u64 key, .int .i64 d]] w fun e w' => e = .returned (.tuple #[.iface 133 (.agg #[]), .int .i64 0]) ∧ ∃ w1, Below w.heap.size w w1 ∧ U w1 w' := by
 have HA := Lib.hid hA
 have HH := Lib.hid (And.intro h1 (And.intro h2 hn))
 have HT := Lib.hid hT
 have HU := Lib.hid hU
 have PD := Lib.hid done_ok
 have hb1 : Below w.heap.size w (w.alloc (.cells #[.int .i64 h, .bool false, .string ⟨#[]⟩, .int .u64 key, .int .i64 d] 117)) := (Below.refl _ w).alloc (Nat.le_refl _) _
 have HX1 := Lib.hid (Blk.new w 117 #[.int .i64 h, .bool false, .string ⟨#[]⟩, .int .u64 key, .int .i64 d])
 have HA1 := Lib.hid (hA.kept hb1)
 have HB1 := Lib.hid hb1
 clear hA h1 h2 hn hT hU hb1
 go_enter Tryz.func49, Tryz.ntmps49
 go_wp2_with fail
 generalize (w.alloc (.cells #[.int .i64 h, .bool false, .string ⟨#[]⟩, .int .u64 key, .int .i64 d] 117)) = w1 at *
 generalize hX : w.heap.size = X at *
 have HXX := Lib.hid hX
 clear hX
 have HXW : Hid (X ≤ w1.heap.size) := Lib.hid (Nat.le_of_lt HX1.out.lt)
 refine wp_region_held_drew (S := fun w' => Below w1.heap.size w1 w') (by kernel_rfl) (by exact below_drewN (Below.refl _ _) 1) (fun hHeld => ?_)
 refine tkH (i := 0) (v := ?_) rfl (by kernel_rfl) (fun _ _ _ h => h) (Or.inl ⟨by rfl, ?_⟩) (by assumption) ?_
 rotate_left
 ·intro w hSw
  try dsimp only at hSw
  go_simp
  try with_reducible rfl
 simp only [Act.put, z1, z2, z3, z4, z5, z6]
 refine tkH (i := 1) (v := ?_) rfl (by kernel_rfl) (fun _ _ _ h => h) (Or.inl ⟨by rfl, ?_⟩) (by assumption) ?_
 rotate_left
 ·intro w hSw
  try dsimp only at hSw
  go_simp
  try with_reducible rfl
 simp only [Act.put, z1, z2, z3, z4, z5, z6]
 refine tkH (i := 2) (v := ?_) rfl (by kernel_rfl) (fun _ _ _ h => h) (Or.inl ⟨by rfl, ?_⟩) (by assumption) ?_
 rotate_left
 ·intro w hSw
  try dsimp only at hSw
  go_simp
  try with_reducible rfl
 simp only [Act.put, z1, z2, z3, z4, z5, z6]
 refine tkH (i := 3) (v := ?_) rfl (by kernel_rfl) (fun _ _ _ h => h) (Or.inl ⟨by rfl, ?_⟩) (by assumption) ?_
 rotate_left
 ·intro w hSw
  have q0 := (HA1.out.kept hSw).1.cell 0
  have q1 := (HX1.out.kept hSw).cell 0
  have hlk := (HA1.out.kept hSw).look h HH.out.1 HH.out.2.1 HH.out.2.2
  rw [HT.out] at hlk
  simp at q0 q1
  go_simp
  try with_reducible rfl
 simp only [Act.put, z1, z2, z3, z4, z5, z6]
 refine tkH (i := 4) (v := ?_) rfl (by kernel_rfl) (fun _ _ _ h => h) (Or.inl ⟨by rfl, ?_⟩) (by assumption) ?_
 rotate_left
 ·intro w hSw
  try dsimp only at hSw
  go_simp
  try with_reducible rfl
 simp only [Act.put, z1, z2, z3, z4, z5, z6]
 refine tkH (i := 5) (v := ?_) rfl (by kernel_rfl) (fun _ _ _ h => h) (Or.inl ⟨by rfl, ?_⟩) (by assumption) ?_
 rotate_left
 ·intro w hSw
  have q0 := (HA1.out.kept hSw).1.cell 0
  have q1 := (HX1.out.kept hSw).cell 0
  have hlk := (HA1.out.kept hSw).look h HH.out.1 HH.out.2.1 HH.out.2.2
  rw [HT.out] at hlk
  simp at q0 q1
  go_simp
  try with_reducible rfl
 simp only [Act.put, z1, z2, z3, z4, z5, z6]
 refine tkH (i := 6) (v := ?_) rfl (by kernel_rfl) (fun _ _ _ h => h) (Or.inl ⟨by rfl, ?_⟩) (by assumption) ?_
 rotate_left
 ·intro w hSw
  have q0 := (HA1.out.kept hSw).1.cell 0
  have q1 := (HX1.out.kept hSw).cell 0
  have hlk := (HA1.out.kept hSw).look h HH.out.1 HH.out.2.1 HH.out.2.2
  rw [HT.out] at hlk
  simp at q0 q1
  go_simp
  try with_reducible rfl
 simp only [Act.put, z1, z2, z3, z4, z5, z6]
 refine tkH (i := 7) (v := ?_) rfl (by kernel_rfl) (fun _ _ _ h => h) (Or.inl ⟨by rfl, ?_⟩) (by assumption) ?_
 rotate_left
 ·intro w hSw
  try dsimp only at hSw
  go_simp
  try with_reducible rfl
 simp only [Act.put, z1, z2, z3, z4, z5, z6]
 refine tkH (i := 8) (v := ?_) rfl (by kernel_rfl) (fun _ _ _ h => h) (Or.inl ⟨by rfl, ?_⟩) (by assumption) ?_
 rotate_left
 ·intro w hSw
  try dsimp only at hSw
  go_simp
  try with_reducible rfl
 simp only [Act.put, z1, z2, z3, z4, z5, z6]
 refine tkH (i := 9) (v := ?_) rfl (by kernel_rfl) (fun _ _ _ h => h) (Or.inl ⟨by rfl, ?_⟩) (by assumption) ?_
 rotate_left
 ·intro w hSw
  try dsimp only at hSw
  go_simp
  try with_reducible rfl
 simp only [Act.put, z1, z2, z3, z4, z5, z6]
 refine wpAnyH_ready (rs := [10]) (by kernel_rfl) (by simp) ?_
 refine AllReadyH.cons rfl (fun Kc hKc => ?_) AllReadyH.nil
 go_simp
 have hPrev := Lib.hid hHeld.size
 refine hKc.out _ _ ?_ (fun hHeld => ?_)
 ·first | assumption | exact hHeld | exact hHeld.alloc hHeld.size _ | exact below_setRow hHeld hPrev.out _
 clear hKc Kc
 first | have HAQ := Lib.hid (freshOf hHeld) | have HAQ := Lib.hid (freshDrew hHeld)
 refine wpAnyH_ready (rs := [11]) (by kernel_rfl) (by simp) ?_
 refine AllReadyH.cons rfl (fun Kc hKc => ?_) AllReadyH.nil
 have HAR := Lib.hid (blkRowNew (cs' := #[thPtr (some S), thPtr none]) HAQ.out); refine wp_store_row 84 _ _ rfl _ #[thPtr (some S), thPtr none] rfl (by rfl) 84 _ HAQ.out (by kernel_rfl) rfl (by simp [Value.oneCell', thPtr]) ?_
 refine hKc.out _ _ ?_ (fun hHeld => ?_)
 ·first | assumption | exact hHeld | exact hHeld.alloc hHeld.size _ | exact below_setRow hHeld hPrev.out _
 clear hKc Kc
 refine tkH (i := 12) (v := ?_) rfl (by kernel_rfl) (fun _ _ _ h => h) (Or.inl ⟨by rfl, ?_⟩) (by assumption) ?_
 rotate_left
 ·intro w hSw
  try dsimp only at hSw
  go_simp
  try with_reducible rfl
 simp only [Act.put, z1, z2, z3, z4, z5, z6]
 refine wpAnyH_done (by kernel_rfl) ?_ _
 generalize ((w1.alloc (.cells #[.pointer none, .pointer none] 84)).drew.setRow w1.heap.size #[thPtr (some S), thPtr none]) = wz at *
 have hx := HX1.out.kept hHeld
 have t0 := HAR.out.cell 0
 have t1 := HAR.out.cell 1
 have x2 := hx.cell 3
 have x3 := hx.cell 4
 have x1 := hx.cell 1
 simp [thPtr] at t0 t1 x1 x2 x3
 have HB9 : Hid (Below X w wz) := Lib.hid (HB1.out.trans (hHeld.mono HXW.out))
 have HU9 := Lib.hid (HU.out _ HB9.out)
 clear hHeld hx HAR HAQ
 go_wp2_with fail
 with_reducible refine HU9.out.mono ?_
 rintro e w9 ⟨rfl, hu⟩
 have HUU := Lib.hid hu
 clear hu HU HU9 t0 t1 x1 x2 x3
 go_wp2_with fail
 with_reducible refine (PD.out _).mono ?_
 rintro e w10 ⟨rfl, hw⟩
 subst hw
 go_wp2_with fail
 go_ret2
 exact ⟨rfl, wz, by rw [HXX.out]; exact HB9.out, HUU.out⟩
end Go.Proofs.YtfeficdndjiijaaGreatDoor


namespace Go.Proofs.YtfeficdndjiijaaGreatDoor
open Go.RowKit
set_option linter.unusedVariables false
set_option linter.unusedSimpArgs false

theorem taExEx (a : Addr) (w : World) : (Instr.typeAssert (.iface 232 (.pointer (some a))) 174 232 true).run Tryz.prog w = .ok (.tuple #[.pointer (some a), .bool true]) w := by kernel_rfl
theorem taExSk (a : Addr) (w : World) : (Instr.typeAssert (.iface 232 (.pointer (some a))) 174 235 true).run Tryz.prog w = .ok (.tuple #[.pointer none, .bool false]) w := by kernel_rfl
theorem taSkSk (a : Addr) (w : World) : (Instr.typeAssert (.iface 235 (.pointer (some a))) 174 235 true).run Tryz.prog w = .ok (.tuple #[.pointer (some a), .bool true]) w := by kernel_rfl
theorem taSkEx (a : Addr) (w : World) : (Instr.typeAssert (.iface 235 (.pointer (some a))) 174 232 true).run Tryz.prog w = .ok (.tuple #[.pointer none, .bool false]) w := by kernel_rfl
theorem taSkMust (a : Addr) (w : World) : (Instr.typeAssert (.iface 235 (.pointer (some a))) 174 235 false).run Tryz.prog w = .ok (.pointer (some a)) w := by kernel_rfl
theorem asSk_sk (a : Addr) (w : World) : Calls Tryz.prog 216 #[.iface 235 (.pointer (some a))] w fun e w' => e = .returned (.tuple #[.pointer (some a), .bool true]) ∧ w = w' := by
  have t0 := taSkSk a
  go_enter Tryz.func216, Tryz.ntmps216
  go_wp2_with fail
  go_ret2
  exact ⟨rfl, rfl⟩
theorem asSk_ex (a : Addr) (w : World) : Calls Tryz.prog 216 #[.iface 232 (.pointer (some a))] w fun e w' => e = .returned (.tuple #[.pointer none, .bool false]) ∧ w = w' := by
  have t0 := taExSk a
  go_enter Tryz.func216, Tryz.ntmps216
  go_wp2_with fail
  go_ret2
  exact ⟨rfl, rfl⟩
theorem mustSk (a : Addr) (w : World) : Calls Tryz.prog 217 #[.iface 235 (.pointer (some a))] w fun e w' => e = .returned (.pointer (some a)) ∧ w = w' := by
  have t0 := taSkMust a
  go_enter Tryz.func217, Tryz.ntmps217
  go_wp2_with fail
  go_ret
  exact ⟨rfl, rfl⟩
theorem sketches_ex (x : Value) (a : Addr) (w : World) : Calls Tryz.prog 183 #[x, .iface 232 (.pointer (some a))] w fun e w' => e = .returned (.tuple #[.pointer none, .pointer none, .bool false]) ∧ w = w' := by
  have P := Lib.hid (asSk_ex a)
  go_enter Tryz.func183, Tryz.ntmps183
  go_wp2_with fail
  with_reducible refine (P.out _).mono ?_
  rintro e w1 ⟨rfl, hw⟩
  subst hw
  go_wp2_with fail
  refine bodyPost_ret (results_tmp3 rfl _ _ _) rfl ?_
  exact ⟨rfl, rfl⟩
theorem sketches_sk (a b : Addr) (w : World) : Calls Tryz.prog 183 #[.iface 235 (.pointer (some a)), .iface 235 (.pointer (some b))] w fun e w' => e = .returned (.tuple #[.pointer (some a), .pointer (some b), .bool true]) ∧ w = w' := by
  have P := Lib.hid asSk_sk
  have PM := Lib.hid mustSk
  go_enter Tryz.func183, Tryz.ntmps183
  go_wp2_with fail
  with_reducible refine (P.out _ _).mono ?_
  rintro e w1 ⟨rfl, hw⟩
  subst hw
  go_wp2_with fail
  with_reducible refine (P.out _ _).mono ?_
  rintro e w1 ⟨rfl, hw⟩
  subst hw
  go_wp2_with fail
  with_reducible refine (PM.out _ _).mono ?_
  rintro e w1 ⟨rfl, hw⟩
  subst hw
  go_wp2_with fail
  refine bodyPost_ret (results_tmp3 rfl _ _ _) rfl ?_
  exact ⟨rfl, rfl⟩
theorem arrays_ex (a b : Addr) (w : World) : Calls Tryz.prog 185 #[.iface 232 (.pointer (some a)), .iface 232 (.pointer (some b))] w fun e w' => e = .returned (.tuple #[.pointer (some a), .pointer (some b), .bool true]) ∧ w = w' := by
  have t0 := taExEx a
  have t1 := taExEx b
  go_enter Tryz.func185, Tryz.ntmps185
  go_wp2_with fail
  refine bodyPost_ret (results_tmp3 rfl _ _ _) rfl ?_
  exact ⟨rfl, rfl⟩
theorem alike_yes (w : World) (S1 S2 : Nat) (b r d m s : Int) (h1 : ∀ wq, Below w.heap.size w wq → Calls Tryz.prog 84 #[.pointer (some ⟨S1, 0, none⟩)] wq fun e w' => e = .returned (.agg #[.int .i64 b, .int .i64 r, .int .i64 d, .int .i64 m, .int .u64 s]) ∧ Below wq.heap.size wq w')
  (h2 : ∀ wq, Below w.heap.size w wq → Calls Tryz.prog 84 #[.pointer (some ⟨S2, 0, none⟩)] wq fun e w' => e = .returned (.agg #[.int .i64 b, .int .i64 r, .int .i64 d, .int .i64 m, .int .u64 s]) ∧ Below wq.heap.size wq w') :
  Calls Tryz.prog 139 #[.pointer (some ⟨S1, 0, none⟩), .pointer (some ⟨S2, 0, none⟩)] w fun e w' => e = .returned (.bool true) ∧ Below w.heap.size w w' := by
 have hgd : Tryz.prog.eqGuardType Tryz.prog.depth 24 = false := by kernel_rfl
 have EQ := eqCfg b r d m s b r d m s
 have hq : cfgEq b r d m s b r d m s = true := by simp [cfgEq]
 rw [hq] at EQ
 have P1 := Lib.hid h1
 have P2 := Lib.hid h2
 clear h1 h2 hq
 go_enter Tryz.func139, Tryz.ntmps139
 go_wp2_with fail
 with_reducible refine (P1.out _ (Below.refl _ _)).mono ?_
 rintro e w1 ⟨rfl, hb1⟩
 have HB1 := Lib.hid hb1
 clear hb1
 go_wp2_with fail
 with_reducible refine (P2.out _ HB1.out).mono ?_
 rintro e w2 ⟨rfl, hb2⟩
 have HB2 := Lib.hid (btr HB1.out hb2)
 clear hb2
 go_wp2_with fail
 go_ret
 exact ⟨rfl, HB2.out⟩
set_option maxRecDepth 100000 in
set_option maxHeartbeats 4000000 in
theorem times_small (a b : Nat) (ha : a ≤ 1000000) (hb : b ≤ 1000000) (w : World) :
  Calls Tryz.prog 222 #[.int .i64 (a : Int), .int .i64 (b : Int)] w fun e w' => e = .returned (.agg #[.int .i64 0, .int .u64 ((a * b : Nat) : Int)]) ∧ Below w.heap.size w w' := by
 have hab : a * b ≤ 1000000 * 1000000 := Nat.mul_le_mul ha hb
 have PM := Lib.hid (fun w => Tryz.bits_Mul64 a b (by omega) (by omega) w)
 have e1 : a * b / 18446744073709551616 = 0 := Nat.div_eq_of_lt (by omega)
 have e2 : a * b % 18446744073709551616 = a * b := Nat.mod_eq_of_lt (by omega)
 rw [e1, e2] at PM
 have u1 : IntKind.u64.wrap (a : Int) = (a : Int) := by rw [wrapU_eq]; omega
 have u2 : IntKind.u64.wrap (b : Int) = (b : Int) := by rw [wrapU_eq]; omega
 have n1 : ¬ ((a : Int) < 0) := by omega
 have n2 : ¬ ((b : Int) < 0) := by omega
 obtain ⟨p, hp⟩ : ∃ p : Int, p = ((a * b : Nat) : Int) := ⟨_, rfl⟩
 rw [← hp] at PM ⊢
 clear hab e1 e2 hp
 go_enter Tryz.func222, Tryz.ntmps222
 go_wp2_with fail
 with_reducible refine (PM.out _).mono ?_
 rintro e w1 ⟨rfl, hw⟩
 subst hw
 go_wp2_with fail
 refine bodyPost_ret (results_cell_row rfl _ _ w.heap.size 143 _ (0, 0) _ rfl (Blk.new w _ _) Tryz.underlying143 rfl (by kernel_rfl)) rfl ?_
 exact ⟨rfl, (Below.refl _ w).alloc (Nat.le_refl _) _⟩
theorem results_row_tmp {P : Program} {fn : Func} {p q : Tmp} {ty : TypeId} (h : fn.results = #[.cell q ty, .tmp p]) (tmps : Array Value) (w : World) (g : Nat) (t : TypeId) (cs : Array Value) (fr : Nat × Nat) (d : TypeDesc)
    (hq : tmps.getD q undef = .pointer (some ⟨g, 0, none⟩)) (hg : w.heap[g]? = some (.cells cs t fr))
    (hu : P.underlying ty = some d) (hd : (match d with | .struct _ | .array _ _ => true | _ => false) = true) (hi : (P.info? ty).map (·.size) = some cs.size) :
    (results fn tmps).run P w = .ok (.tuple #[.agg cs, tmps.getD p undef]) w := by
  have hq' : tmps[q]?.getD undef = .pointer (some ⟨g, 0, none⟩) := by simpa using hq
  simp [results, h, hq', asAddr, run_loadVar_row w g t ty cs fr d hg hu hd hi]
def dotN (zs hs : List Int) : Nat → Nat
  | 0 => 0
  | j + 1 => dotN zs hs j + (cellD zs j).toNat * (cellD hs j).toNat
theorem dotN_le (zs hs : List Int) (hz : ∀ j, (cellD zs j).toNat ≤ 1000000) (hh : ∀ j, (cellD hs j).toNat ≤ 1000000) : ∀ j, dotN zs hs j ≤ j * 1000000000000
  | 0 => Nat.zero_le _
  | j + 1 => by
    have h1 := dotN_le zs hs hz hh j
    have h2 := Nat.mul_le_mul (hz j) (hh j)
    rw [dotN]
    omega
set_option maxRecDepth 100000 in
set_option maxHeartbeats 8000000 in
theorem dot_small (w : World) (C D ca cb n : Nat) (zs hs : List Int) (hn : n ≤ 2000) (hlz : zs.length = n) (hlh : hs.length = n) (hz : ∀ x ∈ zs, 0 ≤ x ∧ x ≤ 1000000) (hh : ∀ x ∈ hs, 0 ≤ x ∧ x ≤ 1000000)
  (hC : ∀ i u, zs[i]? = some u → w.cell? ⟨C, i, none⟩ = some (.int .i64 u)) (hD : ∀ i u, hs[i]? = some u → w.cell? ⟨D, i, none⟩ = some (.int .i64 u)) (lC : C < w.heap.size) (lD : D < w.heap.size) :
  Calls Tryz.prog 188 #[.slice (some ⟨C, 0, none⟩) n ca, .slice (some ⟨D, 0, none⟩) n cb] w fun e w' => e = .returned (.tuple #[.agg #[.int .i64 0, .int .u64 ((dotN zs hs n : Nat) : Int)], .bool true]) ∧ Below w.heap.size w w' := by
 have bd : ∀ (l : List Int), (∀ x ∈ l, 0 ≤ x ∧ x ≤ 1000000) → ∀ j, (cellD l j).toNat ≤ 1000000 := fun l hl j => by
  unfold cellD
  cases hx : l[j]? with
  | none => simp
  | some x => have := hl x (List.mem_of_getElem? hx); simp; omega
 have HDN := Lib.hid (dotN_le zs hs (bd zs hz) (bd hs hh))
 have HC := Lib.hid hC
 have HD := Lib.hid hD
 have HLZ := Lib.hid hlz
 have HLH := Lib.hid hlh
 have HZ := Lib.hid hz
 have HH := Lib.hid hh
 have HL := Lib.hid (And.intro lC lD)
 clear hC hD hlz hlh hz hh lC lD bd
 go_enter Tryz.func188, Tryz.ntmps188
 go_wp2_with fail
 obtain ⟨ga, gb, gc, gd⟩ := news2 w (.cells #[.int .i64 0, .int .u64 0] 143) (.cells #[.int .i64 0, .int .u64 0] 143)
 have HGA : Hid (Blk _ w.heap.size 143 #[.int .i64 0, .int .u64 0]) := Lib.hid ga
 have HGB : Hid (Blk _ (w.heap.size + 1) 143 #[.int .i64 0, .int .u64 0]) := Lib.hid gb
 have HB1 := Lib.hid gc
 clear ga gb gc gd
 generalize ((w.alloc (.cells #[.int .i64 0, .int .u64 0] 143)).alloc (.cells #[.int .i64 0, .int .u64 0] 143)) = w1 at *
 go_loopw [19] (fun i wr => ∃ j : Nat, j ≤ n ∧ i = .int .i64 (j : Int) ∧ Blk wr (w.heap.size + 1) 143 #[.int .i64 0, .int .u64 ((dotN zs hs j : Nat) : Int)] ∧ (∃ cs, Blk wr w.heap.size 143 cs ∧ cs.size = 2) ∧ Below w.heap.size w wr) (fun i _ => n - (intOf i).toNat)
 case atStart => exact ⟨0, by omega, rfl, HGB.out, ⟨_, HGA.out, rfl⟩, HB1.out⟩
 case round =>
  obtain ⟨j, hj, rfl, hbo, hbr, hbel⟩ := hrel
  have HBO := Lib.hid hbo
  have HBR := Lib.hid hbr
  have HBL := Lib.hid hbel
  clear hbo hbr hbel HGA HGB HB1
  by_cases hlt : j < n
  ·obtain ⟨x, hx⟩ : ∃ x, zs[j]? = some x := ⟨_, List.getElem?_eq_getElem (by have := HLZ.out; omega)⟩
   obtain ⟨y, hy⟩ : ∃ y, hs[j]? = some y := ⟨_, List.getElem?_eq_getElem (by have := HLH.out; omega)⟩
   have cx : wr.cell? ⟨C, j, none⟩ = some (.int .i64 x) := by
    rw [World.cell?_of_block (HBL.out.block C HL.out.1)]; exact HC.out j x hx
   have cy : wr.cell? ⟨D, j, none⟩ = some (.int .i64 y) := by
    rw [World.cell?_of_block (HBL.out.block D HL.out.2)]; exact HD.out j y hy
   have htL : (j : Int) < (n : Int) := by omega
   have ht0 : (0 : Int) ≤ (j : Int) := by omega
   have HST : Hid (dotN zs hs (j + 1) = dotN zs hs j + x.toNat * y.toNat) := Lib.hid (by rw [dotN]; simp [cellD, hx, hy])
   have hx2 := HZ.out x (List.mem_of_getElem? hx)
   have hy2 := HH.out y (List.mem_of_getElem? hy)
   clear hx hy
   obtain ⟨a, rfl⟩ : ∃ a : Nat, x = (a : Int) := ⟨x.toNat, by omega⟩
   obtain ⟨b, rfl⟩ : ∃ b : Nat, y = (b : Int) := ⟨y.toNat, by omega⟩
   have hab : a * b ≤ 1000000 * 1000000 := Nat.mul_le_mul (by omega) (by omega)
   have hdn := HDN.out j
   have PT := Lib.hid (fun w => times_small a b (by omega) (by omega) w)
   have PA := Lib.hid (fun w => wadd_any 0 ((dotN zs hs j : Nat) : Int) 0 ((a * b : Nat) : Int) 0 ((dotN zs hs (j + 1) : Nat) : Int) (by omega) (by omega) (by omega) (by omega) (by omega) (by omega) (by omega) (by omega) (by omega) (by rw [HST.out]; simp only [Int.toNat_natCast]; omega) (by omega) (by omega) w)
   generalize ((dotN zs hs j : Nat) : Int) = P at *
   obtain ⟨P', hP'⟩ : ∃ P', P' = ((dotN zs hs (j + 1) : Nat) : Int) := ⟨_, rfl⟩
   rw [← hP'] at PA
   have HP' := Lib.hid hP'
   clear hP'
   generalize ((a * b : Nat) : Int) = AB at *
   clear hab hdn hx2 hy2 HST
   go_wp2_with fail
   refine wp_region_held_drew (S := fun w' => Below wr.heap.size wr w') (by kernel_rfl) (by exact below_drewN (Below.refl _ _) 1) (fun hHeld => ?_)
   refine tkH (i := 0) (v := ?_) rfl (by kernel_rfl) (fun _ _ _ h => h) (Or.inl ⟨by rfl, ?_⟩) (by assumption) ?_
   rotate_left
   ·intro w hSw
    have q1 := HBO.out.kept hSw
    have q2 : w.cell? ⟨D, j, none⟩ = some (.int .i64 (b : Int)) := (World.cell?_of_block (hSw.block D (by have := HL.out.2; have := HBL.out.size; omega))).trans cy
    try (refine (exec_load_row 143 _ rfl _ rfl 143 _ (0, 0) _ q1 Tryz.underlying143 rfl (by kernel_rfl)).trans ?_)
    go_simp
    try with_reducible rfl
   simp only [Act.put, z1, z2, z3, z4, z5, z6]
   refine tkH (i := 1) (v := ?_) rfl (by kernel_rfl) (fun _ _ _ h => h) (Or.inl ⟨by rfl, ?_⟩) (by assumption) ?_
   rotate_left
   ·intro w hSw
    try dsimp only at hSw
    go_simp
    try with_reducible rfl
   simp only [Act.put, z1, z2, z3, z4, z5, z6]
   refine tkH (i := 2) (v := ?_) rfl (by kernel_rfl) (fun _ _ _ h => h) (Or.inl ⟨by rfl, ?_⟩) (by assumption) ?_
   rotate_left
   ·intro w hSw
    try dsimp only at hSw
    go_simp
    try with_reducible rfl
   simp only [Act.put, z1, z2, z3, z4, z5, z6]
   refine tkH (i := 3) (v := ?_) rfl (by kernel_rfl) (fun _ _ _ h => h) (Or.inl ⟨by rfl, ?_⟩) (by assumption) ?_
   rotate_left
   ·intro w hSw
    try dsimp only at hSw
    go_simp
    try with_reducible rfl
   simp only [Act.put, z1, z2, z3, z4, z5, z6]
   refine tkH (i := 4) (v := ?_) rfl (by kernel_rfl) (fun _ _ _ h => h) (Or.inl ⟨by rfl, ?_⟩) (by assumption) ?_
   rotate_left
   ·intro w hSw
    try dsimp only at hSw
    go_simp
    try with_reducible rfl
   simp only [Act.put, z1, z2, z3, z4, z5, z6]
   refine tkH (i := 5) (v := ?_) rfl (by kernel_rfl) (fun _ _ _ h => h) (Or.inl ⟨by rfl, ?_⟩) (by assumption) ?_
   rotate_left
   ·intro w hSw
    have q1 := HBO.out.kept hSw
    have q2 : w.cell? ⟨D, j, none⟩ = some (.int .i64 (b : Int)) := (World.cell?_of_block (hSw.block D (by have := HL.out.2; have := HBL.out.size; omega))).trans cy
    try (refine (exec_load_row 143 _ rfl _ rfl 143 _ (0, 0) _ q1 Tryz.underlying143 rfl (by kernel_rfl)).trans ?_)
    go_simp
    try with_reducible rfl
   simp only [Act.put, z1, z2, z3, z4, z5, z6]
   refine wpAnyH_ready (rs := [6, 11]) (by kernel_rfl) (by simp) ?_
   refine AllReadyH.cons rfl (fun Kc hKc => ?_) (AllReadyH.cons rfl (fun Kc hKc => ?_) AllReadyH.nil)
   ·go_simp
    go_wp2_with (first | ((with_reducible refine (PT.out _).mono ?_); rintro e wq ⟨rfl, hb'⟩; try have HAQ := Lib.hid (HAQ.out.kept hb')) | ((with_reducible refine (PA.out _).mono ?_); rintro e wq ⟨rfl, hb'⟩; try have HAQ := Lib.hid (HAQ.out.kept hb')))
    refine hKc.out _ _ ?_ (fun hHeld => ?_)
    ·first | assumption | exact hHeld | exact btr hHeld hb' | exact hHeld.alloc hHeld.size _ | exact below_setRow hHeld hPrev.out _
    clear hKc Kc
    refine wpAnyH_ready (rs := [7, 11]) (by kernel_rfl) (by simp) ?_
    refine AllReadyH.cons rfl (fun Kc hKc => ?_) (AllReadyH.cons rfl (fun Kc hKc => ?_) AllReadyH.nil)
    ·go_simp
     go_wp2_with (first | ((with_reducible refine (PT.out _).mono ?_); rintro e wq ⟨rfl, hb'⟩; try have HAQ := Lib.hid (HAQ.out.kept hb')) | ((with_reducible refine (PA.out _).mono ?_); rintro e wq ⟨rfl, hb'⟩; try have HAQ := Lib.hid (HAQ.out.kept hb')))
     refine hKc.out _ _ ?_ (fun hHeld => ?_)
     ·first | assumption | exact hHeld | exact btr hHeld hb' | exact hHeld.alloc hHeld.size _ | exact below_setRow hHeld hPrev.out _
     clear hKc Kc
     refine tkH (i := 8) (v := ?_) rfl (by kernel_rfl) (fun _ _ _ h => h) (Or.inl ⟨by rfl, ?_⟩) (by assumption) ?_
     rotate_left
     ·intro w hSw
      try dsimp only at hSw
      go_simp
      try with_reducible rfl
     simp only [Act.put, z1, z2, z3, z4, z5, z6]
     refine tkH (i := 9) (v := ?_) rfl (by kernel_rfl) (fun _ _ _ h => h) (Or.inl ⟨by rfl, ?_⟩) (by assumption) ?_
     rotate_left
     ·intro w hSw
      try dsimp only at hSw
      go_simp
      try with_reducible rfl
     simp only [Act.put, z1, z2, z3, z4, z5, z6]
     refine tkH (i := 10) (v := ?_) rfl (by kernel_rfl) (fun _ _ _ h => h) (Or.inl ⟨by rfl, ?_⟩) (by assumption) ?_
     rotate_left
     ·intro w hSw
      try dsimp only at hSw
      go_simp
      try with_reducible rfl
     simp only [Act.put, z1, z2, z3, z4, z5, z6]
     refine wpAnyH_ready (rs := [11]) (by kernel_rfl) (by simp) ?_
     refine AllReadyH.cons rfl (fun Kc hKc => ?_) AllReadyH.nil
     go_simp
     have hPrev := Lib.hid hHeld.size
     refine hKc.out _ _ ?_ (fun hHeld => ?_)
     ·first | assumption | exact hHeld | exact btr hHeld hb' | exact hHeld.alloc hHeld.size _ | exact below_setRow hHeld hPrev.out _
     clear hKc Kc
     first | have HAQ := Lib.hid (freshOf hHeld) | have HAQ := Lib.hid (freshDrew hHeld)
     refine wpAnyH_ready (rs := [12]) (by kernel_rfl) (by simp) ?_
     refine AllReadyH.cons rfl (fun Kc hKc => ?_) AllReadyH.nil
     have HAR := Lib.hid (blkRowNew (cs' := #[.int .i64 0, .int .u64 P']) HAQ.out); refine wp_store_row 143 _ _ rfl _ #[.int .i64 0, .int .u64 P'] rfl (by rfl) 143 _ HAQ.out (by kernel_rfl) rfl (by simp [Value.oneCell']) ?_
     refine hKc.out _ _ ?_ (fun hHeld => ?_)
     ·first | assumption | exact hHeld | exact btr hHeld hb' | exact hHeld.alloc hHeld.size _ | exact below_setRow hHeld hPrev.out _
     clear hKc Kc
     refine tkH (i := 13) (v := ?_) rfl (by kernel_rfl) (fun _ _ _ h => h) (Or.inl ⟨by rfl, ?_⟩) (by assumption) ?_
     rotate_left
     ·intro w hSw
      try dsimp only at hSw
      go_simp
      try with_reducible rfl
     simp only [Act.put, z1, z2, z3, z4, z5, z6]
     refine wpAnyH_done (by kernel_rfl) ?_ _
     have HBZ := Lib.hid (btr HBL.out hHeld)
     have hbo := HBO.out.kept hHeld
     obtain ⟨cs0, hbr, hcs⟩ := HBR.out
     have HBR9 : Hid (Blk _ w.heap.size 143 cs0 ∧ cs0.size = 2) := Lib.hid ⟨hbr.kept hHeld, hcs⟩
     have har := HAR.out
     have HBO9 := Lib.hid hbo
     clear hHeld hbr hcs
     go_wp2_with (first | refine wpList_load_row rfl 143 _ rfl _ rfl 143 _ (0, 0) _ har Tryz.underlying143 rfl (by kernel_rfl) ?_ | refine wpList_store_row rfl 143 _ _ rfl (w.heap.size + 1) #[.int .i64 0, .int .u64 P'] rfl (by rfl) 143 _ hbo (by kernel_rfl) rfl (by simp [Value.oneCell']) ?_)
     go_roundw
     case rel => exact ⟨j + 1, by omega, by go_num, by rw [← HP'.out]; exact blkRowNew HBO9.out, ⟨cs0, (setRow_other _ _ _ _ (by omega)).trans HBR9.out.1, HBR9.out.2⟩, below_setRow HBZ.out (by omega) _⟩
     case measure => simp [intOf]; omega
    ·go_simp
     have hPrev := Lib.hid hHeld.size
     refine hKc.out _ _ ?_ (fun hHeld => ?_)
     ·first | assumption | exact hHeld | exact btr hHeld hb' | exact hHeld.alloc hHeld.size _ | exact below_setRow hHeld hPrev.out _
     clear hKc Kc
     first | have HAQ := Lib.hid (freshOf hHeld) | have HAQ := Lib.hid (freshDrew hHeld)
     refine wpAnyH_ready (rs := [7]) (by kernel_rfl) (by simp) ?_
     refine AllReadyH.cons rfl (fun Kc hKc => ?_) AllReadyH.nil
     go_simp
     go_wp2_with (first | ((with_reducible refine (PT.out _).mono ?_); rintro e wq ⟨rfl, hb'⟩; try have HAQ := Lib.hid (HAQ.out.kept hb')) | ((with_reducible refine (PA.out _).mono ?_); rintro e wq ⟨rfl, hb'⟩; try have HAQ := Lib.hid (HAQ.out.kept hb')))
     refine hKc.out _ _ ?_ (fun hHeld => ?_)
     ·first | assumption | exact hHeld | exact btr hHeld hb' | exact hHeld.alloc hHeld.size _ | exact below_setRow hHeld hPrev.out _
     clear hKc Kc
     refine tkH (i := 8) (v := ?_) rfl (by kernel_rfl) (fun _ _ _ h => h) (Or.inl ⟨by rfl, ?_⟩) (by assumption) ?_
     rotate_left
     ·intro w hSw
      try dsimp only at hSw
      go_simp
      try with_reducible rfl
     simp only [Act.put, z1, z2, z3, z4, z5, z6]
     refine tkH (i := 9) (v := ?_) rfl (by kernel_rfl) (fun _ _ _ h => h) (Or.inl ⟨by rfl, ?_⟩) (by assumption) ?_
     rotate_left
     ·intro w hSw
      try dsimp only at hSw
      go_simp
      try with_reducible rfl
     simp only [Act.put, z1, z2, z3, z4, z5, z6]
     refine tkH (i := 10) (v := ?_) rfl (by kernel_rfl) (fun _ _ _ h => h) (Or.inl ⟨by rfl, ?_⟩) (by assumption) ?_
     rotate_left
     ·intro w hSw
      try dsimp only at hSw
      go_simp
      try with_reducible rfl
     simp only [Act.put, z1, z2, z3, z4, z5, z6]
     refine wpAnyH_ready (rs := [12]) (by kernel_rfl) (by simp) ?_
     refine AllReadyH.cons rfl (fun Kc hKc => ?_) AllReadyH.nil
     have HAR := Lib.hid (blkRowNew (cs' := #[.int .i64 0, .int .u64 P']) HAQ.out); refine wp_store_row 143 _ _ rfl _ #[.int .i64 0, .int .u64 P'] rfl (by rfl) 143 _ HAQ.out (by kernel_rfl) rfl (by simp [Value.oneCell']) ?_
     refine hKc.out _ _ ?_ (fun hHeld => ?_)
     ·first | assumption | exact hHeld | exact btr hHeld hb' | exact hHeld.alloc hHeld.size _ | exact below_setRow hHeld hPrev.out _
     clear hKc Kc
     refine tkH (i := 13) (v := ?_) rfl (by kernel_rfl) (fun _ _ _ h => h) (Or.inl ⟨by rfl, ?_⟩) (by assumption) ?_
     rotate_left
     ·intro w hSw
      try dsimp only at hSw
      go_simp
      try with_reducible rfl
     simp only [Act.put, z1, z2, z3, z4, z5, z6]
     refine wpAnyH_done (by kernel_rfl) ?_ _
     have HBZ := Lib.hid (btr HBL.out hHeld)
     have hbo := HBO.out.kept hHeld
     obtain ⟨cs0, hbr, hcs⟩ := HBR.out
     have HBR9 : Hid (Blk _ w.heap.size 143 cs0 ∧ cs0.size = 2) := Lib.hid ⟨hbr.kept hHeld, hcs⟩
     have har := HAR.out
     have HBO9 := Lib.hid hbo
     clear hHeld hbr hcs
     go_wp2_with (first | refine wpList_load_row rfl 143 _ rfl _ rfl 143 _ (0, 0) _ har Tryz.underlying143 rfl (by kernel_rfl) ?_ | refine wpList_store_row rfl 143 _ _ rfl (w.heap.size + 1) #[.int .i64 0, .int .u64 P'] rfl (by rfl) 143 _ hbo (by kernel_rfl) rfl (by simp [Value.oneCell']) ?_)
     go_roundw
     case rel => exact ⟨j + 1, by omega, by go_num, by rw [← HP'.out]; exact blkRowNew HBO9.out, ⟨cs0, (setRow_other _ _ _ _ (by omega)).trans HBR9.out.1, HBR9.out.2⟩, below_setRow HBZ.out (by omega) _⟩
     case measure => simp [intOf]; omega
   ·go_simp
    have hPrev := Lib.hid hHeld.size
    refine hKc.out _ _ ?_ (fun hHeld => ?_)
    ·first | assumption | exact hHeld | exact btr hHeld hb' | exact hHeld.alloc hHeld.size _ | exact below_setRow hHeld hPrev.out _
    clear hKc Kc
    first | have HAQ := Lib.hid (freshOf hHeld) | have HAQ := Lib.hid (freshDrew hHeld)
    refine wpAnyH_ready (rs := [6]) (by kernel_rfl) (by simp) ?_
    refine AllReadyH.cons rfl (fun Kc hKc => ?_) AllReadyH.nil
    go_simp
    go_wp2_with (first | ((with_reducible refine (PT.out _).mono ?_); rintro e wq ⟨rfl, hb'⟩; try have HAQ := Lib.hid (HAQ.out.kept hb')) | ((with_reducible refine (PA.out _).mono ?_); rintro e wq ⟨rfl, hb'⟩; try have HAQ := Lib.hid (HAQ.out.kept hb')))
    refine hKc.out _ _ ?_ (fun hHeld => ?_)
    ·first | assumption | exact hHeld | exact btr hHeld hb' | exact hHeld.alloc hHeld.size _ | exact below_setRow hHeld hPrev.out _
    clear hKc Kc
    refine wpAnyH_ready (rs := [7]) (by kernel_rfl) (by simp) ?_
    refine AllReadyH.cons rfl (fun Kc hKc => ?_) AllReadyH.nil
    go_simp
    go_wp2_with (first | ((with_reducible refine (PT.out _).mono ?_); rintro e wq ⟨rfl, hb'⟩; try have HAQ := Lib.hid (HAQ.out.kept hb')) | ((with_reducible refine (PA.out _).mono ?_); rintro e wq ⟨rfl, hb'⟩; try have HAQ := Lib.hid (HAQ.out.kept hb')))
    refine hKc.out _ _ ?_ (fun hHeld => ?_)
    ·first | assumption | exact hHeld | exact btr hHeld hb' | exact hHeld.alloc hHeld.size _ | exact below_setRow hHeld hPrev.out _
    clear hKc Kc
    refine tkH (i := 8) (v := ?_) rfl (by kernel_rfl) (fun _ _ _ h => h) (Or.inl ⟨by rfl, ?_⟩) (by assumption) ?_
    rotate_left
    ·intro w hSw
     try dsimp only at hSw
     go_simp
     try with_reducible rfl
    simp only [Act.put, z1, z2, z3, z4, z5, z6]
    refine tkH (i := 9) (v := ?_) rfl (by kernel_rfl) (fun _ _ _ h => h) (Or.inl ⟨by rfl, ?_⟩) (by assumption) ?_
    rotate_left
    ·intro w hSw
     try dsimp only at hSw
     go_simp
     try with_reducible rfl
    simp only [Act.put, z1, z2, z3, z4, z5, z6]
    refine tkH (i := 10) (v := ?_) rfl (by kernel_rfl) (fun _ _ _ h => h) (Or.inl ⟨by rfl, ?_⟩) (by assumption) ?_
    rotate_left
    ·intro w hSw
     try dsimp only at hSw
     go_simp
     try with_reducible rfl
    simp only [Act.put, z1, z2, z3, z4, z5, z6]
    refine wpAnyH_ready (rs := [12]) (by kernel_rfl) (by simp) ?_
    refine AllReadyH.cons rfl (fun Kc hKc => ?_) AllReadyH.nil
    have HAR := Lib.hid (blkRowNew (cs' := #[.int .i64 0, .int .u64 P']) HAQ.out); refine wp_store_row 143 _ _ rfl _ #[.int .i64 0, .int .u64 P'] rfl (by rfl) 143 _ HAQ.out (by kernel_rfl) rfl (by simp [Value.oneCell']) ?_
    refine hKc.out _ _ ?_ (fun hHeld => ?_)
    ·first | assumption | exact hHeld | exact btr hHeld hb' | exact hHeld.alloc hHeld.size _ | exact below_setRow hHeld hPrev.out _
    clear hKc Kc
    refine tkH (i := 13) (v := ?_) rfl (by kernel_rfl) (fun _ _ _ h => h) (Or.inl ⟨by rfl, ?_⟩) (by assumption) ?_
    rotate_left
    ·intro w hSw
     try dsimp only at hSw
     go_simp
     try with_reducible rfl
    simp only [Act.put, z1, z2, z3, z4, z5, z6]
    refine wpAnyH_done (by kernel_rfl) ?_ _
    have HBZ := Lib.hid (btr HBL.out hHeld)
    have hbo := HBO.out.kept hHeld
    obtain ⟨cs0, hbr, hcs⟩ := HBR.out
    have HBR9 : Hid (Blk _ w.heap.size 143 cs0 ∧ cs0.size = 2) := Lib.hid ⟨hbr.kept hHeld, hcs⟩
    have har := HAR.out
    have HBO9 := Lib.hid hbo
    clear hHeld hbr hcs
    go_wp2_with (first | refine wpList_load_row rfl 143 _ rfl _ rfl 143 _ (0, 0) _ har Tryz.underlying143 rfl (by kernel_rfl) ?_ | refine wpList_store_row rfl 143 _ _ rfl (w.heap.size + 1) #[.int .i64 0, .int .u64 P'] rfl (by rfl) 143 _ hbo (by kernel_rfl) rfl (by simp [Value.oneCell']) ?_)
    go_roundw
    case rel => exact ⟨j + 1, by omega, by go_num, by rw [← HP'.out]; exact blkRowNew HBO9.out, ⟨cs0, (setRow_other _ _ _ _ (by omega)).trans HBR9.out.1, HBR9.out.2⟩, below_setRow HBZ.out (by omega) _⟩
    case measure => simp [intOf]; omega
  ·obtain rfl : j = n := by omega
   obtain ⟨cs0, hbr, hcs⟩ := HBR.out
   have hbo := HBO.out
   have HBS := Lib.hid hbr
   clear hbr
   go_wp2_with (first | refine wpList_load_row rfl 143 _ rfl _ rfl 143 _ (0, 0) _ hbo Tryz.underlying143 rfl (by kernel_rfl) ?_ | refine wpList_store_row rfl 143 _ _ rfl w.heap.size #[.int .i64 0, .int .u64 ((dotN zs hs j : Nat) : Int)] rfl (by rfl) 143 _ HBS.out (by kernel_rfl) (by rw [hcs]; rfl) (by simp [Value.oneCell']) ?_)
   have HF := Lib.hid (blkRowNew (cs' := #[.int .i64 0, .int .u64 ((dotN zs hs j : Nat) : Int)]) HBS.out)
   refine bodyPost_ret (results_row_tmp rfl _ _ w.heap.size 143 _ (0, 0) _ rfl HF.out Tryz.underlying143 rfl (by kernel_rfl)) rfl ?_
   exact ⟨rfl, below_setRow HBL.out (by omega) _⟩
end Go.Proofs.YtfeficdndjiijaaGreatDoor

