import Derived.Test.YtfeficdndjiijaaGreatDoorQzm
import Derived.Test.YtfeficdndjiijaaGreatDoorQzo
import Derived.Test.YtfeficdndjiijaaGreatDoorQzc
import Derived.Test.YtfeficdndjiijaaGreatDoorQzp
import Derived.Test.YtfeficdndjiijaaGreatDoorQzj
import Derived.Test.YtfeficdndjiijaaGreatDoorQzl
import Derived.Test.YtfeficdndjiijaaGreatDoorQzf
import Derived.StillTailTactics
/-
  Contracts of the functions that TopWindow reaches, and the plain laws that it leans on. Conditions: none beyond those stated at each theorem.
-/
namespace Go.Proofs.YtfeficdndjiijaaGreatDoor
open Go.RowKit
set_option linter.unusedVariables false
set_option linter.unusedSimpArgs false

structure WorldIs (w : World) (base WB A bm : Nat) (r d m s : Int) (cs : Array Value) (n : Nat) (Z : Nat → Nat → List Int) : Prop where
  ag : ∃ S L X Ar G C, AggSt w base A bm n 6 r d m s S L X Ar G C Z
  wb : Blk w WB 34 cs
  c0 : cs[0]? = some (.pointer (some ⟨A, 0, none⟩))
  c2 : cs[2]? = some (.int .i64 r)
  c3 : cs[3]? = some (.int .i64 d)
  c4 : cs[4]? = some (.int .i64 m)
  c5 : cs[5]? = some (.int .u64 s)
  c1 : cs[1]? = some (.int .i64 6)
theorem WorldIs.kept {w w' : World} {base WB A bm : Nat} {r d m s : Int} {cs : Array Value} {n : Nat} {Z : Nat → Nat → List Int} (h : WorldIs w base WB A bm r d m s cs n Z) (hb : Below w.heap.size w w') : WorldIs w' base WB A bm r d m s cs n Z := by
  obtain ⟨S, L, X, Ar, G, C, h1⟩ := h.ag
  exact ⟨⟨S, L, X, Ar, G, C, h1.kept hb⟩, h.wb.kept hb, h.c0, h.c2, h.c3, h.c4, h.c5, h.c1⟩
theorem WorldIs.ne {w : World} {base WB A bm : Nat} {r d m s : Int} {cs : Array Value} {n : Nat} {Z : Nat → Nat → List Int} (h : WorldIs w base WB A bm r d m s cs n Z) {k : Nat} {t : TypeId} {cs' : Array Value} (hk : Blk w k t cs') (ht : t ≠ 77) : k ≠ A ∧ k ≠ bm := by
  obtain ⟨S, L, X, Ar, G, C, h⟩ := h.ag
  obtain ⟨T, ⟨h1, D, ⟨es, clock, h2, -⟩, -⟩, -⟩ := h.agg
  refine ⟨fun e => ?_, fun e => ?_⟩
  · subst e; exact ht (blk_one hk h1)
  · subst e
    rw [show w.heap[k]? = _ from hk] at h2
    cases h2
def createT (r d m x4 : Int) : ByteArray := sB [99, 114, 101, 97, 116, 101, 32, 54, 32] ++ sB (Lib.itoa r) ++ sB [32] ++ sB (Lib.itoa d) ++ sB [32] ++ sB (Lib.itoa m) ++ sB [32] ++ sB (Lib.itoa x4)
theorem it6 : Lib.itoa 6 = [54] := by
  unfold Lib.itoa
  rw [if_neg (by decide)]
  exact dec_small (by decide)
theorem createT_eq (r d m x4 : Int) : createT r d m x4 = sB (joinW [wCreate, Lib.itoa 6, Lib.itoa r, Lib.itoa d, Lib.itoa m, Lib.itoa x4]) := by
  unfold createT
  simp only [sB_append, joinW, it6, wCreate]
  congr 1
  simp
theorem WorldIs.create {w : World} {base WB A bm : Nat} {r d m s : Int} {cs : Array Value} {n : Nat} (h : WorldIs w base WB A bm r d m s cs n (fun _ => zeroZ 6 r d m)) (hg : 4 < base) (hn : n < 32) (hr : rightB 6 r d m = true) (x4 : Int) (hx : In64 x4) (hs : IntKind.u64.wrap x4 = s) :
    Calls Tryz.prog 8 #[.pointer (some ⟨A, 0, none⟩), .string (createT r d m x4)] w fun e w' => e = .returned (.tuple #[.string (sB ([104, 97, 110, 100, 108, 101, 32] ++ Lib.itoa ((n : Int) + 1))), .bool true]) ∧ WorldIs w' base WB A bm r d m s cs (n + 1) (fun _ => zeroZ 6 r d m) ∧ AOnl base A bm w w' := by
  have hne := h.ne h.wb (by decide)
  obtain ⟨S, L, X, Ar, G, C, h1⟩ := h.ag
  rw [createT_eq]
  refine (line_create w base A bm n 6 r d m s x4 S L X Ar G C _ h1 hg hn hr hx hs).mono ?_
  rintro e w' ⟨t, rfl, rfl, S', L', X', A', G', C', h2, ho⟩
  refine ⟨rfl, ⟨⟨_, _, _, _, _, _, h2.setZ (fun i p _ _ _ => ?_)⟩, ho.blk h.wb hne.1 hne.2 (by decide), h.c0, h.c2, h.c3, h.c4, h.c5, h.c1⟩, ho⟩
  by_cases e : i = n + 1
  · subst e; rw [upN_same]
  · rw [upN_other _ _ e]
theorem wc_size : Tryz.zeroCells34.size = 198 := by kernel_rfl
noncomputable def wcNew (a b r d m s : Value) : Array Value := (((((Tryz.zeroCells34.setIfInBounds 0 a).setIfInBounds 1 b).setIfInBounds 2 r).setIfInBounds 3 d).setIfInBounds 4 m).setIfInBounds 5 s
theorem wc_get (a b r d m s : Value) : (wcNew a b r d m s)[0]? = some a ∧ (wcNew a b r d m s)[2]? = some r ∧ (wcNew a b r d m s)[3]? = some d ∧ (wcNew a b r d m s)[4]? = some m ∧ (wcNew a b r d m s)[5]? = some s ∧ (wcNew a b r d m s)[1]? = some b := by
  have := wc_size
  refine ⟨?_, ?_, ?_, ?_, ?_, ?_⟩ <;> simp [wcNew, Array.getElem?_setIfInBounds, this]
set_option maxRecDepth 100000 in
set_option maxHeartbeats 8000000 in
theorem made_any (xb xr xd xm : Int) (s : Int) (s0 : 0 ≤ s) (s1 : s ≤ 18446744073709551615) (m : Int) (m1 : 1 ≤ m) (m3 : m ≤ 3) (w : World) (ht : Tab w) :
  Calls Tryz.prog 7 #[.agg #[.int .i64 xb, .int .i64 xr, .int .i64 xd, .int .i64 xm, .int .u64 s], .int .i64 m] w fun e w' => ∃ base WB A bm cs, e = .returned (.pointer (some ⟨WB, 0, none⟩)) ∧ WorldIs w' base WB A bm (anyI xr 4) (anyI xd 9) m s cs 3 (fun _ => zeroZ 6 (anyI xr 4) (anyI xd 9) m) ∧ w.heap.size ≤ base ∧ w.heap.size ≤ WB ∧ Below w.heap.size w w' := by
 have HT := Lib.hid ht
 have PA := Lib.hid (fun w => any_any xb xr xd xm s 6 9 (by decide) (by decide) (by decide) (by decide) w)
 have PN := Lib.hid (fun w => aggnew w)
 have br := anyI_bd xr 4 (by decide)
 have bd := anyI_bd xd 9 (by decide)
 generalize anyI xr 4 = r at *
 generalize anyI xd 9 = d at *
 generalize anyI xb 6 = b0 at *
 generalize anyI xm 3 = mo at *
 have HRT : Hid (rightB 6 r d m = true) := Lib.hid (right_mk (by omega))
 go_enter Tryz.func7, Tryz.ntmps7
 go_wp2_with fail
 have HB0 := Lib.hid (below_alloc1 w (.cells #[.int .i64 xb, .int .i64 xr, .int .i64 xd, .int .i64 xm, .int .u64 s] 24))
 generalize (w.alloc (.cells #[.int .i64 xb, .int .i64 xr, .int .i64 xd, .int .i64 xm, .int .u64 s] 24)) = w0 at *
 with_reducible refine (PA.out _).mono ?_
 rintro e w1 ⟨rfl, hb1⟩
 have HB1 := Lib.hid (btr HB0.out hb1)
 clear hb1 PA HB0
 go_wp2_with fail
 have hcb := Blk.new w1 24 #[.int .i64 6, .int .i64 r, .int .i64 d, .int .i64 m, .int .u64 s]
 have HB2 := Lib.hid (btr HB1.out (below_alloc1 w1 (.cells #[.int .i64 6, .int .i64 r, .int .i64 d, .int .i64 m, .int .u64 s] 24)))
 have HCB := Lib.hid hcb
 generalize (w1.alloc (.cells #[.int .i64 6, .int .i64 r, .int .i64 d, .int .i64 m, .int .u64 s] 24)) = w2 at *
 clear hcb
 refine wp_region_held_drew (S := fun w' => Blk w' w1.heap.size 24 #[.int .i64 6, .int .i64 r, .int .i64 d, .int .i64 m, .int .u64 s] ∧ Below w.heap.size w w') (by kernel_rfl) (by exact ⟨HCB.out.kept (below_drewN (Below.refl _ _) 1), below_drewN HB2.out 1⟩) (fun hHeld => ?_)
 refine tkH (i := 1) (v := ?_) rfl (by kernel_rfl) (fun _ _ _ h => h) (Or.inl ⟨by rfl, ?_⟩) (by assumption) ?_
 rotate_left
 ·intro w hSw
  have q0 := hSw.1.cell 0
  have q1 := hSw.1.cell 1
  have q2 := hSw.1.cell 2
  have q3 := hSw.1.cell 3
  have q4 := hSw.1.cell 4
  simp at q0 q1 q2 q3 q4
  go_simp
  try with_reducible rfl
 simp only [Act.put, z1, z2, z3, z4, z5, z6]
 refine wpAnyH_ready (rs := [0]) (by kernel_rfl) (by simp) ?_
 refine AllReadyH.cons rfl (fun Kc hKc => ?_) AllReadyH.nil
 go_simp
 go_wp2_with ((with_reducible refine (PN.out _).mono ?_); rintro e wq ⟨A, bm, rfl, hA1, hA2, hagg, hb'⟩; have HAG := Lib.hid hagg; have HAL := Lib.hid (And.intro hA1 hA2))
 refine hKc.out _ _ ?_ (fun hHeld => ?_)
 ·first | exact hHeld | exact ⟨hHeld.1.kept hb', btr hHeld.2 hb'⟩ | exact ⟨hHeld.1.kept (below_alloc1 _ _), btr hHeld.2 (below_alloc1 _ _)⟩
 clear hKc Kc
 refine tkH (i := 2) (v := ?_) rfl (by kernel_rfl) (fun _ _ _ h => h) (Or.inl ⟨by rfl, ?_⟩) (by assumption) ?_
 rotate_left
 ·intro w hSw
  try dsimp only at hSw
  go_simp
  try with_reducible rfl
 simp only [Act.put, z1, z2, z3, z4, z5, z6]
 refine wpAnyH_ready (rs := [3]) (by kernel_rfl) (by simp) ?_
 refine AllReadyH.cons rfl (fun Kc hKc => ?_) AllReadyH.nil
 go_simp
 refine hKc.out _ _ ?_ (fun hHeld => ?_)
 ·first | exact hHeld | exact ⟨hHeld.1.kept hb', btr hHeld.2 hb'⟩ | exact ⟨hHeld.1.kept (below_alloc1 _ _), btr hHeld.2 (below_alloc1 _ _)⟩
 clear hKc Kc
 refine tkH (i := 4) (v := ?_) rfl (by kernel_rfl) (fun _ _ _ h => h) (Or.inl ⟨by rfl, ?_⟩) (by assumption) ?_
 rotate_left
 ·intro w hSw
  try dsimp only at hSw
  go_simp
  try with_reducible rfl
 simp only [Act.put, z1, z2, z3, z4, z5, z6]
 refine wpAnyH_done (by kernel_rfl) ?_ _
 have hcs : (((((Tryz.zeroCells34.setIfInBounds 0 (.pointer (some ⟨A, 0, none⟩))).setIfInBounds 1 (.int .i64 6)).setIfInBounds 2 (.int .i64 r)).setIfInBounds 3 (.int .i64 d)).setIfInBounds 4 (.int .i64 m)).setIfInBounds 5 (.int .u64 s) = wcNew (.pointer (some ⟨A, 0, none⟩)) (.int .i64 6) (.int .i64 r) (.int .i64 d) (.int .i64 m) (.int .u64 s) := rfl
 rw [hcs] at hHeld ⊢
 have hcg := wc_get (.pointer (some ⟨A, 0, none⟩)) (.int .i64 6) (.int .i64 r) (.int .i64 d) (.int .i64 m) (.int .u64 s)
 generalize wcNew (.pointer (some ⟨A, 0, none⟩)) (.int .i64 6) (.int .i64 r) (.int .i64 d) (.int .i64 m) (.int .u64 s) = cs at *
 have HW0 := Lib.hid (Blk.new wq 34 cs)
 have HWL : Hid (w.heap.size ≤ wq.heap.size ∧ w2.heap.size ≤ wq.heap.size ∧ w.heap.size ≤ w2.heap.size) := Lib.hid ⟨Nat.le_trans HB2.out.size hb'.size, hb'.size, HB2.out.size⟩
 have HAG5 := Lib.hid (HAG.out.kept (below_alloc1 wq (.cells cs 34)))
 have HCS := Lib.hid hcg
 have HH := Lib.hid hHeld
 have cA := (HW0.out.cell 0).trans hcg.1
 clear hcs hcg hb' HAG hHeld
 have HBB : Hid (w2.heap.size ≤ A ∧ w2.heap.size ≤ bm) := HAL
 have hgt : 4 < w2.heap.size := Nat.lt_of_lt_of_le HT.out.lt HWL.out.2.2
 have HW5 : Hid (WorldIs (wq.alloc (.cells cs 34)) w2.heap.size wq.heap.size A bm r d m s cs 0 (fun _ => zeroZ 6 r d m)) := Lib.hid ⟨⟨fun _ => 0, fun _ => 0, fun _ _ => undef, fun _ _ => 0, fun _ _ => 0, fun _ _ => 0, AggSt.zero HAG5.out HBB.out.1 HBB.out.2 (HT.out.kept HH.out.2)⟩, HW0.out, HCS.out.1, HCS.out.2.1, HCS.out.2.2.1, HCS.out.2.2.2.1, HCS.out.2.2.2.2.1, HCS.out.2.2.2.2.2⟩
 have HGT := Lib.hid hgt
 generalize (wq.alloc (.cells cs 34)) = w5 at *
 clear hgt HW0 HAG5 HCS HAL hA1 hA2 hagg
 go_wp2_with fail
 go_loopw [7] (fun i wr => ∃ n : Nat, n ≤ 3 ∧ i = .int .i64 ((n : Int) + 1) ∧ WorldIs wr w2.heap.size wq.heap.size A bm r d m s cs n (fun _ => zeroZ 6 r d m) ∧ Blk wr w1.heap.size 24 #[.int .i64 6, .int .i64 r, .int .i64 d, .int .i64 m, .int .u64 s] ∧ Below w.heap.size w wr) (fun i _ => 4 - (intOf i).toNat)
 case atStart => exact ⟨0, by omega, rfl, HW5.out, HH.out.1, HH.out.2⟩
 case round =>
  obtain ⟨n, hn, rfl, hwi, hcb, hbel⟩ := hrel
  have HWI := Lib.hid hwi
  have HCC := Lib.hid hcb
  have HBL := Lib.hid hbel
  clear hwi hcb hbel cA
  by_cases hlt : n < 3
  ·have hxs : IntKind.u64.wrap (IntKind.i64.wrap s) = s := by
    simp only [IntKind.wrap, IntKind.bits, IntKind.signed]
    simp
    omega
   have hx64 : In64 (IntKind.i64.wrap s) := wrapI_bd s
   have hr64 : In64 r := by unfold In64; omega
   have hd64 : In64 d := by unfold In64; omega
   have hm64 : In64 m := by unfold In64; omega
   have hn64 : In64 ((n : Int) + 1) := by unfold In64; omega
   have zr := itoa_len r hr64.1 hr64.2
   have zd := itoa_len d hd64.1 hd64.2
   have zm := itoa_len m hm64.1 hm64.2
   have zx := itoa_len (IntKind.i64.wrap s) hx64.1 hx64.2
   have zn := itoa_len ((n : Int) + 1) hn64.1 hn64.2
   have P1 := Lib.hid (fun w => gtext r hr64 w)
   have P2 := Lib.hid (fun w => gtext d hd64 w)
   have P3 := Lib.hid (fun w => gtext m hm64 w)
   have P4 := Lib.hid (fun w => gtext (IntKind.i64.wrap s) hx64 w)
   have P5 := Lib.hid (fun w => gtext ((n : Int) + 1) hn64 w)
   have PL := Lib.hid (fun W (hW : WorldIs W w2.heap.size wq.heap.size A bm r d m s cs n (fun _ => zeroZ 6 r d m)) => hW.create HGT.out (by omega) HRT.out (IntKind.i64.wrap s) hx64 hxs)
   have hT : createT r d m (IntKind.i64.wrap s) = sB [99, 114, 101, 97, 116, 101, 32, 54, 32] ++ sB (Lib.itoa r) ++ sB [32] ++ sB (Lib.itoa d) ++ sB [32] ++ sB (Lib.itoa m) ++ sB [32] ++ sB (Lib.itoa (IntKind.i64.wrap s)) := rfl
   have hS := sB_append [104, 97, 110, 100, 108, 101, 32] (Lib.itoa ((n : Int) + 1))
   rw [hT] at PL
   obtain ⟨RS, hRS⟩ : ∃ RS, RS = sB ([104, 97, 110, 100, 108, 101, 32] ++ Lib.itoa ((n : Int) + 1)) := ⟨_, rfl⟩
   rw [← hRS] at PL hS
   have l0 : sB [99, 114, 101, 97, 116, 101, 32, 54, 32] = ⟨#[99, 114, 101, 97, 116, 101, 32, 54, 32]⟩ := rfl
   have l1 : sB [32] = ⟨#[32]⟩ := rfl
   have l2 : sB [104, 97, 110, 100, 108, 101, 32] = ⟨#[104, 97, 110, 100, 108, 101, 32]⟩ := rfl
   rw [l0, l1] at PL
   rw [l2] at hS
   clear hT hRS l0 l1 l2 hxs hx64 hr64 hd64 hm64 hn64
   generalize sB (Lib.itoa r) = TR at *
   generalize sB (Lib.itoa d) = TD at *
   generalize sB (Lib.itoa m) = TM at *
   generalize sB (Lib.itoa (IntKind.i64.wrap s)) = TX at *
   generalize sB (Lib.itoa ((n : Int) + 1)) = TN at *
   have z1 : ¬ 9223372036854775807 < 9 + TR.size := by omega
   have z2 : ¬ 9223372036854775807 < 9 + TR.size + 1 := by omega
   have z3 : ¬ 9223372036854775807 < 9 + TR.size + 1 + TD.size := by omega
   have z4 : ¬ 9223372036854775807 < 9 + TR.size + 1 + TD.size + 1 := by omega
   have z5 : ¬ 9223372036854775807 < 9 + TR.size + 1 + TD.size + 1 + TM.size := by omega
   have z6 : ¬ 9223372036854775807 < 9 + TR.size + 1 + TD.size + 1 + TM.size + 1 := by omega
   have z7 : ¬ 9223372036854775807 < 9 + TR.size + 1 + TD.size + 1 + TM.size + 1 + TX.size := by omega
   have z8 : ¬ 9223372036854775807 < 7 + TN.size := by omega
   have HWX := Lib.hid (HWI.out.kept (below_drewN (Below.refl _ _) 1))
   have HNE := Lib.hid (And.intro (HWI.out.ne HCC.out (by decide)) HBB.out)
   go_wp2_with fail
   refine wp_region_held_drew (S := fun w' => Blk w' w1.heap.size 24 #[.int .i64 6, .int .i64 r, .int .i64 d, .int .i64 m, .int .u64 s] ∧ Blk w' wq.heap.size 34 cs ∧ Below w.heap.size w w') (by kernel_rfl) (by exact ⟨HCC.out.kept (below_drewN (Below.refl _ _) 1), HWI.out.wb.kept (below_drewN (Below.refl _ _) 1), below_drewN HBL.out 1⟩) (fun hHeld => ?_)
   refine tkH (i := 0) (v := ?_) rfl (by kernel_rfl) (fun _ _ _ h => h) (Or.inl ⟨by rfl, ?_⟩) (by assumption) ?_
   rotate_left
   ·intro w hSw
    try dsimp only at hSw
    go_simp
    try with_reducible rfl
   simp only [Act.put, z1, z2, z3, z4, z5, z6]
   refine tkH (i := 1) (v := ?_) rfl (by kernel_rfl) (fun _ _ _ h => h) (Or.inl ⟨by rfl, ?_⟩) (by assumption) ?_
   rotate_left
   ·intro w hSw
    try dsimp only at hSw
    go_simp
    try with_reducible rfl
   simp only [Act.put, z1, z2, z3, z4, z5, z6]
   refine tkH (i := 2) (v := ?_) rfl (by kernel_rfl) (fun _ _ _ h => h) (Or.inl ⟨by rfl, ?_⟩) (by assumption) ?_
   rotate_left
   ·intro w hSw
    try dsimp only at hSw
    go_simp
    try with_reducible rfl
   simp only [Act.put, z1, z2, z3, z4, z5, z6]
   refine tkH (i := 3) (v := ?_) rfl (by kernel_rfl) (fun _ _ _ h => h) (Or.inl ⟨by rfl, ?_⟩) (by assumption) ?_
   rotate_left
   ·intro w hSw
    have q1 := hSw.1.cell 1
    have q2 := hSw.1.cell 2
    have q3 := hSw.1.cell 3
    have q4 := hSw.1.cell 4
    have q5 := (hSw.2.1.cell 0).trans HWI.out.c0
    simp at q1 q2 q3 q4
    go_simp
    try with_reducible rfl
   simp only [Act.put, z1, z2, z3, z4, z5, z6]
   refine tkH (i := 4) (v := ?_) rfl (by kernel_rfl) (fun _ _ _ h => h) (Or.inl ⟨by rfl, ?_⟩) (by assumption) ?_
   rotate_left
   ·intro w hSw
    try dsimp only at hSw
    go_simp
    try with_reducible rfl
   simp only [Act.put, z1, z2, z3, z4, z5, z6]
   refine tkH (i := 5) (v := ?_) rfl (by kernel_rfl) (fun _ _ _ h => h) (Or.inl ⟨by rfl, ?_⟩) (by assumption) ?_
   rotate_left
   ·intro w hSw
    have q1 := hSw.1.cell 1
    have q2 := hSw.1.cell 2
    have q3 := hSw.1.cell 3
    have q4 := hSw.1.cell 4
    have q5 := (hSw.2.1.cell 0).trans HWI.out.c0
    simp at q1 q2 q3 q4
    go_simp
    try with_reducible rfl
   simp only [Act.put, z1, z2, z3, z4, z5, z6]
   refine tkH (i := 9) (v := ?_) rfl (by kernel_rfl) (fun _ _ _ h => h) (Or.inl ⟨by rfl, ?_⟩) (by assumption) ?_
   rotate_left
   ·intro w hSw
    try dsimp only at hSw
    go_simp
    try with_reducible rfl
   simp only [Act.put, z1, z2, z3, z4, z5, z6]
   refine tkH (i := 10) (v := ?_) rfl (by kernel_rfl) (fun _ _ _ h => h) (Or.inl ⟨by rfl, ?_⟩) (by assumption) ?_
   rotate_left
   ·intro w hSw
    have q1 := hSw.1.cell 1
    have q2 := hSw.1.cell 2
    have q3 := hSw.1.cell 3
    have q4 := hSw.1.cell 4
    have q5 := (hSw.2.1.cell 0).trans HWI.out.c0
    simp at q1 q2 q3 q4
    go_simp
    try with_reducible rfl
   simp only [Act.put, z1, z2, z3, z4, z5, z6]
   refine tkH (i := 14) (v := ?_) rfl (by kernel_rfl) (fun _ _ _ h => h) (Or.inl ⟨by rfl, ?_⟩) (by assumption) ?_
   rotate_left
   ·intro w hSw
    try dsimp only at hSw
    go_simp
    try with_reducible rfl
   simp only [Act.put, z1, z2, z3, z4, z5, z6]
   refine tkH (i := 15) (v := ?_) rfl (by kernel_rfl) (fun _ _ _ h => h) (Or.inl ⟨by rfl, ?_⟩) (by assumption) ?_
   rotate_left
   ·intro w hSw
    have q1 := hSw.1.cell 1
    have q2 := hSw.1.cell 2
    have q3 := hSw.1.cell 3
    have q4 := hSw.1.cell 4
    have q5 := (hSw.2.1.cell 0).trans HWI.out.c0
    simp at q1 q2 q3 q4
    go_simp
    try with_reducible rfl
   simp only [Act.put, z1, z2, z3, z4, z5, z6]
   refine tkH (i := 19) (v := ?_) rfl (by kernel_rfl) (fun _ _ _ h => h) (Or.inl ⟨by rfl, ?_⟩) (by assumption) ?_
   rotate_left
   ·intro w hSw
    try dsimp only at hSw
    go_simp
    try with_reducible rfl
   simp only [Act.put, z1, z2, z3, z4, z5, z6]
   refine tkH (i := 20) (v := ?_) rfl (by kernel_rfl) (fun _ _ _ h => h) (Or.inl ⟨by rfl, ?_⟩) (by assumption) ?_
   rotate_left
   ·intro w hSw
    have q1 := hSw.1.cell 1
    have q2 := hSw.1.cell 2
    have q3 := hSw.1.cell 3
    have q4 := hSw.1.cell 4
    have q5 := (hSw.2.1.cell 0).trans HWI.out.c0
    simp at q1 q2 q3 q4
    go_simp
    try with_reducible rfl
   simp only [Act.put, z1, z2, z3, z4, z5, z6]
   refine tkH (i := 21) (v := ?_) rfl (by kernel_rfl) (fun _ _ _ h => h) (Or.inl ⟨by rfl, ?_⟩) (by assumption) ?_
   rotate_left
   ·intro w hSw
    try dsimp only at hSw
    go_simp
    try with_reducible rfl
   simp only [Act.put, z1, z2, z3, z4, z5, z6]
   refine wpAnyH_ready (rs := [6]) (by kernel_rfl) (by simp) ?_
   refine AllReadyH.cons rfl (fun Kc hKc => ?_) AllReadyH.nil
   go_simp
   go_wp2_with (first | ((with_reducible refine (P1.out _).mono ?_); rintro e w9 ⟨rfl, hb'⟩; have HWX := Lib.hid (HWX.out.kept hb')) | ((with_reducible refine (P2.out _).mono ?_); rintro e w9 ⟨rfl, hb'⟩; have HWX := Lib.hid (HWX.out.kept hb')) | ((with_reducible refine (P3.out _).mono ?_); rintro e w9 ⟨rfl, hb'⟩; have HWX := Lib.hid (HWX.out.kept hb')) | ((with_reducible refine (P4.out _).mono ?_); rintro e w9 ⟨rfl, hb'⟩; have HWX := Lib.hid (HWX.out.kept hb')) | ((with_reducible refine (PL.out _ HWX.out).mono ?_); rintro e w9 ⟨rfl, hwi', hao'⟩; have HWY := Lib.hid hwi'; clear hwi'))
   refine hKc.out _ _ ?_ (fun hHeld => ?_)
   ·first | exact hHeld | exact ⟨hHeld.1.kept hb', hHeld.2.1.kept hb', btr hHeld.2.2 hb'⟩ | exact ⟨hao'.blk hHeld.1 HNE.out.1.1 HNE.out.1.2 (by decide), HWY.out.wb, hHeld.2.2.trans ((hao'.to_below (by have h1 := hHeld.2.1.lt; have h2 := HWL.out.2.1; omega) HNE.out.2.1 HNE.out.2.2).mono HWL.out.2.2)⟩
   clear hKc Kc
   refine tkH (i := 7) (v := ?_) rfl (by kernel_rfl) (fun _ _ _ h => h) (Or.inl ⟨by rfl, ?_⟩) (by assumption) ?_
   rotate_left
   ·intro w hSw
    try dsimp only at hSw
    go_simp
    try with_reducible rfl
   simp only [Act.put, z1, z2, z3, z4, z5, z6]
   refine tkH (i := 8) (v := ?_) rfl (by kernel_rfl) (fun _ _ _ h => h) (Or.inl ⟨by rfl, ?_⟩) (by assumption) ?_
   rotate_left
   ·intro w hSw
    try dsimp only at hSw
    go_simp
    try with_reducible rfl
   simp only [Act.put, z1, z2, z3, z4, z5, z6]
   refine wpAnyH_ready (rs := [11]) (by kernel_rfl) (by simp) ?_
   refine AllReadyH.cons rfl (fun Kc hKc => ?_) AllReadyH.nil
   go_simp
   go_wp2_with (first | ((with_reducible refine (P1.out _).mono ?_); rintro e w9 ⟨rfl, hb'⟩; have HWX := Lib.hid (HWX.out.kept hb')) | ((with_reducible refine (P2.out _).mono ?_); rintro e w9 ⟨rfl, hb'⟩; have HWX := Lib.hid (HWX.out.kept hb')) | ((with_reducible refine (P3.out _).mono ?_); rintro e w9 ⟨rfl, hb'⟩; have HWX := Lib.hid (HWX.out.kept hb')) | ((with_reducible refine (P4.out _).mono ?_); rintro e w9 ⟨rfl, hb'⟩; have HWX := Lib.hid (HWX.out.kept hb')) | ((with_reducible refine (PL.out _ HWX.out).mono ?_); rintro e w9 ⟨rfl, hwi', hao'⟩; have HWY := Lib.hid hwi'; clear hwi'))
   refine hKc.out _ _ ?_ (fun hHeld => ?_)
   ·first | exact hHeld | exact ⟨hHeld.1.kept hb', hHeld.2.1.kept hb', btr hHeld.2.2 hb'⟩ | exact ⟨hao'.blk hHeld.1 HNE.out.1.1 HNE.out.1.2 (by decide), HWY.out.wb, hHeld.2.2.trans ((hao'.to_below (by have h1 := hHeld.2.1.lt; have h2 := HWL.out.2.1; omega) HNE.out.2.1 HNE.out.2.2).mono HWL.out.2.2)⟩
   clear hKc Kc
   refine tkH (i := 12) (v := ?_) rfl (by kernel_rfl) (fun _ _ _ h => h) (Or.inl ⟨by rfl, ?_⟩) (by assumption) ?_
   rotate_left
   ·intro w hSw
    try dsimp only at hSw
    go_simp
    try with_reducible rfl
   simp only [Act.put, z1, z2, z3, z4, z5, z6]
   refine tkH (i := 13) (v := ?_) rfl (by kernel_rfl) (fun _ _ _ h => h) (Or.inl ⟨by rfl, ?_⟩) (by assumption) ?_
   rotate_left
   ·intro w hSw
    try dsimp only at hSw
    go_simp
    try with_reducible rfl
   simp only [Act.put, z1, z2, z3, z4, z5, z6]
   refine wpAnyH_ready (rs := [16]) (by kernel_rfl) (by simp) ?_
   refine AllReadyH.cons rfl (fun Kc hKc => ?_) AllReadyH.nil
   go_simp
   go_wp2_with (first | ((with_reducible refine (P1.out _).mono ?_); rintro e w9 ⟨rfl, hb'⟩; have HWX := Lib.hid (HWX.out.kept hb')) | ((with_reducible refine (P2.out _).mono ?_); rintro e w9 ⟨rfl, hb'⟩; have HWX := Lib.hid (HWX.out.kept hb')) | ((with_reducible refine (P3.out _).mono ?_); rintro e w9 ⟨rfl, hb'⟩; have HWX := Lib.hid (HWX.out.kept hb')) | ((with_reducible refine (P4.out _).mono ?_); rintro e w9 ⟨rfl, hb'⟩; have HWX := Lib.hid (HWX.out.kept hb')) | ((with_reducible refine (PL.out _ HWX.out).mono ?_); rintro e w9 ⟨rfl, hwi', hao'⟩; have HWY := Lib.hid hwi'; clear hwi'))
   refine hKc.out _ _ ?_ (fun hHeld => ?_)
   ·first | exact hHeld | exact ⟨hHeld.1.kept hb', hHeld.2.1.kept hb', btr hHeld.2.2 hb'⟩ | exact ⟨hao'.blk hHeld.1 HNE.out.1.1 HNE.out.1.2 (by decide), HWY.out.wb, hHeld.2.2.trans ((hao'.to_below (by have h1 := hHeld.2.1.lt; have h2 := HWL.out.2.1; omega) HNE.out.2.1 HNE.out.2.2).mono HWL.out.2.2)⟩
   clear hKc Kc
   refine tkH (i := 17) (v := ?_) rfl (by kernel_rfl) (fun _ _ _ h => h) (Or.inl ⟨by rfl, ?_⟩) (by assumption) ?_
   rotate_left
   ·intro w hSw
    try dsimp only at hSw
    go_simp
    try with_reducible rfl
   simp only [Act.put, z1, z2, z3, z4, z5, z6]
   refine tkH (i := 18) (v := ?_) rfl (by kernel_rfl) (fun _ _ _ h => h) (Or.inl ⟨by rfl, ?_⟩) (by assumption) ?_
   rotate_left
   ·intro w hSw
    try dsimp only at hSw
    go_simp
    try with_reducible rfl
   simp only [Act.put, z1, z2, z3, z4, z5, z6]
   refine wpAnyH_ready (rs := [22]) (by kernel_rfl) (by simp) ?_
   refine AllReadyH.cons rfl (fun Kc hKc => ?_) AllReadyH.nil
   go_simp
   go_wp2_with (first | ((with_reducible refine (P1.out _).mono ?_); rintro e w9 ⟨rfl, hb'⟩; have HWX := Lib.hid (HWX.out.kept hb')) | ((with_reducible refine (P2.out _).mono ?_); rintro e w9 ⟨rfl, hb'⟩; have HWX := Lib.hid (HWX.out.kept hb')) | ((with_reducible refine (P3.out _).mono ?_); rintro e w9 ⟨rfl, hb'⟩; have HWX := Lib.hid (HWX.out.kept hb')) | ((with_reducible refine (P4.out _).mono ?_); rintro e w9 ⟨rfl, hb'⟩; have HWX := Lib.hid (HWX.out.kept hb')) | ((with_reducible refine (PL.out _ HWX.out).mono ?_); rintro e w9 ⟨rfl, hwi', hao'⟩; have HWY := Lib.hid hwi'; clear hwi'))
   refine hKc.out _ _ ?_ (fun hHeld => ?_)
   ·first | exact hHeld | exact ⟨hHeld.1.kept hb', hHeld.2.1.kept hb', btr hHeld.2.2 hb'⟩ | exact ⟨hao'.blk hHeld.1 HNE.out.1.1 HNE.out.1.2 (by decide), HWY.out.wb, hHeld.2.2.trans ((hao'.to_below (by have h1 := hHeld.2.1.lt; have h2 := HWL.out.2.1; omega) HNE.out.2.1 HNE.out.2.2).mono HWL.out.2.2)⟩
   clear hKc Kc
   refine tkH (i := 23) (v := ?_) rfl (by kernel_rfl) (fun _ _ _ h => h) (Or.inl ⟨by rfl, ?_⟩) (by assumption) ?_
   rotate_left
   ·intro w hSw
    try dsimp only at hSw
    go_simp
    try with_reducible rfl
   simp only [Act.put, z1, z2, z3, z4, z5, z6]
   refine wpAnyH_ready (rs := [24]) (by kernel_rfl) (by simp) ?_
   refine AllReadyH.cons rfl (fun Kc hKc => ?_) AllReadyH.nil
   go_simp
   go_wp2_with (first | ((with_reducible refine (P1.out _).mono ?_); rintro e w9 ⟨rfl, hb'⟩; have HWX := Lib.hid (HWX.out.kept hb')) | ((with_reducible refine (P2.out _).mono ?_); rintro e w9 ⟨rfl, hb'⟩; have HWX := Lib.hid (HWX.out.kept hb')) | ((with_reducible refine (P3.out _).mono ?_); rintro e w9 ⟨rfl, hb'⟩; have HWX := Lib.hid (HWX.out.kept hb')) | ((with_reducible refine (P4.out _).mono ?_); rintro e w9 ⟨rfl, hb'⟩; have HWX := Lib.hid (HWX.out.kept hb')) | ((with_reducible refine (PL.out _ HWX.out).mono ?_); rintro e w9 ⟨rfl, hwi', hao'⟩; have HWY := Lib.hid hwi'; clear hwi'))
   refine hKc.out _ _ ?_ (fun hHeld => ?_)
   ·first | exact hHeld | exact ⟨hHeld.1.kept hb', hHeld.2.1.kept hb', btr hHeld.2.2 hb'⟩ | exact ⟨hao'.blk hHeld.1 HNE.out.1.1 HNE.out.1.2 (by decide), HWY.out.wb, hHeld.2.2.trans ((hao'.to_below (by have h1 := hHeld.2.1.lt; have h2 := HWL.out.2.1; omega) HNE.out.2.1 HNE.out.2.2).mono HWL.out.2.2)⟩
   clear hKc Kc
   refine tkH (i := 25) (v := ?_) rfl (by kernel_rfl) (fun _ _ _ h => h) (Or.inl ⟨by rfl, ?_⟩) (by assumption) ?_
   rotate_left
   ·intro w hSw
    try dsimp only at hSw
    go_simp
    try with_reducible rfl
   simp only [Act.put, z1, z2, z3, z4, z5, z6]
   refine tkH (i := 26) (v := ?_) rfl (by kernel_rfl) (fun _ _ _ h => h) (Or.inl ⟨by rfl, ?_⟩) (by assumption) ?_
   rotate_left
   ·intro w hSw
    try dsimp only at hSw
    go_simp
    try with_reducible rfl
   simp only [Act.put, z1, z2, z3, z4, z5, z6]
   refine tkH (i := 27) (v := ?_) rfl (by kernel_rfl) (fun _ _ _ h => h) (Or.inl ⟨by rfl, ?_⟩) (by assumption) ?_
   rotate_left
   ·intro w hSw
    try dsimp only at hSw
    go_simp
    try with_reducible rfl
   simp only [Act.put, z1, z2, z3, z4, z5, z6]
   refine tkH (i := 28) (v := ?_) rfl (by kernel_rfl) (fun _ _ _ h => h) (Or.inl ⟨by rfl, ?_⟩) (by assumption) ?_
   rotate_left
   ·intro w hSw
    try dsimp only at hSw
    go_simp
    try with_reducible rfl
   simp only [Act.put, z1, z2, z3, z4, z5, z6]
   refine tkH (i := 29) (v := ?_) rfl (by kernel_rfl) (fun _ _ _ h => h) (Or.inl ⟨by rfl, ?_⟩) (by assumption) ?_
   rotate_left
   ·intro w hSw
    try dsimp only at hSw
    go_simp
    try with_reducible rfl
   simp only [Act.put, z1, z2, z3, z4, z5, z6]
   refine wpAnyH_done (by kernel_rfl) ?_ _
   have HCZ := Lib.hid hHeld.1
   have HBZ := Lib.hid hHeld.2.2
   clear hHeld
   go_wp2_with fail
   with_reducible refine (P5.out _).mono ?_
   rintro e wk ⟨rfl, hb9⟩
   have HW9 := Lib.hid (HWY.out.kept hb9)
   have HC9 := Lib.hid (HCZ.out.kept hb9)
   have HB9 := Lib.hid (btr HBZ.out hb9)
   clear hb9
   go_wp2_with fail
   go_roundw
   case rel => exact ⟨n + 1, by omega, by go_num, HW9.out, HC9.out, HB9.out⟩
   case measure => simp [intOf]; omega
  ·obtain rfl : n = 3 := by omega
   go_wp2_with fail
   go_ret
   exact ⟨w2.heap.size, wq.heap.size, A, bm, cs, rfl, HWI.out, HWL.out.2.2, HWL.out.1, HBL.out⟩

theorem andOne (n : Int) : bits BinOp.and IntKind.i64 n 1 = n % 2 := by
  have h16 : (BitVec.ofInt 64 1).toNat = 2 ^ 1 - 1 := by decide
  have key : (BitVec.ofInt 64 n &&& BitVec.ofInt 64 1).toNat = (n % ((2 ^ 64 : Nat) : Int)).toNat % 2 ^ 1 := by
    rw [BitVec.toNat_and, BitVec.toNat_ofInt, h16, Nat.and_two_pow_sub_one_eq_mod]
  show IntKind.i64.wrap ((BitVec.ofInt 64 n &&& BitVec.ofInt 64 1).toNat : Nat) = n % 2
  rw [key, IntKind.wrap_i64]
  omega
theorem modRoom (D R : Int) (hR : 0 ≤ R) : -R ≤ D.tmod (R + 1) ∧ D.tmod (R + 1) ≤ R := by
  rcases Int.le_total 0 D with h | h
  · rw [Int.tmod_eq_emod_of_nonneg h]
    have h1 := Int.emod_nonneg D (show R + 1 ≠ 0 by omega)
    have h2 := Int.emod_lt_of_pos D (show 0 < R + 1 by omega)
    omega
  · have e : D.tmod (R + 1) = -((-D).tmod (R + 1)) := by rw [Int.neg_tmod]; omega
    rw [e, Int.tmod_eq_emod_of_nonneg (by omega)]
    have h1 := Int.emod_nonneg (-D) (show R + 1 ≠ 0 by omega)
    have h2 := Int.emod_lt_of_pos (-D) (show 0 < R + 1 by omega)
    omega
set_option maxRecDepth 100000 in
set_option maxHeartbeats 2000000 in
theorem small_lin (b r d s x : Int) (hx : In64 x) (w : World) : Calls Tryz.prog 10 #[.agg #[.int .i64 b, .int .i64 r, .int .i64 d, .int .i64 1, .int .u64 s], .int .i64 x] w fun e w' => e = .returned (.int .i64 (x.tmod 1048576)) ∧ Below w.heap.size w w' := by
  have hx1 := Blk.new w 24 #[.int .i64 b, .int .i64 r, .int .i64 d, .int .i64 1, .int .u64 s]
  have HB := Lib.hid (below_alloc1 w (.cells #[.int .i64 b, .int .i64 r, .int .i64 d, .int .i64 1, .int .u64 s] 24))
  have q3 := hx1.cell 3
  simp at q3
  have h1 : -1048576 < x.tmod 1048576 ∧ x.tmod 1048576 < 1048576 := by
    have := modRoom x 1048575 (by decide)
    simp only [Int.reduceAdd] at this
    omega
  have hw : IntKind.i64.wrap (x.tmod 1048576) = x.tmod 1048576 := by
    obtain ⟨h2, h3⟩ := h1
    generalize x.tmod 1048576 = y at *
    simp only [IntKind.wrap, IntKind.bits, IntKind.signed]
    simp
    omega
  clear hx1 h1
  go_enter Tryz.func10, Tryz.ntmps10
  go_wp2_with fail
  go_ret
  exact ⟨by simp [hw], HB.out⟩
structure WWin (w0 : World) (base WB A bm V BR K : Nat) (r d s : Int) (cs : Array Value) (Z : Nat → Nat → List Int) (w : World) : Prop where
  ag : ∃ S L X Ar G C, WinSt w base A bm V BR (K + 1) 6 r d 1 s S L X Ar G C Z
  wb : Blk w WB 34 cs
  bel : Below w0.heap.size w0 w
theorem WWin.kept {w0 w w' : World} {base WB A bm V BR K : Nat} {r d s : Int} {cs : Array Value} {Z : Nat → Nat → List Int} (h : WWin w0 base WB A bm V BR K r d s cs Z w) (hb : Below w.heap.size w w') : WWin w0 base WB A bm V BR K r d s cs Z w' := by
  obtain ⟨S, L, X, Ar, G, C, h1⟩ := h.ag
  exact ⟨⟨S, L, X, Ar, G, C, h1.kept hb⟩, h.wb.kept hb, btr h.bel hb⟩
theorem WWin.setZ {w0 w : World} {base WB A bm V BR K : Nat} {r d s : Int} {cs : Array Value} {Z Z' : Nat → Nat → List Int} (h : WWin w0 base WB A bm V BR K r d s cs Z w) (e : ∀ k p, 1 ≤ k → k < K + 1 + 3 → p ≤ 6 → Z k p = Z' k p) : WWin w0 base WB A bm V BR K r d s cs Z' w := by
  obtain ⟨S, L, X, Ar, G, C, h1⟩ := h.ag
  exact ⟨⟨S, L, X, Ar, G, C, h1.setZ (fun k p h2 h3 h4 => e k p h2 h3 (by simpa using h4))⟩, h.wb, h.bel⟩
theorem WWin.next {w0 w w' : World} {base WB A bm V BR K : Nat} {r d s : Int} {cs : Array Value} {Z Z' : Nat → Nat → List Int} (h : WWin w0 base WB A bm V BR K r d s cs Z w) (h0 : w0.heap.size ≤ base) (ho : XOnl [A, bm, V, BR] base w w')
    (h2 : ∃ S L X Ar G C, WinSt w' base A bm V BR (K + 1) 6 r d 1 s S L X Ar G C Z') : WWin w0 base WB A bm V BR K r d s cs Z' w' := by
  obtain ⟨S, L, X, Ar, G, C, h1⟩ := h.ag
  have hk := h.wb
  refine ⟨h2, ho.blk hk (fun hm => ?_) (by decide), h.bel.trans ((ho.to_below h1.base_le (fun k hm => ?_)).mono h0)⟩
  · obtain ⟨T, ⟨h3, D, ⟨es, clock, h4, -⟩, -⟩, -⟩ := h1.agg
    obtain ⟨h5, cur, h6, -⟩ := h1.win
    simp at hm
    rcases hm with rfl | rfl | rfl | rfl
    · exact absurd (blk_one hk h3) (by decide)
    · rw [show w.heap[WB]? = _ from hk] at h4; cases h4
    · exact absurd (blk_one hk h5) (by decide)
    · exact absurd (blk_one hk h6) (by decide)
  · have := h1.lo
    simp at hm
    rcases hm with rfl | rfl | rfl | rfl <;> omega
theorem winT_eq (i : Nat) (c : UInt8) (hc : Lib.itoa (i : Int) = [c]) (key : Nat) (x : Int) : sB [97, 100, 100, 32, c, 32] ++ sB (Lib.itoa (key : Int)) ++ sB [32] ++ sB (Lib.itoa x) = sB (joinW [wAdd, Lib.itoa (i : Int), Lib.itoa (key : Int), Lib.itoa x]) := by
  simp only [sB_append, joinW, hc, wAdd]
  congr 1
  simp
theorem small_of {r d q x : Int} {us : Nat → Option (Nat × Int)} {key : Nat} (hs : Small 6 r d 1 1048575 us) {i : Nat} (hu : us i = some (key, x)) : key ≤ 9223372036854775807 ∧ In64 x := by
  obtain ⟨h1, h2, -⟩ := hs i key x hu
  have h3 := keysI_bd 6 r d 1 0
  have h4 := absI_bd x
  refine ⟨by omega, ?_⟩
  unfold In64
  omega
theorem room30 {i : Nat} (hi : i < 31) : (1048575 : Int) * ((i + 1 : Nat) : Int) ≤ 9223372036854775807 := by omega
theorem room30' {i : Nat} (hi : i < 31) : (1048575 : Int) * (i : Int) ≤ 9223372036854775807 := by omega
theorem wwin_upd {w0 : World} {base WB A bm V BR K : Nat} {r d s : Int} {cs : Array Value} (hg : 4 < base) (h0 : w0.heap.size ≤ base) (s0 : 0 ≤ s) (s1 : s ≤ 18446744073709551615) (hr : rightB 6 r d 1 = true) (us : Nat → Option (Nat × Int)) (hs : Small 6 r d 1 1048575 us) (hK : K ≤ 15)
  (i key : Nat) (x : Int) (hi : i < 30) (hu : us i = some (key, x)) (w : World) (h : WWin w0 base WB A bm V BR K r d s cs (winZ 6 r d 1 s us K i) w) :
  Calls Tryz.prog 8 #[.pointer (some ⟨A, 0, none⟩), .string (sB [97, 100, 100, 32, 52, 32] ++ sB (Lib.itoa (key : Int)) ++ sB [32] ++ sB (Lib.itoa x))] w fun e w' => e = .returned (.tuple #[.string (sB [100, 111, 110, 101]), .bool true]) ∧ WWin w0 base WB A bm V BR K r d s cs (winZ 6 r d 1 s us K (i + 1)) w' := by
 obtain ⟨S, L, X, Ar, G, C, h1⟩ := h.ag
 obtain ⟨hk, hx⟩ := small_of (q := 0) hs hu
 have ok := fun P => accZ_ok (s := s) hr (by decide) hs P i (room30 (by omega)) hu
 rw [winT_eq 4 52 it4]
 refine (line_addw w base A bm V BR K 6 r d 1 s S L X Ar G C _ h1 hg hK s0 s1 key hk x hx (by rw [winZ2]; exact ok _) (by rw [winZ3 _ _ _ _ _ _ _ _ (by omega)]; exact ok _)).mono ?_
 rintro e w' ⟨t, rfl, rfl, h2, ho⟩
 exact ⟨rfl, (h.next h0 ho h2).setZ (fun k p h3 h4 _ => by rw [winZ_upd hu k h3 h4])⟩
theorem wwin_tick {w0 : World} {base WB A bm V BR K : Nat} {r d s : Int} {cs : Array Value} (hg : 4 < base) (h0 : w0.heap.size ≤ base) (hr : rightB 6 r d 1 = true) (us : Nat → Option (Nat × Int)) (hs : Small 6 r d 1 1048575 us) (hK : K ≤ 15)
    (i : Nat) (hi : i < 30) (hu : us i = none) (w : World) (h : WWin w0 base WB A bm V BR K r d s cs (winZ 6 r d 1 s us K i) w) :
    Calls Tryz.prog 8 #[.pointer (some ⟨A, 0, none⟩), .string (sB [116, 105, 99, 107])] w fun e w' => e = .returned (.tuple #[.string (sB [100, 111, 110, 101]), .bool true]) ∧ WWin w0 base WB A bm V BR K r d s cs (winZ 6 r d 1 s us K (i + 1)) w' := by
  obtain ⟨S, L, X, Ar, G, C, h1⟩ := h.ag
  have hm : (1 : Int) ≠ 2 := by decide
  have hrm := room30 (i := i) (by omega)
  refine (line_tickw w base A bm V BR K 6 r d 1 s S L X Ar G C _ h1 hg hK hm (fun n hn => ?_)).mono ?_
  · rw [winZ_sum hm hr (by decide) hs hrm hu n hn]
    exact (accZ_bd (s := s) (by decide) hs _ _ n hn).fit hrm
  · rintro e w' ⟨t, rfl, rfl, h2, ho⟩
    exact ⟨rfl, (h.next h0 ho h2).setZ (fun k p h3 h4 h5 => winZ_tick hm hr (by decide) hs hrm hu k p h3 h4 (by simpa using h5))⟩
noncomputable def fedZ (b r d m s : Int) (us : Nat → Option (Nat × Int)) (K M i : Nat) : Nat → Nat → List Int := upN (winZ b r d m s us K M) 1 (accZ b r d m s us (liveP us K (tickN us M)) i)
theorem fedZ_zero (b r d m s : Int) (us : Nat → Option (Nat × Int)) (K M k : Nat) : fedZ b r d m s us K M 0 k = winZ b r d m s us K M k := by
  unfold fedZ
  by_cases e : k = 1
  · subst e; rw [upN_same, winZ1]; rfl
  · rw [upN_other _ _ e]
theorem fedZ_no {b r d m s : Int} {us : Nat → Option (Nat × Int)} {K M i : Nat} (h : us i = none ∨ ¬ tickN us M - tickN us i < K + 1) : fedZ b r d m s us K M (i + 1) = fedZ b r d m s us K M i := by
  unfold fedZ
  rw [accZ_no]
  rcases h with h | h
  · exact .inl h
  · exact .inr (by unfold liveP; exact decide_eq_false h)
theorem wwin_fed {w0 : World} {base WB A bm V BR K : Nat} {r d s : Int} {cs : Array Value} (hg : 4 < base) (h0 : w0.heap.size ≤ base) (s0 : 0 ≤ s) (s1 : s ≤ 18446744073709551615) (hr : rightB 6 r d 1 = true) (us : Nat → Option (Nat × Int)) (hs : Small 6 r d 1 1048575 us)
  (M i key : Nat) (x : Int) (hi : i < 30) (hu : us i = some (key, x)) (hl : tickN us M - tickN us i < K + 1) (w : World) (h : WWin w0 base WB A bm V BR K r d s cs (fedZ 6 r d 1 s us K M i) w) :
  Calls Tryz.prog 8 #[.pointer (some ⟨A, 0, none⟩), .string (sB [97, 100, 100, 32, 49, 32] ++ sB (Lib.itoa (key : Int)) ++ sB [32] ++ sB (Lib.itoa x))] w fun e w' => e = .returned (.tuple #[.string (sB [100, 111, 110, 101]), .bool true]) ∧ WWin w0 base WB A bm V BR K r d s cs (fedZ 6 r d 1 s us K M (i + 1)) w' := by
 obtain ⟨S, L, X, Ar, G, C, h1⟩ := h.ag
 obtain ⟨hk, hx⟩ := small_of (q := 0) hs hu
 have ok := accZ_ok (s := s) hr (by decide) hs (liveP us K (tickN us M)) i (room30 (by omega)) hu
 rw [winT_eq 1 49 it1]
 refine (line_add1 w base A bm V BR (K + 1) 6 r d 1 s S L X Ar G C _ h1 hg s0 s1 key hk x hx (by unfold fedZ; rw [upN_same]; exact ok)).mono ?_
 rintro e w' ⟨t, rfl, rfl, h2, ho⟩
 refine ⟨rfl, (h.next h0 ho ⟨_, _, _, _, _, _, h2⟩).setZ (fun k p h3 h4 _ => ?_)⟩
 unfold fedZ
 by_cases e : k = 1
 ·subst e
  rw [upN_same, upN_same, upN_same, accZ_yes hu (by unfold liveP; exact decide_eq_true hl)]
 ·rw [upN_other _ _ e, upN_other _ _ e, upN_other _ _ e]
theorem wwin_exp4 {w0 : World} {base WB A bm V BR K : Nat} {r d s : Int} {cs : Array Value} (s0 : 0 ≤ s) (s1 : s ≤ 18446744073709551615) (hr : rightB 6 r d 1 = true) (Z : Nat → Nat → List Int) (hz : Shaped 6 r d 1 (Z 2) ((6 : Int).toNat + 1)) (w : World) (h : WWin w0 base WB A bm V BR K r d s cs Z w) :
    Calls Tryz.prog 8 #[.pointer (some ⟨A, 0, none⟩), .string (sB [101, 120, 112, 111, 114, 116, 32, 52])] w fun e w' => e = .returned (.tuple #[.string (sB ([98, 121, 116, 101, 115, 32] ++ hexT (encB 6 r d 1 s (Z 2)))), .bool true]) ∧ Below w.heap.size w w' := by
  obtain ⟨S, L, X, Ar, G, C, h1⟩ := h.ag
  obtain ⟨e1, e2, e3, -⟩ := enc_size (s := s) hr rfl hz
  rw [show sB [101, 120, 112, 111, 114, 116, 32, 52] = sB (joinW [wExport, Lib.itoa ((4 : Nat) : Int)]) by rw [show Lib.itoa ((4 : Nat) : Int) = [52] from it4]; rfl]
  refine (line_exportw w base A bm V BR (K + 1) 6 r d 1 s S L X Ar G C Z h1 s0 (by omega) e1 e2 e3).mono ?_
  rintro e w' ⟨t, rfl, rfl, hb⟩
  exact ⟨rfl, hb⟩
theorem wwin_exp1 {w0 : World} {base WB A bm V BR K : Nat} {r d s : Int} {cs : Array Value} (s0 : 0 ≤ s) (s1 : s ≤ 18446744073709551615) (hr : rightB 6 r d 1 = true) (Z : Nat → Nat → List Int) (hz : Shaped 6 r d 1 (Z 1) ((6 : Int).toNat + 1)) (w : World) (h : WWin w0 base WB A bm V BR K r d s cs Z w) :
    Calls Tryz.prog 8 #[.pointer (some ⟨A, 0, none⟩), .string (sB [101, 120, 112, 111, 114, 116, 32, 49])] w fun e w' => e = .returned (.tuple #[.string (sB ([98, 121, 116, 101, 115, 32] ++ hexT (encB 6 r d 1 s (Z 1)))), .bool true]) ∧ Below w.heap.size w w' := by
  obtain ⟨S, L, X, Ar, G, C, h1⟩ := h.ag
  obtain ⟨e1, e2, e3, -⟩ := enc_size (s := s) hr rfl hz
  rw [show sB [101, 120, 112, 111, 114, 116, 32, 49] = sB (joinW [wExport, Lib.itoa ((1 : Nat) : Int)]) by rw [show Lib.itoa ((1 : Nat) : Int) = [49] from it1]; rfl]
  refine (line_export1 w base A bm V BR (K + 1) 6 r d 1 s S L X Ar G C Z h1 s0 (by omega) e1 e2 e3).mono ?_
  rintro e w' ⟨t, rfl, rfl, hb⟩
  exact ⟨rfl, hb⟩
def winLT (r d x3 n : Int) : ByteArray := sB [119, 105, 110, 100, 111, 119, 32, 54, 32] ++ sB (Lib.itoa r) ++ sB [32] ++ sB (Lib.itoa d) ++ sB [32] ++ sB (Lib.itoa x3) ++ sB [32] ++ sB (Lib.itoa n)
theorem winLT_eq (r d x3 n : Int) : winLT r d x3 n = sB (joinW [wWindow, Lib.itoa 6, Lib.itoa r, Lib.itoa d, Lib.itoa x3, Lib.itoa n]) := by
  unfold winLT
  simp only [sB_append, joinW, it6, wWindow]
  congr 1
  simp
theorem wwin_open {w0 : World} {base WB A bm K : Nat} {r d s : Int} {cs : Array Value} (hg : 4 < base) (h0 : w0.heap.size ≤ base) (hr : rightB 6 r d 1 = true) (us : Nat → Option (Nat × Int)) (hK : K ≤ 15) (x3 : Int) (hx3 : In64 x3) (hs : IntKind.u64.wrap x3 = s)
  (w : World) (h : WorldIs w base WB A bm r d 1 s cs 3 (fun _ => zeroZ 6 r d 1)) (hb : Below w0.heap.size w0 w) :
  Calls Tryz.prog 8 #[.pointer (some ⟨A, 0, none⟩), .string (winLT r d x3 ((K : Int) + 1))] w fun e w' => e = .returned (.tuple #[.string (sB [104, 97, 110, 100, 108, 101, 32, 52]), .bool true]) ∧ ∃ V BR, WWin w0 base WB A bm V BR K r d s cs (winZ 6 r d 1 s us K 0) w' := by
 obtain ⟨S, L, X, Ar, G, C, h1⟩ := h.ag
 rw [winLT_eq]
 have := line_window w base A bm 6 r d s S L X Ar G C _ h1 hg hr x3 hx3 hs (K + 1) (by omega) (by omega)
 rw [show ((K + 1 : Nat) : Int) = (K : Int) + 1 by omega] at this
 refine this.mono ?_
 rintro e w' ⟨t, rfl, rfl, V, BR, S', L', X', A', G', C', h2, ho⟩
 have hne := h.ne h.wb (by decide)
 refine ⟨by rw [it4]; rfl, V, BR, ⟨⟨_, _, _, _, _, _, h2.setZ (fun k p h3 h4 h5 => ?_)⟩, ho.blk h.wb hne.1 hne.2 (by decide), hb.trans ((ho.to_below h1.base_le.1 h1.lo.1 h1.lo.2).mono h0)⟩⟩
 rw [winZ_zero]
 by_cases e : k = 1
 ·subst e; rw [upN_same]
 ·rw [upN_other _ _ e]



set_option maxRecDepth 100000 in
set_option maxHeartbeats 8000000 in
theorem works_yes (w : World) (ht : Tab w) : Calls Tryz.prog 6 #[] w fun e w' => e = .returned (.bool true) ∧ Below w.heap.size w w' := by
  have PR := run_small w ht
  have hlit : sB (joinN wkLine) = ⟨(joinN wkLine).toArray⟩ := rfl
  rw [hlit] at PR
  simp only [wkLine, joinN, List.cons_append, List.nil_append, List.append_assoc] at PR
  have PR := Lib.hid PR
  clear ht hlit
  go_enter Tryz.func6, Tryz.ntmps6
  go_wp2_with fail
  refine PR.out.mono ?_
  rintro e w2 ⟨v, rfl, hown, hb⟩
  have HB := Lib.hid hb
  obtain ⟨g, cap, hv, -, -, -, -, hc⟩ := own_cells hown (by decide)
  subst hv
  have c3 := hc 3 (.string ⟨#[110, 117, 109, 98, 101, 114, 32, 50]⟩) rfl
  have c4 := hc 4 (.string ⟨#[107, 101, 121, 32, 51]⟩) rfl
  have c5 := hc 5 (.string ⟨#[108, 105, 115, 116, 32, 50, 58, 48, 58, 55, 32, 49, 58, 49, 58, 53, 32, 48, 58, 51, 58, 53]⟩) rfl
  have c6 := hc 6 (.string ⟨#[119, 105, 100, 101, 32, 50, 57]⟩) rfl
  clear hown hb hc PR
  go_wp2_with fail
  go_ret
  exact ⟨rfl, HB.out⟩

def usOf (kn : Nat → Int) (ks : Nat → Nat) (ds : Nat → Int) : Nat → Option (Nat × Int) := fun j => if kn j % 2 = 0 then some (ks j % 64, (ds j).tmod 1048576) else none
theorem usOf_small {r d : Int} (hr : rightB 6 r d 1 = true) (kn : Nat → Int) (ks : Nat → Nat) (ds : Nat → Int) : Small 6 r d 1 1048575 (usOf kn ks ds) := fun j k x h => by
  unfold usOf at h
  split at h
  · simp only [Option.some.injEq, Prod.mk.injEq] at h
    obtain ⟨rfl, rfl⟩ := h
    have h1 := modRoom (ds j) 1048575 (by decide)
    simp only [Int.reduceAdd] at h1
    refine ⟨?_, by unfold absI; split <;> omega, fun e => absurd e (by decide)⟩
    rw [keysI_yes hr (by omega) (by omega)]
    have : ((2 : Int) ^ ((6 : Int) - 0).toNat) = 64 := by decide
    omega
  · cases h
set_option maxRecDepth 100000 in
set_option maxHeartbeats 8000000 in
theorem TopWindow_walk0 (xb xr xd xm : Int) (s : Int) (s0 : 0 ≤ s) (s1 : s ≤ 18446744073709551615) (q : Int) (l : Value) (n : Nat) (kn hs os : Nat → Int) (ks : Nat → Nat) (ds : Nat → Int) (w : World) (ht : Tab w) (ho : OpsAt w l n kn hs os ks ds) :
  Calls Tryz.prog 3 #[.agg #[.int .i64 xb, .int .i64 xr, .int .i64 xd, .int .i64 xm, .int .u64 s], .int .i64 q, l] w fun e w' => e = .returned (.bool true) ∧ Below w.heap.size w w' := by
 have HT := Lib.hid ht
 have PW := Lib.hid (fun w ht => works_yes w ht)
 have PM := Lib.hid (fun w ht => made_any xb xr xd xm s s0 s1 1 (by decide) (by decide) w ht)
 obtain ⟨K, hKd⟩ : ∃ K : Nat, (K : Int) = q % 65536 % 16 := ⟨(q % 65536 % 16).toNat, by omega⟩
 have HK : Hid (K ≤ 15) := Lib.hid (by omega)
 have hn1 : (1 : Int) + (bits BinOp.and IntKind.i64 q 65535).tmod 16 = (K : Int) + 1 := by
  rw [and16, Int.tmod_eq_emod_of_nonneg (by omega)]
  omega
 have hn2 : IntKind.i64.wrap ((K : Int) + 1) = (K : Int) + 1 := by
  have := HK.out
  simp only [IntKind.wrap, IntKind.bits, IntKind.signed]
  simp
  omega
 have HO := Lib.hid ho
 obtain ⟨ao, cap, rfl, hmx, hin, hce⟩ := ho
 have HIN := Lib.hid (And.intro hmx hin)
 clear ht hmx hin hce hKd
 go_enter Tryz.func3, Tryz.ntmps3
 go_wp2_with fail
 have HB0 := Lib.hid (below_alloc1 w (.cells #[.int .i64 xb, .int .i64 xr, .int .i64 xd, .int .i64 xm, .int .u64 s] 24))
 have HC0 := Lib.hid (Blk.new w 24 #[.int .i64 xb, .int .i64 xr, .int .i64 xd, .int .i64 xm, .int .u64 s])
 generalize (w.alloc (.cells #[.int .i64 xb, .int .i64 xr, .int .i64 xd, .int .i64 xm, .int .u64 s] 24)) = w0 at *
 with_reducible refine (PW.out _ (HT.out.kept HB0.out)).mono ?_
 rintro e w1 ⟨rfl, hb1⟩
 have HB1 := Lib.hid (btr HB0.out hb1)
 have HC1 := Lib.hid (HC0.out.kept hb1)
 have q0 := HC1.out.cell 0
 have q1 := HC1.out.cell 1
 have q2 := HC1.out.cell 2
 have q3 := HC1.out.cell 3
 have q4 := HC1.out.cell 4
 simp at q0 q1 q2 q3 q4
 clear hb1 PW HB0 HC0
 go_wp2_with fail
 with_reducible refine (PM.out _ (HT.out.kept HB1.out)).mono ?_
 rintro e w2 ⟨base, WB, A, bm, cs, rfl, hwi, hbs, hWB, hb2⟩
 have HWI := Lib.hid hwi
 have HB2 := Lib.hid (btr HB1.out hb2)
 have HSZ : Hid (w.heap.size ≤ base) := Lib.hid (Nat.le_trans HB1.out.size hbs)
 have HGT : Hid (4 < base) := Lib.hid (Nat.lt_of_lt_of_le HT.out.lt HSZ.out)
 have br := anyI_bd xr 4 (by decide)
 have bd := anyI_bd xd 9 (by decide)
 generalize anyI xr 4 = r at *
 generalize anyI xd 9 = d at *
 have HRT : Hid (rightB 6 r d 1 = true) := Lib.hid (right_mk (by omega))
 have HCS : Hid (cs[0]? = some (.pointer (some ⟨A, 0, none⟩)) ∧ cs[1]? = some (.int .i64 6) ∧ cs[2]? = some (.int .i64 r) ∧ cs[3]? = some (.int .i64 d) ∧ cs[4]? = some (.int .i64 1) ∧ cs[5]? = some (.int .u64 s)) := Lib.hid ⟨hwi.c0, hwi.c1, hwi.c2, hwi.c3, hwi.c4, hwi.c5⟩
 clear hwi hb2 PM q0 q1 q2 q3 q4 hbs hWB
 go_wp2_with fail
 have hxs : IntKind.u64.wrap (IntKind.i64.wrap s) = s := by
  simp only [IntKind.wrap, IntKind.bits, IntKind.signed]
  simp
  omega
 have hx64 : In64 (IntKind.i64.wrap s) := wrapI_bd s
 have hr64 : In64 r := by unfold In64; omega
 have hd64 : In64 d := by unfold In64; omega
 have hk64 : In64 ((K : Int) + 1) := by have := HK.out; unfold In64; omega
 have yr := itoa_len r hr64.1 hr64.2
 have yd := itoa_len d hd64.1 hd64.2
 have yx := itoa_len (IntKind.i64.wrap s) hx64.1 hx64.2
 have yk := itoa_len ((K : Int) + 1) hk64.1 hk64.2
 have P1 := Lib.hid (fun w => gtext r hr64 w)
 have P2 := Lib.hid (fun w => gtext d hd64 w)
 have P4 := Lib.hid (fun w => gtext (IntKind.i64.wrap s) hx64 w)
 have P5 := Lib.hid (fun w => gtext ((K : Int) + 1) hk64 w)
 have PL := Lib.hid (fun W (hW : WorldIs W base WB A bm r d 1 s cs 3 (fun _ => zeroZ 6 r d 1)) (hb : Below w.heap.size w W) => wwin_open (w0 := w) HGT.out HSZ.out HRT.out (usOf kn ks ds) HK.out (IntKind.i64.wrap s) hx64 hxs W hW hb)
 have hT : winLT r d (IntKind.i64.wrap s) ((K : Int) + 1) = sB [119, 105, 110, 100, 111, 119, 32, 54, 32] ++ sB (Lib.itoa r) ++ sB [32] ++ sB (Lib.itoa d) ++ sB [32] ++ sB (Lib.itoa (IntKind.i64.wrap s)) ++ sB [32] ++ sB (Lib.itoa ((K : Int) + 1)) := rfl
 have l0 : sB [119, 105, 110, 100, 111, 119, 32, 54, 32] = ⟨#[119, 105, 110, 100, 111, 119, 32, 54, 32]⟩ := rfl
 have l1 : sB [32] = ⟨#[32]⟩ := rfl
 have l2 : sB [104, 97, 110, 100, 108, 101, 32, 52] = ⟨#[104, 97, 110, 100, 108, 101, 32, 52]⟩ := rfl
 rw [hT, l0, l1, l2] at PL
 clear hT l0 l1 l2 hxs hx64 hr64 hd64 hk64
 generalize sB (Lib.itoa r) = TR at *
 generalize sB (Lib.itoa d) = TD at *
 generalize sB (Lib.itoa (IntKind.i64.wrap s)) = TX at *
 generalize sB (Lib.itoa ((K : Int) + 1)) = TK at *
 have yw1 : ¬ 9223372036854775807 < 9 + TR.size := by omega
 have yw2 : ¬ 9223372036854775807 < 9 + TR.size + 1 := by omega
 have yw3 : ¬ 9223372036854775807 < 9 + TR.size + 1 + TD.size := by omega
 have yw4 : ¬ 9223372036854775807 < 9 + TR.size + 1 + TD.size + 1 := by omega
 have yw5 : ¬ 9223372036854775807 < 9 + TR.size + 1 + TD.size + 1 + TX.size := by omega
 have yw6 : ¬ 9223372036854775807 < 9 + TR.size + 1 + TD.size + 1 + TX.size + 1 := by omega
 have yw7 : ¬ 9223372036854775807 < 9 + TR.size + 1 + TD.size + 1 + TX.size + 1 + TK.size := by omega
 have HWX := Lib.hid (HWI.out.kept (below_drewN (Below.refl _ _) 1))
 clear yr yd yx yk
 refine wp_region_held_drew (S := fun w' => Blk w' WB 34 cs ∧ Below w.heap.size w w') (by kernel_rfl) (by exact ⟨HWI.out.wb.kept (below_drewN (Below.refl _ _) 1), below_drewN HB2.out 1⟩) (fun hHeld => ?_)
 refine tkH (i := 0) (v := ?_) rfl (by kernel_rfl) (fun _ _ _ h => h) (Or.inl ⟨by rfl, ?_⟩) (by assumption) ?_
 rotate_left
 ·intro w hSw
  try dsimp only at hSw
  go_simp
  try with_reducible rfl
 simp only [Act.put, z1, z2, z3, z4, z5, z6]
 refine tkH (i := 1) (v := ?_) rfl (by kernel_rfl) (fun _ _ _ h => h) (Or.inl ⟨by rfl, ?_⟩) (by assumption) ?_
 rotate_left
 ·intro w hSw
  try dsimp only at hSw
  go_simp
  try with_reducible rfl
 simp only [Act.put, z1, z2, z3, z4, z5, z6]
 refine tkH (i := 2) (v := ?_) rfl (by kernel_rfl) (fun _ _ _ h => h) (Or.inl ⟨by rfl, ?_⟩) (by assumption) ?_
 rotate_left
 ·intro w hSw
  try dsimp only at hSw
  go_simp
  try with_reducible rfl
 simp only [Act.put, z1, z2, z3, z4, z5, z6]
 refine tkH (i := 3) (v := ?_) rfl (by kernel_rfl) (fun _ _ _ h => h) (Or.inl ⟨by rfl, ?_⟩) (by assumption) ?_
 rotate_left
 ·intro w hSw
  have q0 := (hSw.1.cell 0).trans HCS.out.1
  have q2 := (hSw.1.cell 2).trans HCS.out.2.2.1
  have q3 := (hSw.1.cell 3).trans HCS.out.2.2.2.1
  have q5 := (hSw.1.cell 5).trans HCS.out.2.2.2.2.2
  go_simp
  try with_reducible rfl
 simp only [Act.put, z1, z2, z3, z4, z5, z6]
 refine tkH (i := 4) (v := ?_) rfl (by kernel_rfl) (fun _ _ _ h => h) (Or.inl ⟨by rfl, ?_⟩) (by assumption) ?_
 rotate_left
 ·intro w hSw
  try dsimp only at hSw
  go_simp
  try with_reducible rfl
 simp only [Act.put, z1, z2, z3, z4, z5, z6]
 refine tkH (i := 5) (v := ?_) rfl (by kernel_rfl) (fun _ _ _ h => h) (Or.inl ⟨by rfl, ?_⟩) (by assumption) ?_
 rotate_left
 ·intro w hSw
  try dsimp only at hSw
  go_simp
  try with_reducible rfl
 simp only [Act.put, z1, z2, z3, z4, z5, z6]
 refine tkH (i := 6) (v := ?_) rfl (by kernel_rfl) (fun _ _ _ h => h) (Or.inl ⟨by rfl, ?_⟩) (by assumption) ?_
 rotate_left
 ·intro w hSw
  try dsimp only at hSw
  go_simp
  try with_reducible rfl
 simp only [Act.put, z1, z2, z3, z4, z5, z6]
 refine tkH (i := 7) (v := ?_) rfl (by kernel_rfl) (fun _ _ _ h => h) (Or.inl ⟨by rfl, ?_⟩) (by assumption) ?_
 rotate_left
 ·intro w hSw
  try dsimp only at hSw
  go_simp
  try with_reducible rfl
 simp only [Act.put, z1, z2, z3, z4, z5, z6]
 refine tkH (i := 8) (v := ?_) rfl (by kernel_rfl) (fun _ _ _ h => h) (Or.inl ⟨by rfl, ?_⟩) (by assumption) ?_
 rotate_left
 ·intro w hSw
  have q0 := (hSw.1.cell 0).trans HCS.out.1
  have q2 := (hSw.1.cell 2).trans HCS.out.2.2.1
  have q3 := (hSw.1.cell 3).trans HCS.out.2.2.2.1
  have q5 := (hSw.1.cell 5).trans HCS.out.2.2.2.2.2
  go_simp
  try with_reducible rfl
 simp only [Act.put, z1, z2, z3, z4, z5, z6]
 refine tkH (i := 12) (v := ?_) rfl (by kernel_rfl) (fun _ _ _ h => h) (Or.inl ⟨by rfl, ?_⟩) (by assumption) ?_
 rotate_left
 ·intro w hSw
  try dsimp only at hSw
  go_simp
  try with_reducible rfl
 simp only [Act.put, z1, z2, z3, z4, z5, z6]
 refine tkH (i := 13) (v := ?_) rfl (by kernel_rfl) (fun _ _ _ h => h) (Or.inl ⟨by rfl, ?_⟩) (by assumption) ?_
 rotate_left
 ·intro w hSw
  try dsimp only at hSw
  go_simp
  try with_reducible rfl
 simp only [Act.put, z1, z2, z3, z4, z5, z6]
 refine tkH (i := 14) (v := ?_) rfl (by kernel_rfl) (fun _ _ _ h => h) (Or.inl ⟨by rfl, ?_⟩) (by assumption) ?_
 rotate_left
 ·intro w hSw
  try dsimp only at hSw
  go_simp
  try with_reducible rfl
 simp only [Act.put, z1, z2, z3, z4, z5, z6]
 refine tkH (i := 15) (v := ?_) rfl (by kernel_rfl) (fun _ _ _ h => h) (Or.inl ⟨by rfl, ?_⟩) (by assumption) ?_
 rotate_left
 ·intro w hSw
  try dsimp only at hSw
  go_simp
  try with_reducible rfl
 simp only [Act.put, z1, z2, z3, z4, z5, z6]
 refine tkH (i := 16) (v := ?_) rfl (by kernel_rfl) (fun _ _ _ h => h) (Or.inl ⟨by rfl, ?_⟩) (by assumption) ?_
 rotate_left
 ·intro w hSw
  have q0 := (hSw.1.cell 0).trans HCS.out.1
  have q2 := (hSw.1.cell 2).trans HCS.out.2.2.1
  have q3 := (hSw.1.cell 3).trans HCS.out.2.2.2.1
  have q5 := (hSw.1.cell 5).trans HCS.out.2.2.2.2.2
  go_simp
  try with_reducible rfl
 simp only [Act.put, z1, z2, z3, z4, z5, z6]
 refine tkH (i := 20) (v := ?_) rfl (by kernel_rfl) (fun _ _ _ h => h) (Or.inl ⟨by rfl, ?_⟩) (by assumption) ?_
 rotate_left
 ·intro w hSw
  try dsimp only at hSw
  go_simp
  try with_reducible rfl
 simp only [Act.put, z1, z2, z3, z4, z5, z6]
 refine tkH (i := 21) (v := ?_) rfl (by kernel_rfl) (fun _ _ _ h => h) (Or.inl ⟨by rfl, ?_⟩) (by assumption) ?_
 rotate_left
 ·intro w hSw
  try dsimp only at hSw
  go_simp
  try with_reducible rfl
 simp only [Act.put, z1, z2, z3, z4, z5, z6]
 refine tkH (i := 22) (v := ?_) rfl (by kernel_rfl) (fun _ _ _ h => h) (Or.inl ⟨by rfl, ?_⟩) (by assumption) ?_
 rotate_left
 ·intro w hSw
  try dsimp only at hSw
  go_simp
  try with_reducible rfl
 simp only [Act.put, z1, z2, z3, z4, z5, z6]
 refine tkH (i := 23) (v := ?_) rfl (by kernel_rfl) (fun _ _ _ h => h) (Or.inl ⟨by rfl, ?_⟩) (by assumption) ?_
 rotate_left
 ·intro w hSw
  try dsimp only at hSw
  go_simp
  try with_reducible rfl
 simp only [Act.put, z1, z2, z3, z4, z5, z6]
 refine tkH (i := 24) (v := ?_) rfl (by kernel_rfl) (fun _ _ _ h => h) (Or.inl ⟨by rfl, ?_⟩) (by assumption) ?_
 rotate_left
 ·intro w hSw
  have q0 := (hSw.1.cell 0).trans HCS.out.1
  have q2 := (hSw.1.cell 2).trans HCS.out.2.2.1
  have q3 := (hSw.1.cell 3).trans HCS.out.2.2.2.1
  have q5 := (hSw.1.cell 5).trans HCS.out.2.2.2.2.2
  go_simp
  try with_reducible rfl
 simp only [Act.put, z1, z2, z3, z4, z5, z6]
 refine tkH (i := 25) (v := ?_) rfl (by kernel_rfl) (fun _ _ _ h => h) (Or.inl ⟨by rfl, ?_⟩) (by assumption) ?_
 rotate_left
 ·intro w hSw
  try dsimp only at hSw
  go_simp
  try with_reducible rfl
 simp only [Act.put, z1, z2, z3, z4, z5, z6]
 refine tkH (i := 29) (v := ?_) rfl (by kernel_rfl) (fun _ _ _ h => h) (Or.inl ⟨by rfl, ?_⟩) (by assumption) ?_
 rotate_left
 ·intro w hSw
  try dsimp only at hSw
  go_simp
  try with_reducible rfl
 simp only [Act.put, z1, z2, z3, z4, z5, z6]
 refine wpAnyH_ready (rs := [9]) (by kernel_rfl) (by simp) ?_
 refine AllReadyH.cons rfl (fun Kc hKc => ?_) AllReadyH.nil
 go_simp
 go_wp2_with (first | ((with_reducible refine (P1.out _).mono ?_); rintro e w9 ⟨rfl, hb'⟩; have HWX := Lib.hid (HWX.out.kept hb')) | ((with_reducible refine (P2.out _).mono ?_); rintro e w9 ⟨rfl, hb'⟩; have HWX := Lib.hid (HWX.out.kept hb')) | ((with_reducible refine (P4.out _).mono ?_); rintro e w9 ⟨rfl, hb'⟩; have HWX := Lib.hid (HWX.out.kept hb')) | ((with_reducible refine (P5.out _).mono ?_); rintro e w9 ⟨rfl, hb'⟩; have HWX := Lib.hid (HWX.out.kept hb')) | ((with_reducible refine (PL.out _ HWX.out hHeld.2).mono ?_); rintro e wz ⟨rfl, V, BR, hww⟩; have HWW := Lib.hid hww; clear hww))
 refine hKc.out _ _ ?_ (fun hHeld => ?_)
 ·first | exact hHeld | exact ⟨hHeld.1.kept hb', btr hHeld.2 hb'⟩ | exact ⟨HWW.out.wb, HWW.out.bel⟩
 clear hKc Kc
 refine tkH (i := 10) (v := ?_) rfl (by kernel_rfl) (fun _ _ _ h => h) (Or.inl ⟨by rfl, ?_⟩) (by assumption) ?_
 rotate_left
 ·intro w hSw
  try dsimp only at hSw
  go_simp
  try with_reducible rfl
 simp only [Act.put, z1, z2, z3, z4, z5, z6]
 refine tkH (i := 11) (v := ?_) rfl (by kernel_rfl) (fun _ _ _ h => h) (Or.inl ⟨by rfl, ?_⟩) (by assumption) ?_
 rotate_left
 ·intro w hSw
  try dsimp only at hSw
  go_simp
  try with_reducible rfl
 simp only [Act.put, z1, z2, z3, z4, z5, z6]
 refine wpAnyH_ready (rs := [17]) (by kernel_rfl) (by simp) ?_
 refine AllReadyH.cons rfl (fun Kc hKc => ?_) AllReadyH.nil
 go_simp
 go_wp2_with (first | ((with_reducible refine (P1.out _).mono ?_); rintro e w9 ⟨rfl, hb'⟩; have HWX := Lib.hid (HWX.out.kept hb')) | ((with_reducible refine (P2.out _).mono ?_); rintro e w9 ⟨rfl, hb'⟩; have HWX := Lib.hid (HWX.out.kept hb')) | ((with_reducible refine (P4.out _).mono ?_); rintro e w9 ⟨rfl, hb'⟩; have HWX := Lib.hid (HWX.out.kept hb')) | ((with_reducible refine (P5.out _).mono ?_); rintro e w9 ⟨rfl, hb'⟩; have HWX := Lib.hid (HWX.out.kept hb')) | ((with_reducible refine (PL.out _ HWX.out hHeld.2).mono ?_); rintro e wz ⟨rfl, V, BR, hww⟩; have HWW := Lib.hid hww; clear hww))
 refine hKc.out _ _ ?_ (fun hHeld => ?_)
 ·first | exact hHeld | exact ⟨hHeld.1.kept hb', btr hHeld.2 hb'⟩ | exact ⟨HWW.out.wb, HWW.out.bel⟩
 clear hKc Kc
 refine tkH (i := 18) (v := ?_) rfl (by kernel_rfl) (fun _ _ _ h => h) (Or.inl ⟨by rfl, ?_⟩) (by assumption) ?_
 rotate_left
 ·intro w hSw
  try dsimp only at hSw
  go_simp
  try with_reducible rfl
 simp only [Act.put, z1, z2, z3, z4, z5, z6]
 refine tkH (i := 19) (v := ?_) rfl (by kernel_rfl) (fun _ _ _ h => h) (Or.inl ⟨by rfl, ?_⟩) (by assumption) ?_
 rotate_left
 ·intro w hSw
  try dsimp only at hSw
  go_simp
  try with_reducible rfl
 simp only [Act.put, z1, z2, z3, z4, z5, z6]
 refine wpAnyH_ready (rs := [26]) (by kernel_rfl) (by simp) ?_
 refine AllReadyH.cons rfl (fun Kc hKc => ?_) AllReadyH.nil
 go_simp
 go_wp2_with (first | ((with_reducible refine (P1.out _).mono ?_); rintro e w9 ⟨rfl, hb'⟩; have HWX := Lib.hid (HWX.out.kept hb')) | ((with_reducible refine (P2.out _).mono ?_); rintro e w9 ⟨rfl, hb'⟩; have HWX := Lib.hid (HWX.out.kept hb')) | ((with_reducible refine (P4.out _).mono ?_); rintro e w9 ⟨rfl, hb'⟩; have HWX := Lib.hid (HWX.out.kept hb')) | ((with_reducible refine (P5.out _).mono ?_); rintro e w9 ⟨rfl, hb'⟩; have HWX := Lib.hid (HWX.out.kept hb')) | ((with_reducible refine (PL.out _ HWX.out hHeld.2).mono ?_); rintro e wz ⟨rfl, V, BR, hww⟩; have HWW := Lib.hid hww; clear hww))
 refine hKc.out _ _ ?_ (fun hHeld => ?_)
 ·first | exact hHeld | exact ⟨hHeld.1.kept hb', btr hHeld.2 hb'⟩ | exact ⟨HWW.out.wb, HWW.out.bel⟩
 clear hKc Kc
 refine tkH (i := 27) (v := ?_) rfl (by kernel_rfl) (fun _ _ _ h => h) (Or.inl ⟨by rfl, ?_⟩) (by assumption) ?_
 rotate_left
 ·intro w hSw
  try dsimp only at hSw
  go_simp
  try with_reducible rfl
 simp only [Act.put, z1, z2, z3, z4, z5, z6]
 refine tkH (i := 28) (v := ?_) rfl (by kernel_rfl) (fun _ _ _ h => h) (Or.inl ⟨by rfl, ?_⟩) (by assumption) ?_
 rotate_left
 ·intro w hSw
  try dsimp only at hSw
  go_simp
  try with_reducible rfl
 simp only [Act.put, z1, z2, z3, z4, z5, z6]
 refine wpAnyH_ready (rs := [30]) (by kernel_rfl) (by simp) ?_
 refine AllReadyH.cons rfl (fun Kc hKc => ?_) AllReadyH.nil
 go_simp
 go_wp2_with (first | ((with_reducible refine (P1.out _).mono ?_); rintro e w9 ⟨rfl, hb'⟩; have HWX := Lib.hid (HWX.out.kept hb')) | ((with_reducible refine (P2.out _).mono ?_); rintro e w9 ⟨rfl, hb'⟩; have HWX := Lib.hid (HWX.out.kept hb')) | ((with_reducible refine (P4.out _).mono ?_); rintro e w9 ⟨rfl, hb'⟩; have HWX := Lib.hid (HWX.out.kept hb')) | ((with_reducible refine (P5.out _).mono ?_); rintro e w9 ⟨rfl, hb'⟩; have HWX := Lib.hid (HWX.out.kept hb')) | ((with_reducible refine (PL.out _ HWX.out hHeld.2).mono ?_); rintro e wz ⟨rfl, V, BR, hww⟩; have HWW := Lib.hid hww; clear hww))
 refine hKc.out _ _ ?_ (fun hHeld => ?_)
 ·first | exact hHeld | exact ⟨hHeld.1.kept hb', btr hHeld.2 hb'⟩ | exact ⟨HWW.out.wb, HWW.out.bel⟩
 clear hKc Kc
 refine tkH (i := 31) (v := ?_) rfl (by kernel_rfl) (fun _ _ _ h => h) (Or.inl ⟨by rfl, ?_⟩) (by assumption) ?_
 rotate_left
 ·intro w hSw
  try dsimp only at hSw
  go_simp
  try with_reducible rfl
 simp only [Act.put, z1, z2, z3, z4, z5, z6]
 refine wpAnyH_ready (rs := [32]) (by kernel_rfl) (by simp) ?_
 refine AllReadyH.cons rfl (fun Kc hKc => ?_) AllReadyH.nil
 go_simp
 go_wp2_with (first | ((with_reducible refine (P1.out _).mono ?_); rintro e w9 ⟨rfl, hb'⟩; have HWX := Lib.hid (HWX.out.kept hb')) | ((with_reducible refine (P2.out _).mono ?_); rintro e w9 ⟨rfl, hb'⟩; have HWX := Lib.hid (HWX.out.kept hb')) | ((with_reducible refine (P4.out _).mono ?_); rintro e w9 ⟨rfl, hb'⟩; have HWX := Lib.hid (HWX.out.kept hb')) | ((with_reducible refine (P5.out _).mono ?_); rintro e w9 ⟨rfl, hb'⟩; have HWX := Lib.hid (HWX.out.kept hb')) | ((with_reducible refine (PL.out _ HWX.out hHeld.2).mono ?_); rintro e wz ⟨rfl, V, BR, hww⟩; have HWW := Lib.hid hww; clear hww))
 refine hKc.out _ _ ?_ (fun hHeld => ?_)
 ·first | exact hHeld | exact ⟨hHeld.1.kept hb', btr hHeld.2 hb'⟩ | exact ⟨HWW.out.wb, HWW.out.bel⟩
 clear hKc Kc
 refine tkH (i := 33) (v := ?_) rfl (by kernel_rfl) (fun _ _ _ h => h) (Or.inl ⟨by rfl, ?_⟩) (by assumption) ?_
 rotate_left
 ·intro w hSw
  try dsimp only at hSw
  go_simp
  try with_reducible rfl
 simp only [Act.put, z1, z2, z3, z4, z5, z6]
 refine tkH (i := 34) (v := ?_) rfl (by kernel_rfl) (fun _ _ _ h => h) (Or.inl ⟨by rfl, ?_⟩) (by assumption) ?_
 rotate_left
 ·intro w hSw
  try dsimp only at hSw
  go_simp
  try with_reducible rfl
 simp only [Act.put, z1, z2, z3, z4, z5, z6]
 refine tkH (i := 35) (v := ?_) rfl (by kernel_rfl) (fun _ _ _ h => h) (Or.inl ⟨by rfl, ?_⟩) (by assumption) ?_
 rotate_left
 ·intro w hSw
  try dsimp only at hSw
  go_simp
  try with_reducible rfl
 simp only [Act.put, z1, z2, z3, z4, z5, z6]
 refine tkH (i := 36) (v := ?_) rfl (by kernel_rfl) (fun _ _ _ h => h) (Or.inl ⟨by rfl, ?_⟩) (by assumption) ?_
 rotate_left
 ·intro w hSw
  try dsimp only at hSw
  go_simp
  try with_reducible rfl
 simp only [Act.put, z1, z2, z3, z4, z5, z6]
 refine tkH (i := 37) (v := ?_) rfl (by kernel_rfl) (fun _ _ _ h => h) (Or.inl ⟨by rfl, ?_⟩) (by assumption) ?_
 rotate_left
 ·intro w hSw
  try dsimp only at hSw
  go_simp
  try with_reducible rfl
 simp only [Act.put, z1, z2, z3, z4, z5, z6]
 refine wpAnyH_done (by kernel_rfl) ?_ _
 clear hHeld yw1 yw2 yw3 yw4 yw5 yw6 yw7 P1 P2 P4 P5 PL HWX HWI
 obtain ⟨M, hM⟩ : ∃ M : Nat, (M : Int) = min (n : Int) 30 := ⟨min n 30, by omega⟩
 have HM : Hid (M ≤ n ∧ M ≤ 30) := Lib.hid (by omega)
 have hM' := hM.symm
 obtain ⟨us, hus⟩ : ∃ us, us = usOf kn ks ds := ⟨_, rfl⟩
 have HSM : Hid (Small 6 r d 1 1048575 us) := Lib.hid (by rw [hus]; exact usOf_small HRT.out kn ks ds)
 rw [← hus] at HWW
 have HUS := Lib.hid hus
 clear hus hM br bd
 go_wp2_with fail
 go_loopw [13, 14] (fun tk i wr => ∃ k : Nat, k ≤ M ∧ i = .int .i64 (k : Int) ∧ tk = .int .i64 (tickN us k : Int) ∧ WWin w base WB A bm V BR K r d s cs (winZ 6 r d 1 s us K k) wr) (fun _ i _ => M - (intOf i).toNat)
 case atStart => exact ⟨0, by omega, rfl, rfl, HWW.out⟩
 case round =>
  obtain ⟨k, hk, rfl, rfl, hww⟩ := hrel
  have HWK := Lib.hid hww
  clear hww HWW
  by_cases hlt : k < M
  ·obtain ⟨ao', cap', e1, -, hin, hce⟩ := HO.out
   cases e1
   have hkn : k < n := by have := HM.out; omega
   obtain ⟨ob, off, rfl, hob, hcc⟩ := hce (by omega)
   obtain ⟨a0, a1, a2, a3, a4⟩ := hcc k hkn
   obtain ⟨b0, b1, b2, b3, b4⟩ := hin k hkn
   have HOC := Lib.hid (And.intro hob (And.intro a3 a4))
   have c0 := (HWK.out.bel.cell (p := ⟨ob, off + k * 5, none⟩) hob).trans a0
   have i0 : (0 : Int) ≤ (k : Int) := by omega
   have i1 : (k : Int) < (M : Int) := by omega
   have i2 : (k : Int) < 30 := by have := HM.out; omega
   have i3 : (k : Int) < (n : Int) := by omega
   have g0 : ¬ ((k : Int) < 0) := by omega
   have hA := andOne (kn k)
   have HX64 := Lib.hid (And.intro b3 b4)
   have ht0 := tickN_le us k
   have i4 : (0 : Int) ≤ (tickN us k : Int) := by omega
   have i5 : (tickN us k : Int) < 30 := by omega
   clear hce hcc a0 a1 a2 a3 a4 b0 b1 b2 b3 b4 hin ht0
   by_cases hev : kn k % 2 = 0
   ·have hb0 : (kn k % 2 == 0) = true := by simp [hev]
    have hu : us k = some (ks k % 64, (ds k).tmod 1048576) := by rw [HUS.out]; unfold usOf; rw [if_pos hev]
    have HU := Lib.hid hu
    have HTN := Lib.hid (tickN_yes hu)
    have hk64 : In64 (((ks k : Nat) : Int) % 64) := by unfold In64; omega
    have PK := Lib.hid (fun w => gtext (((ks k : Nat) : Int) % 64) hk64 w)
    have PS := Lib.hid (fun w => small_lin 6 r d s (ds k) HX64.out.1 w)
    have hx64 : In64 ((ds k).tmod 1048576) := (small_of (r := r) (d := d) (q := 0) HSM.out hu).2
    have PX := Lib.hid (fun w => gtext ((ds k).tmod 1048576) hx64 w)
    have PU := Lib.hid (fun W hW => wwin_upd (K := K) (w0 := w) (r := r) (d := d) (cs := cs) (V := V) (BR := BR) (A := A) (bm := bm) (WB := WB) HGT.out HSZ.out s0 s1 HRT.out us HSM.out HK.out k (ks k % 64) ((ds k).tmod 1048576) (by have := HM.out; omega) hu W hW)
    rw [show ((ks k % 64 : Nat) : Int) = ((ks k : Nat) : Int) % 64 by omega] at PU
    have yk := itoa_len (((ks k : Nat) : Int) % 64) hk64.1 hk64.2
    have yx := itoa_len ((ds k).tmod 1048576) hx64.1 hx64.2
    rw [show sB [97, 100, 100, 32, 52, 32] = ⟨#[97, 100, 100, 32, 52, 32]⟩ from rfl, show sB [32] = ⟨#[32]⟩ from rfl, show sB [100, 111, 110, 101] = ⟨#[100, 111, 110, 101]⟩ from rfl] at PU
    generalize sB (Lib.itoa (((ks k : Nat) : Int) % 64)) = TY at *
    generalize sB (Lib.itoa ((ds k).tmod 1048576)) = TZ at *
    have yw1 : ¬ 9223372036854775807 < 6 + TY.size := by omega
    have yw2 : ¬ 9223372036854775807 < 6 + TY.size + 1 := by omega
    have yw3 : ¬ 9223372036854775807 < 6 + TY.size + 1 + TZ.size := by omega
    have kt1 : ((ks k : Nat) : Int).tmod 64 = ((ks k : Nat) : Int) % 64 := by rw [Int.tmod_eq_emod_of_nonneg (by omega)]
    have kt2 : IntKind.i64.wrap (((ks k : Nat) : Int) % 64) = ((ks k : Nat) : Int) % 64 := by
     simp only [IntKind.wrap, IntKind.bits, IntKind.signed]
     simp
     omega
    clear hu hev yk yx hk64 hx64
    go_upto_region 16 with fail
    refine wp_region_held_drew (S := fun w' => WWin w base WB A bm V BR K r d s cs (winZ 6 r d 1 s us K k) w') (by kernel_rfl) (by exact HWK.out.kept (below_drewN (Below.refl _ _) 1)) (fun hHeld => ?_)
    refine tkH (i := 0) (v := ?_) rfl (by kernel_rfl) (fun _ _ _ h => h) (Or.inl ⟨by rfl, ?_⟩) (by assumption) ?_
    rotate_left
    ·intro w hSw
     try dsimp only at hSw
     go_simp
     try with_reducible rfl
    simp only [Act.put, z1, z2, z3, z4, z5, z6]
    refine tkH (i := 1) (v := ?_) rfl (by kernel_rfl) (fun _ _ _ h => h) (Or.inl ⟨by rfl, ?_⟩) (by assumption) ?_
    rotate_left
    ·intro w hSw
     try dsimp only at hSw
     go_simp
     try with_reducible rfl
    simp only [Act.put, z1, z2, z3, z4, z5, z6]
    refine tkH (i := 2) (v := ?_) rfl (by kernel_rfl) (fun _ _ _ h => h) (Or.inl ⟨by rfl, ?_⟩) (by assumption) ?_
    rotate_left
    ·intro w hSw
     try dsimp only at hSw
     go_simp
     try with_reducible rfl
    simp only [Act.put, z1, z2, z3, z4, z5, z6]
    refine tkH (i := 3) (v := ?_) rfl (by kernel_rfl) (fun _ _ _ h => h) (Or.inl ⟨by rfl, ?_⟩) (by assumption) ?_
    rotate_left
    ·intro w hSw
     try dsimp only at hSw
     go_simp
     try with_reducible rfl
    simp only [Act.put, z1, z2, z3, z4, z5, z6]
    refine tkH (i := 4) (v := ?_) rfl (by kernel_rfl) (fun _ _ _ h => h) (Or.inl ⟨by rfl, ?_⟩) (by assumption) ?_
    rotate_left
    ·intro w hSw
     have q1 := (hSw.wb.cell 1).trans HCS.out.2.1
     have q2 := (hSw.wb.cell 2).trans HCS.out.2.2.1
     have q3 := (hSw.wb.cell 3).trans HCS.out.2.2.2.1
     have q4 := (hSw.wb.cell 4).trans HCS.out.2.2.2.2.1
     have q5 := (hSw.wb.cell 5).trans HCS.out.2.2.2.2.2
     have q6 := (hSw.bel.cell (p := ⟨ob, off + k * 5 + 3, none⟩) HOC.out.1).trans HOC.out.2.1
     have q7 := (hSw.bel.cell (p := ⟨ob, off + k * 5 + 4, none⟩) HOC.out.1).trans HOC.out.2.2
     go_simp
     try with_reducible rfl
    simp only [Act.put, z1, z2, z3, z4, z5, z6]
    refine tkH (i := 5) (v := ?_) rfl (by kernel_rfl) (fun _ _ _ h => h) (Or.inl ⟨by rfl, ?_⟩) (by assumption) ?_
    rotate_left
    ·intro w hSw
     try dsimp only at hSw
     go_simp
     try with_reducible rfl
    simp only [Act.put, z1, z2, z3, z4, z5, z6]
    refine tkH (i := 6) (v := ?_) rfl (by kernel_rfl) (fun _ _ _ h => h) (Or.inl ⟨by rfl, ?_⟩) (by assumption) ?_
    rotate_left
    ·intro w hSw
     try dsimp only at hSw
     go_simp
     try with_reducible rfl
    simp only [Act.put, z1, z2, z3, z4, z5, z6]
    refine tkH (i := 10) (v := ?_) rfl (by kernel_rfl) (fun _ _ _ h => h) (Or.inl ⟨by rfl, ?_⟩) (by assumption) ?_
    rotate_left
    ·intro w hSw
     try dsimp only at hSw
     go_simp
     try with_reducible rfl
    simp only [Act.put, z1, z2, z3, z4, z5, z6]
    refine tkH (i := 11) (v := ?_) rfl (by kernel_rfl) (fun _ _ _ h => h) (Or.inl ⟨by rfl, ?_⟩) (by assumption) ?_
    rotate_left
    ·intro w hSw
     try dsimp only at hSw
     go_simp
     try with_reducible rfl
    simp only [Act.put, z1, z2, z3, z4, z5, z6]
    refine tkH (i := 12) (v := ?_) rfl (by kernel_rfl) (fun _ _ _ h => h) (Or.inl ⟨by rfl, ?_⟩) (by assumption) ?_
    rotate_left
    ·intro w hSw
     try dsimp only at hSw
     go_simp
     try with_reducible rfl
    simp only [Act.put, z1, z2, z3, z4, z5, z6]
    refine tkH (i := 13) (v := ?_) rfl (by kernel_rfl) (fun _ _ _ h => h) (Or.inl ⟨by rfl, ?_⟩) (by assumption) ?_
    rotate_left
    ·intro w hSw
     have q1 := (hSw.wb.cell 1).trans HCS.out.2.1
     have q2 := (hSw.wb.cell 2).trans HCS.out.2.2.1
     have q3 := (hSw.wb.cell 3).trans HCS.out.2.2.2.1
     have q4 := (hSw.wb.cell 4).trans HCS.out.2.2.2.2.1
     have q5 := (hSw.wb.cell 5).trans HCS.out.2.2.2.2.2
     have q6 := (hSw.bel.cell (p := ⟨ob, off + k * 5 + 3, none⟩) HOC.out.1).trans HOC.out.2.1
     have q7 := (hSw.bel.cell (p := ⟨ob, off + k * 5 + 4, none⟩) HOC.out.1).trans HOC.out.2.2
     go_simp
     try with_reducible rfl
    simp only [Act.put, z1, z2, z3, z4, z5, z6]
    refine tkH (i := 14) (v := ?_) rfl (by kernel_rfl) (fun _ _ _ h => h) (Or.inl ⟨by rfl, ?_⟩) (by assumption) ?_
    rotate_left
    ·intro w hSw
     try dsimp only at hSw
     go_simp
     try with_reducible rfl
    simp only [Act.put, z1, z2, z3, z4, z5, z6]
    refine tkH (i := 15) (v := ?_) rfl (by kernel_rfl) (fun _ _ _ h => h) (Or.inl ⟨by rfl, ?_⟩) (by assumption) ?_
    rotate_left
    ·intro w hSw
     try dsimp only at hSw
     go_simp
     try with_reducible rfl
    simp only [Act.put, z1, z2, z3, z4, z5, z6]
    refine tkH (i := 16) (v := ?_) rfl (by kernel_rfl) (fun _ _ _ h => h) (Or.inl ⟨by rfl, ?_⟩) (by assumption) ?_
    rotate_left
    ·intro w hSw
     try dsimp only at hSw
     go_simp
     try with_reducible rfl
    simp only [Act.put, z1, z2, z3, z4, z5, z6]
    refine tkH (i := 17) (v := ?_) rfl (by kernel_rfl) (fun _ _ _ h => h) (Or.inl ⟨by rfl, ?_⟩) (by assumption) ?_
    rotate_left
    ·intro w hSw
     try dsimp only at hSw
     go_simp
     try with_reducible rfl
    simp only [Act.put, z1, z2, z3, z4, z5, z6]
    refine tkH (i := 18) (v := ?_) rfl (by kernel_rfl) (fun _ _ _ h => h) (Or.inl ⟨by rfl, ?_⟩) (by assumption) ?_
    rotate_left
    ·intro w hSw
     have q1 := (hSw.wb.cell 1).trans HCS.out.2.1
     have q2 := (hSw.wb.cell 2).trans HCS.out.2.2.1
     have q3 := (hSw.wb.cell 3).trans HCS.out.2.2.2.1
     have q4 := (hSw.wb.cell 4).trans HCS.out.2.2.2.2.1
     have q5 := (hSw.wb.cell 5).trans HCS.out.2.2.2.2.2
     have q6 := (hSw.bel.cell (p := ⟨ob, off + k * 5 + 3, none⟩) HOC.out.1).trans HOC.out.2.1
     have q7 := (hSw.bel.cell (p := ⟨ob, off + k * 5 + 4, none⟩) HOC.out.1).trans HOC.out.2.2
     go_simp
     try with_reducible rfl
    simp only [Act.put, z1, z2, z3, z4, z5, z6]
    refine wpAnyH_ready (rs := [7]) (by kernel_rfl) (by simp) ?_
    refine AllReadyH.cons rfl (fun Kc hKc => ?_) AllReadyH.nil
    go_simp
    go_wp2_with (((try simp only [kt1, kt2]); first | ((with_reducible refine (PK.out _).mono ?_); rintro e w9 ⟨rfl, hb'⟩) | ((with_reducible refine (PS.out _).mono ?_); rintro e w9 ⟨rfl, hb'⟩) | ((with_reducible refine (PX.out _).mono ?_); rintro e w9 ⟨rfl, hb'⟩)))
    refine hKc.out _ _ ?_ (fun hHeld => ?_)
    ·first | exact hHeld | exact hHeld.kept hb'
    clear hKc Kc
    refine tkH (i := 8) (v := ?_) rfl (by kernel_rfl) (fun _ _ _ h => h) (Or.inl ⟨by rfl, ?_⟩) (by assumption) ?_
    rotate_left
    ·intro w hSw
     try dsimp only at hSw
     go_simp
     try with_reducible rfl
    simp only [Act.put, z1, z2, z3, z4, z5, z6]
    refine tkH (i := 9) (v := ?_) rfl (by kernel_rfl) (fun _ _ _ h => h) (Or.inl ⟨by rfl, ?_⟩) (by assumption) ?_
    rotate_left
    ·intro w hSw
     try dsimp only at hSw
     go_simp
     try with_reducible rfl
    simp only [Act.put, z1, z2, z3, z4, z5, z6]
    refine wpAnyH_ready (rs := [19]) (by kernel_rfl) (by simp) ?_
    refine AllReadyH.cons rfl (fun Kc hKc => ?_) AllReadyH.nil
    go_simp
    go_wp2_with (((try simp only [kt1, kt2]); first | ((with_reducible refine (PK.out _).mono ?_); rintro e w9 ⟨rfl, hb'⟩) | ((with_reducible refine (PS.out _).mono ?_); rintro e w9 ⟨rfl, hb'⟩) | ((with_reducible refine (PX.out _).mono ?_); rintro e w9 ⟨rfl, hb'⟩)))
    refine hKc.out _ _ ?_ (fun hHeld => ?_)
    ·first | exact hHeld | exact hHeld.kept hb'
    clear hKc Kc
    refine wpAnyH_ready (rs := [20]) (by kernel_rfl) (by simp) ?_
    refine AllReadyH.cons rfl (fun Kc hKc => ?_) AllReadyH.nil
    go_simp
    go_wp2_with (((try simp only [kt1, kt2]); first | ((with_reducible refine (PK.out _).mono ?_); rintro e w9 ⟨rfl, hb'⟩) | ((with_reducible refine (PS.out _).mono ?_); rintro e w9 ⟨rfl, hb'⟩) | ((with_reducible refine (PX.out _).mono ?_); rintro e w9 ⟨rfl, hb'⟩)))
    refine hKc.out _ _ ?_ (fun hHeld => ?_)
    ·first | exact hHeld | exact hHeld.kept hb'
    clear hKc Kc
    refine tkH (i := 21) (v := ?_) rfl (by kernel_rfl) (fun _ _ _ h => h) (Or.inl ⟨by rfl, ?_⟩) (by assumption) ?_
    rotate_left
    ·intro w hSw
     try dsimp only at hSw
     go_simp
     try with_reducible rfl
    simp only [Act.put, z1, z2, z3, z4, z5, z6]
    refine tkH (i := 22) (v := ?_) rfl (by kernel_rfl) (fun _ _ _ h => h) (Or.inl ⟨by rfl, ?_⟩) (by assumption) ?_
    rotate_left
    ·intro w hSw
     try dsimp only at hSw
     go_simp
     try with_reducible rfl
    simp only [Act.put, z1, z2, z3, z4, z5, z6]
    refine wpAnyH_done (by kernel_rfl) ?_ _
    have HWN := Lib.hid hHeld
    clear hHeld
    have PU2 := Lib.hid (PU.out _ HWN.out)
    have q0 := (HWN.out.wb.cell 0).trans HCS.out.1
    clear PU yw1 yw2 yw3 c0 PK PS PX
    go_wp2_with fail
    with_reducible refine PU2.out.mono ?_
    rintro e w5 ⟨rfl, hw5⟩
    have HW5 := Lib.hid hw5
    clear hw5 PU2 q0
    go_wp2_with fail
    go_roundw
    case rel => exact ⟨k + 1, by omega, by go_num, by rw [HTN.out], HW5.out⟩
    case measure => simp [intOf]; omega
   ·have hb0 : (kn k % 2 == 0) = false := by simp [hev]
    have hu : us k = none := by rw [HUS.out]; unfold usOf; rw [if_neg hev]
    have HU := Lib.hid hu
    have HTN := Lib.hid (tickN_no hu)
    have PT := Lib.hid (wwin_tick HGT.out HSZ.out HRT.out us HSM.out HK.out k (by have := HM.out; omega) hu wr HWK.out)
    rw [show sB [116, 105, 99, 107] = ⟨#[116, 105, 99, 107]⟩ from rfl, show sB [100, 111, 110, 101] = ⟨#[100, 111, 110, 101]⟩ from rfl] at PT
    have q0 := (HWK.out.wb.cell 0).trans HCS.out.1
    clear hu hev
    go_wp2_with fail
    with_reducible refine PT.out.mono ?_
    rintro e w5 ⟨rfl, hw5⟩
    have HW5 := Lib.hid hw5
    clear hw5 PT q0 c0
    go_wp2_with fail
    go_roundw
    case rel => exact ⟨k + 1, by omega, by go_num, by rw [HTN.out]; go_num, HW5.out⟩
    case measure => simp [intOf]; omega
  ·obtain rfl : k = M := by omega
   have HWF : Hid (WWin w base WB A bm V BR K r d s cs (fedZ 6 r d 1 s us K k 0) wr) := Lib.hid (HWK.out.setZ (fun j p _ _ _ => by rw [fedZ_zero]))
   clear hlt HWK hk
   go_wp2_with fail
   go_loopw [13, 18] (fun tk i wr => ∃ j : Nat, j ≤ k ∧ i = .int .i64 (j : Int) ∧ tk = .int .i64 ((tickN us k : Int) - (tickN us j : Int)) ∧ WWin w base WB A bm V BR K r d s cs (fedZ 6 r d 1 s us K k j) wr) (fun _ i _ => k - (intOf i).toNat)
   case atStart => exact ⟨0, by omega, rfl, by rw [show tickN us 0 = 0 from rfl]; simp, HWF.out⟩
   case round =>
    obtain ⟨j, hj, rfl, rfl, hww⟩ := hrel
    have HWK := Lib.hid hww
    clear hww HWF
    by_cases hlt : j < k
    ·obtain ⟨ao', cap', e1, -, hin, hce⟩ := HO.out
     cases e1
     have hkn : j < n := by have := HM.out; omega
     obtain ⟨ob, off, rfl, hob, hcc⟩ := hce (by omega)
     obtain ⟨a0, a1, a2, a3, a4⟩ := hcc j hkn
     obtain ⟨b0, b1, b2, b3, b4⟩ := hin j hkn
     have HOC := Lib.hid (And.intro hob (And.intro a3 a4))
     have c0 := (HWK.out.bel.cell (p := ⟨ob, off + j * 5, none⟩) hob).trans a0
     have i0 : (0 : Int) ≤ (j : Int) := by omega
     have i1 : (j : Int) < (k : Int) := by omega
     have i2 : (j : Int) < 30 := by have := HM.out; omega
     have i3 : (j : Int) < (n : Int) := by omega
     have g0 : ¬ ((j : Int) < 0) := by omega
     have hA := andOne (kn j)
     have HX64 := Lib.hid (And.intro b3 b4)
     have ht0 := tickN_le us k
     have ht1 := tickN_mono us hj
     have ht2 := tickN_mono us (show j + 1 ≤ k by omega)
     have i4 : (tickN us k : Int) < 31 := by have := HM.out; omega
     have i5 : (tickN us j : Int) ≤ (tickN us k : Int) := by omega
     have i6 : (0 : Int) ≤ (tickN us j : Int) := by omega
     clear hce hcc a0 a1 a2 a3 a4 b0 b1 b2 b3 b4 hin ht0
     by_cases hev : kn j % 2 = 0
     ·have hb0 : (kn j % 2 == 1) = false := by simp [hev]
      have hu : us j = some (ks j % 64, (ds j).tmod 1048576) := by rw [HUS.out]; unfold usOf; rw [if_pos hev]
      have HU := Lib.hid hu
      have HTN := Lib.hid (tickN_yes hu)
      by_cases hlv : tickN us k - tickN us j < K + 1
      ·have hlv1 : (tickN us k : Int) - (tickN us j : Int) < (K : Int) + 1 := by omega
       have hk64 : In64 (((ks j : Nat) : Int) % 64) := by unfold In64; omega
       have PK := Lib.hid (fun w => gtext (((ks j : Nat) : Int) % 64) hk64 w)
       have PS := Lib.hid (fun w => small_lin 6 r d s (ds j) HX64.out.1 w)
       have hx64 : In64 ((ds j).tmod 1048576) := (small_of (r := r) (d := d) (q := 0) HSM.out hu).2
       have PX := Lib.hid (fun w => gtext ((ds j).tmod 1048576) hx64 w)
       have PF := Lib.hid (fun W hW => wwin_fed (K := K) (w0 := w) (r := r) (d := d) (cs := cs) (V := V) (BR := BR) (A := A) (bm := bm) (WB := WB) HGT.out HSZ.out s0 s1 HRT.out us HSM.out k j (ks j % 64) ((ds j).tmod 1048576) (by have := HM.out; omega) hu hlv W hW)
       rw [show ((ks j % 64 : Nat) : Int) = ((ks j : Nat) : Int) % 64 by omega] at PF
       have yk := itoa_len (((ks j : Nat) : Int) % 64) hk64.1 hk64.2
       have yx := itoa_len ((ds j).tmod 1048576) hx64.1 hx64.2
       rw [show sB [97, 100, 100, 32, 49, 32] = ⟨#[97, 100, 100, 32, 49, 32]⟩ from rfl, show sB [32] = ⟨#[32]⟩ from rfl, show sB [100, 111, 110, 101] = ⟨#[100, 111, 110, 101]⟩ from rfl] at PF
       generalize sB (Lib.itoa (((ks j : Nat) : Int) % 64)) = TY at *
       generalize sB (Lib.itoa ((ds j).tmod 1048576)) = TZ at *
       have yw1 : ¬ 9223372036854775807 < 6 + TY.size := by omega
       have yw2 : ¬ 9223372036854775807 < 6 + TY.size + 1 := by omega
       have yw3 : ¬ 9223372036854775807 < 6 + TY.size + 1 + TZ.size := by omega
       have kt1 : ((ks j : Nat) : Int).tmod 64 = ((ks j : Nat) : Int) % 64 := by rw [Int.tmod_eq_emod_of_nonneg (by omega)]
       have kt2 : IntKind.i64.wrap (((ks j : Nat) : Int) % 64) = ((ks j : Nat) : Int) % 64 := by
        simp only [IntKind.wrap, IntKind.bits, IntKind.signed]
        simp
        omega
       clear hu hev yk yx hk64 hx64 hlv
       go_upto_region 27 with fail
       have HWX := Lib.hid (HWK.out.kept (below_drewN (Below.refl _ _) 1))
       refine wp_region_held_drew (S := fun w' => Blk w' WB 34 cs ∧ Below w.heap.size w w') (by kernel_rfl) (by exact ⟨HWX.out.wb, HWX.out.bel⟩) (fun hHeld => ?_)
       refine tkH (i := 0) (v := ?_) rfl (by kernel_rfl) (fun _ _ _ h => h) (Or.inl ⟨by rfl, ?_⟩) (by assumption) ?_
       rotate_left
       ·intro w hSw
        try dsimp only at hSw
        go_simp
        try with_reducible rfl
       simp only [Act.put, z1, z2, z3, z4, z5, z6]
       refine tkH (i := 1) (v := ?_) rfl (by kernel_rfl) (fun _ _ _ h => h) (Or.inl ⟨by rfl, ?_⟩) (by assumption) ?_
       rotate_left
       ·intro w hSw
        try dsimp only at hSw
        go_simp
        try with_reducible rfl
       simp only [Act.put, z1, z2, z3, z4, z5, z6]
       refine tkH (i := 2) (v := ?_) rfl (by kernel_rfl) (fun _ _ _ h => h) (Or.inl ⟨by rfl, ?_⟩) (by assumption) ?_
       rotate_left
       ·intro w hSw
        try dsimp only at hSw
        go_simp
        try with_reducible rfl
       simp only [Act.put, z1, z2, z3, z4, z5, z6]
       refine tkH (i := 3) (v := ?_) rfl (by kernel_rfl) (fun _ _ _ h => h) (Or.inl ⟨by rfl, ?_⟩) (by assumption) ?_
       rotate_left
       ·intro w hSw
        have q0 := (hSw.1.cell 0).trans HCS.out.1
        have q1 := (hSw.1.cell 1).trans HCS.out.2.1
        have q2 := (hSw.1.cell 2).trans HCS.out.2.2.1
        have q3 := (hSw.1.cell 3).trans HCS.out.2.2.2.1
        have q4 := (hSw.1.cell 4).trans HCS.out.2.2.2.2.1
        have q5 := (hSw.1.cell 5).trans HCS.out.2.2.2.2.2
        have q6 := (hSw.2.cell (p := ⟨ob, off + j * 5 + 3, none⟩) HOC.out.1).trans HOC.out.2.1
        have q7 := (hSw.2.cell (p := ⟨ob, off + j * 5 + 4, none⟩) HOC.out.1).trans HOC.out.2.2
        go_simp
        try with_reducible rfl
       simp only [Act.put, z1, z2, z3, z4, z5, z6]
       refine tkH (i := 4) (v := ?_) rfl (by kernel_rfl) (fun _ _ _ h => h) (Or.inl ⟨by rfl, ?_⟩) (by assumption) ?_
       rotate_left
       ·intro w hSw
        try dsimp only at hSw
        go_simp
        try with_reducible rfl
       simp only [Act.put, z1, z2, z3, z4, z5, z6]
       refine tkH (i := 5) (v := ?_) rfl (by kernel_rfl) (fun _ _ _ h => h) (Or.inl ⟨by rfl, ?_⟩) (by assumption) ?_
       rotate_left
       ·intro w hSw
        try dsimp only at hSw
        go_simp
        try with_reducible rfl
       simp only [Act.put, z1, z2, z3, z4, z5, z6]
       refine tkH (i := 6) (v := ?_) rfl (by kernel_rfl) (fun _ _ _ h => h) (Or.inl ⟨by rfl, ?_⟩) (by assumption) ?_
       rotate_left
       ·intro w hSw
        try dsimp only at hSw
        go_simp
        try with_reducible rfl
       simp only [Act.put, z1, z2, z3, z4, z5, z6]
       refine tkH (i := 7) (v := ?_) rfl (by kernel_rfl) (fun _ _ _ h => h) (Or.inl ⟨by rfl, ?_⟩) (by assumption) ?_
       rotate_left
       ·intro w hSw
        try dsimp only at hSw
        go_simp
        try with_reducible rfl
       simp only [Act.put, z1, z2, z3, z4, z5, z6]
       refine tkH (i := 8) (v := ?_) rfl (by kernel_rfl) (fun _ _ _ h => h) (Or.inl ⟨by rfl, ?_⟩) (by assumption) ?_
       rotate_left
       ·intro w hSw
        have q0 := (hSw.1.cell 0).trans HCS.out.1
        have q1 := (hSw.1.cell 1).trans HCS.out.2.1
        have q2 := (hSw.1.cell 2).trans HCS.out.2.2.1
        have q3 := (hSw.1.cell 3).trans HCS.out.2.2.2.1
        have q4 := (hSw.1.cell 4).trans HCS.out.2.2.2.2.1
        have q5 := (hSw.1.cell 5).trans HCS.out.2.2.2.2.2
        have q6 := (hSw.2.cell (p := ⟨ob, off + j * 5 + 3, none⟩) HOC.out.1).trans HOC.out.2.1
        have q7 := (hSw.2.cell (p := ⟨ob, off + j * 5 + 4, none⟩) HOC.out.1).trans HOC.out.2.2
        go_simp
        try with_reducible rfl
       simp only [Act.put, z1, z2, z3, z4, z5, z6]
       refine tkH (i := 9) (v := ?_) rfl (by kernel_rfl) (fun _ _ _ h => h) (Or.inl ⟨by rfl, ?_⟩) (by assumption) ?_
       rotate_left
       ·intro w hSw
        try dsimp only at hSw
        go_simp
        try with_reducible rfl
       simp only [Act.put, z1, z2, z3, z4, z5, z6]
       refine tkH (i := 10) (v := ?_) rfl (by kernel_rfl) (fun _ _ _ h => h) (Or.inl ⟨by rfl, ?_⟩) (by assumption) ?_
       rotate_left
       ·intro w hSw
        try dsimp only at hSw
        go_simp
        try with_reducible rfl
       simp only [Act.put, z1, z2, z3, z4, z5, z6]
       refine tkH (i := 14) (v := ?_) rfl (by kernel_rfl) (fun _ _ _ h => h) (Or.inl ⟨by rfl, ?_⟩) (by assumption) ?_
       rotate_left
       ·intro w hSw
        try dsimp only at hSw
        go_simp
        try with_reducible rfl
       simp only [Act.put, z1, z2, z3, z4, z5, z6]
       refine tkH (i := 15) (v := ?_) rfl (by kernel_rfl) (fun _ _ _ h => h) (Or.inl ⟨by rfl, ?_⟩) (by assumption) ?_
       rotate_left
       ·intro w hSw
        try dsimp only at hSw
        go_simp
        try with_reducible rfl
       simp only [Act.put, z1, z2, z3, z4, z5, z6]
       refine tkH (i := 16) (v := ?_) rfl (by kernel_rfl) (fun _ _ _ h => h) (Or.inl ⟨by rfl, ?_⟩) (by assumption) ?_
       rotate_left
       ·intro w hSw
        try dsimp only at hSw
        go_simp
        try with_reducible rfl
       simp only [Act.put, z1, z2, z3, z4, z5, z6]
       refine tkH (i := 17) (v := ?_) rfl (by kernel_rfl) (fun _ _ _ h => h) (Or.inl ⟨by rfl, ?_⟩) (by assumption) ?_
       rotate_left
       ·intro w hSw
        have q0 := (hSw.1.cell 0).trans HCS.out.1
        have q1 := (hSw.1.cell 1).trans HCS.out.2.1
        have q2 := (hSw.1.cell 2).trans HCS.out.2.2.1
        have q3 := (hSw.1.cell 3).trans HCS.out.2.2.2.1
        have q4 := (hSw.1.cell 4).trans HCS.out.2.2.2.2.1
        have q5 := (hSw.1.cell 5).trans HCS.out.2.2.2.2.2
        have q6 := (hSw.2.cell (p := ⟨ob, off + j * 5 + 3, none⟩) HOC.out.1).trans HOC.out.2.1
        have q7 := (hSw.2.cell (p := ⟨ob, off + j * 5 + 4, none⟩) HOC.out.1).trans HOC.out.2.2
        go_simp
        try with_reducible rfl
       simp only [Act.put, z1, z2, z3, z4, z5, z6]
       refine tkH (i := 18) (v := ?_) rfl (by kernel_rfl) (fun _ _ _ h => h) (Or.inl ⟨by rfl, ?_⟩) (by assumption) ?_
       rotate_left
       ·intro w hSw
        try dsimp only at hSw
        go_simp
        try with_reducible rfl
       simp only [Act.put, z1, z2, z3, z4, z5, z6]
       refine tkH (i := 19) (v := ?_) rfl (by kernel_rfl) (fun _ _ _ h => h) (Or.inl ⟨by rfl, ?_⟩) (by assumption) ?_
       rotate_left
       ·intro w hSw
        try dsimp only at hSw
        go_simp
        try with_reducible rfl
       simp only [Act.put, z1, z2, z3, z4, z5, z6]
       refine tkH (i := 20) (v := ?_) rfl (by kernel_rfl) (fun _ _ _ h => h) (Or.inl ⟨by rfl, ?_⟩) (by assumption) ?_
       rotate_left
       ·intro w hSw
        try dsimp only at hSw
        go_simp
        try with_reducible rfl
       simp only [Act.put, z1, z2, z3, z4, z5, z6]
       refine tkH (i := 21) (v := ?_) rfl (by kernel_rfl) (fun _ _ _ h => h) (Or.inl ⟨by rfl, ?_⟩) (by assumption) ?_
       rotate_left
       ·intro w hSw
        try dsimp only at hSw
        go_simp
        try with_reducible rfl
       simp only [Act.put, z1, z2, z3, z4, z5, z6]
       refine tkH (i := 22) (v := ?_) rfl (by kernel_rfl) (fun _ _ _ h => h) (Or.inl ⟨by rfl, ?_⟩) (by assumption) ?_
       rotate_left
       ·intro w hSw
        have q0 := (hSw.1.cell 0).trans HCS.out.1
        have q1 := (hSw.1.cell 1).trans HCS.out.2.1
        have q2 := (hSw.1.cell 2).trans HCS.out.2.2.1
        have q3 := (hSw.1.cell 3).trans HCS.out.2.2.2.1
        have q4 := (hSw.1.cell 4).trans HCS.out.2.2.2.2.1
        have q5 := (hSw.1.cell 5).trans HCS.out.2.2.2.2.2
        have q6 := (hSw.2.cell (p := ⟨ob, off + j * 5 + 3, none⟩) HOC.out.1).trans HOC.out.2.1
        have q7 := (hSw.2.cell (p := ⟨ob, off + j * 5 + 4, none⟩) HOC.out.1).trans HOC.out.2.2
        go_simp
        try with_reducible rfl
       simp only [Act.put, z1, z2, z3, z4, z5, z6]
       refine wpAnyH_ready (rs := [11]) (by kernel_rfl) (by simp) ?_
       refine AllReadyH.cons rfl (fun Kc hKc => ?_) AllReadyH.nil
       go_simp
       go_wp2_with (((try simp only [kt1, kt2]); first | ((with_reducible refine (PK.out _).mono ?_); rintro e w9 ⟨rfl, hb'⟩; have HWX := Lib.hid (HWX.out.kept hb')) | ((with_reducible refine (PS.out _).mono ?_); rintro e w9 ⟨rfl, hb'⟩; have HWX := Lib.hid (HWX.out.kept hb')) | ((with_reducible refine (PX.out _).mono ?_); rintro e w9 ⟨rfl, hb'⟩; have HWX := Lib.hid (HWX.out.kept hb')) | ((with_reducible refine (PF.out _ HWX.out).mono ?_); rintro e wz ⟨rfl, hww⟩; have HWW := Lib.hid hww; clear hww)))
       refine hKc.out _ _ ?_ (fun hHeld => ?_)
       ·first | exact hHeld | exact ⟨hHeld.1.kept hb', btr hHeld.2 hb'⟩ | exact ⟨HWW.out.wb, HWW.out.bel⟩
       clear hKc Kc
       refine tkH (i := 12) (v := ?_) rfl (by kernel_rfl) (fun _ _ _ h => h) (Or.inl ⟨by rfl, ?_⟩) (by assumption) ?_
       rotate_left
       ·intro w hSw
        try dsimp only at hSw
        go_simp
        try with_reducible rfl
       simp only [Act.put, z1, z2, z3, z4, z5, z6]
       refine tkH (i := 13) (v := ?_) rfl (by kernel_rfl) (fun _ _ _ h => h) (Or.inl ⟨by rfl, ?_⟩) (by assumption) ?_
       rotate_left
       ·intro w hSw
        try dsimp only at hSw
        go_simp
        try with_reducible rfl
       simp only [Act.put, z1, z2, z3, z4, z5, z6]
       refine wpAnyH_ready (rs := [23]) (by kernel_rfl) (by simp) ?_
       refine AllReadyH.cons rfl (fun Kc hKc => ?_) AllReadyH.nil
       go_simp
       go_wp2_with (((try simp only [kt1, kt2]); first | ((with_reducible refine (PK.out _).mono ?_); rintro e w9 ⟨rfl, hb'⟩; have HWX := Lib.hid (HWX.out.kept hb')) | ((with_reducible refine (PS.out _).mono ?_); rintro e w9 ⟨rfl, hb'⟩; have HWX := Lib.hid (HWX.out.kept hb')) | ((with_reducible refine (PX.out _).mono ?_); rintro e w9 ⟨rfl, hb'⟩; have HWX := Lib.hid (HWX.out.kept hb')) | ((with_reducible refine (PF.out _ HWX.out).mono ?_); rintro e wz ⟨rfl, hww⟩; have HWW := Lib.hid hww; clear hww)))
       refine hKc.out _ _ ?_ (fun hHeld => ?_)
       ·first | exact hHeld | exact ⟨hHeld.1.kept hb', btr hHeld.2 hb'⟩ | exact ⟨HWW.out.wb, HWW.out.bel⟩
       clear hKc Kc
       refine wpAnyH_ready (rs := [24]) (by kernel_rfl) (by simp) ?_
       refine AllReadyH.cons rfl (fun Kc hKc => ?_) AllReadyH.nil
       go_simp
       go_wp2_with (((try simp only [kt1, kt2]); first | ((with_reducible refine (PK.out _).mono ?_); rintro e w9 ⟨rfl, hb'⟩; have HWX := Lib.hid (HWX.out.kept hb')) | ((with_reducible refine (PS.out _).mono ?_); rintro e w9 ⟨rfl, hb'⟩; have HWX := Lib.hid (HWX.out.kept hb')) | ((with_reducible refine (PX.out _).mono ?_); rintro e w9 ⟨rfl, hb'⟩; have HWX := Lib.hid (HWX.out.kept hb')) | ((with_reducible refine (PF.out _ HWX.out).mono ?_); rintro e wz ⟨rfl, hww⟩; have HWW := Lib.hid hww; clear hww)))
       refine hKc.out _ _ ?_ (fun hHeld => ?_)
       ·first | exact hHeld | exact ⟨hHeld.1.kept hb', btr hHeld.2 hb'⟩ | exact ⟨HWW.out.wb, HWW.out.bel⟩
       clear hKc Kc
       refine tkH (i := 25) (v := ?_) rfl (by kernel_rfl) (fun _ _ _ h => h) (Or.inl ⟨by rfl, ?_⟩) (by assumption) ?_
       rotate_left
       ·intro w hSw
        try dsimp only at hSw
        go_simp
        try with_reducible rfl
       simp only [Act.put, z1, z2, z3, z4, z5, z6]
       refine wpAnyH_ready (rs := [26]) (by kernel_rfl) (by simp) ?_
       refine AllReadyH.cons rfl (fun Kc hKc => ?_) AllReadyH.nil
       go_simp
       go_wp2_with (((try simp only [kt1, kt2]); first | ((with_reducible refine (PK.out _).mono ?_); rintro e w9 ⟨rfl, hb'⟩; have HWX := Lib.hid (HWX.out.kept hb')) | ((with_reducible refine (PS.out _).mono ?_); rintro e w9 ⟨rfl, hb'⟩; have HWX := Lib.hid (HWX.out.kept hb')) | ((with_reducible refine (PX.out _).mono ?_); rintro e w9 ⟨rfl, hb'⟩; have HWX := Lib.hid (HWX.out.kept hb')) | ((with_reducible refine (PF.out _ HWX.out).mono ?_); rintro e wz ⟨rfl, hww⟩; have HWW := Lib.hid hww; clear hww)))
       refine hKc.out _ _ ?_ (fun hHeld => ?_)
       ·first | exact hHeld | exact ⟨hHeld.1.kept hb', btr hHeld.2 hb'⟩ | exact ⟨HWW.out.wb, HWW.out.bel⟩
       clear hKc Kc
       refine tkH (i := 27) (v := ?_) rfl (by kernel_rfl) (fun _ _ _ h => h) (Or.inl ⟨by rfl, ?_⟩) (by assumption) ?_
       rotate_left
       ·intro w hSw
        try dsimp only at hSw
        go_simp
        try with_reducible rfl
       simp only [Act.put, z1, z2, z3, z4, z5, z6]
       refine tkH (i := 28) (v := ?_) rfl (by kernel_rfl) (fun _ _ _ h => h) (Or.inl ⟨by rfl, ?_⟩) (by assumption) ?_
       rotate_left
       ·intro w hSw
        try dsimp only at hSw
        go_simp
        try with_reducible rfl
       simp only [Act.put, z1, z2, z3, z4, z5, z6]
       refine tkH (i := 29) (v := ?_) rfl (by kernel_rfl) (fun _ _ _ h => h) (Or.inl ⟨by rfl, ?_⟩) (by assumption) ?_
       rotate_left
       ·intro w hSw
        try dsimp only at hSw
        go_simp
        try with_reducible rfl
       simp only [Act.put, z1, z2, z3, z4, z5, z6]
       refine tkH (i := 30) (v := ?_) rfl (by kernel_rfl) (fun _ _ _ h => h) (Or.inl ⟨by rfl, ?_⟩) (by assumption) ?_
       rotate_left
       ·intro w hSw
        try dsimp only at hSw
        go_simp
        try with_reducible rfl
       simp only [Act.put, z1, z2, z3, z4, z5, z6]
       refine tkH (i := 31) (v := ?_) rfl (by kernel_rfl) (fun _ _ _ h => h) (Or.inl ⟨by rfl, ?_⟩) (by assumption) ?_
       rotate_left
       ·intro w hSw
        try dsimp only at hSw
        go_simp
        try with_reducible rfl
       simp only [Act.put, z1, z2, z3, z4, z5, z6]
       refine wpAnyH_done (by kernel_rfl) ?_ _
       clear hHeld yw1 yw2 yw3 PK PS PX PF HWX c0
       go_wp2_with fail
       go_roundw
       case rel => exact ⟨j + 1, by omega, by go_num, by rw [HTN.out], HWW.out⟩
       case measure => simp [intOf]; omega
      ·have hlv1 : ¬ ((tickN us k : Int) - (tickN us j : Int) < (K : Int) + 1) := by omega
       have HW5 : Hid (WWin w base WB A bm V BR K r d s cs (fedZ 6 r d 1 s us K k (j + 1)) wr) := Lib.hid (by rw [fedZ_no (.inr hlv)]; exact HWK.out)
       clear hu hev hlv
       go_wp2_with fail
       go_roundw
       case rel => exact ⟨j + 1, by omega, by go_num, by rw [HTN.out], HW5.out⟩
       case measure => simp [intOf]; omega
     ·have hb0 : (kn j % 2 == 1) = true := by simp; omega
      have hu : us j = none := by rw [HUS.out]; unfold usOf; rw [if_neg hev]
      have HTN := Lib.hid (tickN_no hu)
      rw [HTN.out] at ht2
      have HW5 : Hid (WWin w base WB A bm V BR K r d s cs (fedZ 6 r d 1 s us K k (j + 1)) wr) := Lib.hid (by rw [fedZ_no (.inl hu)]; exact HWK.out)
      clear hu hev
      go_wp2_with fail
      go_roundw
      case rel => exact ⟨j + 1, by omega, by go_num, by rw [HTN.out]; go_num, HW5.out⟩
      case measure => simp [intOf]; omega
    ·obtain rfl : j = k := by omega
     obtain ⟨Zs, hZs⟩ : ∃ Zs, Zs = accZ 6 r d 1 s us (liveP us K (tickN us j)) j := ⟨_, rfl⟩
     have hsh : Shaped 6 r d 1 Zs ((6 : Int).toNat + 1) := by rw [hZs]; exact accZ_shaped (by decide) HSM.out _ j (room30' (by have := HM.out; omega))
     have e2 : fedZ 6 r d 1 s us K j j 2 = Zs := by rw [hZs]; unfold fedZ; rw [upN_other _ _ (by decide), winZ2]
     have e1 : fedZ 6 r d 1 s us K j j 1 = Zs := by rw [hZs]; unfold fedZ; rw [upN_same]
     have P4 := Lib.hid (wwin_exp4 s0 s1 HRT.out _ (by rw [e2]; exact hsh) wr HWK.out)
     have P1 := Lib.hid (fun W hW => wwin_exp1 (K := K) (w0 := w) (r := r) (d := d) (cs := cs) (V := V) (BR := BR) (A := A) (bm := bm) (WB := WB) (base := base) s0 s1 HRT.out (fedZ 6 r d 1 s us K j j) (by rw [e1]; exact hsh) W hW)
     obtain ⟨-, -, -, hlen⟩ := enc_size (s := s) HRT.out rfl hsh
     have hE : 34 ≤ (sB ([98, 121, 116, 101, 115, 32] ++ hexT (encB 6 r d 1 s Zs))).size := by
      rw [sB_size, List.length_append, hexT_len]
      simp only [List.length_cons, List.length_nil]
      omega
     rw [e2, show sB [101, 120, 112, 111, 114, 116, 32, 52] = ⟨#[101, 120, 112, 111, 114, 116, 32, 52]⟩ from rfl] at P4
     rw [e1, show sB [101, 120, 112, 111, 114, 116, 32, 49] = ⟨#[101, 120, 112, 111, 114, 116, 32, 49]⟩ from rfl] at P1
     generalize sB ([98, 121, 116, 101, 115, 32] ++ hexT (encB 6 r d 1 s Zs)) = E at *
     have q0 := (HWK.out.wb.cell 0).trans HCS.out.1
     have HE := Lib.hid hE
     clear hlen hsh e1 e2 hZs hE hlt
     go_wp2_with fail
     with_reducible refine P4.out.mono ?_
     rintro e w4 ⟨rfl, hb4⟩
     have HW4 := Lib.hid (HWK.out.kept hb4)
     have PE := Lib.hid (P1.out _ HW4.out)
     have q0 := (HW4.out.wb.cell 0).trans HCS.out.1
     clear hb4 P4 P1
     go_wp2_with fail
     with_reducible refine PE.out.mono ?_
     rintro e w5 ⟨rfl, hb5⟩
     have HB5 := Lib.hid (btr HW4.out.bel hb5)
     have hE1 : (20 : Int) < (E.size : Int) := by have := HE.out; omega
     clear hb5 PE q0
     go_wp2_with fail
     go_ret
     exact ⟨rfl, HB5.out⟩

def shOpsW : Sh := .slice shOp
theorem TopWindow_walk (v0 v1 v2 : Value) (w : World) (h0 : shCfg.Val w v0) (h1 : (Sh.int .i64).Val w v1) (h2 : shOpsW.Val w v2) (ht : Tab w) :
    Calls Tryz.prog 3 #[v0, v1, v2] w fun e w' => e = .returned (.bool true) ∧ Below w.heap.size w w' := by
  obtain ⟨b, r, d, m, s, rfl, hb, hr, hd, hm, hs⟩ := valCfg h0
  obtain ⟨n, kn, hs', os, ks, ds, ho⟩ := ops_of_val h2
  obtain ⟨q, hq⟩ : ∃ q, v1 = .int .i64 q := by obtain ⟨q, hq, -⟩ := h1; exact ⟨q, by simpa using hq⟩
  subst hq
  simp [Lit.wf, IntKind.min, IntKind.max, IntKind.signed, IntKind.bits] at hs
  exact TopWindow_walk0 b r d m s (by omega) (by omega) q v2 n kn hs' os ks ds w ht ho
end Go.Proofs.YtfeficdndjiijaaGreatDoor

