import Derived.Test.YtfeficdndjiijaaGreatDoorQzo
import Derived.Test.YtfeficdndjiijaaGreatDoorQzl
import Derived.Test.YtfeficdndjiijaaGreatDoorQzj
import Derived.Test.YtfeficdndjiijaaGreatDoorQzn
import Derived.Test.YtfeficdndjiijaaGreatDoorQzm
import Derived.Test.YtfeficdndjiijaaGreatDoorQzi
import Derived.Test.YtfeficdndjiijaaGreatDoorQzk
/-
  Contracts of the functions that TopWindow reaches, and the plain laws that it leans on. Conditions: none beyond those stated at each theorem.
-/
namespace Go.Proofs.YtfeficdndjiijaaGreatDoor
open Go.RowKit Go.Maps
set_option linter.unusedVariables false
set_option linter.unusedSimpArgs false

set_option maxRecDepth 100000 in
set_option maxHeartbeats 4000000 in
theorem aggaddw (w : World) (A b n : Nat) (T : Nat → Option Nat × Option Nat) (h key d : Int) (V : Nat) (hA : AggIs w A b n T) (h1 : 1 ≤ h) (h2 : h ≤ (n : Int)) (hn : n ≤ 100) (hT : T h.toNat = (none, some V)) (U : World → World → Prop)
  (hU : ∀ w1, Below w.heap.size w w1 → Calls Tryz.prog 86 #[.pointer (some ⟨V, 0, none⟩), .int .u64 key, .int .i64 d] w1 fun e w' => e = .returned (.int .i64 0) ∧ U w1 w') :
  Calls Tryz.prog 49 #[.pointer (some ⟨A, 0, none⟩), .agg #[.int .i64 h, .bool false, .string ⟨#[]⟩, .int .u64 key, .int .i64 d]] w fun e w' => e = .returned (.tuple #[.iface 133 (.agg #[]), .int .i64 0]) ∧ ∃ w1, Below w.heap.size w w1 ∧ U w1 w' := by
 have HA := Lib.hid hA
 have HH := Lib.hid (And.intro h1 (And.intro h2 hn))
 have HT := Lib.hid hT
 have HU := Lib.hid hU
 have PD := Lib.hid done_ok
 have hb1 : Below w.heap.size w (w.alloc (.cells #[.int .i64 h, .bool false, .string ⟨#[]⟩, .int .u64 key, .int .i64 d] 117)) := (Below.refl _ w).alloc (Nat.le_refl _) _
 have HX1 := Lib.hid (Blk.new w 117 #[.int .i64 h, .bool false, .string ⟨#[]⟩, .int .u64 key, .int .i64 d])
 have HA1 := Lib.hid (hA.kept hb1)
 have HB1 := Lib.hid hb1
 clear hA h1 h2 hn hT hU hb1
 go_enter Tryz.func49, Tryz.ntmps49
 go_wp2_with fail
 generalize (w.alloc (.cells #[.int .i64 h, .bool false, .string ⟨#[]⟩, .int .u64 key, .int .i64 d] 117)) = w1 at *
 generalize hX : w.heap.size = X at *
 have HXX := Lib.hid hX
 clear hX
 have HXW : Hid (X ≤ w1.heap.size) := Lib.hid (Nat.le_of_lt HX1.out.lt)
 refine wp_region_held_drew (S := fun w' => Below w1.heap.size w1 w') (by kernel_rfl) (by exact below_drewN (Below.refl _ _) 1) (fun hHeld => ?_)
 refine tkH (i := 0) (v := ?_) rfl (by kernel_rfl) (fun _ _ _ h => h) (Or.inl ⟨by rfl, ?_⟩) (by assumption) ?_
 rotate_left
 ·intro w hSw
  try dsimp only at hSw
  go_simp
  try with_reducible rfl
 simp only [Act.put, z1, z2, z3, z4, z5, z6]
 refine tkH (i := 1) (v := ?_) rfl (by kernel_rfl) (fun _ _ _ h => h) (Or.inl ⟨by rfl, ?_⟩) (by assumption) ?_
 rotate_left
 ·intro w hSw
  try dsimp only at hSw
  go_simp
  try with_reducible rfl
 simp only [Act.put, z1, z2, z3, z4, z5, z6]
 refine tkH (i := 2) (v := ?_) rfl (by kernel_rfl) (fun _ _ _ h => h) (Or.inl ⟨by rfl, ?_⟩) (by assumption) ?_
 rotate_left
 ·intro w hSw
  try dsimp only at hSw
  go_simp
  try with_reducible rfl
 simp only [Act.put, z1, z2, z3, z4, z5, z6]
 refine tkH (i := 3) (v := ?_) rfl (by kernel_rfl) (fun _ _ _ h => h) (Or.inl ⟨by rfl, ?_⟩) (by assumption) ?_
 rotate_left
 ·intro w hSw
  have q0 := (HA1.out.kept hSw).1.cell 0
  have q1 := (HX1.out.kept hSw).cell 0
  have hlk := (HA1.out.kept hSw).look h HH.out.1 HH.out.2.1 HH.out.2.2
  rw [HT.out] at hlk
  simp at q0 q1
  go_simp
  try with_reducible rfl
 simp only [Act.put, z1, z2, z3, z4, z5, z6]
 refine tkH (i := 4) (v := ?_) rfl (by kernel_rfl) (fun _ _ _ h => h) (Or.inl ⟨by rfl, ?_⟩) (by assumption) ?_
 rotate_left
 ·intro w hSw
  try dsimp only at hSw
  go_simp
  try with_reducible rfl
 simp only [Act.put, z1, z2, z3, z4, z5, z6]
 refine tkH (i := 5) (v := ?_) rfl (by kernel_rfl) (fun _ _ _ h => h) (Or.inl ⟨by rfl, ?_⟩) (by assumption) ?_
 rotate_left
 ·intro w hSw
  have q0 := (HA1.out.kept hSw).1.cell 0
  have q1 := (HX1.out.kept hSw).cell 0
  have hlk := (HA1.out.kept hSw).look h HH.out.1 HH.out.2.1 HH.out.2.2
  rw [HT.out] at hlk
  simp at q0 q1
  go_simp
  try with_reducible rfl
 simp only [Act.put, z1, z2, z3, z4, z5, z6]
 refine tkH (i := 6) (v := ?_) rfl (by kernel_rfl) (fun _ _ _ h => h) (Or.inl ⟨by rfl, ?_⟩) (by assumption) ?_
 rotate_left
 ·intro w hSw
  have q0 := (HA1.out.kept hSw).1.cell 0
  have q1 := (HX1.out.kept hSw).cell 0
  have hlk := (HA1.out.kept hSw).look h HH.out.1 HH.out.2.1 HH.out.2.2
  rw [HT.out] at hlk
  simp at q0 q1
  go_simp
  try with_reducible rfl
 simp only [Act.put, z1, z2, z3, z4, z5, z6]
 refine tkH (i := 7) (v := ?_) rfl (by kernel_rfl) (fun _ _ _ h => h) (Or.inl ⟨by rfl, ?_⟩) (by assumption) ?_
 rotate_left
 ·intro w hSw
  try dsimp only at hSw
  go_simp
  try with_reducible rfl
 simp only [Act.put, z1, z2, z3, z4, z5, z6]
 refine tkH (i := 8) (v := ?_) rfl (by kernel_rfl) (fun _ _ _ h => h) (Or.inl ⟨by rfl, ?_⟩) (by assumption) ?_
 rotate_left
 ·intro w hSw
  try dsimp only at hSw
  go_simp
  try with_reducible rfl
 simp only [Act.put, z1, z2, z3, z4, z5, z6]
 refine tkH (i := 9) (v := ?_) rfl (by kernel_rfl) (fun _ _ _ h => h) (Or.inl ⟨by rfl, ?_⟩) (by assumption) ?_
 rotate_left
 ·intro w hSw
  try dsimp only at hSw
  go_simp
  try with_reducible rfl
 simp only [Act.put, z1, z2, z3, z4, z5, z6]
 refine wpAnyH_ready (rs := [10]) (by kernel_rfl) (by simp) ?_
 refine AllReadyH.cons rfl (fun Kc hKc => ?_) AllReadyH.nil
 go_simp
 have hPrev := Lib.hid hHeld.size
 refine hKc.out _ _ ?_ (fun hHeld => ?_)
 ·first | assumption | exact hHeld | exact hHeld.alloc hHeld.size _ | exact below_setRow hHeld hPrev.out _
 clear hKc Kc
 first | have HAQ := Lib.hid (freshOf hHeld) | have HAQ := Lib.hid (freshDrew hHeld)
 refine wpAnyH_ready (rs := [11]) (by kernel_rfl) (by simp) ?_
 refine AllReadyH.cons rfl (fun Kc hKc => ?_) AllReadyH.nil
 have HAR := Lib.hid (blkRowNew (cs' := #[thPtr none, thPtr (some V)]) HAQ.out); refine wp_store_row 84 _ _ rfl _ #[thPtr none, thPtr (some V)] rfl (by rfl) 84 _ HAQ.out (by kernel_rfl) rfl (by simp [Value.oneCell', thPtr]) ?_
 refine hKc.out _ _ ?_ (fun hHeld => ?_)
 ·first | assumption | exact hHeld | exact hHeld.alloc hHeld.size _ | exact below_setRow hHeld hPrev.out _
 clear hKc Kc
 refine tkH (i := 12) (v := ?_) rfl (by kernel_rfl) (fun _ _ _ h => h) (Or.inl ⟨by rfl, ?_⟩) (by assumption) ?_
 rotate_left
 ·intro w hSw
  try dsimp only at hSw
  go_simp
  try with_reducible rfl
 simp only [Act.put, z1, z2, z3, z4, z5, z6]
 refine wpAnyH_done (by kernel_rfl) ?_ _
 generalize ((w1.alloc (.cells #[.pointer none, .pointer none] 84)).drew.setRow w1.heap.size #[thPtr none, thPtr (some V)]) = wz at *
 have hx := HX1.out.kept hHeld
 have t0 := HAR.out.cell 0
 have t1 := HAR.out.cell 1
 have x2 := hx.cell 3
 have x3 := hx.cell 4
 have x1 := hx.cell 1
 simp [thPtr] at t0 t1 x1 x2 x3
 have HB9 : Hid (Below X w wz) := Lib.hid (HB1.out.trans (hHeld.mono HXW.out))
 have HU9 := Lib.hid (HU.out _ HB9.out)
 clear hHeld hx HAR HAQ
 go_wp2_with fail
 with_reducible refine HU9.out.mono ?_
 rintro e w9 ⟨rfl, hu⟩
 have HUU := Lib.hid hu
 clear hu HU HU9 t0 t1 x1 x2 x3
 go_wp2_with fail
 with_reducible refine (PD.out _).mono ?_
 rintro e w10 ⟨rfl, hw⟩
 subst hw
 go_wp2_with fail
 go_ret2
 exact ⟨rfl, wz, by rw [HXX.out]; exact HB9.out, HUU.out⟩
end Go.Proofs.YtfeficdndjiijaaGreatDoor


namespace Go.Proofs.YtfeficdndjiijaaGreatDoor
open Go.RowKit
set_option linter.unusedVariables false
set_option linter.unusedSimpArgs false

theorem noStOf {w : World} {k : Nat} {t : TypeId} {cs : Array Value} (hk : Blk w k t cs) (ht : t ≠ 2 ∧ t ≠ 337 ∧ t ≠ 284 ∧ t ≠ 288 ∧ t ≠ 174 ∧ t ≠ 172) : NoSt w k :=
  fun t' cs' hj => by rw [blk_one hj hk]; exact ht
theorem WinSt.update {w w4 : World} {base A bm V BR K : Nat} {b r d m s : Int} {S L : Nat → Nat} {X : Nat → Nat → Value} {Ar G C : Nat → Nat → Nat} {Z : Nat → Nat → List Int} (h : WinSt w base A bm V BR (K + 1) b r d m s S L X Ar G C Z) (hg : 4 < base)
  {S' L' : Nat} {X' : Nat → Value} {A' G' C' : Nat → Nat} {Z2 Z3 : Nat → List Int} (hs : StIs w4 w.heap.size S' L' b r d m s X' A' G' C' Z2) (h3 : StIs w4 base (S (3 + K)) (L (3 + K)) b r d m s (X (3 + K)) (Ar (3 + K)) (G (3 + K)) (C (3 + K)) Z3)
  (hv : Blk w4 V 198 #[.pointer (some ⟨S', 0, none⟩), .slice (some ⟨BR, 0, none⟩) (K + 1) (K + 1)]) (ho : Onl (fun k => k = V ∨ ∃ p, p ≤ b.toNat ∧ k = C (3 + K) p) w w4) :
  WinSt w4 base A bm V BR (K + 1) b r d m s (upN S 2 S') (upN L 2 L') (upN X 2 X') (upN Ar 2 A') (upN G 2 G') (upN C 2 C') (upN (upN Z (3 + K) Z3) 2 Z2) ∧ XOnl [A, bm, V, BR] base w w4 := by
 have h3o := h.fam.st (3 + K) (by omega) (by omega)
 have hV := h.win.1
 have hF : ∀ k, (k = V ∨ ∃ p, p ≤ b.toNat ∧ k = C (3 + K) p) → ∃ t cs, Blk w k t cs ∧ (t = 198 ∨ t = 2) := by
  rintro k (rfl | ⟨p, hp, rfl⟩)
  ·exact ⟨_, _, hV, .inl rfl⟩
  ·obtain ⟨cs, hc⟩ := h3o.cellsB p hp
   exact ⟨_, _, hc, .inr rfl⟩
 refine ⟨⟨?_, ⟨by rw [upN_same]; exact hv, ?_⟩, ?_, h.lo, h.tab.onl ho ?_⟩, XOnl.of ho ?_⟩
 ·obtain ⟨T, h1, h2, h4, h5, h6⟩ := h.agg
  refine ⟨T, h1.beside ho (fun k hk => ?_), by rw [upN_other _ _ (by omega)]; exact h2, h4, h5, h6⟩
  obtain ⟨t, cs, h7, h8⟩ := hF k hk
  exact ⟨t, cs, h7, by rcases h8 with rfl | rfl <;> decide⟩
 ·obtain ⟨-, cur, h2, h4, h5⟩ := h.win
  refine ⟨cur, (ho.2.2.2.2 BR h2.lt (fun hf => ?_)).trans h2, h4, fun j hj => by rw [upN_other _ _ (by omega)]; exact h5 j hj⟩
  obtain ⟨t, cs, h7, h8⟩ := hF _ hf
  have := blk_one h7 h2
  rcases h8 with e | e <;> (rw [e] at this; exact absurd this (by decide))
 ·refine StFam.put (fun i h1 h2 h4 => ?_) (fun i j p q h1 h2 _ h4 h5 _ hne hp hq => h.fam.apart i j p q h1 h2 h4 h5 hne hp hq) (hs.low_ h.base_le) (fun i p q h1 h2 h4 hp hq e => ?_)
  ·by_cases e : i = 3 + K
   ·subst e; rw [upN_same]; exact h3
   ·rw [upN_other _ _ e]
    refine (h.fam.st i h1 h2).onl ho ?_
    rintro k (rfl | ⟨p, hp, rfl⟩)
    ·exact .inl (noStOf hV (by decide))
    ·exact .inr ⟨h3o.cellsB p hp, fun q hq => h.fam.apart _ _ p q (by omega) (by omega) h1 h2 (Ne.symm e) hp hq⟩
  ·have h5 := (h.fam.st i h1 h2).ltC p hp
   have h6 := hs.low q hq
   omega
 ·rintro k (rfl | ⟨p, hp, rfl⟩)
  ·have := h.lo; omega
  ·have := h3o.low p hp; omega
 ·rintro k - (rfl | ⟨p, hp, rfl⟩)
  ·exact .inl (by simp)
  ·exact .inr ⟨h3o.low p hp, h3o.cellsB p hp⟩
theorem line_addw (w : World) (base A bm V BR K : Nat) (b r d m s : Int) (S L : Nat → Nat) (X : Nat → Nat → Value) (Ar G C : Nat → Nat → Nat) (Z : Nat → Nat → List Int) (h : WinSt w base A bm V BR (K + 1) b r d m s S L X Ar G C Z) (hg : 4 < base) (hK : K ≤ 15) (s0 : 0 ≤ s) (s1 : s ≤ 18446744073709551615)
  (key : Nat) (hk : key ≤ 9223372036854775807) (x : Int) (hx : In64 x) (he : stErr b r d m s (Z 2) key x = 0) (he3 : stErr b r d m s (Z (3 + K)) key x = 0) :
  Calls Tryz.prog 8 #[.pointer (some ⟨A, 0, none⟩), .string (sB (joinW [wAdd, Lib.itoa ((4 : Nat) : Int), Lib.itoa (key : Int), Lib.itoa x]))] w fun e w' => ∃ t, e = .returned (.tuple #[.string t, .bool true]) ∧ t = sB [100, 111, 110, 101] ∧
   (∃ S' L' X' A' G' C', WinSt w' base A bm V BR (K + 1) b r d m s S' L' X' A' G' C' (upN (upN Z (3 + K) (stUpd b r d m s (Z (3 + K)) key x)) 2 (stUpd b r d m s (Z 2) key x))) ∧ XOnl [A, bm, V, BR] base w w' := by
 obtain ⟨T, hT1, -, -, -, hT2⟩ := h.agg
 have hsz := h.base_le
 have hi64 : In64 ((4 : Nat) : Int) := by unfold In64; omega
 refine line_of A _ w (fun c _ => c = .iface 117 (.agg #[.int .i64 ((4 : Nat) : Int), .bool false, .string ⟨#[]⟩, .int .u64 (key : Int), .int .i64 x]))
  (fun rr w2 => rr = .iface 133 (.agg #[]) ∧ (∃ S' L' X' A' G' C', WinSt w2 base A bm V BR (K + 1) b r d m s S' L' X' A' G' C' (upN (upN Z (3 + K) (stUpd b r d m s (Z (3 + K)) key x)) 2 (stUpd b r d m s (Z 2) key x))) ∧ XOnl [A, bm, V, BR] base w w2)
  _ (fun c _ hc => ⟨_, _, hc⟩) ?_ ?_ ?_
 ·refine parse_ws _ (stays_eq _) _ (fun a ha => ?_) (by simp) (by simp) w h.tab (fun w1 R v en hle hr1 hv ht1 => ?_)
  ·simp only [List.mem_cons, List.mem_nil_iff, or_false] at ha
   rcases ha with rfl | rfl | rfl | rfl
   ·exact plainLit _ (by decide)
   ·exact num_plain _ hi64.1 hi64.2
   ·exact num_plain _ (by omega) (by omega)
   ·exact num_plain _ hx.1 hx.2
  ·refine (cmd_add w1 R v _ en ((4 : Nat) : Int) key x hr1 hv rfl (by simp) rfl rfl rfl hi64 (by omega) (by omega) hx ht1).mono ?_
   rintro e w' ⟨rfl, h2, h3⟩
   exact ⟨_, rfl, rfl, h2, h3⟩
 ·rintro c w1 hb1 rfl
  refine do_add w1 A ((4 : Nat) : Int) key x _ (fun w2 hb2 => ?_)
  have hk2 := hT1.kept (btr hb1 hb2)
  refine (aggaddw w2 A bm 4 T ((4 : Nat) : Int) key x V hk2 (by omega) (by omega) (by omega) hT2 (fun w3 w4 => Below w2.heap.size w2 w3 → (∃ S' L' X' A' G' C', WinSt w4 base A bm V BR (K + 1) b r d m s S' L' X' A' G' C' (upN (upN Z (3 + K) (stUpd b r d m s (Z (3 + K)) key x)) 2 (stUpd b r d m s (Z 2) key x))) ∧ XOnl [A, bm, V, BR] base w w4) (fun w3 hb3 => ?_)).mono ?_
  ·have hb13 := btr (btr hb1 hb2) hb3
   have h3 := h.kept hb13
   refine (wupdate w3 V BR K S h3.win (by omega) base (L 2) base (L (3 + K)) b r d m s (X 2) (X (3 + K)) (Ar 2) (G 2) (C 2) (Ar (3 + K)) (G (3 + K)) (C (3 + K)) (Z 2) (Z (3 + K)) (h3.fam.st 2 (by omega) (by omega)) (h3.fam.st (3 + K) (by omega) (by omega)) s0 s1 key (by omega) x hx he he3).mono ?_
   rintro e w4 ⟨S', L', X', A', G', C', rfl, -, hst, hst3, hv, ho⟩
   refine ⟨rfl, fun _ => ?_⟩
   have hu := h3.update hg hst hst3 hv ho
   exact ⟨⟨_, _, _, _, _, _, hu.1⟩, (XOnl.below hb13).trans hu.2⟩
  ·rintro e w4 ⟨rfl, w3, hb3, hu⟩
   obtain ⟨hu1, hu2⟩ := hu hb3
   exact ⟨_, rfl, rfl, hu1, hu2⟩
 ·rintro rr w2 ⟨rfl, ⟨S', L', X', A', G', C', hA⟩, hB⟩
  refine (text_done w2).mono ?_
  rintro e w3 ⟨rfl, hb3⟩
  exact ⟨_, rfl, rfl, ⟨_, _, _, _, _, _, hA.kept hb3⟩, hB.trans (XOnl.below hb3)⟩

def wkZ (j : Nat) : Nat → List Int
  | 0 => if j ≤ 1 then [0, 0, 0, 0] else if j = 2 then [0, 0, 0, 5] else [0, 2, 0, 5]
  | 1 => if j ≤ 1 then [0, 0] else if j = 2 then [0, 5] else [2, 5]
  | _ => if j ≤ 1 then [0] else if j = 2 then [5] else [7]
def WkS (base A bm j : Nat) (W : World) : Prop := ∃ S L X Ar G C, AggSt W base A bm (if j = 0 then 0 else 1) 2 1 4 1 0 S L X Ar G C (fun _ => wkZ j)
def wkLine : List (List UInt8) := [[99, 114, 101, 97, 116, 101, 32, 50, 32, 49, 32, 52, 32, 49, 32, 48], [97, 100, 100, 32, 49, 32, 51, 32, 53], [97, 100, 100, 32, 49, 32, 49, 32, 50], [114, 97, 110, 103, 101, 32, 49, 32, 49, 32, 50], [113, 117, 97, 110, 116, 105, 108, 101, 32, 49, 32, 51], [104, 101, 97, 118, 121, 32, 49, 32, 53, 32, 57], [105, 110, 110, 101, 114, 32, 49, 32, 49]]
def wkRep : List (List UInt8) := [[104, 97, 110, 100, 108, 101, 32, 49], [100, 111, 110, 101], [100, 111, 110, 101], [110, 117, 109, 98, 101, 114, 32, 50], [107, 101, 121, 32, 51], [108, 105, 115, 116, 32, 50, 58, 48, 58, 55, 32, 49, 58, 49, 58, 53, 32, 48, 58, 51, 58, 53], [119, 105, 100, 101, 32, 50, 57]]
def WkPost (base A bm j : Nat) (W : World) (e : Ending) (W' : World) : Prop := e = .returned (.tuple #[.string (sB (wkRep.getD j [])), .bool true]) ∧ WkS base A bm (j + 1) W' ∧ AOnl base A bm W W'
theorem itoaS (k : Nat) (h : k < 10) : Lib.itoa (k : Int) = [UInt8.ofNat (48 + k)] := by
  unfold Lib.itoa
  rw [if_neg (by omega), Int.toNat_natCast, dec_small h]
theorem it0 : Lib.itoa 0 = [48] := itoaS 0 (by decide)
theorem it1 : Lib.itoa 1 = [49] := itoaS 1 (by decide)
theorem it2 : Lib.itoa 2 = [50] := itoaS 2 (by decide)
theorem it3 : Lib.itoa 3 = [51] := itoaS 3 (by decide)
theorem it4 : Lib.itoa 4 = [52] := itoaS 4 (by decide)
theorem it5 : Lib.itoa 5 = [53] := itoaS 5 (by decide)
theorem it7 : Lib.itoa 7 = [55] := itoaS 7 (by decide)
theorem it9 : Lib.itoa 9 = [57] := itoaS 9 (by decide)
theorem wkR : rightB 2 1 4 1 = true := by decide
theorem wkE : ∀ n : Nat, n ≤ 2 → exactB 2 1 4 1 (n : Int) = true := fun n hn => by
  match n, hn with
  | 0, _ => decide
  | 1, _ => decide
  | 2, _ => decide
theorem wk0 (base A bm : Nat) (hg : 4 < base) (W : World) (h : WkS base A bm 0 W) : Calls Tryz.prog 8 #[.pointer (some ⟨A, 0, none⟩), .string (sB (wkLine.getD 0 []))] W (WkPost base A bm 0 W) := by
  obtain ⟨S, L, X, Ar, G, C, h⟩ := h
  have hl : wkLine.getD 0 [] = joinW [wCreate, Lib.itoa 2, Lib.itoa 1, Lib.itoa 4, Lib.itoa 1, Lib.itoa 0] := by
    simp only [it0, it1, it2, it4]; decide
  rw [hl]
  refine (line_create W base A bm 0 2 1 4 1 0 0 S L X Ar G C _ h hg (by decide) wkR (by unfold In64; decide) (by decide)).mono ?_
  rintro e W' ⟨t, rfl, rfl, S', L', X', A', G', C', h', ho⟩
  refine ⟨?_, ⟨_, _, _, _, _, _, h'.setZ (fun i p h1 h2 hp => ?_)⟩, ho⟩
  · have : ([104, 97, 110, 100, 108, 101, 32] ++ Lib.itoa (((0 : Nat) : Int) + 1)) = wkRep.getD 0 [] := by
      rw [show ((0 : Nat) : Int) + 1 = 1 from rfl, it1]; rfl
    rw [this]
  · obtain rfl : i = 1 := by omega
    rw [show 0 + 1 = 1 from rfl, upN_same]
    match p, hp with
    | 0, _ => decide
    | 1, _ => decide
    | 2, _ => decide
theorem wkErr (Z : Nat → List Int) (k : Nat) (x : Int) (hk : (k : Int) < 4) (hx : ∀ n : Nat, n ≤ 2 → chkI (keysI 2 1 4 1 (n : Int)).toNat 1 (Z n) (k / 2 ^ n) x = 0) : stErr 2 1 4 1 0 Z k x = 0 := by
  unfold stErr
  rw [if_neg (by rw [show keysI 2 1 4 1 0 = 4 by decide]; omega), if_neg (by simp), if_pos (fun n hn => ?_)]
  unfold lvErr
  rw [if_pos (wkE n hn)]
  exact hx n hn
theorem wkUpd (Z : Nat → List Int) (k : Nat) (x : Int) (h : stErr 2 1 4 1 0 Z k x = 0) (n : Nat) (hn : n ≤ 2) : stUpd 2 1 4 1 0 Z k x n = updZ (keysI 2 1 4 1 (n : Int)).toNat 1 (Z n) (k / 2 ^ n) x := by
  unfold stUpd
  rw [if_pos h]
  unfold lvUpd
  rw [if_pos (wkE n hn)]
theorem wkAdd (base A bm j k : Nat) (x : Int) (hj : j ≠ 0) (hg : 4 < base) (W : World) (h : WkS base A bm j W) (hk : (k : Int) < 4) (hx : In64 x) (he : ∀ n : Nat, n ≤ 2 → chkI (keysI 2 1 4 1 (n : Int)).toNat 1 (wkZ j n) (k / 2 ^ n) x = 0)
    (hu : ∀ n : Nat, n ≤ 2 → updZ (keysI 2 1 4 1 (n : Int)).toNat 1 (wkZ j n) (k / 2 ^ n) x = wkZ (j + 1) n) (hl : wkLine.getD j [] = joinW [wAdd, Lib.itoa ((1 : Nat) : Int), Lib.itoa (k : Int), Lib.itoa x]) (hr : wkRep.getD j [] = [100, 111, 110, 101]) :
    Calls Tryz.prog 8 #[.pointer (some ⟨A, 0, none⟩), .string (sB (wkLine.getD j []))] W (WkPost base A bm j W) := by
  obtain ⟨S, L, X, Ar, G, C, h⟩ := h
  rw [if_neg hj] at h
  have herr := wkErr (wkZ j) k x hk he
  rw [hl]
  refine (line_add W base A bm 1 2 1 4 1 0 S L X Ar G C _ h hg (by decide) (by decide) (by decide) 1 (by decide) (by decide) k (by omega) x hx herr).mono ?_
  rintro e W' ⟨t, rfl, rfl, h', ho⟩
  refine ⟨by rw [hr], ⟨S, L, X, Ar, G, C, ?_⟩, ho⟩
  rw [if_neg (by omega)]
  refine h'.setZ (fun i p h1 h2 hp => ?_)
  obtain rfl : i = 1 := by omega
  rw [upN_same, wkUpd _ k x herr p hp]
  exact hu p hp
theorem le2 {p : Nat → Prop} (h0 : p 0) (h1 : p 1) (h2 : p 2) : ∀ n, n ≤ 2 → p n := fun n hn => by
  match n, hn with
  | 0, _ => exact h0
  | 1, _ => exact h1
  | 2, _ => exact h2
theorem wk1 (base A bm : Nat) (hg : 4 < base) (W : World) (h : WkS base A bm 1 W) : Calls Tryz.prog 8 #[.pointer (some ⟨A, 0, none⟩), .string (sB (wkLine.getD 1 []))] W (WkPost base A bm 1 W) :=
  wkAdd base A bm 1 3 5 (by decide) hg W h (by decide) (by unfold In64; decide) (le2 (by decide) (by decide) (by decide)) (le2 (by decide) (by decide) (by decide))
    (by rw [show ((1 : Nat) : Int) = 1 from rfl, show ((3 : Nat) : Int) = 3 from rfl]; simp only [it1, it3, it5]; decide) rfl
theorem wk2 (base A bm : Nat) (hg : 4 < base) (W : World) (h : WkS base A bm 2 W) : Calls Tryz.prog 8 #[.pointer (some ⟨A, 0, none⟩), .string (sB (wkLine.getD 2 []))] W (WkPost base A bm 2 W) :=
  wkAdd base A bm 2 1 2 (by decide) hg W h (by decide) (by unfold In64; decide) (le2 (by decide) (by decide) (by decide)) (le2 (by decide) (by decide) (by decide))
    (by rw [show ((1 : Nat) : Int) = 1 from rfl]; simp only [it1, it2]; decide) rfl
def wkPt (n i : Nat) : Int := cellD (wkZ 3 n) i
theorem wkPt_lv (j : Nat) (hj : 3 ≤ j) (n i : Nat) (hn : n ≤ 2) : wkPt n i = lvPt ((2 : Nat) : Int) 1 4 1 0 (n : Int) (wkZ j n) i := by
  unfold lvPt
  rw [if_pos (show exactB ((2 : Nat) : Int) 1 4 1 (n : Int) = true from wkE n hn)]
  have : wkZ j n = wkZ 3 n := by
    have h1 : ¬ j ≤ 1 := by omega
    have h2 : ¬ j = 2 := by omega
    match n, hn with
    | 0, _ => simp [wkZ, h1, h2]
    | 1, _ => simp [wkZ, h1, h2]
    | 2, _ => simp [wkZ, h1, h2]
  rw [this]
  rfl
theorem wkPt_bd (n i : Nat) : 0 ≤ wkPt n i ∧ wkPt n i ≤ 9223372036854775807 := by
  have key : ∀ l : List Int, (∀ x ∈ l, 0 ≤ x ∧ x ≤ 7) → 0 ≤ cellD l i ∧ cellD l i ≤ 9223372036854775807 := fun l hl => by
    unfold cellD
    cases hx : l[i]? with
    | none => simp
    | some x => have := hl x (List.mem_of_getElem? hx); simp; omega
  unfold wkPt
  match n with
  | 0 => exact key [0, 2, 0, 5] (by decide)
  | 1 => exact key [2, 5] (by decide)
  | n + 2 => exact key [7] (by decide)
theorem wkKeep (base A bm j : Nat) (hj : 3 ≤ j) {W : World} (h : WkS base A bm j W) : WkS base A bm (j + 1) W := by
  obtain ⟨S, L, X, Ar, G, C, h⟩ := h
  rw [if_neg (by omega)] at h
  refine ⟨S, L, X, Ar, G, C, ?_⟩
  rw [if_neg (by omega)]
  refine h.setZ (fun i p h1 h2 hp => ?_)
  have h1 : ¬ j ≤ 1 := by omega
  have h2 : ¬ j = 2 := by omega
  have h3 : ¬ j + 1 ≤ 1 := by omega
  have h4 : ¬ j + 1 = 2 := by omega
  match p with
  | 0 => simp only [wkZ, if_neg h1, if_neg h2, if_neg h3, if_neg h4]
  | 1 => simp only [wkZ, if_neg h1, if_neg h2, if_neg h3, if_neg h4]
  | p + 2 => simp only [wkZ, if_neg h1, if_neg h2, if_neg h3, if_neg h4]
theorem wk4 (base A bm : Nat) (W : World) (h : WkS base A bm 4 W) : Calls Tryz.prog 8 #[.pointer (some ⟨A, 0, none⟩), .string (sB (wkLine.getD 4 []))] W (WkPost base A bm 4 W) := by
  obtain ⟨S, L, X, Ar, G, C, h⟩ := h
  rw [if_neg (by decide)] at h
  have hl : wkLine.getD 4 [] = joinW [wQuantile, Lib.itoa ((1 : Nat) : Int), Lib.itoa 3] := by
    rw [show ((1 : Nat) : Int) = 1 from rfl]; simp only [it1, it3]; decide
  rw [hl]
  have hw : wayN wkPt 2 0 3 = 3 := by decide
  refine (line_quantile W base A bm 1 2 1 4 1 0 S L X Ar G C _ h (by decide) (by decide) (by decide) 1 (by decide) (by decide) (by decide) (by decide) wkPt (fun n i hn => wkPt_lv 4 (by decide) n i hn) wkPt_bd 3 (by decide) (by decide) (by rw [hw]; decide)).mono ?_
  rintro e W' ⟨t, rfl, rfl, h', hb⟩
  rw [hw, dec_small (by decide)]
  refine ⟨rfl, ⟨S, L, X, Ar, G, C, ?_⟩, AOnl.below hb⟩
  exact h'
theorem wk5 (base A bm : Nat) (W : World) (h : WkS base A bm 5 W) : Calls Tryz.prog 8 #[.pointer (some ⟨A, 0, none⟩), .string (sB (wkLine.getD 5 []))] W (WkPost base A bm 5 W) := by
 obtain ⟨S, L, X, Ar, G, C, h⟩ := h
 rw [if_neg (by decide)] at h
 have hl : wkLine.getD 5 [] = joinW [wHeavy, Lib.itoa ((1 : Nat) : Int), Lib.itoa 5, Lib.itoa 9] := by
  rw [show ((1 : Nat) : Int) = 1 from rfl]; simp only [it1, it5, it9]; decide
 rw [hl]
 have ho : hvOut wkPt 5 2 (2 + 1) = [(2, 0), (1, 1), (0, 3)] := by decide
 refine (line_heavy W base A bm 1 2 1 4 1 0 S L X Ar G C _ h (by decide) (by decide) (by decide) 1 (by decide) (by decide) (by decide) (by decide) wkPt (fun n i hn => wkPt_lv 5 (by decide) n i hn) 5 9 (by unfold In64; decide) (by unfold In64; decide) (by decide) (by rw [ho]; decide) (by
  rw [ho]
  intro p hp
  simp only [List.mem_cons, List.mem_nil_iff, or_false] at hp
  rcases hp with rfl | rfl | rfl
  ·exact ⟨by decide, by decide, by unfold In64; decide⟩
  ·exact ⟨by decide, by decide, by unfold In64; decide⟩
  ·exact ⟨by decide, by decide, by unfold In64; decide⟩)).mono ?_
 rintro e W' ⟨t, rfl, rfl, h', hb⟩
 have ht : listT wkPt (hvOut wkPt 5 2 (2 + 1)) = wkRep.getD 5 [] := by
  rw [ho]
  simp only [listT, foundT, List.flatMap_cons, List.flatMap_nil]
  rw [show ((2 : Nat) : Int) = 2 from rfl, show ((1 : Nat) : Int) = 1 from rfl, show ((0 : Nat) : Int) = 0 from rfl, show wkPt 2 0 = 7 by decide, show wkPt 1 1 = 5 by decide, show wkPt 0 3 = 5 by decide, dec_small (by decide), dec_small (by decide), dec_small (by decide)]
  simp only [it0, it1, it2, it5, it7]
  decide
 rw [ht]
 exact ⟨rfl, ⟨S, L, X, Ar, G, C, h'⟩, AOnl.below hb⟩
theorem wk6 (base A bm : Nat) (W : World) (h : WkS base A bm 6 W) : Calls Tryz.prog 8 #[.pointer (some ⟨A, 0, none⟩), .string (sB (wkLine.getD 6 []))] W (WkPost base A bm 6 W) := by
  obtain ⟨S, L, X, Ar, G, C, h⟩ := h
  rw [if_neg (by decide)] at h
  have hl : wkLine.getD 6 [] = joinW [wInner, Lib.itoa ((1 : Nat) : Int), Lib.itoa ((1 : Nat) : Int)] := by
    rw [show ((1 : Nat) : Int) = 1 from rfl]; simp only [it1]; decide
  rw [hl]
  have hd : dotN (wkZ 6 0) (wkZ 6 0) 4 = 29 := by decide
  have hz : ∀ x ∈ wkZ 6 0, 0 ≤ x ∧ x ≤ 1000000 := by decide
  refine (line_inner W base A bm 1 2 1 4 0 S L X Ar G C _ h (by decide) 1 1 (by decide) (by decide) (by decide) (by decide) (by decide) 4 (by decide) hz hz (by rw [hd]; decide) (by rw [hd]; decide)).mono ?_
  rintro e W' ⟨t, rfl, rfl, h', hb⟩
  rw [hd, dec_big (by decide), dec_small (by decide)]
  exact ⟨rfl, ⟨S, L, X, Ar, G, C, h'⟩, AOnl.below hb⟩
theorem wk3 (base A bm : Nat) (W : World) (h : WkS base A bm 3 W) : Calls Tryz.prog 8 #[.pointer (some ⟨A, 0, none⟩), .string (sB (wkLine.getD 3 []))] W (WkPost base A bm 3 W) := by
 obtain ⟨S, L, X, Ar, G, C, h⟩ := h
 rw [if_neg (by decide)] at h
 have hl : wkLine.getD 3 [] = joinW [wRange, Lib.itoa ((1 : Nat) : Int), Lib.itoa ((1 : Nat) : Int), Lib.itoa ((2 : Nat) : Int)] := by
  rw [show ((1 : Nat) : Int) = 1 from rfl, show ((2 : Nat) : Int) = 2 from rfl]; simp only [it1, it2]; decide
 rw [hl]
 have hc : covO (2 + 1) 0 1 2 ++ (covR (2 + 1) 0 1 2).reverse = [(0, 1), (0, 2)] := by decide
 have hp : ptsL ((2 : Nat) : Int) 1 4 1 0 (wkZ 3) [(0, 1), (0, 2)] = [2, 0] := by
  simp only [ptsL, List.map_cons, List.map_nil]
  rw [← wkPt_lv 3 (by decide) 0 1 (by decide), ← wkPt_lv 3 (by decide) 0 2 (by decide)]
  decide
 refine (line_range W base A bm 1 2 1 4 1 0 S L X Ar G C _ h (by decide) (by decide) (by decide) 1 (by decide) (by decide) 1 2 (by decide) (by decide) (by decide) (by decide) (by decide) (by
  rw [hc]
  intro p hp
  simp only [List.mem_cons, List.mem_nil_iff, or_false] at hp
  rcases hp with rfl | rfl
  ·exact ⟨by decide, by decide, by decide⟩
  ·exact ⟨by decide, by decide, by decide⟩) (by rw [hc, hp]; decide) 2 (by rw [hc, hp]; decide) (by decide) (by decide)).mono ?_
 rintro e W' ⟨t, rfl, rfl, h', hb⟩
 simp only [it2]
 exact ⟨rfl, wkKeep base A bm 3 (by decide) ⟨S, L, X, Ar, G, C, h'⟩, AOnl.below hb⟩
end Go.Proofs.YtfeficdndjiijaaGreatDoor


namespace Go.Proofs.YtfeficdndjiijaaGreatDoor
open Go.RowKit Go.Shelf
set_option linter.unusedVariables false
set_option linter.unusedSimpArgs false
attribute [local go_sem] Oper.semAt_some

theorem noSt_of {w : World} {k : Nat} {t : TypeId} {cs : Array Value} (h : Blk w k t cs) (ht : t ≠ 2 ∧ t ≠ 337 ∧ t ≠ 284 ∧ t ≠ 288 ∧ t ≠ 174 ∧ t ≠ 172) : NoSt w k := fun t' cs' h' => by
  have := blk_one h' h
  subst this
  exact ht
theorem noSt_other {w : World} {k : Nat} {o : Obj} (h : w.heap[k]? = some o) (ho : o.isCells = false) : NoSt w k := fun t' cs' h' => by
  rw [show w.heap[k]? = _ from h'] at h
  cases h
  cases ho
theorem WkS.onl {F : Nat → Prop} {base A bm j : Nat} {w w' : World} (h : WkS base A bm j w) (ho : Onl F w w') (hF : ∀ k, F k → NoSt w k ∧ k ≠ A ∧ k ≠ bm ∧ k ≠ 4) : WkS base A bm j w' := by
  obtain ⟨S, L, X, Ar, G, C, h⟩ := h
  exact ⟨S, L, X, Ar, G, C, h.onl ho hF⟩
theorem WkS.ne {base A bm j : Nat} {w : World} (h : WkS base A bm j w) {k : Nat} {t : TypeId} {cs : Array Value} (hk : Blk w k t cs) (ht : t ≠ 77) : k ≠ A ∧ k ≠ bm := by
  obtain ⟨S, L, X, Ar, G, C, h⟩ := h
  obtain ⟨T, ⟨h1, D, ⟨es, clock, h2, -⟩, -⟩, -⟩ := h.agg
  refine ⟨fun e => ?_, fun e => ?_⟩
  · subst e; exact ht (blk_one hk h1)
  · subst e
    rw [show w.heap[k]? = _ from hk] at h2
    cases h2
theorem WkS.lt {base A bm j : Nat} {w : World} (h : WkS base A bm j w) : A < w.heap.size ∧ bm < w.heap.size ∧ base ≤ A ∧ base ≤ bm := by
  obtain ⟨S, L, X, Ar, G, C, h⟩ := h
  exact ⟨h.base_le.2.1, h.base_le.2.2, h.lo⟩
theorem own_onl {F : Nat → Prop} {w w' : World} {base n size : Nat} {e : TypeId} {v : Value} {xs : List Value} (h : w.ownsRow base e size v n xs) (ho : Onl F w w') (hne : ∀ k, v.ownBlock = some k → ¬ F k) : w'.ownsRow base e size v n xs := by
  refine ⟨h.1, ?_⟩
  rcases h.2 with h1 | ⟨g, cap, cur, hv, hb, hg, rest⟩
  · exact .inl h1
  · have hlt : g < w.heap.size := (Array.getElem?_eq_some_iff.1 hg).1
    exact .inr ⟨g, cap, cur, hv, hb, (ho.2.2.2.2 g hlt (hne g (by rw [hv]; rfl))).trans hg, rest⟩
def strsV (l : List (List UInt8)) : List Value := l.map fun a => .string (sB a)
structure RunI (w W : World) (base A bm OB AB B0 B1 B2 T j : Nat) (v : Value) : Prop where
  top : T ≤ W.heap.size
  wk : WkS base A bm j W
  out : Blk W OB 48 #[v]
  ab : Blk W AB 30 #[.pointer (some ⟨A, 0, none⟩)]
  own : W.ownsRow T 9 1 v j (strsV (wkRep.take j))
  bel : Below w.heap.size w W
  lo : w.heap.size ≤ OB ∧ OB < base ∧ bm < T ∧ OB < T ∧ AB < T ∧ B0 < T ∧ B1 < T ∧ B2 < T ∧ w.heap.size ≤ base ∧ 4 < OB ∧ 4 < B0 ∧ w.heap.size ≤ B0 ∧ OB ≠ B0
theorem RunI.walked {w W W' : World} {base A bm OB AB B0 B1 B2 T j : Nat} {v : Value} {row : Option Nat} (h : RunI w W base A bm OB AB B0 B1 B2 T j v) (hg : W.grownBy W' row) (hr : ∀ r, row = some r → T ≤ r ∧ ∃ o : Obj, W.heap[r]? = some o ∧ o.isCells = false) : RunI w W' base A bm OB AB B0 B1 B2 T j v := by
  have hlo := h.lo
  have hlt := h.wk.lt
  refine ⟨Nat.le_trans h.top hg.size, h.wk.onl (F := fun k => row = some k) ⟨hg.os, hg.tape, hg.output, hg.size, fun k hk hn => hg.block k hk (fun e => hn e.symm)⟩ (fun k hk => ?_), h.out.walked hg (fun r e => (hr r e).2), h.ab.walked hg (fun r e => (hr r e).2), ownKeep h.own hg (fun k hk e => by
    obtain ⟨cs, hc⟩ := ownBlk h.own k hk
    obtain ⟨-, o, ho, hn⟩ := hr k e
    exact hc.not_other ho hn rfl), h.bel.grown hg h.bel.size (fun k e => by have := (hr k e).1; omega), hlo⟩
  obtain ⟨h1, o, h2, h3⟩ := hr k hk
  refine ⟨noSt_other h2 h3, ?_, by omega, by omega⟩
  rintro rfl
  obtain ⟨S, L, X, Ar, G, C, hA⟩ := h.wk
  obtain ⟨T', ⟨h4, -⟩, -⟩ := hA.agg
  rw [show W.heap[k]? = _ from h4] at h2
  cases h2
  cases h3
theorem RunI.box {w W : World} {base A bm OB AB B0 B1 B2 T j : Nat} {v : Value} (h : RunI w W base A bm OB AB B0 B1 B2 T j v) (s : ByteArray) (hb : StrBox W B0 9) : RunI w (W.setCell ⟨B0, 0, none⟩ (.string s)) base A bm OB AB B0 B1 B2 T j v := by
  obtain ⟨s0, hb⟩ := hb
  have hb0 : Blk W B0 9 #[.string s0] := hb
  have hlo := h.lo
  have hg : W.grownBy (W.setCell ⟨B0, 0, none⟩ (.string s)) (some B0) := gr_setC (World.grownBy.refl _ _) 0 _
  have hne := h.wk.ne hb0 (by decide)
  refine ⟨Nat.le_trans h.top hg.size, h.wk.onl (Onl.of_gr hg) (fun k hk => ?_), h.out.grown hg (by simpa using hlo.2.2.2.2.2.2.2.2.2.2.2.2), h.ab.grown hg (by simpa using h.ab.ne_ hb0 (by decide)), ownKeep h.own hg (fun k hk e => by
    have e := Option.some.inj e
    have := (h.own.lt k hk).1
    omega), h.bel.grown hg h.bel.size (fun k e => by have e := Option.some.inj e; omega), hlo⟩
  subst hk
  exact ⟨noSt_of hb0 (by decide), hne.1, hne.2, by omega⟩
theorem RunI.round {w W W2 We : World} {base A bm OB AB B0 B1 B2 T j : Nat} {v v' : Value} (h : RunI w W base A bm OB AB B0 B1 B2 T j v) (hk : WkS base A bm (j + 1) W2) (ho : AOnl base A bm W W2) (hb1 : ∃ s, Blk W B1 9 #[.string s]) (hb2 : ∃ i, Blk W B2 3 #[i]) (hj : j < 7)
    (hown : We.ownsRow T 9 1 v' (j + 1) (strsV (wkRep.take j) ++ [.string (sB (wkRep.getD j []))])) (hg : (W2.alloc (.cells #[.string (sB (wkRep.getD j []))] 9)).grownBy We v.ownBlock) (hb0 : ∃ s, Blk W B0 9 #[.string s]) :
    KeepsFrom T W (We.setCell ⟨OB, 0, none⟩ v') ∧ KpB [B0, B1, B2] W (We.setCell ⟨OB, 0, none⟩ v') ∧ RunI w (We.setCell ⟨OB, 0, none⟩ v') base A bm OB AB B0 B1 B2 T (j + 1) v' := by
  have hlo := h.lo
  have hlt := h.wk.lt
  have hal : Below W2.heap.size W2 (W2.alloc (.cells #[.string (sB (wkRep.getD j []))] 9)) := (Below.refl _ _).alloc (Nat.le_refl _) _
  generalize (W2.alloc (.cells #[.string (sB (wkRep.getD j []))] 9)) = W3 at *
  have hne := fun {k : Nat} {t : TypeId} {cs : Array Value} (hk : Blk W k t cs) (ht : t ≠ 77) => h.wk.ne hk ht
  have out2 : Blk W2 OB 48 #[v] := ho.blk h.out (hne h.out (by decide)).1 (hne h.out (by decide)).2 (by decide)
  have ab2 : Blk W2 AB 30 #[.pointer (some ⟨A, 0, none⟩)] := ho.blk h.ab (hne h.ab (by decide)).1 (hne h.ab (by decide)).2 (by decide)
  have hv : ∀ k, v.ownBlock = some k → T ≤ k ∧ k < W.heap.size := fun k e => h.own.lt k e
  have own2 : W2.ownsRow T 9 1 v j (strsV (wkRep.take j)) := own_onl h.own ho (fun k hk hf => by
    have h1 := hv k hk
    obtain ⟨cs, hc⟩ := ownBlk h.own k hk
    rcases hf with e | e | ⟨-, cs', e⟩
    · exact (hne hc (by decide)).1 e
    · exact (hne hc (by decide)).2 e
    · exact absurd (blk_one hc e) (by decide))
  have wk3 : WkS base A bm (j + 1) W3 := hk.onl (F := fun _ => False) (Onl.below hal) (fun _ hf => hf.elim)
  have own3 : W3.ownsRow T 9 1 v j (strsV (wkRep.take j)) := ownKeep own2 (below_gr (row := none) hal) (fun _ _ => by simp)
  have out3 := out2.kept hal
  have ab3 := ab2.kept hal
  have hvne : ∀ k, k < T → some k ≠ v.ownBlock := fun k hk e => by have := (hv k e.symm).1; omega
  have wkE : WkS base A bm (j + 1) We := wk3.onl (F := fun k => v.ownBlock = some k) ⟨hg.os, hg.tape, hg.output, hg.size, fun k hk hn => hg.block k hk (fun e => hn e.symm)⟩ (fun k hk => by
    obtain ⟨cs, hc⟩ := ownBlk own3 k hk
    have h1 := wk3.ne hc (by decide)
    have h2 := (hv k hk).1
    exact ⟨noSt_of hc (by decide), h1.1, h1.2, by omega⟩)
  have outE := out3.grown hg (hvne OB (by omega))
  have abE := ab3.grown hg (hvne AB (by omega))
  have hgs : We.grownBy (We.setCell ⟨OB, 0, none⟩ v') (some OB) := gr_setC (World.grownBy.refl _ _) 0 _
  have s1 : W.heap.size ≤ W2.heap.size := ho.2.2.2.1
  have s2 : W2.heap.size ≤ W3.heap.size := hal.size
  have s3 : W3.heap.size ≤ We.heap.size := hg.size
  have kf1 : KeepsFrom T W W2 := ⟨s1, fun k o hk hko hoc => by
    refine (ho.2.2.2.2 k (Array.getElem?_eq_some_iff.1 hko).1 ?_).trans hko
    rintro (e | e | ⟨-, cs', e⟩)
    · subst e
      obtain ⟨S, L, X, Ar, G, C, hA⟩ := h.wk
      obtain ⟨T', ⟨h4, -⟩, -⟩ := hA.agg
      rw [show W.heap[k]? = _ from h4] at hko
      cases hko
      cases hoc
    · omega
    · rw [show W.heap[k]? = _ from e] at hko
      cases hko
      cases hoc⟩
  have kf2 : KeepsFrom T W2 W3 := (kept_others (below_gr (row := none) hal) (fun g e => by cases e)).from _
  have kf3 : KeepsFrom T W3 We := (kept_others hg (fun g e => by
    obtain ⟨cs, q⟩ := ownBlk own3 g e
    exact ⟨_, _, q⟩)).from _
  have kf4 : KeepsFrom T We (We.setCell ⟨OB, 0, none⟩ v') := (kept_others hgs (fun g e => ⟨_, _, by cases e; exact outE⟩)).from _
  have nk : ∀ k t cs, Blk W k t cs → t ≠ 77 → t ≠ 2 → k < T → k ≠ OB → (We.setCell ⟨OB, 0, none⟩ v').heap[k]? = W.heap[k]? := fun k t cs hb h1 h2 h3 h4 => by
    have q2 : Blk W2 k t cs := ho.blk hb (hne hb h1).1 (hne hb h1).2 h2
    have q3 := (q2.kept hal).grown hg (hvne k h3)
    have q4 := q3.grown hgs (by simpa using h4)
    exact q4.trans hb.symm
  obtain ⟨x0, c0⟩ := hb0
  obtain ⟨x1, c1⟩ := hb1
  obtain ⟨x2, c2⟩ := hb2
  refine ⟨((kf1.trans kf2).trans kf3).trans kf4, ⟨by have := hgs.size; omega, fun i hi => ?_⟩, ?_⟩
  · simp at hi
    rcases hi with rfl | rfl | rfl
    · exact nk _ _ _ c0 (by decide) (by decide) (by omega) (by omega)
    · exact nk _ _ _ c1 (by decide) (by decide) (by omega) (c1.ne_ h.out (by decide))
    · exact nk _ _ _ c2 (by decide) (by decide) (by omega) (c2.ne_ h.out (by decide))
  · exact { top := by have := hgs.size; have := h.top; omega
            wk := wkE.onl (Onl.of_gr hgs) (fun k hk => by
              subst hk
              have h1 := wkE.ne outE (by decide)
              exact ⟨noSt_of outE (by decide), h1.1, h1.2, by omega⟩)
            out := by simpa using outE.set_ 0 v'
            ab := abE.grown hgs (by simpa using (abE.ne_ outE (by decide)))
            own := by
              have e1 : strsV (wkRep.take (j + 1)) = strsV (wkRep.take j) ++ [.string (sB (wkRep.getD j []))] := by
                have hl : j < wkRep.length := hj
                rw [List.take_add_one, strsV, strsV, List.map_append, List.getD_eq_getElem?_getD, List.getElem?_eq_getElem hl]
                rfl
              rw [e1]
              refine ownKeep hown hgs (fun k hk e => ?_)
              have e := Option.some.inj e
              obtain ⟨cs, hq⟩ := ownBlk hown k hk
              rw [← e] at hq
              exact absurd rfl (outE.ne_ hq (by decide))
            bel := by
              have b1 := ho.to_below (by omega) hlt.2.2.1 hlt.2.2.2
              have b2 : Below w.heap.size W2 W3 := hal.mono (by have := h.bel.size; omega)
              exact (((h.bel.trans (b1.mono hlo.2.2.2.2.2.2.2.2.1)).trans b2).grown hg (by have := h.bel.size; omega) (fun k e => by have := (hv k e).1; omega)).setCell hlo.1 _
            lo := hlo }
theorem wkNo : ∀ a ∈ wkLine, ∀ x ∈ a, x ≠ 10 := by decide
theorem wkStep (base A bm j : Nat) (hj : j < 7) (hg : 4 < base) (W : World) (h : WkS base A bm j W) : Calls Tryz.prog 8 #[.pointer (some ⟨A, 0, none⟩), .string (sB (wkLine.getD j []))] W (WkPost base A bm j W) := by
  match j, hj with
  | 0, _ => exact wk0 base A bm hg W h
  | 1, _ => exact wk1 base A bm hg W h
  | 2, _ => exact wk2 base A bm hg W h
  | 3, _ => exact wk3 base A bm W h
  | 4, _ => exact wk4 base A bm W h
  | 5, _ => exact wk5 base A bm W h
  | 6, _ => exact wk6 base A bm W h
set_option maxRecDepth 100000 in
set_option maxHeartbeats 16000000 in
theorem run_small (w : World) (ht : Tab w) : Calls Tryz.prog 19 #[.string (sB (joinN wkLine))] w fun e w' => ∃ v, e = .returned v ∧ w'.ownsRow w.heap.size 9 1 v 7 (strsV wkRep) ∧ Below w.heap.size w w' := by
 obtain ⟨iS, hi, hz0, hz1, hz2⟩ := info_parts (show (Tryz.prog.info? 9).map (fun i => (i.zero, i.size, i.bytes)) = some (some (.string ⟨#[]⟩), 1, 16) by kernel_rfl)
 have HT := Lib.hid ht
 have hTsz : (sB (joinN wkLine)).size ≤ 1000 := by rw [sB_size]; decide
 obtain ⟨TX, hTX⟩ : ∃ TX, TX = sB (joinN wkLine) := ⟨_, rfl⟩
 have HTX := Lib.hid hTX
 rw [← hTX] at hTsz ⊢
 have PN := Lib.hid (fun w => aggnew w)
 have PS := Lib.hid (fun w => splitseq TX ⟨#[10]⟩ w)
 have hb0 : Below w.heap.size w (w.alloc (.cells #[.slice none 0 0] 48)) := (Below.refl _ _).alloc (Nat.le_refl _) _
 have HB0 := Lib.hid hb0
 have HO0 := Lib.hid (Blk.new w 48 #[.slice none 0 0])
 clear ht hTX hb0
 refine (callsIn_wide (n := 6)).1 ?_
 refine callsIn_of_wp_marks Tryz.func19 rfl trivial ?_ rfl
 simp only [Tryz.ntmps19, List.size_toArray, List.length_cons, List.length_nil, Nat.reduceAdd, Nat.reduceSub, Array.replicate_succ, Array.replicate_zero, List.push_toArray, List.append_toArray, List.nil_append, List.cons_append]
 gi_wp2_with fail
 generalize (w.alloc (.cells #[.slice none 0 0] 48)) = w1 at *
 refine ⟨trivial, ?_⟩
 with_reducible refine (callsIn_wide.2 (PN.out _)).mono ?_
 rintro e w2 ⟨A, bm, rfl, hA1, hA2, hagg, hb2⟩
 have HAG := Lib.hid hagg
 have HAL := Lib.hid (And.intro hA1 hA2)
 have HB2 := Lib.hid (btr HB0.out hb2)
 have HO2 := Lib.hid ((show Blk w1 w.heap.size 48 #[.slice none 0 0] from HO0.out).kept hb2)
 have HW1 : Hid (w.heap.size < w1.heap.size ∧ w1.heap.size ≤ w2.heap.size) := Lib.hid ⟨(show Blk w1 w.heap.size 48 #[.slice none 0 0] from HO0.out).lt, hb2.size⟩
 clear hA1 hA2 hagg hb2 PN HB0 HO0
 gi_wp2_with fail
 have hb3 : Below w2.heap.size w2 (w2.alloc (.cells #[.pointer (some ⟨A, 0, none⟩)] 30)) := (Below.refl _ _).alloc (Nat.le_refl _) _
 have HAG3 := Lib.hid (HAG.out.kept hb3)
 have HB3 := Lib.hid (btr HB2.out hb3)
 have HO3 := Lib.hid (HO2.out.kept hb3)
 have HA3 := Lib.hid (Blk.new w2 30 #[.pointer (some ⟨A, 0, none⟩)])
 clear hb3 HAG HB2 HO2
 generalize (w2.alloc (.cells #[.pointer (some ⟨A, 0, none⟩)] 30)) = w3 at *
 refine ⟨trivial, ?_⟩
 with_reducible refine (callsIn_wide.2 (PS.out _)).mono ?_
 rintro e w4 ⟨rfl, hw4⟩
 obtain ⟨B0, hB0⟩ : ∃ B0, B0 = w3.heap.size := ⟨_, rfl⟩
 have hx0 : Blk w4 B0 9 #[.string TX] := by
  rw [hw4, hB0]
  exact ((Blk.new w3 9 #[.string TX]).kept ((Below.refl _ _).alloc (Nat.le_refl _) _)).kept ((Below.refl _ _).alloc (Nat.le_refl _) _)
 have hx1 : Blk w4 (B0 + 1) 9 #[.string ⟨#[10]⟩] := by
  rw [hw4, hB0]
  have := (Blk.new (w3.alloc (.cells #[.string TX] 9)) 9 #[.string ⟨#[10]⟩]).kept ((Below.refl _ _).alloc (Nat.le_refl _) (.cells #[.int .i64 0] 3))
  simpa using this
 have hx2 : Blk w4 (B0 + 1 + 1) 3 #[.int .i64 0] := by
  rw [hw4, hB0]
  have := Blk.new ((w3.alloc (.cells #[.string TX] 9)).alloc (.cells #[.string ⟨#[10]⟩] 9)) 3 #[.int .i64 0]
  simpa using this
 have hb4 : Below w3.heap.size w3 w4 := by
  rw [hw4]
  exact (((Below.refl _ _).alloc (Nat.le_refl _) _).alloc (by simp) _).alloc (by simp; omega) _
 have hs4 : w4.heap.size = B0 + 1 + 1 + 1 := by rw [hw4, hB0]; simp
 subst hB0
 have hAG4 := HAG3.out.kept hb4
 have hgt : 4 < w.heap.size := HT.out.lt
 have hW := HW1.out
 have hL := HAL.out
 have hsz3 : w2.heap.size < w3.heap.size := HA3.out.lt
 have hbm := HAG3.out.lt.2
 have hI0 : RunI w w4 w1.heap.size A bm w.heap.size w2.heap.size w3.heap.size (w3.heap.size + 1) (w3.heap.size + 1 + 1) w4.heap.size 0 (.slice none 0 0) := {
  top := Nat.le_refl _
  wk := ⟨fun _ => 0, fun _ => 0, fun _ _ => undef, fun _ _ => 0, fun _ _ => 0, fun _ _ => 0, by rw [if_pos rfl]; exact AggSt.zero hAG4 hL.1 hL.2 (HT.out.kept (btr HB3.out hb4))⟩
  out := (show Blk w3 w.heap.size 48 #[.slice none 0 0] from HO3.out).kept hb4
  ab := (show Blk w3 w2.heap.size 30 #[.pointer (some ⟨A, 0, none⟩)] from HA3.out).kept hb4
  own := World.ownsRow_nil _ _ _ _
  bel := btr HB3.out hb4
  lo := by omega }
 have HI0 := Lib.hid hI0
 have HX := Lib.hid (And.intro hx0 (And.intro hx1 hx2))
 have HSZ := Lib.hid (And.intro hs4 hgt)
 clear hx0 hx1 hx2 hb4 hAG4 hW hL hsz3 hbm hI0 hs4 hgt hw4 HAG3 HB3 HO3 HA3 PS
 gi_wp2_with fail
 refine wpIn_rangeFunc_ord rfl (by omega) (gf := 117) (lb := #[.pointer (some ⟨w3.heap.size + 1, 0, none⟩), .pointer (some ⟨w3.heap.size, 0, none⟩), .pointer (some ⟨w3.heap.size + 1 + 1, 0, none⟩)]) rfl trivial (enters_of Tryz.func117 (by kernel_rfl) rfl)
  (fun j => #[.string (sB (wkLine.getD j []))]) 7 w3.heap.size 9 (KpB [w3.heap.size, w3.heap.size + 1, w3.heap.size + 1 + 1]) (by have := HSZ.out; omega)
  (fun l J W hW hJ hY h0 => split1 (6 - 1) (by omega) l w3.heap.size (w3.heap.size + 1) (w3.heap.size + 1 + 1) wkLine (by decide) wkNo (by decide) J hJ hY W (by rw [← HTX.out]; exact HX.out.1.kept hW) (by omega) (HX.out.2.1.kept hW) (HX.out.2.2.kept hW) h0) KpB.trans (fun W l o o' hl _ _ => ⟨by simp, fun i hi => World.putObj_heap_other (by have := HSZ.out; simp at hi; omega)⟩) (fun _ => rfl)
  (fun j W => ∃ v, RunI w W w1.heap.size A bm w.heap.size w2.heap.size w3.heap.size (w3.heap.size + 1) (w3.heap.size + 1 + 1) w4.heap.size j v ∧ Blk W (w3.heap.size + 1) 9 #[.string ⟨#[10]⟩] ∧ Blk W (w3.heap.size + 1 + 1) 3 #[.int .i64 0] ∧ ∃ s, Blk W w3.heap.size 9 #[.string s])
  (fun j W W' row hs hg hr => by
   obtain ⟨v, hs, h1, h2, s, h3⟩ := hs
   exact ⟨v, hs.walked hg hr, h1.walked hg (fun r e => (hr r e).2), h2.walked hg (fun r e => (hr r e).2), s, h3.walked hg (fun r e => (hr r e).2)⟩)
  (fun j A s hs hb => by
   obtain ⟨v, hs, h1, h2, s0, h3⟩ := hs
   have hg : A.grownBy (A.setCell ⟨w3.heap.size, 0, none⟩ (.string s)) (some w3.heap.size) := gr_setC (World.grownBy.refl _ _) 0 _
   exact ⟨v, hs.box s hb, h1.grown hg (by simp), h2.grown hg (by simp; omega), s, by simpa using h3.set_ 0 (.string s)⟩)
  ⟨_, HI0.out, HX.out.2.1, HX.out.2.2, TX, HX.out.1⟩ (fun j => { tmps := #[.string TX, undef, .slice none 0 0, .pointer (some ⟨w.heap.size, 0, none⟩), .pointer (some ⟨w2.heap.size, 0, none⟩), .string (sB (wkLine.getD j [])), undef, undef, .string TX, .int .i64 (TX.size : Int), .bool (decide (1048576 < (TX.size : Int))), undef, undef, undef, .pointer (some ⟨A, 0, none⟩), .string TX,
   .func (.func 117) #[] #[.pointer (some ⟨w3.heap.size + 1, 0, none⟩), .pointer (some ⟨w3.heap.size, 0, none⟩), .pointer (some ⟨w3.heap.size + 1 + 1, 0, none⟩)], .string (sB (wkLine.getD j [])), undef, undef, undef, undef, undef, undef, undef, undef, undef, undef, undef, undef], defers := [] }) ?assign ?body ?done
 case assign =>
  intro l j W K hK
  gi_wp2
  exact hK
 case body =>
  intro l j W hl hj hI
  obtain ⟨v, hI, k1, k2, s, k3⟩ := hI
  obtain ⟨ao, cap, hv⟩ := own_form hI.own
  subst hv
  have PL := Lib.hid (wkStep w1.heap.size A bm j hj (by have := hI.lo; omega) W hI.wk)
  have HI := Lib.hid hI
  have HK := Lib.hid (And.intro k1 (And.intro k2 k3))
  have c4 := hI.ab.cell 0
  simp at c4
  obtain ⟨LN, hLN⟩ : ∃ LN, LN = sB (wkLine.getD j []) := ⟨_, rfl⟩
  rw [← hLN] at PL ⊢
  obtain ⟨RP, hRP⟩ : ∃ RP, RP = sB (wkRep.getD j []) := ⟨_, rfl⟩
  have HRP := Lib.hid hRP
  unfold WkPost at PL
  rw [← hRP] at PL
  clear hI k1 k2 k3 hLN hRP
  gi_wp2_with fail
  refine ⟨trivial, ?_⟩
  refine (CallsIn.inRound l (callsIn_wide.2 PL.out)).mono ?_
  rintro e W2 ⟨rfl, hk2, ho⟩
  have HK2 := Lib.hid hk2
  have HO := Lib.hid ho
  have hne := HI.out.wk.ne HI.out.out (by decide)
  have out2 : Blk W2 w.heap.size 48 #[.slice ao j cap] := ho.blk HI.out.out hne.1 hne.2 (by decide)
  have hown2 : W2.ownsRow w4.heap.size 9 1 (.slice ao j cap) j (strsV (wkRep.take j)) := own_onl HI.out.own ho (fun k hk hf => by
   obtain ⟨cs, hc⟩ := ownBlk HI.out.own k hk
   rcases hf with e | e | ⟨-, cs', e⟩
   ·exact (HI.out.wk.ne hc (by decide)).1 e
   ·exact (HI.out.wk.ne hc (by decide)).2 e
   ·exact absurd (blk_one hc e) (by decide))
  have HOW := Lib.hid hown2
  have HTP : Hid (w4.heap.size ≤ W2.heap.size) := Lib.hid (Nat.le_trans HI.out.top ho.2.2.2.1)
  have hal : Below W2.heap.size W2 (W2.alloc (.cells #[.string RP] 9)) := (Below.refl _ _).alloc (Nat.le_refl _) _
  have OB2 := Lib.hid out2
  have c0 := out2.cell 0
  simp at c0
  have out3 := out2.kept hal
  have OB3 := Lib.hid out3
  have hmx : j + 1 ≤ maxLen := by unfold maxLen; omega
  have hby : (j + 1) * 16 ≤ 140737488355328 := by omega
  clear hk2 ho hne out2 hown2 hal c4 PL
  gi_wp2_with (gi_at_builtin; refine wpListIn_append_own _ rfl _ _ 48 rfl w4.heap.size 9 iS (.string ⟨#[]⟩) 1 16 Tryz.underlying48 hi hz0 hz1 hz2 rfl (by decide) _ _ _ rfl (HOW.out.alloc _) ⟨W2.heap.size, 0, none⟩ 1 1 [.string RP] rfl rfl (cell_one_new _ _ _) (by simp [Value.oneCell']) hmx hby (by have := HTP.out; simp; omega) ?_)
  intro v' We hown' hgrow hnil
  obtain ⟨ao', cap', hv'⟩ := own_form hown'
  subst hv'
  have hoe : Blk We w.heap.size 48 #[.slice ao j cap] := OB3.out.grown hgrow (fun e => by have := (HOW.out.lt _ e.symm).1; have := HI.out.lo; omega)
  have d0 := hoe.cell 0
  have f0 := hoe.frozen 0
  simp at d0
  have HR := Lib.hid (HI.out.round HK2.out HO.out ⟨_, HK.out.1⟩ ⟨_, HK.out.2.1⟩ hj (by rw [← HRP.out]; exact hown') (by rw [← HRP.out]; exact hgrow) ⟨s, HK.out.2.2⟩)
  have HK9 := Lib.hid (And.intro (HR.out.2.1.blk (by simp) HK.out.1) (And.intro (HR.out.2.1.blk (by simp) HK.out.2.1) (HR.out.2.1.blk (by simp) HK.out.2.2)))
  clear hown' hgrow hnil hoe c0 HI HK2 HO HOW OB2 OB3
  gi_wp2_with fail
  exact ⟨HR.out.1, HR.out.2.1, _, HR.out.2.2, HK9.out.1, HK9.out.2.1, s, HK9.out.2.2⟩
 case done =>
  intro D W hD hI hK
  obtain ⟨v, hI, -⟩ := hI
  obtain ⟨ao, cap, hv⟩ := own_form hI.own
  subst hv
  have hlo := hI.lo
  have hgd := grownBy_putObj' W D (.deferred none)
  have HOW := Lib.hid (ownKeep (ownBase hI.own (base' := w.heap.size) (by omega)) hgd (fun k hk e => by
   have e := Option.some.inj e
   obtain ⟨cs, hq⟩ := ownBlk hI.own k hk
   rw [← e] at hq
   exact hq.not_other hK rfl rfl))
  have HBW := Lib.hid (hI.bel.grown hgd hI.bel.size (fun k e => by have e := Option.some.inj e; omega))
  have c0 := hI.out.cell 0
  simp at c0
  have HKD := Lib.hid hK
  clear hI hK hlo hgd
  gi_wp2_with fail
  refine ⟨by simp, .inl ⟨_, _, rfl, run_takeDeferred HKD.out, ?_⟩⟩
  refine ⟨.slice ao 7 cap, ?_, _, rfl, HOW.out, HBW.out⟩
  simp [results, Tryz.results19, go_sem]
end Go.Proofs.YtfeficdndjiijaaGreatDoor


namespace Go.Proofs.YtfeficdndjiijaaGreatDoor
open Go.RowKit
set_option linter.unusedVariables false
set_option linter.unusedSimpArgs false

def wExport : List UInt8 := [101, 120, 112, 111, 114, 116]
end Go.Proofs.YtfeficdndjiijaaGreatDoor


namespace Go.Proofs.YtfeficdndjiijaaGreatDoor
open Go.RowKit Go.Maps
set_option linter.unusedVariables false
set_option linter.unusedSimpArgs false

theorem thstackw (V : Nat) (w : World) (QS : Nat → World → Prop) (hS : Calls Tryz.prog 83 #[.pointer (some ⟨V, 0, none⟩)] (w.alloc (.cells #[.pointer none, .pointer (some ⟨V, 0, none⟩)] 84)) fun e w' => ∃ S, e = .returned (.pointer (some ⟨S, 0, none⟩)) ∧ QS S w' ∧ Below (w.alloc (.cells #[.pointer none, .pointer (some ⟨V, 0, none⟩)] 84)).heap.size (w.alloc (.cells #[.pointer none, .pointer (some ⟨V, 0, none⟩)] 84)) w') :
    Calls Tryz.prog 90 #[.agg #[thPtr none, thPtr (some V)]] w fun e w' => ∃ S, e = .returned (.pointer (some ⟨S, 0, none⟩)) ∧ QS S w' ∧ Below w.heap.size w w' := by
  have HS := Lib.hid hS
  have HB : Hid (Below w.heap.size w (w.alloc (.cells #[.pointer none, .pointer (some ⟨V, 0, none⟩)] 84))) := Lib.hid ((Below.refl _ _).alloc (Nat.le_refl _) _)
  clear hS
  simp only [thPtr, Option.map_none, Option.map_some]
  go_enter Tryz.func90, Tryz.ntmps90
  go_wp2_with fail
  with_reducible refine HS.out.mono ?_
  rintro e w2 ⟨S, rfl, hq, hb⟩
  have HQ := Lib.hid (And.intro hq hb)
  clear hq hb HS
  go_wp2_with fail
  go_ret
  exact ⟨S, rfl, HQ.out.1, btr HB.out HQ.out.2⟩
set_option maxRecDepth 100000 in
set_option maxHeartbeats 4000000 in
theorem agg_exportw (w : World) (A b n : Nat) (T : Nat → Option Nat × Option Nat) (x0 : Int) (W : Nat) (QS : Nat → World → Prop) (QB : Value → World → Prop) (hA : AggIs w A b n T) (h1 : 1 ≤ x0) (h2 : x0 ≤ (n : Int)) (hn : n ≤ 100) (hT : T x0.toNat = (none, some W))
  (hS : ∀ w1, Below w.heap.size w w1 → Calls Tryz.prog 83 #[.pointer (some ⟨W, 0, none⟩)] w1 fun e w' => ∃ S, e = .returned (.pointer (some ⟨S, 0, none⟩)) ∧ QS S w' ∧ Below w1.heap.size w1 w')
  (hU : ∀ S w1, QS S w1 → Calls Tryz.prog 92 #[.pointer (some ⟨S, 0, none⟩)] w1 fun e w' => (∃ ao k cp, e = .returned (.slice ao k cp) ∧ QB (.slice ao k cp) w') ∧ Below w1.heap.size w1 w') :
  Calls Tryz.prog 51 #[.pointer (some ⟨A, 0, none⟩), .agg #[.string (sB [101, 120, 112, 111, 114, 116]), .int .i64 x0, .slice none 0 0]] w fun e w' => (∃ ao k cp, e = .returned (.tuple #[.iface 158 (.agg #[.slice ao k cp]), .int .i64 0]) ∧ QB (.slice ao k cp) w') ∧ Below w.heap.size w w' := by
 have HA := Lib.hid hA
 have HH := Lib.hid (And.intro h1 (And.intro h2 hn))
 have HT := Lib.hid hT
 have HU := Lib.hid hU
 have PN := Lib.hid num_ok
 have HSS := Lib.hid hS
 have hvl := sB_list [101, 120, 112, 111, 114, 116]
 obtain ⟨V, hV⟩ : ∃ V, V = sB [101, 120, 112, 111, 114, 116] := ⟨_, rfl⟩
 rw [← hV] at hvl ⊢
 have hb1 : Below w.heap.size w (w.alloc (.cells #[.string V, .int .i64 x0, .slice none 0 0] 123)) := (Below.refl _ w).alloc (Nat.le_refl _) _
 have HX1 := Lib.hid (Blk.new w 123 #[.string V, .int .i64 x0, .slice none 0 0])
 have HA1 := Lib.hid (hA.kept hb1)
 have HB1 := Lib.hid hb1
 clear hA h1 h2 hn hT hU hS hb1 hV
 go_enter Tryz.func51, Tryz.ntmps51
 go_wp2_with fail
 generalize (w.alloc (.cells #[.string V, .int .i64 x0, .slice none 0 0] 123)) = w1 at *
 generalize hX : w.heap.size = X at *
 have HXX := Lib.hid hX
 clear hX
 have HXW : Hid (X ≤ w1.heap.size) := Lib.hid (Nat.le_of_lt HX1.out.lt)
 refine wp_region_held_drew (S := fun w' => Below w1.heap.size w1 w') (by kernel_rfl) (by exact below_drewN (Below.refl _ _) 1) (fun hHeld => ?_)
 refine tkH (i := 0) (v := ?_) rfl (by kernel_rfl) (fun _ _ _ h => h) (Or.inl ⟨by rfl, ?_⟩) (by assumption) ?_
 rotate_left
 ·intro w hSw
  try dsimp only at hSw
  go_simp
  try with_reducible rfl
 simp only [Act.put, z1, z2, z3, z4, z5, z6]
 refine tkH (i := 1) (v := ?_) rfl (by kernel_rfl) (fun _ _ _ h => h) (Or.inl ⟨by rfl, ?_⟩) (by assumption) ?_
 rotate_left
 ·intro w hSw
  try dsimp only at hSw
  go_simp
  try with_reducible rfl
 simp only [Act.put, z1, z2, z3, z4, z5, z6]
 refine tkH (i := 2) (v := ?_) rfl (by kernel_rfl) (fun _ _ _ h => h) (Or.inl ⟨by rfl, ?_⟩) (by assumption) ?_
 rotate_left
 ·intro w hSw
  try dsimp only at hSw
  go_simp
  try with_reducible rfl
 simp only [Act.put, z1, z2, z3, z4, z5, z6]
 refine tkH (i := 3) (v := ?_) rfl (by kernel_rfl) (fun _ _ _ h => h) (Or.inl ⟨by rfl, ?_⟩) (by assumption) ?_
 rotate_left
 ·intro w hSw
  have q0 := (HA1.out.kept hSw).1.cell 0
  have q1 := (HX1.out.kept hSw).cell 1
  have hlk := (HA1.out.kept hSw).look x0 HH.out.1 HH.out.2.1 HH.out.2.2
  rw [HT.out] at hlk
  simp at q0 q1
  go_simp
  try with_reducible rfl
 simp only [Act.put, z1, z2, z3, z4, z5, z6]
 refine tkH (i := 4) (v := ?_) rfl (by kernel_rfl) (fun _ _ _ h => h) (Or.inl ⟨by rfl, ?_⟩) (by assumption) ?_
 rotate_left
 ·intro w hSw
  try dsimp only at hSw
  go_simp
  try with_reducible rfl
 simp only [Act.put, z1, z2, z3, z4, z5, z6]
 refine tkH (i := 5) (v := ?_) rfl (by kernel_rfl) (fun _ _ _ h => h) (Or.inl ⟨by rfl, ?_⟩) (by assumption) ?_
 rotate_left
 ·intro w hSw
  have q0 := (HA1.out.kept hSw).1.cell 0
  have q1 := (HX1.out.kept hSw).cell 1
  have hlk := (HA1.out.kept hSw).look x0 HH.out.1 HH.out.2.1 HH.out.2.2
  rw [HT.out] at hlk
  simp at q0 q1
  go_simp
  try with_reducible rfl
 simp only [Act.put, z1, z2, z3, z4, z5, z6]
 refine tkH (i := 6) (v := ?_) rfl (by kernel_rfl) (fun _ _ _ h => h) (Or.inl ⟨by rfl, ?_⟩) (by assumption) ?_
 rotate_left
 ·intro w hSw
  have q0 := (HA1.out.kept hSw).1.cell 0
  have q1 := (HX1.out.kept hSw).cell 1
  have hlk := (HA1.out.kept hSw).look x0 HH.out.1 HH.out.2.1 HH.out.2.2
  rw [HT.out] at hlk
  simp at q0 q1
  go_simp
  try with_reducible rfl
 simp only [Act.put, z1, z2, z3, z4, z5, z6]
 refine tkH (i := 7) (v := ?_) rfl (by kernel_rfl) (fun _ _ _ h => h) (Or.inl ⟨by rfl, ?_⟩) (by assumption) ?_
 rotate_left
 ·intro w hSw
  try dsimp only at hSw
  go_simp
  try with_reducible rfl
 simp only [Act.put, z1, z2, z3, z4, z5, z6]
 refine tkH (i := 8) (v := ?_) rfl (by kernel_rfl) (fun _ _ _ h => h) (Or.inl ⟨by rfl, ?_⟩) (by assumption) ?_
 rotate_left
 ·intro w hSw
  try dsimp only at hSw
  go_simp
  try with_reducible rfl
 simp only [Act.put, z1, z2, z3, z4, z5, z6]
 refine tkH (i := 9) (v := ?_) rfl (by kernel_rfl) (fun _ _ _ h => h) (Or.inl ⟨by rfl, ?_⟩) (by assumption) ?_
 rotate_left
 ·intro w hSw
  try dsimp only at hSw
  go_simp
  try with_reducible rfl
 simp only [Act.put, z1, z2, z3, z4, z5, z6]
 refine wpAnyH_ready (rs := [10]) (by kernel_rfl) (by simp) ?_
 refine AllReadyH.cons rfl (fun Kc hKc => ?_) AllReadyH.nil
 go_simp
 have hPrev := Lib.hid hHeld.size
 refine hKc.out _ _ ?_ (fun hHeld => ?_)
 ·first | assumption | exact hHeld | exact hHeld.alloc hHeld.size _ | exact below_setRow hHeld hPrev.out _
 clear hKc Kc
 first | have HAQ := Lib.hid (freshOf hHeld) | have HAQ := Lib.hid (freshDrew hHeld)
 refine wpAnyH_ready (rs := [11]) (by kernel_rfl) (by simp) ?_
 refine AllReadyH.cons rfl (fun Kc hKc => ?_) AllReadyH.nil
 have HAR := Lib.hid (blkRowNew (cs' := #[thPtr none, thPtr (some W)]) HAQ.out); refine wp_store_row 84 _ _ rfl _ #[thPtr none, thPtr (some W)] rfl (by rfl) 84 _ HAQ.out (by kernel_rfl) rfl (by simp [Value.oneCell', thPtr]) ?_
 refine hKc.out _ _ ?_ (fun hHeld => ?_)
 ·first | assumption | exact hHeld | exact hHeld.alloc hHeld.size _ | exact below_setRow hHeld hPrev.out _
 clear hKc Kc
 refine tkH (i := 12) (v := ?_) rfl (by kernel_rfl) (fun _ _ _ h => h) (Or.inl ⟨by rfl, ?_⟩) (by assumption) ?_
 rotate_left
 ·intro w hSw
  try dsimp only at hSw
  go_simp
  try with_reducible rfl
 simp only [Act.put, z1, z2, z3, z4, z5, z6]
 refine wpAnyH_done (by kernel_rfl) ?_ _
 generalize ((w1.alloc (.cells #[.pointer none, .pointer none] 84)).drew.setRow w1.heap.size #[thPtr none, thPtr (some W)]) = wz at *
 have hx := HX1.out.kept hHeld
 have HXZ := Lib.hid hx
 have hr := HAR.out
 have x_0 := hx.cell 0
 have x_2 := hx.cell 2
 simp at x_0 x_2
 have HB9 : Hid (Below X w wz) := Lib.hid (HB1.out.trans (hHeld.mono HXW.out))
 clear hHeld hx HAR HAQ
 go_wp2_with (refine wpList_load_row rfl 84 _ rfl w1.heap.size rfl 84 _ (0, 0) _ hr Tryz.underlying84 rfl (by kernel_rfl) ?_)
 with_reducible refine (thstackw W _ QS (HSS.out _ (HB9.out.alloc (Nat.le_of_lt HXZ.out.lt) _))).mono ?_
 rintro e wy ⟨S, rfl, hqs, hb⟩
 have HQS := Lib.hid hqs
 have HBY : Hid (Below X w wy) := Lib.hid (HB9.out.trans (hb.mono (by have := HB9.out.size; have := HXW.out; have := HXZ.out.lt; omega)))
 have hxy := HXZ.out.kept hb
 have HXY := Lib.hid hxy
 have x_0 := hxy.cell 0
 have x_2 := hxy.cell 2
 simp at x_0 x_2
 have HXL : Hid (X ≤ wy.heap.size) := Lib.hid (by have := HXY.out.lt; omega)
 clear hr hb hxy
 go_wp2_with fail
 with_reducible refine (HU.out _ _ HQS.out).mono ?_
 rintro e wq ⟨⟨ao, k, cp, rfl, hq⟩, hb⟩
 have HQ := Lib.hid hq
 have HBF : Hid (Below w.heap.size w wq) := Lib.hid (by rw [HXX.out]; exact HBY.out.trans (hb.mono HXL.out))
 clear hb hq
 go_wp2_with fail
 go_ret2
 exact ⟨⟨ao, k, cp, rfl, HQ.out⟩, HBF.out⟩
end Go.Proofs.YtfeficdndjiijaaGreatDoor


namespace Go.Proofs.YtfeficdndjiijaaGreatDoor
open Go.RowKit
set_option linter.unusedVariables false
set_option linter.unusedSimpArgs false

theorem line_exportw (w : World) (base A bm V BR N : Nat) (b r d m s : Int) (S L : Nat → Nat) (X : Nat → Nat → Value) (Ar G C : Nat → Nat → Nat) (Z : Nat → Nat → List Int) (h : WinSt w base A bm V BR N b r d m s S L X Ar G C Z) (s0 : 0 ≤ s) (s1 : s < 18446744073709551616)
  (hl : (headB b r d m s ++ rowsB (Z 2) (b.toNat + 1)).length ≤ 100000) (hl2 : (encB b r d m s (Z 2)).length ≤ 1000000) (hby : Byts (encB b r d m s (Z 2))) :
  Calls Tryz.prog 8 #[.pointer (some ⟨A, 0, none⟩), .string (sB (joinW [wExport, Lib.itoa ((4 : Nat) : Int)]))] w fun e w' => ∃ t, e = .returned (.tuple #[.string t, .bool true]) ∧ t = sB ([98, 121, 116, 101, 115, 32] ++ hexT (encB b r d m s (Z 2))) ∧ Below w.heap.size w w' := by
 obtain ⟨T, hT1, -, -, -, hT2⟩ := h.agg
 have hi64 : In64 ((4 : Nat) : Int) := by unfold In64; omega
 refine line_of A _ w (fun c _ => c = .iface 123 (.agg #[.string (sB [101, 120, 112, 111, 114, 116]), .int .i64 ((4 : Nat) : Int), .slice none 0 0]))
  (fun rr w2 => (∃ v, rr = .iface 158 (.agg #[v]) ∧ BytesAt w2 v (encB b r d m s (Z 2))) ∧ Below w.heap.size w w2)
  _ (fun c _ hc => ⟨_, _, hc⟩) ?_ ?_ ?_
 ·refine parse_ws _ (stays_eq _) _ (fun a ha => ?_) (by simp) (by simp) w h.tab (fun w1 R v en hle hr1 hv ht1 => ?_)
  ·simp only [List.mem_cons, List.mem_nil_iff, or_false] at ha
   rcases ha with rfl | rfl
   ·exact plainLit _ (by decide)
   ·exact num_plain _ hi64.1 hi64.2
  ·refine (cmd_export w1 R v _ en ((4 : Nat) : Int) hr1 hv rfl (by simp) rfl hi64 ht1).mono ?_
   rintro e w' ⟨rfl, h2, h3⟩
   exact ⟨_, rfl, rfl, h2, h3⟩
 ·rintro c w1 hb1' rfl
  refine do_query w1 A (sB [101, 120, 112, 111, 114, 116]) ((4 : Nat) : Int) none 0 0 _ (fun w2 hb2 => ?_)
  have hb12 := btr hb1' hb2
  have hk2 := hT1.kept hb12
  refine (agg_exportw w2 A bm 4 T ((4 : Nat) : Int) V (fun S' w' => ∃ base' L' X' A' G' C', StIs w' base' S' L' b r d m s X' A' G' C' (Z 2)) (fun v w' => BytesAt w' v (encB b r d m s (Z 2))) hk2 (by omega) (by omega) (by omega) hT2 (fun w3 hb3 => ?_) (fun S' w3 hq => ?_)).mono ?_
  ·have h3 := h.kept (btr hb12 hb3)
   refine (wsum w3 V BR N S h3.win base (L 2) b r d m s (X 2) (Ar 2) (G 2) (C 2) (Z 2) (h3.fam.st 2 (by omega) (by omega))).mono ?_
   rintro e w4 ⟨S', L', X', A', G', C', rfl, -, hst, hb⟩
   exact ⟨S', rfl, ⟨_, L', X', A', G', C', hst⟩, hb⟩
  ·obtain ⟨base', L', X', A', G', C', hst⟩ := hq
   refine (encode_any w3 base' S' L' b r d m s X' A' G' C' (Z 2) hst s0 s1 hl).mono ?_
   rintro e w' ⟨v', rfl, ho, hb⟩
   obtain ⟨ao, cap, hv, -⟩ := ho.at
   subst hv
   exact ⟨⟨_, _, _, rfl, ho.at⟩, hb⟩
  ·rintro e w4 ⟨⟨ao, k, cp, rfl, hB⟩, hb4⟩
   exact ⟨_, rfl, ⟨_, rfl, hB⟩, btr hb12 hb4⟩
 ·rintro rr w2 ⟨⟨v, rfl, hB⟩, hb⟩
  refine (text_bytes w2 _ v hB hl2 hby).mono ?_
  rintro e w3 ⟨rfl, hb3⟩
  exact ⟨_, rfl, rfl, btr hb hb3⟩
theorem line_export1 (w : World) (base A bm V BR N : Nat) (b r d m s : Int) (S L : Nat → Nat) (X : Nat → Nat → Value) (Ar G C : Nat → Nat → Nat) (Z : Nat → Nat → List Int) (h : WinSt w base A bm V BR N b r d m s S L X Ar G C Z) (s0 : 0 ≤ s) (s1 : s < 18446744073709551616)
  (hl : (headB b r d m s ++ rowsB (Z 1) (b.toNat + 1)).length ≤ 100000) (hl2 : (encB b r d m s (Z 1)).length ≤ 1000000) (hby : Byts (encB b r d m s (Z 1))) :
  Calls Tryz.prog 8 #[.pointer (some ⟨A, 0, none⟩), .string (sB (joinW [wExport, Lib.itoa ((1 : Nat) : Int)]))] w fun e w' => ∃ t, e = .returned (.tuple #[.string t, .bool true]) ∧ t = sB ([98, 121, 116, 101, 115, 32] ++ hexT (encB b r d m s (Z 1))) ∧ Below w.heap.size w w' := by
 obtain ⟨T, hT1, hT2, -, -, -⟩ := h.agg
 have hi64 : In64 ((1 : Nat) : Int) := by unfold In64; omega
 refine line_of A _ w (fun c _ => c = .iface 123 (.agg #[.string (sB [101, 120, 112, 111, 114, 116]), .int .i64 ((1 : Nat) : Int), .slice none 0 0]))
  (fun rr w2 => (∃ v, rr = .iface 158 (.agg #[v]) ∧ BytesAt w2 v (encB b r d m s (Z 1))) ∧ Below w.heap.size w w2)
  _ (fun c _ hc => ⟨_, _, hc⟩) ?_ ?_ ?_
 ·refine parse_ws _ (stays_eq _) _ (fun a ha => ?_) (by simp) (by simp) w h.tab (fun w1 R v en hle hr1 hv ht1 => ?_)
  ·simp only [List.mem_cons, List.mem_nil_iff, or_false] at ha
   rcases ha with rfl | rfl
   ·exact plainLit _ (by decide)
   ·exact num_plain _ hi64.1 hi64.2
  ·refine (cmd_export w1 R v _ en ((1 : Nat) : Int) hr1 hv rfl (by simp) rfl hi64 ht1).mono ?_
   rintro e w' ⟨rfl, h2, h3⟩
   exact ⟨_, rfl, rfl, h2, h3⟩
 ·rintro c w1 hb1' rfl
  refine do_query w1 A (sB [101, 120, 112, 111, 114, 116]) ((1 : Nat) : Int) none 0 0 _ (fun w2 hb2 => ?_)
  have hb12 := btr hb1' hb2
  have hk2 := hT1.kept hb12
  refine (agg_export w2 A bm 4 T ((1 : Nat) : Int) (S 1) (fun v w' => BytesAt w' v (encB b r d m s (Z 1))) hk2 (by omega) (by omega) (by omega) hT2 (fun w3 hb3 => ?_)).mono ?_
  ·have h3 := h.kept (btr hb12 hb3)
   refine (encode_any w3 base (S 1) (L 1) b r d m s (X 1) (Ar 1) (G 1) (C 1) (Z 1) (h3.fam.st 1 (by omega) (by omega)) s0 s1 hl).mono ?_
   rintro e w' ⟨v', rfl, ho, hb⟩
   obtain ⟨ao, cap, hv, -⟩ := ho.at
   subst hv
   exact ⟨⟨_, _, _, rfl, ho.at⟩, hb⟩
  ·rintro e w4 ⟨⟨ao, k, cp, rfl, hB⟩, hb4⟩
   exact ⟨_, rfl, ⟨_, rfl, hB⟩, btr hb12 hb4⟩
 ·rintro rr w2 ⟨⟨v, rfl, hB⟩, hb⟩
  refine (text_bytes w2 _ v hB hl2 hby).mono ?_
  rintro e w3 ⟨rfl, hb3⟩
  exact ⟨_, rfl, rfl, btr hb hb3⟩
theorem WinSt.upd1 {w w4 : World} {base A bm V BR N : Nat} {b r d m s : Int} {S L : Nat → Nat} {X : Nat → Nat → Value} {Ar G C : Nat → Nat → Nat} {Z : Nat → Nat → List Int} (h : WinSt w base A bm V BR N b r d m s S L X Ar G C Z) (hg : 4 < base)
  {Z' : Nat → List Int} (hs : StIs w4 base (S 1) (L 1) b r d m s (X 1) (Ar 1) (G 1) (C 1) Z') (hr : RGr w w4 (C 1) (b.toNat + 1)) :
  WinSt w4 base A bm V BR N b r d m s S L X Ar G C (upN Z 1 Z') ∧ XOnl [A, bm, V, BR] base w w4 := by
 have h1o := h.fam.st 1 (by omega) (by omega)
 have ho := Onl.of_rgr hr
 have hF : ∀ k, (∃ p, p < b.toNat + 1 ∧ k = C 1 p) → ∃ t cs, Blk w k t cs ∧ t = 2 := by
  rintro k ⟨p, hp, rfl⟩
  obtain ⟨cs, hc⟩ := h1o.cellsB p (by omega)
  exact ⟨_, _, hc, rfl⟩
 refine ⟨⟨?_, winKeep h.win ho (fun k hk => ?_), ⟨fun i h1 h2 => ?_, h.fam.apart⟩, h.lo, h.tab.onl ho ?_⟩, XOnl.of ho ?_⟩
 ·obtain ⟨T, h1, h2⟩ := h.agg
  refine ⟨T, h1.beside ho (fun k hk => ?_), h2⟩
  obtain ⟨t, cs, h7, rfl⟩ := hF k hk
  exact ⟨_, cs, h7, by decide⟩
 ·obtain ⟨t, cs, h7, rfl⟩ := hF k hk
  exact ⟨_, cs, h7, by decide, by decide⟩
 ·by_cases e : i = 1
  ·subst e; rw [upN_same]; exact hs
  ·rw [upN_other _ _ e]
   exact (h.fam.st i h1 h2).beside h1o hr (fun p q hp hq => h.fam.apart 1 i p q (by omega) (by omega) h1 h2 (Ne.symm e) hp hq)
 ·rintro k ⟨p, hp, rfl⟩
  have := h1o.low p (by omega); omega
 ·rintro k - ⟨p, hp, rfl⟩
  exact .inr ⟨h1o.low p (by omega), h1o.cellsB p (by omega)⟩
theorem line_add1 (w : World) (base A bm V BR N : Nat) (b r d m s : Int) (S L : Nat → Nat) (X : Nat → Nat → Value) (Ar G C : Nat → Nat → Nat) (Z : Nat → Nat → List Int) (h : WinSt w base A bm V BR N b r d m s S L X Ar G C Z) (hg : 4 < base) (s0 : 0 ≤ s) (s1 : s ≤ 18446744073709551615)
  (key : Nat) (hk : key ≤ 9223372036854775807) (x : Int) (hx : In64 x) (he : stErr b r d m s (Z 1) key x = 0) :
  Calls Tryz.prog 8 #[.pointer (some ⟨A, 0, none⟩), .string (sB (joinW [wAdd, Lib.itoa ((1 : Nat) : Int), Lib.itoa (key : Int), Lib.itoa x]))] w fun e w' => ∃ t, e = .returned (.tuple #[.string t, .bool true]) ∧ t = sB [100, 111, 110, 101] ∧
   WinSt w' base A bm V BR N b r d m s S L X Ar G C (upN Z 1 (stUpd b r d m s (Z 1) key x)) ∧ XOnl [A, bm, V, BR] base w w' := by
 obtain ⟨T, hT1, hT2, -, -, -⟩ := h.agg
 have hsz := h.base_le
 have hi64 : In64 ((1 : Nat) : Int) := by unfold In64; omega
 refine line_of A _ w (fun c _ => c = .iface 117 (.agg #[.int .i64 ((1 : Nat) : Int), .bool false, .string ⟨#[]⟩, .int .u64 (key : Int), .int .i64 x]))
  (fun rr w2 => rr = .iface 133 (.agg #[]) ∧ WinSt w2 base A bm V BR N b r d m s S L X Ar G C (upN Z 1 (stUpd b r d m s (Z 1) key x)) ∧ XOnl [A, bm, V, BR] base w w2)
  _ (fun c _ hc => ⟨_, _, hc⟩) ?_ ?_ ?_
 ·refine parse_ws _ (stays_eq _) _ (fun a ha => ?_) (by simp) (by simp) w h.tab (fun w1 R v en hle hr1 hv ht1 => ?_)
  ·simp only [List.mem_cons, List.mem_nil_iff, or_false] at ha
   rcases ha with rfl | rfl | rfl | rfl
   ·exact plainLit _ (by decide)
   ·exact num_plain _ hi64.1 hi64.2
   ·exact num_plain _ (by omega) (by omega)
   ·exact num_plain _ hx.1 hx.2
  ·refine (cmd_add w1 R v _ en ((1 : Nat) : Int) key x hr1 hv rfl (by simp) rfl rfl rfl hi64 (by omega) (by omega) hx ht1).mono ?_
   rintro e w' ⟨rfl, h2, h3⟩
   exact ⟨_, rfl, rfl, h2, h3⟩
 ·rintro c w1 hb1 rfl
  refine do_add w1 A ((1 : Nat) : Int) key x _ (fun w2 hb2 => ?_)
  have hk2 := hT1.kept (btr hb1 hb2)
  refine (aggadd w2 A bm 4 T ((1 : Nat) : Int) key x (S 1) hk2 (by omega) (by omega) (by omega) hT2 (fun w3 w4 => Below w2.heap.size w2 w3 → WinSt w4 base A bm V BR N b r d m s S L X Ar G C (upN Z 1 (stUpd b r d m s (Z 1) key x)) ∧ XOnl [A, bm, V, BR] base w w4) (fun w3 hb3 => ?_)).mono ?_
  ·have hb13 := btr (btr hb1 hb2) hb3
   have h3 := h.kept hb13
   refine (stupdate w3 base (S 1) (L 1) b r d m s (X 1) (Ar 1) (G 1) (C 1) (Z 1) (h3.fam.st 1 (by omega) (by omega)) s0 s1 key (by omega) x hx).mono ?_
   rintro e w4 ⟨rfl, hst, hgr⟩
   rw [he]
   refine ⟨rfl, fun _ => ?_⟩
   have hu := h3.upd1 hg hst hgr
   exact ⟨hu.1, (XOnl.below hb13).trans hu.2⟩
  ·rintro e w4 ⟨rfl, w3, hb3, hu⟩
   exact ⟨_, rfl, rfl, hu hb3⟩
 ·rintro rr w2 ⟨rfl, hA, hB⟩
  refine (text_done w2).mono ?_
  rintro e w3 ⟨rfl, hb3⟩
  exact ⟨_, rfl, rfl, hA.kept hb3, hB.trans (XOnl.below hb3)⟩

def rotN {α : Type} (K : Nat) (f : Nat → α) (a c : α) : Nat → α := fun i => if i = 2 then a else if i = 3 + K then c else if 3 ≤ i then f (i + 1) else f i
def rotI (i : Nat) : Nat := if 3 ≤ i then i + 1 else i
theorem rot2 {α : Type} (K : Nat) (f : Nat → α) (a c : α) : rotN K f a c 2 = a := if_pos rfl
theorem rotL {α : Type} (K : Nat) (f : Nat → α) (a c : α) : rotN K f a c (3 + K) = c := by unfold rotN; rw [if_neg (by omega), if_pos rfl]
theorem rotO {α : Type} (K : Nat) (f : Nat → α) (a c : α) {i : Nat} (h1 : i ≠ 2) (h2 : i ≠ 3 + K) : rotN K f a c i = f (rotI i) := by
  unfold rotN rotI
  rw [if_neg h1, if_neg h2]
  split <;> rfl
theorem rotI_in {K i : Nat} (h1 : 1 ≤ i) (h2 : i < K + 1 + 3) (h3 : i ≠ 2) (h4 : i ≠ 3 + K) : 1 ≤ rotI i ∧ rotI i < K + 1 + 3 ∧ rotI i ≠ 2 ∧ rotI i ≠ 3 := by
  unfold rotI
  split <;> omega
theorem rotI_inj {i j : Nat} (h : i ≠ j) : rotI i ≠ rotI j := by
  unfold rotI
  split <;> split <;> omega
theorem StFam.rot {w w' : World} {base K : Nat} {b r d m s : Int} {S L : Nat → Nat} {X : Nat → Nat → Value} {Ar G C : Nat → Nat → Nat} {Z : Nat → Nat → List Int} (h : StFam w base 1 (K + 1 + 3) b r d m s S L X Ar G C Z) (hB : base ≤ w.heap.size)
  (hk : ∀ i, 1 ≤ i → i < K + 1 + 3 → StIs w' base (S i) (L i) b r d m s (X i) (Ar i) (G i) (C i) (Z i))
  {S' L' : Nat} {X' : Nat → Value} {A' G' C' : Nat → Nat} {Z' : Nat → List Int} (hs : StIs w' w.heap.size S' L' b r d m s X' A' G' C' Z') {S2 L2 : Nat} {X2 : Nat → Value} {A2 G2 C2 : Nat → Nat} {Z2 : Nat → List Int} (h2 : StIs w' w.heap.size S2 L2 b r d m s X2 A2 G2 C2 Z2)
  (ha : ∀ n k, n ≤ b.toNat → k ≤ b.toNat → C' n ≠ C2 k) :
  StFam w' base 1 (K + 1 + 3) b r d m s (rotN K S S' S2) (rotN K L L' L2) (rotN K X X' X2) (rotN K Ar A' A2) (rotN K G G' G2) (rotN K C C' C2) (rotN K Z Z' Z2) := by
 have old1 : ∀ i p q, 1 ≤ i → i < K + 1 + 3 → p ≤ b.toNat → q ≤ b.toNat → C i p ≠ C' q := fun i p q h1 h3 hp hq e => by
  have h5 := (h.st i h1 h3).ltC p hp
  have h6 := hs.low q hq
  omega
 have old2 : ∀ i p q, 1 ≤ i → i < K + 1 + 3 → p ≤ b.toNat → q ≤ b.toNat → C i p ≠ C2 q := fun i p q h1 h3 hp hq e => by
  have h5 := (h.st i h1 h3).ltC p hp
  have h6 := h2.low q hq
  omega
 refine ⟨fun i h1 h3 => ?_, fun i j p q h1 h3 h4 h5 hne hp hq => ?_⟩
 ·by_cases e1 : i = 2
  ·subst e1; simp only [rot2]; exact hs.low_ hB
  ·by_cases e2 : i = 3 + K
   ·subst e2; simp only [rotL]; exact h2.low_ hB
   ·simp only [rotO _ _ _ _ e1 e2]
    have := rotI_in h1 h3 e1 e2
    exact hk _ this.1 this.2.1
 ·by_cases e1 : i = 2
  ·subst e1
   rw [rot2]
   by_cases e3 : j = 3 + K
   ·subst e3; rw [rotL]; exact ha p q hp hq
   ·rw [rotO _ _ _ _ (Ne.symm hne) e3]
    have := rotI_in h4 h5 (Ne.symm hne) e3
    exact Ne.symm (old1 _ q p this.1 this.2.1 hq hp)
  ·by_cases e2 : i = 3 + K
   ·subst e2
    rw [rotL]
    by_cases e3 : j = 2
    ·subst e3; rw [rot2]; exact Ne.symm (ha q p hq hp)
    ·rw [rotO _ _ _ _ e3 (Ne.symm hne)]
     have := rotI_in h4 h5 e3 (Ne.symm hne)
     exact Ne.symm (old2 _ q p this.1 this.2.1 hq hp)
   ·rw [rotO _ _ _ _ e1 e2]
    have hi := rotI_in h1 h3 e1 e2
    by_cases e3 : j = 2
    ·subst e3; rw [rot2]; exact old1 _ p q hi.1 hi.2.1 hp hq
    ·by_cases e4 : j = 3 + K
     ·subst e4; rw [rotL]; exact old2 _ p q hi.1 hi.2.1 hp hq
     ·rw [rotO _ _ _ _ e3 e4]
      have hj := rotI_in h4 h5 e3 e4
      exact h.apart _ _ p q hi.1 hi.2.1 hj.1 hj.2.1 (rotI_inj hne) hp hq
theorem WinSt.tick {w w4 : World} {base A bm V BR K : Nat} {b r d m s : Int} {S L : Nat → Nat} {X : Nat → Nat → Value} {Ar G C : Nat → Nat → Nat} {Z : Nat → Nat → List Int} (h : WinSt w base A bm V BR (K + 1) b r d m s S L X Ar G C Z) (hg : 4 < base)
  {S' L' : Nat} {X' : Nat → Value} {A' G' C' : Nat → Nat} {Z' : Nat → List Int} (hs : StIs w4 w.heap.size S' L' b r d m s X' A' G' C' Z') {S2 L2 : Nat} {X2 : Nat → Value} {A2 G2 C2 : Nat → Nat} {Z2 : Nat → List Int} (h2 : StIs w4 w.heap.size S2 L2 b r d m s X2 A2 G2 C2 Z2)
  (ha : ∀ n k, n ≤ b.toNat → k ≤ b.toNat → C' n ≠ C2 k) (hv : Blk w4 V 198 #[.pointer (some ⟨S', 0, none⟩), .slice (some ⟨BR, 0, none⟩) (K + 1) (K + 1)])
  (hr : ∃ cur : Array Value, Blk w4 BR 49 cur ∧ cur.size = K + 1 ∧ (∀ j, j < K → cur[j]? = some (.pointer (some ⟨S (3 + (j + 1)), 0, none⟩))) ∧ cur[K]? = some (.pointer (some ⟨S2, 0, none⟩))) (ho : Onl (fun k => k = V ∨ k = BR) w w4) :
  WinSt w4 base A bm V BR (K + 1) b r d m s (rotN K S S' S2) (rotN K L L' L2) (rotN K X X' X2) (rotN K Ar A' A2) (rotN K G G' G2) (rotN K C C' C2) (rotN K Z Z' Z2) := by
 have hV := h.win.1
 obtain ⟨cur0, hR0, -⟩ := h.win.2
 have hF : ∀ k, (k = V ∨ k = BR) → ∃ t cs, Blk w k t cs ∧ (t = 198 ∨ t = 49) := by
  rintro k (rfl | rfl)
  ·exact ⟨_, _, hV, .inl rfl⟩
  ·exact ⟨_, _, hR0, .inr rfl⟩
 obtain ⟨cur, hc1, hc2, hc3, hc4⟩ := hr
 refine ⟨?_, ⟨by rw [rot2]; exact hv, cur, hc1, hc2, fun j hj => ?_⟩, h.fam.rot h.base_le (fun i h1 h3 => (h.fam.st i h1 h3).onl ho (fun k hk => .inl ?_)) hs h2 ha, h.lo, h.tab.onl ho ?_⟩
 ·obtain ⟨T, h1, h3, h4, h5, h6⟩ := h.agg
  refine ⟨T, h1.beside ho (fun k hk => ?_), by rw [rotO _ _ _ _ (by omega) (by omega)]; exact h3, h4, h5, h6⟩
  obtain ⟨t, cs, h7, h8⟩ := hF k hk
  exact ⟨t, cs, h7, by rcases h8 with rfl | rfl <;> decide⟩
 ·by_cases e : j = K
  ·subst e; rw [rotL]; exact hc4
  ·rw [rotO _ _ _ _ (by omega) (by omega), hc3 j (by omega)]
   unfold rotI
   rw [if_pos (by omega), Nat.add_assoc]
 ·obtain ⟨t, cs, h7, h8⟩ := hF k hk
  exact noStOf h7 (by rcases h8 with rfl | rfl <;> decide)
 ·rintro k (rfl | rfl)
  ·have := h.lo; omega
  ·have := h.lo; omega
theorem WinSt.iter {w w' : World} {base A bm V BR N R : Nat} {b r d m s : Int} {S L : Nat → Nat} {X : Nat → Nat → Value} {Ar G C : Nat → Nat → Nat} {Z : Nat → Nat → List Int} (h : WinSt w base A bm V BR N b r d m s S L X Ar G C Z) (hg : 4 < base) (hR : base ≤ R)
  (hi : ∃ a s c d, w.heap[R]? = some (.mapIter a s c d)) (ho : Onl (fun k => k = R) w w') : WinSt w' base A bm V BR N b r d m s S L X Ar G C Z := by
 have hno : ∀ t cs, ¬ Blk w R t cs := fun t cs hk => by
  obtain ⟨a, s, c, d, h1⟩ := hi
  rw [show w.heap[R]? = _ from hk] at h1
  cases h1
 refine ⟨?_, ?_, ⟨fun i h1 h3 => (h.fam.st i h1 h3).onl ho (fun k hk => .inl (fun t cs hj => ?_)), h.fam.apart⟩, h.lo, h.tab.onl ho (fun k hk => by rw [hk]; omega)⟩
 ·obtain ⟨T, h1, h2⟩ := h.agg
  refine ⟨T, h1.onl ho (fun e => ?_) (fun e => ?_), h2⟩
  ·rw [← e] at hno; exact hno _ _ h1.1
  ·obtain ⟨-, D, ⟨es, clock, h3, -⟩, -⟩ := h1
   obtain ⟨a, s, c, d, h4⟩ := hi
   rw [← e, h3] at h4
   cases h4
 ·obtain ⟨h1, cur, h2, h3⟩ := h.win
  refine ⟨(ho.2.2.2.2 V h1.lt (fun e => ?_)).trans h1, cur, (ho.2.2.2.2 BR h2.lt (fun e => ?_)).trans h2, h3⟩
  ·rw [← e] at hno; exact hno _ _ h1
  ·rw [← e] at hno; exact hno _ _ h2
 ·rw [hk] at hj; exact absurd hj (hno t cs)
theorem line_tickw (w : World) (base A bm V BR K : Nat) (b r d m s : Int) (S L : Nat → Nat) (X : Nat → Nat → Value) (Ar G C : Nat → Nat → Nat) (Z : Nat → Nat → List Int) (h : WinSt w base A bm V BR (K + 1) b r d m s S L X Ar G C Z) (hg : 4 < base) (hK : K ≤ 15) (hm : m ≠ 2)
  (hfit : ∀ n, n ≤ b.toNat → Fit (List.zipWith (fun a b => a - b) (Z 2 n) (Z 3 n))) :
  Calls Tryz.prog 8 #[.pointer (some ⟨A, 0, none⟩), .string (sB (joinW [wTick]))] w fun e w' => ∃ t, e = .returned (.tuple #[.string t, .bool true]) ∧ t = sB [100, 111, 110, 101] ∧
   (∃ S' L' X' A' G' C', WinSt w' base A bm V BR (K + 1) b r d m s S' L' X' A' G' C' (rotN K Z (fun n => List.zipWith (fun a b => a - b) (Z 2 n) (Z 3 n)) (zeroZ b r d m))) ∧ XOnl [A, bm, V, BR] base w w' := by
 obtain ⟨T, hT1, hTa, hTb, hTc, hT2⟩ := h.agg
 have hsz := h.base_le
 have hbm : bm ≠ V ∧ bm ≠ BR := by
  obtain ⟨-, D, ⟨es, clock, h3, -⟩, -⟩ := hT1
  obtain ⟨h1, cur, h2, -⟩ := h.win
  refine ⟨fun e => ?_, fun e => ?_⟩
  ·rw [e, show w.heap[V]? = _ from h1] at h3; cases h3
  ·rw [e, show w.heap[BR]? = _ from h2] at h3; cases h3
 refine line_of A _ w (fun c _ => c = .iface 120 (.agg #[]))
  (fun rr w2 => rr = .iface 133 (.agg #[]) ∧ (∃ S' L' X' A' G' C', WinSt w2 base A bm V BR (K + 1) b r d m s S' L' X' A' G' C' (rotN K Z (fun n => List.zipWith (fun a b => a - b) (Z 2 n) (Z 3 n)) (zeroZ b r d m))) ∧ XOnl [A, bm, V, BR] base w w2)
  _ (fun c _ hc => ⟨_, _, hc⟩) ?_ ?_ ?_
 ·refine parse_ws _ (stays_eq _) _ (fun a ha => ?_) (by simp) (by simp) w h.tab (fun w1 R v en hle hr1 hv ht1 => ?_)
  ·simp only [List.mem_cons, List.mem_nil_iff, or_false] at ha
   subst ha
   exact plainLit _ (by decide)
  ·refine (cmd_tick w1 R v _ en hr1 hv rfl (by simp)).mono ?_
   rintro e w' ⟨rfl, h2, h3⟩
   exact ⟨_, rfl, rfl, h2, h3⟩
 ·rintro c w1 hb1 rfl
  refine do_tick w1 A _ (fun w2 hb2 => ?_)
  have hb12 := btr hb1 hb2
  have hk2 := hT1.kept hb12
  have h2 := h.kept hb12
  have hwl := h2.win.lt
  refine (tick_win w2 A bm 4 V BR T hk2 rfl (fun k h1 h3 => ?_) hT2 ⟨hwl.1, hwl.2, hbm.1, hbm.2⟩ (fun wa wb => ∃ S' L' X' A' G' C', WinSt wb base A bm V BR (K + 1) b r d m s S' L' X' A' G' C' (rotN K Z (fun n => List.zipWith (fun a b => a - b) (Z 2 n) (Z 3 n)) (zeroZ b r d m)) ∧ Onl (fun k => k = V ∨ k = BR) wa wb) (fun w3 hb3 => ?_) (fun w3 hb3 => ?_)).mono ?_
  ·have : k = 1 ∨ k = 2 ∨ k = 3 := by omega
   rcases this with rfl | rfl | rfl
   ·rw [hTa]
   ·exact hTb
   ·exact hTc
  ·have h3 := h2.kept hb3
   exact wcheck w3 V b r d m s _ (wwithout w3 V BR (K + 1) S h3.win (by omega) base (L 2) base (L 3) b r d m s (X 2) (X 3) (Ar 2) (G 2) (C 2) (Ar 3) (G 3) (C 3) (Z 2) (Z 3) (h3.fam.st 2 (by omega) (by omega)) (h3.fam.st 3 (by omega) (by omega)) hm hfit)
  ·have h3 := h2.kept hb3
   refine (wtick w3 V BR K S h3.win (by omega) b r d m s h3.right _ (wwithout w3 V BR (K + 1) S h3.win (by omega) base (L 2) base (L 3) b r d m s (X 2) (X 3) (Ar 2) (G 2) (C 2) (Ar 3) (G 3) (C 3) (Z 2) (Z 3) (h3.fam.st 2 (by omega) (by omega)) (h3.fam.st 3 (by omega) (by omega)) hm hfit)).mono ?_
   rintro e w4 ⟨S', L', X', A', G', C', S2, L2, X2, A2, G2, C2, rfl, hs, hs2, hap, hv, hr, ho⟩
   exact ⟨rfl, ⟨_, _, _, _, _, _, h3.tick hg hs hs2 hap hv hr ho, ho⟩, ho⟩
  ·rintro e w5 ⟨rfl, wa, wb, R, hwa, ⟨S', L', X', A', G', C', hu, ho1⟩, hR, hi, ho⟩
   refine ⟨_, rfl, rfl, ⟨_, _, _, _, _, _, hu.iter hg (Nat.le_trans h2.base_le hR) hi ho⟩, ?_⟩
   refine (XOnl.below hb12).trans (XOnl.of (F := fun k => k = V ∨ k = BR ∨ k = R) (((Onl.below hwa).trans (ho1.mono (fun k hk => .inl (by rcases hk with e | e; exact .inl e; exact .inr (.inl e))))).trans (ho.mono (fun k hk => .inl (.inr (.inr hk))))) ?_)
   rintro k hk (rfl | rfl | rfl)
   ·exact .inl (by simp)
   ·exact .inl (by simp)
   ·omega
 ·rintro rr w2 ⟨rfl, ⟨S', L', X', A', G', C', hA⟩, hB⟩
  refine (text_done w2).mono ?_
  rintro e w3 ⟨rfl, hb3⟩
  exact ⟨_, rfl, rfl, ⟨_, _, _, _, _, _, hA.kept hb3⟩, hB.trans (XOnl.below hb3)⟩

def tickN (us : Nat → Option (Nat × Int)) : Nat → Nat
  | 0 => 0
  | i + 1 => tickN us i + (if (us i).isNone then 1 else 0)
theorem tickN_mono (us : Nat → Option (Nat × Int)) {j i : Nat} (h : j ≤ i) : tickN us j ≤ tickN us i := by
  induction i with
  | zero => rw [show j = 0 by omega]; exact Nat.le_refl _
  | succ i ih =>
    by_cases e : j = i + 1
    · subst e; exact Nat.le_refl _
    · have := ih (by omega)
      rw [show tickN us (i + 1) = tickN us i + (if (us i).isNone then 1 else 0) from rfl]
      omega
theorem tickN_yes {us : Nat → Option (Nat × Int)} {i : Nat} {kx : Nat × Int} (h : us i = some kx) : tickN us (i + 1) = tickN us i := by
  rw [show tickN us (i + 1) = tickN us i + (if (us i).isNone then 1 else 0) from rfl, h]; rfl
theorem tickN_no {us : Nat → Option (Nat × Int)} {i : Nat} (h : us i = none) : tickN us (i + 1) = tickN us i + 1 := by
  rw [show tickN us (i + 1) = tickN us i + (if (us i).isNone then 1 else 0) from rfl, h]; rfl
theorem tickN_le (us : Nat → Option (Nat × Int)) : ∀ i, tickN us i ≤ i
  | 0 => Nat.le_refl _
  | i + 1 => by
    have := tickN_le us i
    rw [show tickN us (i + 1) = tickN us i + (if (us i).isNone then 1 else 0) from rfl]
    split <;> omega
def liveP (us : Nat → Option (Nat × Int)) (K t : Nat) : Nat → Bool := fun j => decide (t - tickN us j < K + 1)
def ageP (us : Nat → Option (Nat × Int)) (t a : Nat) : Nat → Bool := fun j => decide (t - tickN us j = a)
noncomputable def winZ (b r d m s : Int) (us : Nat → Option (Nat × Int)) (K i : Nat) : Nat → Nat → List Int :=
  fun k => if k = 1 then zeroZ b r d m else if k = 2 then accZ b r d m s us (liveP us K (tickN us i)) i else accZ b r d m s us (ageP us (tickN us i) (K + 3 - k)) i
theorem winZ1 (b r d m s : Int) (us : Nat → Option (Nat × Int)) (K i : Nat) : winZ b r d m s us K i 1 = zeroZ b r d m := if_pos rfl
theorem winZ2 (b r d m s : Int) (us : Nat → Option (Nat × Int)) (K i : Nat) : winZ b r d m s us K i 2 = accZ b r d m s us (liveP us K (tickN us i)) i := by unfold winZ; rw [if_neg (by decide), if_pos rfl]
theorem winZ3 (b r d m s : Int) (us : Nat → Option (Nat × Int)) (K i : Nat) {k : Nat} (h : 3 ≤ k) : winZ b r d m s us K i k = accZ b r d m s us (ageP us (tickN us i) (K + 3 - k)) i := by unfold winZ; rw [if_neg (by omega), if_neg (by omega)]
theorem winZ_zero (b r d m s : Int) (us : Nat → Option (Nat × Int)) (K k : Nat) : winZ b r d m s us K 0 k = zeroZ b r d m := by
  unfold winZ
  split
  · rfl
  · split <;> rfl
theorem winZ_upd {b r d m s : Int} {us : Nat → Option (Nat × Int)} {K i key : Nat} {x : Int} (hu : us i = some (key, x)) (k : Nat) (h1 : 1 ≤ k) (h2 : k < K + 1 + 3) :
    upN (upN (winZ b r d m s us K i) (3 + K) (stUpd b r d m s (winZ b r d m s us K i (3 + K)) key x)) 2 (stUpd b r d m s (winZ b r d m s us K i 2) key x) k = winZ b r d m s us K (i + 1) k := by
  by_cases e2 : k = 2
  · subst e2
    rw [upN_same, winZ2, winZ2, tickN_yes hu, accZ_yes hu (by simp [liveP])]
  · rw [upN_other _ _ e2]
    by_cases e3 : k = 3 + K
    · subst e3
      rw [upN_same, winZ3 _ _ _ _ _ _ _ _ (by omega), winZ3 _ _ _ _ _ _ _ _ (by omega), tickN_yes hu, accZ_yes hu (by simp [ageP]; omega)]
    · rw [upN_other _ _ e3]
      by_cases e1 : k = 1
      · subst e1; rw [winZ1, winZ1]
      · rw [winZ3 _ _ _ _ _ _ _ _ (by omega), winZ3 _ _ _ _ _ _ _ _ (by omega), tickN_yes hu, accZ_no (.inr (by simp [ageP]; omega))]
theorem minus_plus {xs ys : List Int} (h : xs.length = ys.length) : List.zipWith (fun a b => a - b) (plusZ xs ys) ys = xs := by
  unfold plusZ
  apply List.ext_getElem?
  intro i
  rw [List.getElem?_zipWith, List.getElem?_zipWith]
  by_cases hi : i < xs.length
  · rw [List.getElem?_eq_getElem hi, List.getElem?_eq_getElem (by omega : i < ys.length)]
    simp
  · rw [List.getElem?_eq_none (by omega), List.getElem?_eq_none (by omega : ys.length ≤ i)]
theorem winZ_sum {b r d m s q : Int} {us : Nat → Option (Nat × Int)} (hm : m ≠ 2) (hr : rightB b r d m = true) (hq : 0 ≤ q) (hs : Small b r d m q us) {K i : Nat} (hi : q * ((i + 1 : Nat) : Int) ≤ 9223372036854775807) (hu : us i = none) (n : Nat) (hn : n ≤ b.toNat) :
  List.zipWith (fun a b => a - b) (winZ b r d m s us K i 2 n) (winZ b r d m s us K i 3 n) = accZ b r d m s us (liveP us K (tickN us (i + 1))) (i + 1) n := by
 have hi' : q * (i : Int) ≤ 9223372036854775807 := by
  have e : q * ((i + 1 : Nat) : Int) = q * (i : Int) + q := by rw [Int.natCast_add, Int.mul_add]; simp
  omega
 rw [winZ2, winZ3 _ _ _ _ _ _ _ _ (by omega), accZ_no (.inl hu), tickN_no hu, show K + 3 - 3 = K by omega]
 have e : accZ b r d m s us (liveP us K (tickN us i)) i = accZ b r d m s us (fun j => liveP us K (tickN us i + 1) j || ageP us (tickN us i) K j) i := accZ_congr i (fun j hj _ => by
  have := tickN_mono us (show j ≤ i by omega)
  unfold liveP ageP
  rw [Bool.eq_iff_iff]
  simp only [decide_eq_true_eq, Bool.or_eq_true]
  omega)
 rw [e, accZ_or hm hr hq hs _ _ i hi' (fun j hj h => by
  have := tickN_mono us (show j ≤ i by omega)
  unfold liveP ageP at h
  simp only [decide_eq_true_eq] at h
  omega) n hn, minus_plus (by rw [accZ_len, accZ_len])]
theorem winZ_tick {b r d m s q : Int} {us : Nat → Option (Nat × Int)} (hm : m ≠ 2) (hr : rightB b r d m = true) (hq : 0 ≤ q) (hs : Small b r d m q us) {K i : Nat} (hi : q * ((i + 1 : Nat) : Int) ≤ 9223372036854775807) (hu : us i = none) (k n : Nat) (h1 : 1 ≤ k) (h2 : k < K + 1 + 3) (hn : n ≤ b.toNat) :
  rotN K (winZ b r d m s us K i) (fun n => List.zipWith (fun a b => a - b) (winZ b r d m s us K i 2 n) (winZ b r d m s us K i 3 n)) (zeroZ b r d m) k n = winZ b r d m s us K (i + 1) k n := by
 by_cases e2 : k = 2
 ·subst e2
  rw [rot2, winZ2]
  exact winZ_sum hm hr hq hs hi hu n hn
 ·by_cases e3 : k = 3 + K
  ·subst e3
   rw [rotL, winZ3 _ _ _ _ _ _ _ _ (by omega), accZ_zero]
   intro j hj _
   have := tickN_mono us (show j ≤ i by
    omega)
   unfold ageP
   rw [tickN_no hu]
   simp only [decide_eq_false_iff_not]
   omega
  ·rw [rotO _ _ _ _ e2 e3]
   by_cases e1 : k = 1
   ·subst e1
    rw [show rotI 1 = 1 from rfl, winZ1, winZ1]
   ·unfold rotI
    rw [if_pos (by omega), winZ3 _ _ _ _ _ _ _ _ (by omega), winZ3 _ _ _ _ _ _ _ _ (by omega), accZ_no (.inl hu), tickN_no hu]
    refine congrFun (accZ_congr i (fun j hj _ => ?_)) n
    have := tickN_mono us (show j ≤ i by omega)
    unfold ageP
    rw [Bool.eq_iff_iff]
    simp only [decide_eq_true_eq]
    omega
theorem accZ_shaped {b r d m s q : Int} {us : Nat → Option (Nat × Int)} (hq : 0 ≤ q) (hs : Small b r d m q us) (P : Nat → Bool) (i : Nat) (hi : q * (i : Int) ≤ 9223372036854775807) : Shaped b r d m (accZ b r d m s us P i) (b.toNat + 1) := fun n hn =>
  ⟨by rw [accZ_len]; unfold zeroZ; rw [List.length_replicate], (accZ_bd (s := s) hq hs P i n (by omega)).fit hi⟩
theorem enc_size {b r d m s : Int} {Z : Nat → List Int} (hr : rightB b r d m = true) (hb : b = 6) (h : Shaped b r d m Z (b.toNat + 1)) :
    (headB b r d m s ++ rowsB Z (b.toNat + 1)).length ≤ 100000 ∧ (encB b r d m s Z).length ≤ 1000000 ∧ Byts (encB b r d m s Z) ∧ 14 ≤ (encB b r d m s Z).length := by
  have hR := right_of hr
  have h1 := (rowsB_le h).2
  have h2 := sizeUp_le hr (b.toNat + 1)
  have l1 := putN_len10 (u := b.toNat) (by omega)
  have l2 := putN_len10 (u := r.toNat) (by omega)
  have l3 := putN_len10 (u := d.toNat) (by omega)
  have l4 := putN_len10 (u := m.toNat) (by omega)
  have hl : (headB b r d m s ++ rowsB Z (b.toNat + 1)).length ≤ 100000 ∧ 10 ≤ (headB b r d m s ++ rowsB Z (b.toNat + 1)).length := by
    have e : 1024 * (b.toNat + 1) = 7168 := by rw [hb]; rfl
    rw [List.length_append]
    unfold headB
    simp only [List.length_append, List.length_cons, List.length_nil, leB_len]
    omega
  refine ⟨hl.1, ?_, signB_byts (Byts.append (headB_byts b r d m s) (rowsB_byts Z _)), ?_⟩
  · rw [encB, signB_len]; omega
  · rw [encB, signB_len]; omega

set_option maxRecDepth 100000 in
set_option maxHeartbeats 4000000 in
theorem do_open (w : World) (A : Nat) (b r d m s q : Int) (Q : Value → World → Prop) (N : Nat → World → Prop) (h1 : ∀ w1, Below w.heap.size w w1 → Calls Tryz.prog 48 #[.agg #[.int .i64 b, .int .i64 r, .int .i64 d, .int .i64 m, .int .u64 s], .int .i64 q] w1 fun e w' => ∃ V, e = .returned (.tuple #[.pointer (some ⟨V, 0, none⟩), .int .i64 0]) ∧ N V w')
  (h2 : ∀ V w2, N V w2 → Calls Tryz.prog 47 #[.pointer (some ⟨A, 0, none⟩), .agg #[.pointer none, .pointer (some ⟨V, 0, none⟩)], .int .i64 0] w2 fun e w' => ∃ r, e = .returned (.tuple #[r, .int .i64 0]) ∧ Q r w') :
  Calls Tryz.prog 24 #[.pointer (some ⟨A, 0, none⟩), .iface 113 (.agg #[.int .i64 b, .int .i64 r, .int .i64 d, .int .i64 m, .int .u64 s, .int .i64 q])] w fun e w' => ∃ r, e = .returned (.tuple #[r, .int .i64 0]) ∧ Q r w' := by
 have t0 := tcOpenCreate b r d m s q
 have t1 := tcOpenOpen b r d m s q
 have hb1 : Below w.heap.size w (w.alloc (.cells #[.int .i64 b, .int .i64 r, .int .i64 d, .int .i64 m, .int .u64 s, .int .i64 q] 113)) := (Below.refl _ w).alloc (Nat.le_refl _) _
 have hx1 := Blk.new w 113 #[.int .i64 b, .int .i64 r, .int .i64 d, .int .i64 m, .int .u64 s, .int .i64 q]
 have c0 := hx1.cell 0
 have c1 := hx1.cell 1
 have c2 := hx1.cell 2
 have c3 := hx1.cell 3
 have c4 := hx1.cell 4
 have c5 := hx1.cell 5
 simp at c0 c1 c2 c3 c4 c5
 have H1 := Lib.hid (h1 _ hb1)
 have H2 := Lib.hid h2
 clear h1 h2 hb1 hx1
 go_enter Tryz.func24, Tryz.ntmps24
 go_wp2_with fail
 with_reducible refine H1.out.mono ?_
 rintro e w2 ⟨S, rfl, hq⟩
 have H3 := Lib.hid (H2.out S _ hq)
 clear hq H1 H2 c0 c1 c2 c3 c4 c5
 go_wp2_with fail
 with_reducible refine H3.out.mono ?_
 rintro e w3 ⟨r, rfl, hq⟩
 have HQ := Lib.hid hq
 clear hq H3
 go_wp2_with fail
 go_ret2
 exact ⟨r, rfl, HQ.out⟩
def wWindow : List UInt8 := [119, 105, 110, 100, 111, 119]
theorem line_window (w : World) (base A bm : Nat) (b r d s : Int) (S L : Nat → Nat) (X : Nat → Nat → Value) (Ar G C : Nat → Nat → Nat) (Z : Nat → Nat → List Int) (h : AggSt w base A bm 3 b r d 1 s S L X Ar G C Z) (hg : 4 < base) (hr : rightB b r d 1 = true)
  (x3 : Int) (hx3 : In64 x3) (hs : IntKind.u64.wrap x3 = s) (N : Nat) (hN1 : 1 ≤ N) (hN2 : N ≤ 16) :
  Calls Tryz.prog 8 #[.pointer (some ⟨A, 0, none⟩), .string (sB (joinW [wWindow, Lib.itoa b, Lib.itoa r, Lib.itoa d, Lib.itoa x3, Lib.itoa (N : Int)]))] w fun e w' => ∃ t, e = .returned (.tuple #[.string t, .bool true]) ∧ t = sB ([104, 97, 110, 100, 108, 101, 32] ++ Lib.itoa 4) ∧
   ∃ V BR S' L' X' A' G' C', WinSt w' base A bm V BR N b r d 1 s S' L' X' A' G' C' (upN (fun _ => zeroZ b r d 1) 1 (Z 1)) ∧ AOnl base A bm w w' := by
 have hR := right_of hr
 have i64 : ∀ x : Int, 0 ≤ x → x ≤ 1000 → In64 x := fun x h0 h1 => by unfold In64; omega
 have hb := i64 b (by omega) (by omega)
 have hrr := i64 r (by omega) (by omega)
 have hd := i64 d (by omega) (by omega)
 have hn := i64 (N : Int) (by omega) (by omega)
 obtain ⟨T, hT1, hT2⟩ := h.agg
 have hsz := h.base_le
 refine line_of A _ w (fun c _ => c = .iface 113 (.agg #[.int .i64 b, .int .i64 r, .int .i64 d, .int .i64 1, .int .u64 s, .int .i64 (N : Int)]))
  (fun rr w2 => rr = .iface 135 (.agg #[.int .i64 4]) ∧ ∃ V BR S' L' X' A' G' C', WinSt w2 base A bm V BR N b r d 1 s S' L' X' A' G' C' (upN (fun _ => zeroZ b r d 1) 1 (Z 1)) ∧ AOnl base A bm w w2)
  _ (fun c _ hc => ⟨_, _, hc⟩) ?_ ?_ ?_
 ·refine parse_ws _ (stays_eq _) _ (fun a ha => ?_) (by simp) (by simp) w h.tab (fun w1 R v en hle hr1 hv ht1 => ?_)
  ·simp only [List.mem_cons, List.mem_nil_iff, or_false] at ha
   rcases ha with rfl | rfl | rfl | rfl | rfl | rfl
   ·exact plainLit _ (by decide)
   ·exact num_plain _ hb.1 hb.2
   ·exact num_plain _ hrr.1 hrr.2
   ·exact num_plain _ hd.1 hd.2
   ·exact num_plain _ hx3.1 hx3.2
   ·exact num_plain _ hn.1 hn.2
  ·refine (cmd_window w1 R v _ en b r d x3 (N : Int) hr1 hv rfl (by simp) rfl rfl rfl rfl rfl hb hrr hd hx3 hn ht1 s hs).mono ?_
   rintro e w' ⟨rfl, h2, h3⟩
   exact ⟨_, rfl, rfl, h2, h3⟩
 ·rintro c w1 hb1 rfl
  refine do_open w1 A b r d 1 s (N : Int) _ (fun V w2 => ∃ lo BR S' L' X' A' G' C', w.heap.size ≤ lo ∧ lo ≤ V ∧ lo ≤ BR ∧ WbIs w2 V BR N S' ∧ StFam w2 lo 2 (N + 3) b r d 1 s S' L' X' A' G' C' (fun _ => zeroZ b r d 1) ∧ Below w.heap.size w w2) ?_ ?_
  ·intro w2 hb2
   refine (wnew b r d s hr N hN1 hN2 w2).mono ?_
   rintro e w3 ⟨V, BR, S', L', X', A', G', C', rfl, hV, hBR, hw, hf, hb3⟩
   have h12 := btr hb1 hb2
   exact ⟨V, rfl, _, BR, S', L', X', A', G', C', h12.size, hV, hBR, hw, hf, btr h12 hb3⟩
  ·rintro V w2 ⟨lo, BR, S', L', X', A', G', C', hlo, hV, hBR, hw, hf, hb2⟩
   have hk := h.kept hb2
   have ha2 := hT1.kept hb2
   refine (aggmade w2 A bm 3 T none (some V) ha2 (by omega)).mono ?_
   rintro e w3 ⟨rfl, ha3, hc⟩
   have ho := Onl.of_chg hc
   have hns := ha2.noSt
   have hnoA : ∀ k, k ∈ [A, bm] → NoSt w2 k := fun k hk => by
    simp at hk
    rcases hk with rfl | rfl
    ·exact hns.1
    ·exact hns.2
   have hst1 := hk.st 1 (by omega) (by omega)
   refine ⟨_, rfl, rfl, V, BR, upN S' 1 (S 1), upN L' 1 (L 1), upN X' 1 (X 1), upN A' 1 (Ar 1), upN G' 1 (G 1), upN C' 1 (C 1), ⟨⟨_, ha3, ?_, ?_, ?_, ?_⟩, ?_, ?_, ⟨h.lo.1, h.lo.2, by omega, by omega⟩, hk.tab.onl ho (fun k hk => ?_)⟩, ?_⟩
   ·rw [upN_same]; simp [upT, hT2 1 (by omega) (by omega)]
   ·simp [upT, hT2 2 (by omega) (by omega)]
   ·simp [upT, hT2 3 (by omega) (by omega)]
   ·simp [upT]
   ·obtain ⟨h1, cur, h2, h3, h4⟩ := hw
    refine ⟨by rw [upN_other _ _ (by omega)]; exact (ho.2.2.2.2 V h1.lt (by simp; omega)).trans h1, cur, (ho.2.2.2.2 BR h2.lt (by simp; omega)).trans h2, h3, fun j hj => by rw [upN_other _ _ (by omega)]; exact h4 j hj⟩
   ·refine StFam.put (fun i h1 h2 h3 => ((hf.st i (by omega) h2).low_ (by omega)).onl ho (fun k hk => .inl (hnoA k hk))) (fun i j p q h1 h2 h3 h4 h5 h6 hne hp hq => hf.apart i j p q (by omega) h2 (by omega) h5 hne hp hq) (hst1.onl ho (fun k hk => .inl (hnoA k hk))) (fun i p q h1 h2 h3 hp hq e => ?_)
    have h5 := (hf.st i (by omega) h2).low p hp
    have h6 := (h.st 1 (by omega) (by omega)).ltC q hq
    omega
   ·simp at hk
    have := h.lo
    rcases hk with rfl | rfl <;> omega
   ·exact (AOnl.below hb2).trans (AOnl.of ho (fun k _ hk => by simp at hk; rcases hk with e | e; exact .inl e; exact .inr (.inl e)))
 ·rintro rr w2 ⟨rfl, V, BR, S', L', X', A', G', C', hA, hB⟩
  refine (text_handle 4 (by omega) (by omega) w2 hA.tab).mono ?_
  rintro e w3 ⟨rfl, hb3⟩
  exact ⟨_, rfl, rfl, V, BR, S', L', X', A', G', C', hA.kept hb3, hB.trans (AOnl.below hb3)⟩
end Go.Proofs.YtfeficdndjiijaaGreatDoor

