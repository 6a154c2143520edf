import Derived.Test.YtfeficdndjiijaaGreatDoorQxp
import Derived.Test.YtfeficdndjiijaaGreatDoorQxn
import Derived.Test.YtfeficdndjiijaaGreatDoorQxm
import Derived.Test.YtfeficdndjiijaaGreatDoorQxg
import Derived.StillTailTactics
/-
  Contracts of the functions that TopFits reaches, and the plain laws that it leans on. Conditions: none beyond those stated at each theorem.
-/
namespace Go.Proofs.YtfeficdndjiijaaGreatDoor
open Go.RowKit
set_option linter.unusedVariables false
set_option linter.unusedSimpArgs false

def wkZ (j : Nat) : Nat → List Int
  | 0 => if j ≤ 1 then [0, 0, 0, 0] else if j = 2 then [0, 0, 0, 5] else [0, 2, 0, 5]
  | 1 => if j ≤ 1 then [0, 0] else if j = 2 then [0, 5] else [2, 5]
  | _ => if j ≤ 1 then [0] else if j = 2 then [5] else [7]
def WkS (base A bm j : Nat) (W : World) : Prop := ∃ S L X Ar G C, AggSt W base A bm (if j = 0 then 0 else 1) 2 1 4 1 0 S L X Ar G C (fun _ => wkZ j)
def wkLine : List (List UInt8) := [[99, 114, 101, 97, 116, 101, 32, 50, 32, 49, 32, 52, 32, 49, 32, 48], [97, 100, 100, 32, 49, 32, 51, 32, 53], [97, 100, 100, 32, 49, 32, 49, 32, 50], [114, 97, 110, 103, 101, 32, 49, 32, 49, 32, 50], [113, 117, 97, 110, 116, 105, 108, 101, 32, 49, 32, 51], [104, 101, 97, 118, 121, 32, 49, 32, 53, 32, 57], [105, 110, 110, 101, 114, 32, 49, 32, 49]]
def wkRep : List (List UInt8) := [[104, 97, 110, 100, 108, 101, 32, 49], [100, 111, 110, 101], [100, 111, 110, 101], [110, 117, 109, 98, 101, 114, 32, 50], [107, 101, 121, 32, 51], [108, 105, 115, 116, 32, 50, 58, 48, 58, 55, 32, 49, 58, 49, 58, 53, 32, 48, 58, 51, 58, 53], [119, 105, 100, 101, 32, 50, 57]]
def WkPost (base A bm j : Nat) (W : World) (e : Ending) (W' : World) : Prop := e = .returned (.tuple #[.string (sB (wkRep.getD j [])), .bool true]) ∧ WkS base A bm (j + 1) W' ∧ AOnl base A bm W W'
theorem itoaS (k : Nat) (h : k < 10) : Lib.itoa (k : Int) = [UInt8.ofNat (48 + k)] := by
  unfold Lib.itoa
  rw [if_neg (by omega), Int.toNat_natCast, dec_small h]
theorem it0 : Lib.itoa 0 = [48] := itoaS 0 (by decide)
theorem it1 : Lib.itoa 1 = [49] := itoaS 1 (by decide)
theorem it2 : Lib.itoa 2 = [50] := itoaS 2 (by decide)
theorem it3 : Lib.itoa 3 = [51] := itoaS 3 (by decide)
theorem it4 : Lib.itoa 4 = [52] := itoaS 4 (by decide)
theorem it5 : Lib.itoa 5 = [53] := itoaS 5 (by decide)
theorem it7 : Lib.itoa 7 = [55] := itoaS 7 (by decide)
theorem it9 : Lib.itoa 9 = [57] := itoaS 9 (by decide)
theorem wkR : rightB 2 1 4 1 = true := by decide
theorem wkE : ∀ n : Nat, n ≤ 2 → exactB 2 1 4 1 (n : Int) = true := fun n hn => by
  match n, hn with
  | 0, _ => decide
  | 1, _ => decide
  | 2, _ => decide
theorem wk0 (base A bm : Nat) (hg : 4 < base) (W : World) (h : WkS base A bm 0 W) : Calls Tryz.prog 8 #[.pointer (some ⟨A, 0, none⟩), .string (sB (wkLine.getD 0 []))] W (WkPost base A bm 0 W) := by
  obtain ⟨S, L, X, Ar, G, C, h⟩ := h
  have hl : wkLine.getD 0 [] = joinW [wCreate, Lib.itoa 2, Lib.itoa 1, Lib.itoa 4, Lib.itoa 1, Lib.itoa 0] := by
    simp only [it0, it1, it2, it4]; decide
  rw [hl]
  refine (line_create W base A bm 0 2 1 4 1 0 0 S L X Ar G C _ h hg (by decide) wkR (by unfold In64; decide) (by decide)).mono ?_
  rintro e W' ⟨t, rfl, rfl, S', L', X', A', G', C', h', ho⟩
  refine ⟨?_, ⟨_, _, _, _, _, _, h'.setZ (fun i p h1 h2 hp => ?_)⟩, ho⟩
  · have : ([104, 97, 110, 100, 108, 101, 32] ++ Lib.itoa (((0 : Nat) : Int) + 1)) = wkRep.getD 0 [] := by
      rw [show ((0 : Nat) : Int) + 1 = 1 from rfl, it1]; rfl
    rw [this]
  · obtain rfl : i = 1 := by omega
    rw [show 0 + 1 = 1 from rfl, upN_same]
    match p, hp with
    | 0, _ => decide
    | 1, _ => decide
    | 2, _ => decide
theorem wkErr (Z : Nat → List Int) (k : Nat) (x : Int) (hk : (k : Int) < 4) (hx : ∀ n : Nat, n ≤ 2 → chkI (keysI 2 1 4 1 (n : Int)).toNat 1 (Z n) (k / 2 ^ n) x = 0) : stErr 2 1 4 1 0 Z k x = 0 := by
  unfold stErr
  rw [if_neg (by rw [show keysI 2 1 4 1 0 = 4 by decide]; omega), if_neg (by simp), if_pos (fun n hn => ?_)]
  unfold lvErr
  rw [if_pos (wkE n hn)]
  exact hx n hn
theorem wkUpd (Z : Nat → List Int) (k : Nat) (x : Int) (h : stErr 2 1 4 1 0 Z k x = 0) (n : Nat) (hn : n ≤ 2) : stUpd 2 1 4 1 0 Z k x n = updZ (keysI 2 1 4 1 (n : Int)).toNat 1 (Z n) (k / 2 ^ n) x := by
  unfold stUpd
  rw [if_pos h]
  unfold lvUpd
  rw [if_pos (wkE n hn)]
theorem wkAdd (base A bm j k : Nat) (x : Int) (hj : j ≠ 0) (hg : 4 < base) (W : World) (h : WkS base A bm j W) (hk : (k : Int) < 4) (hx : In64 x) (he : ∀ n : Nat, n ≤ 2 → chkI (keysI 2 1 4 1 (n : Int)).toNat 1 (wkZ j n) (k / 2 ^ n) x = 0)
    (hu : ∀ n : Nat, n ≤ 2 → updZ (keysI 2 1 4 1 (n : Int)).toNat 1 (wkZ j n) (k / 2 ^ n) x = wkZ (j + 1) n) (hl : wkLine.getD j [] = joinW [wAdd, Lib.itoa ((1 : Nat) : Int), Lib.itoa (k : Int), Lib.itoa x]) (hr : wkRep.getD j [] = [100, 111, 110, 101]) :
    Calls Tryz.prog 8 #[.pointer (some ⟨A, 0, none⟩), .string (sB (wkLine.getD j []))] W (WkPost base A bm j W) := by
  obtain ⟨S, L, X, Ar, G, C, h⟩ := h
  rw [if_neg hj] at h
  have herr := wkErr (wkZ j) k x hk he
  rw [hl]
  refine (line_add W base A bm 1 2 1 4 1 0 S L X Ar G C _ h hg (by decide) (by decide) (by decide) 1 (by decide) (by decide) k (by omega) x hx herr).mono ?_
  rintro e W' ⟨t, rfl, rfl, h', ho⟩
  refine ⟨by rw [hr], ⟨S, L, X, Ar, G, C, ?_⟩, ho⟩
  rw [if_neg (by omega)]
  refine h'.setZ (fun i p h1 h2 hp => ?_)
  obtain rfl : i = 1 := by omega
  rw [upN_same, wkUpd _ k x herr p hp]
  exact hu p hp
theorem le2 {p : Nat → Prop} (h0 : p 0) (h1 : p 1) (h2 : p 2) : ∀ n, n ≤ 2 → p n := fun n hn => by
  match n, hn with
  | 0, _ => exact h0
  | 1, _ => exact h1
  | 2, _ => exact h2
theorem wk1 (base A bm : Nat) (hg : 4 < base) (W : World) (h : WkS base A bm 1 W) : Calls Tryz.prog 8 #[.pointer (some ⟨A, 0, none⟩), .string (sB (wkLine.getD 1 []))] W (WkPost base A bm 1 W) :=
  wkAdd base A bm 1 3 5 (by decide) hg W h (by decide) (by unfold In64; decide) (le2 (by decide) (by decide) (by decide)) (le2 (by decide) (by decide) (by decide))
    (by rw [show ((1 : Nat) : Int) = 1 from rfl, show ((3 : Nat) : Int) = 3 from rfl]; simp only [it1, it3, it5]; decide) rfl
theorem wk2 (base A bm : Nat) (hg : 4 < base) (W : World) (h : WkS base A bm 2 W) : Calls Tryz.prog 8 #[.pointer (some ⟨A, 0, none⟩), .string (sB (wkLine.getD 2 []))] W (WkPost base A bm 2 W) :=
  wkAdd base A bm 2 1 2 (by decide) hg W h (by decide) (by unfold In64; decide) (le2 (by decide) (by decide) (by decide)) (le2 (by decide) (by decide) (by decide))
    (by rw [show ((1 : Nat) : Int) = 1 from rfl]; simp only [it1, it2]; decide) rfl
def wkPt (n i : Nat) : Int := cellD (wkZ 3 n) i
theorem wkPt_lv (j : Nat) (hj : 3 ≤ j) (n i : Nat) (hn : n ≤ 2) : wkPt n i = lvPt ((2 : Nat) : Int) 1 4 1 0 (n : Int) (wkZ j n) i := by
  unfold lvPt
  rw [if_pos (show exactB ((2 : Nat) : Int) 1 4 1 (n : Int) = true from wkE n hn)]
  have : wkZ j n = wkZ 3 n := by
    have h1 : ¬ j ≤ 1 := by omega
    have h2 : ¬ j = 2 := by omega
    match n, hn with
    | 0, _ => simp [wkZ, h1, h2]
    | 1, _ => simp [wkZ, h1, h2]
    | 2, _ => simp [wkZ, h1, h2]
  rw [this]
  rfl
theorem wkPt_bd (n i : Nat) : 0 ≤ wkPt n i ∧ wkPt n i ≤ 9223372036854775807 := by
  have key : ∀ l : List Int, (∀ x ∈ l, 0 ≤ x ∧ x ≤ 7) → 0 ≤ cellD l i ∧ cellD l i ≤ 9223372036854775807 := fun l hl => by
    unfold cellD
    cases hx : l[i]? with
    | none => simp
    | some x => have := hl x (List.mem_of_getElem? hx); simp; omega
  unfold wkPt
  match n with
  | 0 => exact key [0, 2, 0, 5] (by decide)
  | 1 => exact key [2, 5] (by decide)
  | n + 2 => exact key [7] (by decide)
theorem wkKeep (base A bm j : Nat) (hj : 3 ≤ j) {W : World} (h : WkS base A bm j W) : WkS base A bm (j + 1) W := by
  obtain ⟨S, L, X, Ar, G, C, h⟩ := h
  rw [if_neg (by omega)] at h
  refine ⟨S, L, X, Ar, G, C, ?_⟩
  rw [if_neg (by omega)]
  refine h.setZ (fun i p h1 h2 hp => ?_)
  have h1 : ¬ j ≤ 1 := by omega
  have h2 : ¬ j = 2 := by omega
  have h3 : ¬ j + 1 ≤ 1 := by omega
  have h4 : ¬ j + 1 = 2 := by omega
  match p with
  | 0 => simp only [wkZ, if_neg h1, if_neg h2, if_neg h3, if_neg h4]
  | 1 => simp only [wkZ, if_neg h1, if_neg h2, if_neg h3, if_neg h4]
  | p + 2 => simp only [wkZ, if_neg h1, if_neg h2, if_neg h3, if_neg h4]
theorem wk4 (base A bm : Nat) (W : World) (h : WkS base A bm 4 W) : Calls Tryz.prog 8 #[.pointer (some ⟨A, 0, none⟩), .string (sB (wkLine.getD 4 []))] W (WkPost base A bm 4 W) := by
  obtain ⟨S, L, X, Ar, G, C, h⟩ := h
  rw [if_neg (by decide)] at h
  have hl : wkLine.getD 4 [] = joinW [wQuantile, Lib.itoa ((1 : Nat) : Int), Lib.itoa 3] := by
    rw [show ((1 : Nat) : Int) = 1 from rfl]; simp only [it1, it3]; decide
  rw [hl]
  have hw : wayN wkPt 2 0 3 = 3 := by decide
  refine (line_quantile W base A bm 1 2 1 4 1 0 S L X Ar G C _ h (by decide) (by decide) (by decide) 1 (by decide) (by decide) (by decide) (by decide) wkPt (fun n i hn => wkPt_lv 4 (by decide) n i hn) wkPt_bd 3 (by decide) (by decide) (by rw [hw]; decide)).mono ?_
  rintro e W' ⟨t, rfl, rfl, h', hb⟩
  rw [hw, dec_small (by decide)]
  refine ⟨rfl, ⟨S, L, X, Ar, G, C, ?_⟩, AOnl.below hb⟩
  exact h'
theorem wk5 (base A bm : Nat) (W : World) (h : WkS base A bm 5 W) : Calls Tryz.prog 8 #[.pointer (some ⟨A, 0, none⟩), .string (sB (wkLine.getD 5 []))] W (WkPost base A bm 5 W) := by
 obtain ⟨S, L, X, Ar, G, C, h⟩ := h
 rw [if_neg (by decide)] at h
 have hl : wkLine.getD 5 [] = joinW [wHeavy, Lib.itoa ((1 : Nat) : Int), Lib.itoa 5, Lib.itoa 9] := by
  rw [show ((1 : Nat) : Int) = 1 from rfl]; simp only [it1, it5, it9]; decide
 rw [hl]
 have ho : hvOut wkPt 5 2 (2 + 1) = [(2, 0), (1, 1), (0, 3)] := by decide
 refine (line_heavy W base A bm 1 2 1 4 1 0 S L X Ar G C _ h (by decide) (by decide) (by decide) 1 (by decide) (by decide) (by decide) (by decide) wkPt (fun n i hn => wkPt_lv 5 (by decide) n i hn) 5 9 (by unfold In64; decide) (by unfold In64; decide) (by decide) (by rw [ho]; decide) (by
  rw [ho]
  intro p hp
  simp only [List.mem_cons, List.mem_nil_iff, or_false] at hp
  rcases hp with rfl | rfl | rfl
  ·exact ⟨by decide, by decide, by unfold In64; decide⟩
  ·exact ⟨by decide, by decide, by unfold In64; decide⟩
  ·exact ⟨by decide, by decide, by unfold In64; decide⟩)).mono ?_
 rintro e W' ⟨t, rfl, rfl, h', hb⟩
 have ht : listT wkPt (hvOut wkPt 5 2 (2 + 1)) = wkRep.getD 5 [] := by
  rw [ho]
  simp only [listT, foundT, List.flatMap_cons, List.flatMap_nil]
  rw [show ((2 : Nat) : Int) = 2 from rfl, show ((1 : Nat) : Int) = 1 from rfl, show ((0 : Nat) : Int) = 0 from rfl, show wkPt 2 0 = 7 by decide, show wkPt 1 1 = 5 by decide, show wkPt 0 3 = 5 by decide, dec_small (by decide), dec_small (by decide), dec_small (by decide)]
  simp only [it0, it1, it2, it5, it7]
  decide
 rw [ht]
 exact ⟨rfl, ⟨S, L, X, Ar, G, C, h'⟩, AOnl.below hb⟩
theorem wk6 (base A bm : Nat) (W : World) (h : WkS base A bm 6 W) : Calls Tryz.prog 8 #[.pointer (some ⟨A, 0, none⟩), .string (sB (wkLine.getD 6 []))] W (WkPost base A bm 6 W) := by
  obtain ⟨S, L, X, Ar, G, C, h⟩ := h
  rw [if_neg (by decide)] at h
  have hl : wkLine.getD 6 [] = joinW [wInner, Lib.itoa ((1 : Nat) : Int), Lib.itoa ((1 : Nat) : Int)] := by
    rw [show ((1 : Nat) : Int) = 1 from rfl]; simp only [it1]; decide
  rw [hl]
  have hd : dotN (wkZ 6 0) (wkZ 6 0) 4 = 29 := by decide
  have hz : ∀ x ∈ wkZ 6 0, 0 ≤ x ∧ x ≤ 1000000 := by decide
  refine (line_inner W base A bm 1 2 1 4 0 S L X Ar G C _ h (by decide) 1 1 (by decide) (by decide) (by decide) (by decide) (by decide) 4 (by decide) hz hz (by rw [hd]; decide) (by rw [hd]; decide)).mono ?_
  rintro e W' ⟨t, rfl, rfl, h', hb⟩
  rw [hd, dec_big (by decide), dec_small (by decide)]
  exact ⟨rfl, ⟨S, L, X, Ar, G, C, h'⟩, AOnl.below hb⟩
theorem wk3 (base A bm : Nat) (W : World) (h : WkS base A bm 3 W) : Calls Tryz.prog 8 #[.pointer (some ⟨A, 0, none⟩), .string (sB (wkLine.getD 3 []))] W (WkPost base A bm 3 W) := by
 obtain ⟨S, L, X, Ar, G, C, h⟩ := h
 rw [if_neg (by decide)] at h
 have hl : wkLine.getD 3 [] = joinW [wRange, Lib.itoa ((1 : Nat) : Int), Lib.itoa ((1 : Nat) : Int), Lib.itoa ((2 : Nat) : Int)] := by
  rw [show ((1 : Nat) : Int) = 1 from rfl, show ((2 : Nat) : Int) = 2 from rfl]; simp only [it1, it2]; decide
 rw [hl]
 have hc : covO (2 + 1) 0 1 2 ++ (covR (2 + 1) 0 1 2).reverse = [(0, 1), (0, 2)] := by decide
 have hp : ptsL ((2 : Nat) : Int) 1 4 1 0 (wkZ 3) [(0, 1), (0, 2)] = [2, 0] := by
  simp only [ptsL, List.map_cons, List.map_nil]
  rw [← wkPt_lv 3 (by decide) 0 1 (by decide), ← wkPt_lv 3 (by decide) 0 2 (by decide)]
  decide
 refine (line_range W base A bm 1 2 1 4 1 0 S L X Ar G C _ h (by decide) (by decide) (by decide) 1 (by decide) (by decide) 1 2 (by decide) (by decide) (by decide) (by decide) (by decide) (by
  rw [hc]
  intro p hp
  simp only [List.mem_cons, List.mem_nil_iff, or_false] at hp
  rcases hp with rfl | rfl
  ·exact ⟨by decide, by decide, by decide⟩
  ·exact ⟨by decide, by decide, by decide⟩) (by rw [hc, hp]; decide) 2 (by rw [hc, hp]; decide) (by decide) (by decide)).mono ?_
 rintro e W' ⟨t, rfl, rfl, h', hb⟩
 simp only [it2]
 exact ⟨rfl, wkKeep base A bm 3 (by decide) ⟨S, L, X, Ar, G, C, h'⟩, AOnl.below hb⟩
end Go.Proofs.YtfeficdndjiijaaGreatDoor


namespace Go.Proofs.YtfeficdndjiijaaGreatDoor
open Go.RowKit Go.Shelf
set_option linter.unusedVariables false
set_option linter.unusedSimpArgs false
attribute [local go_sem] Oper.semAt_some

theorem noSt_of {w : World} {k : Nat} {t : TypeId} {cs : Array Value} (h : Blk w k t cs) (ht : t ≠ 2 ∧ t ≠ 337 ∧ t ≠ 284 ∧ t ≠ 288 ∧ t ≠ 174 ∧ t ≠ 172) : NoSt w k := fun t' cs' h' => by
  have := blk_one h' h
  subst this
  exact ht
theorem noSt_other {w : World} {k : Nat} {o : Obj} (h : w.heap[k]? = some o) (ho : o.isCells = false) : NoSt w k := fun t' cs' h' => by
  rw [show w.heap[k]? = _ from h'] at h
  cases h
  cases ho
theorem WkS.onl {F : Nat → Prop} {base A bm j : Nat} {w w' : World} (h : WkS base A bm j w) (ho : Onl F w w') (hF : ∀ k, F k → NoSt w k ∧ k ≠ A ∧ k ≠ bm ∧ k ≠ 4) : WkS base A bm j w' := by
  obtain ⟨S, L, X, Ar, G, C, h⟩ := h
  exact ⟨S, L, X, Ar, G, C, h.onl ho hF⟩
theorem WkS.ne {base A bm j : Nat} {w : World} (h : WkS base A bm j w) {k : Nat} {t : TypeId} {cs : Array Value} (hk : Blk w k t cs) (ht : t ≠ 77) : k ≠ A ∧ k ≠ bm := by
  obtain ⟨S, L, X, Ar, G, C, h⟩ := h
  obtain ⟨T, ⟨h1, D, ⟨es, clock, h2, -⟩, -⟩, -⟩ := h.agg
  refine ⟨fun e => ?_, fun e => ?_⟩
  · subst e; exact ht (blk_one hk h1)
  · subst e
    rw [show w.heap[k]? = _ from hk] at h2
    cases h2
theorem WkS.lt {base A bm j : Nat} {w : World} (h : WkS base A bm j w) : A < w.heap.size ∧ bm < w.heap.size ∧ base ≤ A ∧ base ≤ bm := by
  obtain ⟨S, L, X, Ar, G, C, h⟩ := h
  exact ⟨h.base_le.2.1, h.base_le.2.2, h.lo⟩
theorem own_onl {F : Nat → Prop} {w w' : World} {base n size : Nat} {e : TypeId} {v : Value} {xs : List Value} (h : w.ownsRow base e size v n xs) (ho : Onl F w w') (hne : ∀ k, v.ownBlock = some k → ¬ F k) : w'.ownsRow base e size v n xs := by
  refine ⟨h.1, ?_⟩
  rcases h.2 with h1 | ⟨g, cap, cur, hv, hb, hg, rest⟩
  · exact .inl h1
  · have hlt : g < w.heap.size := (Array.getElem?_eq_some_iff.1 hg).1
    exact .inr ⟨g, cap, cur, hv, hb, (ho.2.2.2.2 g hlt (hne g (by rw [hv]; rfl))).trans hg, rest⟩
def strsV (l : List (List UInt8)) : List Value := l.map fun a => .string (sB a)
structure RunI (w W : World) (base A bm OB AB B0 B1 B2 T j : Nat) (v : Value) : Prop where
  top : T ≤ W.heap.size
  wk : WkS base A bm j W
  out : Blk W OB 48 #[v]
  ab : Blk W AB 30 #[.pointer (some ⟨A, 0, none⟩)]
  own : W.ownsRow T 9 1 v j (strsV (wkRep.take j))
  bel : Below w.heap.size w W
  lo : w.heap.size ≤ OB ∧ OB < base ∧ bm < T ∧ OB < T ∧ AB < T ∧ B0 < T ∧ B1 < T ∧ B2 < T ∧ w.heap.size ≤ base ∧ 4 < OB ∧ 4 < B0 ∧ w.heap.size ≤ B0 ∧ OB ≠ B0
theorem RunI.walked {w W W' : World} {base A bm OB AB B0 B1 B2 T j : Nat} {v : Value} {row : Option Nat} (h : RunI w W base A bm OB AB B0 B1 B2 T j v) (hg : W.grownBy W' row) (hr : ∀ r, row = some r → T ≤ r ∧ ∃ o : Obj, W.heap[r]? = some o ∧ o.isCells = false) : RunI w W' base A bm OB AB B0 B1 B2 T j v := by
  have hlo := h.lo
  have hlt := h.wk.lt
  refine ⟨Nat.le_trans h.top hg.size, h.wk.onl (F := fun k => row = some k) ⟨hg.os, hg.tape, hg.output, hg.size, fun k hk hn => hg.block k hk (fun e => hn e.symm)⟩ (fun k hk => ?_), h.out.walked hg (fun r e => (hr r e).2), h.ab.walked hg (fun r e => (hr r e).2), ownKeep h.own hg (fun k hk e => by
    obtain ⟨cs, hc⟩ := ownBlk h.own k hk
    obtain ⟨-, o, ho, hn⟩ := hr k e
    exact hc.not_other ho hn rfl), h.bel.grown hg h.bel.size (fun k e => by have := (hr k e).1; omega), hlo⟩
  obtain ⟨h1, o, h2, h3⟩ := hr k hk
  refine ⟨noSt_other h2 h3, ?_, by omega, by omega⟩
  rintro rfl
  obtain ⟨S, L, X, Ar, G, C, hA⟩ := h.wk
  obtain ⟨T', ⟨h4, -⟩, -⟩ := hA.agg
  rw [show W.heap[k]? = _ from h4] at h2
  cases h2
  cases h3
theorem RunI.box {w W : World} {base A bm OB AB B0 B1 B2 T j : Nat} {v : Value} (h : RunI w W base A bm OB AB B0 B1 B2 T j v) (s : ByteArray) (hb : StrBox W B0 9) : RunI w (W.setCell ⟨B0, 0, none⟩ (.string s)) base A bm OB AB B0 B1 B2 T j v := by
  obtain ⟨s0, hb⟩ := hb
  have hb0 : Blk W B0 9 #[.string s0] := hb
  have hlo := h.lo
  have hg : W.grownBy (W.setCell ⟨B0, 0, none⟩ (.string s)) (some B0) := gr_setC (World.grownBy.refl _ _) 0 _
  have hne := h.wk.ne hb0 (by decide)
  refine ⟨Nat.le_trans h.top hg.size, h.wk.onl (Onl.of_gr hg) (fun k hk => ?_), h.out.grown hg (by simpa using hlo.2.2.2.2.2.2.2.2.2.2.2.2), h.ab.grown hg (by simpa using h.ab.ne_ hb0 (by decide)), ownKeep h.own hg (fun k hk e => by
    have e := Option.some.inj e
    have := (h.own.lt k hk).1
    omega), h.bel.grown hg h.bel.size (fun k e => by have e := Option.some.inj e; omega), hlo⟩
  subst hk
  exact ⟨noSt_of hb0 (by decide), hne.1, hne.2, by omega⟩
theorem RunI.round {w W W2 We : World} {base A bm OB AB B0 B1 B2 T j : Nat} {v v' : Value} (h : RunI w W base A bm OB AB B0 B1 B2 T j v) (hk : WkS base A bm (j + 1) W2) (ho : AOnl base A bm W W2) (hb1 : ∃ s, Blk W B1 9 #[.string s]) (hb2 : ∃ i, Blk W B2 3 #[i]) (hj : j < 7)
    (hown : We.ownsRow T 9 1 v' (j + 1) (strsV (wkRep.take j) ++ [.string (sB (wkRep.getD j []))])) (hg : (W2.alloc (.cells #[.string (sB (wkRep.getD j []))] 9)).grownBy We v.ownBlock) (hb0 : ∃ s, Blk W B0 9 #[.string s]) :
    KeepsFrom T W (We.setCell ⟨OB, 0, none⟩ v') ∧ KpB [B0, B1, B2] W (We.setCell ⟨OB, 0, none⟩ v') ∧ RunI w (We.setCell ⟨OB, 0, none⟩ v') base A bm OB AB B0 B1 B2 T (j + 1) v' := by
  have hlo := h.lo
  have hlt := h.wk.lt
  have hal : Below W2.heap.size W2 (W2.alloc (.cells #[.string (sB (wkRep.getD j []))] 9)) := (Below.refl _ _).alloc (Nat.le_refl _) _
  generalize (W2.alloc (.cells #[.string (sB (wkRep.getD j []))] 9)) = W3 at *
  have hne := fun {k : Nat} {t : TypeId} {cs : Array Value} (hk : Blk W k t cs) (ht : t ≠ 77) => h.wk.ne hk ht
  have out2 : Blk W2 OB 48 #[v] := ho.blk h.out (hne h.out (by decide)).1 (hne h.out (by decide)).2 (by decide)
  have ab2 : Blk W2 AB 30 #[.pointer (some ⟨A, 0, none⟩)] := ho.blk h.ab (hne h.ab (by decide)).1 (hne h.ab (by decide)).2 (by decide)
  have hv : ∀ k, v.ownBlock = some k → T ≤ k ∧ k < W.heap.size := fun k e => h.own.lt k e
  have own2 : W2.ownsRow T 9 1 v j (strsV (wkRep.take j)) := own_onl h.own ho (fun k hk hf => by
    have h1 := hv k hk
    obtain ⟨cs, hc⟩ := ownBlk h.own k hk
    rcases hf with e | e | ⟨-, cs', e⟩
    · exact (hne hc (by decide)).1 e
    · exact (hne hc (by decide)).2 e
    · exact absurd (blk_one hc e) (by decide))
  have wk3 : WkS base A bm (j + 1) W3 := hk.onl (F := fun _ => False) (Onl.below hal) (fun _ hf => hf.elim)
  have own3 : W3.ownsRow T 9 1 v j (strsV (wkRep.take j)) := ownKeep own2 (below_gr (row := none) hal) (fun _ _ => by simp)
  have out3 := out2.kept hal
  have ab3 := ab2.kept hal
  have hvne : ∀ k, k < T → some k ≠ v.ownBlock := fun k hk e => by have := (hv k e.symm).1; omega
  have wkE : WkS base A bm (j + 1) We := wk3.onl (F := fun k => v.ownBlock = some k) ⟨hg.os, hg.tape, hg.output, hg.size, fun k hk hn => hg.block k hk (fun e => hn e.symm)⟩ (fun k hk => by
    obtain ⟨cs, hc⟩ := ownBlk own3 k hk
    have h1 := wk3.ne hc (by decide)
    have h2 := (hv k hk).1
    exact ⟨noSt_of hc (by decide), h1.1, h1.2, by omega⟩)
  have outE := out3.grown hg (hvne OB (by omega))
  have abE := ab3.grown hg (hvne AB (by omega))
  have hgs : We.grownBy (We.setCell ⟨OB, 0, none⟩ v') (some OB) := gr_setC (World.grownBy.refl _ _) 0 _
  have s1 : W.heap.size ≤ W2.heap.size := ho.2.2.2.1
  have s2 : W2.heap.size ≤ W3.heap.size := hal.size
  have s3 : W3.heap.size ≤ We.heap.size := hg.size
  have kf1 : KeepsFrom T W W2 := ⟨s1, fun k o hk hko hoc => by
    refine (ho.2.2.2.2 k (Array.getElem?_eq_some_iff.1 hko).1 ?_).trans hko
    rintro (e | e | ⟨-, cs', e⟩)
    · subst e
      obtain ⟨S, L, X, Ar, G, C, hA⟩ := h.wk
      obtain ⟨T', ⟨h4, -⟩, -⟩ := hA.agg
      rw [show W.heap[k]? = _ from h4] at hko
      cases hko
      cases hoc
    · omega
    · rw [show W.heap[k]? = _ from e] at hko
      cases hko
      cases hoc⟩
  have kf2 : KeepsFrom T W2 W3 := (kept_others (below_gr (row := none) hal) (fun g e => by cases e)).from _
  have kf3 : KeepsFrom T W3 We := (kept_others hg (fun g e => by
    obtain ⟨cs, q⟩ := ownBlk own3 g e
    exact ⟨_, _, q⟩)).from _
  have kf4 : KeepsFrom T We (We.setCell ⟨OB, 0, none⟩ v') := (kept_others hgs (fun g e => ⟨_, _, by cases e; exact outE⟩)).from _
  have nk : ∀ k t cs, Blk W k t cs → t ≠ 77 → t ≠ 2 → k < T → k ≠ OB → (We.setCell ⟨OB, 0, none⟩ v').heap[k]? = W.heap[k]? := fun k t cs hb h1 h2 h3 h4 => by
    have q2 : Blk W2 k t cs := ho.blk hb (hne hb h1).1 (hne hb h1).2 h2
    have q3 := (q2.kept hal).grown hg (hvne k h3)
    have q4 := q3.grown hgs (by simpa using h4)
    exact q4.trans hb.symm
  obtain ⟨x0, c0⟩ := hb0
  obtain ⟨x1, c1⟩ := hb1
  obtain ⟨x2, c2⟩ := hb2
  refine ⟨((kf1.trans kf2).trans kf3).trans kf4, ⟨by have := hgs.size; omega, fun i hi => ?_⟩, ?_⟩
  · simp at hi
    rcases hi with rfl | rfl | rfl
    · exact nk _ _ _ c0 (by decide) (by decide) (by omega) (by omega)
    · exact nk _ _ _ c1 (by decide) (by decide) (by omega) (c1.ne_ h.out (by decide))
    · exact nk _ _ _ c2 (by decide) (by decide) (by omega) (c2.ne_ h.out (by decide))
  · exact { top := by have := hgs.size; have := h.top; omega
            wk := wkE.onl (Onl.of_gr hgs) (fun k hk => by
              subst hk
              have h1 := wkE.ne outE (by decide)
              exact ⟨noSt_of outE (by decide), h1.1, h1.2, by omega⟩)
            out := by simpa using outE.set_ 0 v'
            ab := abE.grown hgs (by simpa using (abE.ne_ outE (by decide)))
            own := by
              have e1 : strsV (wkRep.take (j + 1)) = strsV (wkRep.take j) ++ [.string (sB (wkRep.getD j []))] := by
                have hl : j < wkRep.length := hj
                rw [List.take_add_one, strsV, strsV, List.map_append, List.getD_eq_getElem?_getD, List.getElem?_eq_getElem hl]
                rfl
              rw [e1]
              refine ownKeep hown hgs (fun k hk e => ?_)
              have e := Option.some.inj e
              obtain ⟨cs, hq⟩ := ownBlk hown k hk
              rw [← e] at hq
              exact absurd rfl (outE.ne_ hq (by decide))
            bel := by
              have b1 := ho.to_below (by omega) hlt.2.2.1 hlt.2.2.2
              have b2 : Below w.heap.size W2 W3 := hal.mono (by have := h.bel.size; omega)
              exact (((h.bel.trans (b1.mono hlo.2.2.2.2.2.2.2.2.1)).trans b2).grown hg (by have := h.bel.size; omega) (fun k e => by have := (hv k e).1; omega)).setCell hlo.1 _
            lo := hlo }
theorem wkNo : ∀ a ∈ wkLine, ∀ x ∈ a, x ≠ 10 := by decide
theorem wkStep (base A bm j : Nat) (hj : j < 7) (hg : 4 < base) (W : World) (h : WkS base A bm j W) : Calls Tryz.prog 8 #[.pointer (some ⟨A, 0, none⟩), .string (sB (wkLine.getD j []))] W (WkPost base A bm j W) := by
  match j, hj with
  | 0, _ => exact wk0 base A bm hg W h
  | 1, _ => exact wk1 base A bm hg W h
  | 2, _ => exact wk2 base A bm hg W h
  | 3, _ => exact wk3 base A bm W h
  | 4, _ => exact wk4 base A bm W h
  | 5, _ => exact wk5 base A bm W h
  | 6, _ => exact wk6 base A bm W h
set_option maxRecDepth 100000 in
set_option maxHeartbeats 16000000 in
theorem run_small (w : World) (ht : Tab w) : Calls Tryz.prog 19 #[.string (sB (joinN wkLine))] w fun e w' => ∃ v, e = .returned v ∧ w'.ownsRow w.heap.size 9 1 v 7 (strsV wkRep) ∧ Below w.heap.size w w' := by
 obtain ⟨iS, hi, hz0, hz1, hz2⟩ := info_parts (show (Tryz.prog.info? 9).map (fun i => (i.zero, i.size, i.bytes)) = some (some (.string ⟨#[]⟩), 1, 16) by kernel_rfl)
 have HT := Lib.hid ht
 have hTsz : (sB (joinN wkLine)).size ≤ 1000 := by rw [sB_size]; decide
 obtain ⟨TX, hTX⟩ : ∃ TX, TX = sB (joinN wkLine) := ⟨_, rfl⟩
 have HTX := Lib.hid hTX
 rw [← hTX] at hTsz ⊢
 have PN := Lib.hid (fun w => aggnew w)
 have PS := Lib.hid (fun w => splitseq TX ⟨#[10]⟩ w)
 have hb0 : Below w.heap.size w (w.alloc (.cells #[.slice none 0 0] 48)) := (Below.refl _ _).alloc (Nat.le_refl _) _
 have HB0 := Lib.hid hb0
 have HO0 := Lib.hid (Blk.new w 48 #[.slice none 0 0])
 clear ht hTX hb0
 refine (callsIn_wide (n := 6)).1 ?_
 refine callsIn_of_wp_marks Tryz.func19 rfl trivial ?_ rfl
 simp only [Tryz.ntmps19, List.size_toArray, List.length_cons, List.length_nil, Nat.reduceAdd, Nat.reduceSub, Array.replicate_succ, Array.replicate_zero, List.push_toArray, List.append_toArray, List.nil_append, List.cons_append]
 gi_wp2_with fail
 generalize (w.alloc (.cells #[.slice none 0 0] 48)) = w1 at *
 refine ⟨trivial, ?_⟩
 with_reducible refine (callsIn_wide.2 (PN.out _)).mono ?_
 rintro e w2 ⟨A, bm, rfl, hA1, hA2, hagg, hb2⟩
 have HAG := Lib.hid hagg
 have HAL := Lib.hid (And.intro hA1 hA2)
 have HB2 := Lib.hid (btr HB0.out hb2)
 have HO2 := Lib.hid ((show Blk w1 w.heap.size 48 #[.slice none 0 0] from HO0.out).kept hb2)
 have HW1 : Hid (w.heap.size < w1.heap.size ∧ w1.heap.size ≤ w2.heap.size) := Lib.hid ⟨(show Blk w1 w.heap.size 48 #[.slice none 0 0] from HO0.out).lt, hb2.size⟩
 clear hA1 hA2 hagg hb2 PN HB0 HO0
 gi_wp2_with fail
 have hb3 : Below w2.heap.size w2 (w2.alloc (.cells #[.pointer (some ⟨A, 0, none⟩)] 30)) := (Below.refl _ _).alloc (Nat.le_refl _) _
 have HAG3 := Lib.hid (HAG.out.kept hb3)
 have HB3 := Lib.hid (btr HB2.out hb3)
 have HO3 := Lib.hid (HO2.out.kept hb3)
 have HA3 := Lib.hid (Blk.new w2 30 #[.pointer (some ⟨A, 0, none⟩)])
 clear hb3 HAG HB2 HO2
 generalize (w2.alloc (.cells #[.pointer (some ⟨A, 0, none⟩)] 30)) = w3 at *
 refine ⟨trivial, ?_⟩
 with_reducible refine (callsIn_wide.2 (PS.out _)).mono ?_
 rintro e w4 ⟨rfl, hw4⟩
 obtain ⟨B0, hB0⟩ : ∃ B0, B0 = w3.heap.size := ⟨_, rfl⟩
 have hx0 : Blk w4 B0 9 #[.string TX] := by
  rw [hw4, hB0]
  exact ((Blk.new w3 9 #[.string TX]).kept ((Below.refl _ _).alloc (Nat.le_refl _) _)).kept ((Below.refl _ _).alloc (Nat.le_refl _) _)
 have hx1 : Blk w4 (B0 + 1) 9 #[.string ⟨#[10]⟩] := by
  rw [hw4, hB0]
  have := (Blk.new (w3.alloc (.cells #[.string TX] 9)) 9 #[.string ⟨#[10]⟩]).kept ((Below.refl _ _).alloc (Nat.le_refl _) (.cells #[.int .i64 0] 3))
  simpa using this
 have hx2 : Blk w4 (B0 + 1 + 1) 3 #[.int .i64 0] := by
  rw [hw4, hB0]
  have := Blk.new ((w3.alloc (.cells #[.string TX] 9)).alloc (.cells #[.string ⟨#[10]⟩] 9)) 3 #[.int .i64 0]
  simpa using this
 have hb4 : Below w3.heap.size w3 w4 := by
  rw [hw4]
  exact (((Below.refl _ _).alloc (Nat.le_refl _) _).alloc (by simp) _).alloc (by simp; omega) _
 have hs4 : w4.heap.size = B0 + 1 + 1 + 1 := by rw [hw4, hB0]; simp
 subst hB0
 have hAG4 := HAG3.out.kept hb4
 have hgt : 4 < w.heap.size := HT.out.lt
 have hW := HW1.out
 have hL := HAL.out
 have hsz3 : w2.heap.size < w3.heap.size := HA3.out.lt
 have hbm := HAG3.out.lt.2
 have hI0 : RunI w w4 w1.heap.size A bm w.heap.size w2.heap.size w3.heap.size (w3.heap.size + 1) (w3.heap.size + 1 + 1) w4.heap.size 0 (.slice none 0 0) := {
  top := Nat.le_refl _
  wk := ⟨fun _ => 0, fun _ => 0, fun _ _ => undef, fun _ _ => 0, fun _ _ => 0, fun _ _ => 0, by rw [if_pos rfl]; exact AggSt.zero hAG4 hL.1 hL.2 (HT.out.kept (btr HB3.out hb4))⟩
  out := (show Blk w3 w.heap.size 48 #[.slice none 0 0] from HO3.out).kept hb4
  ab := (show Blk w3 w2.heap.size 30 #[.pointer (some ⟨A, 0, none⟩)] from HA3.out).kept hb4
  own := World.ownsRow_nil _ _ _ _
  bel := btr HB3.out hb4
  lo := by omega }
 have HI0 := Lib.hid hI0
 have HX := Lib.hid (And.intro hx0 (And.intro hx1 hx2))
 have HSZ := Lib.hid (And.intro hs4 hgt)
 clear hx0 hx1 hx2 hb4 hAG4 hW hL hsz3 hbm hI0 hs4 hgt hw4 HAG3 HB3 HO3 HA3 PS
 gi_wp2_with fail
 refine wpIn_rangeFunc_ord rfl (by omega) (gf := 117) (lb := #[.pointer (some ⟨w3.heap.size + 1, 0, none⟩), .pointer (some ⟨w3.heap.size, 0, none⟩), .pointer (some ⟨w3.heap.size + 1 + 1, 0, none⟩)]) rfl trivial (enters_of Tryz.func117 (by kernel_rfl) rfl)
  (fun j => #[.string (sB (wkLine.getD j []))]) 7 w3.heap.size 9 (KpB [w3.heap.size, w3.heap.size + 1, w3.heap.size + 1 + 1]) (by have := HSZ.out; omega)
  (fun l J W hW hJ hY h0 => split1 (6 - 1) (by omega) l w3.heap.size (w3.heap.size + 1) (w3.heap.size + 1 + 1) wkLine (by decide) wkNo (by decide) J hJ hY W (by rw [← HTX.out]; exact HX.out.1.kept hW) (by omega) (HX.out.2.1.kept hW) (HX.out.2.2.kept hW) h0) KpB.trans (fun W l o o' hl _ _ => ⟨by simp, fun i hi => World.putObj_heap_other (by have := HSZ.out; simp at hi; omega)⟩) (fun _ => rfl)
  (fun j W => ∃ v, RunI w W w1.heap.size A bm w.heap.size w2.heap.size w3.heap.size (w3.heap.size + 1) (w3.heap.size + 1 + 1) w4.heap.size j v ∧ Blk W (w3.heap.size + 1) 9 #[.string ⟨#[10]⟩] ∧ Blk W (w3.heap.size + 1 + 1) 3 #[.int .i64 0] ∧ ∃ s, Blk W w3.heap.size 9 #[.string s])
  (fun j W W' row hs hg hr => by
   obtain ⟨v, hs, h1, h2, s, h3⟩ := hs
   exact ⟨v, hs.walked hg hr, h1.walked hg (fun r e => (hr r e).2), h2.walked hg (fun r e => (hr r e).2), s, h3.walked hg (fun r e => (hr r e).2)⟩)
  (fun j A s hs hb => by
   obtain ⟨v, hs, h1, h2, s0, h3⟩ := hs
   have hg : A.grownBy (A.setCell ⟨w3.heap.size, 0, none⟩ (.string s)) (some w3.heap.size) := gr_setC (World.grownBy.refl _ _) 0 _
   exact ⟨v, hs.box s hb, h1.grown hg (by simp), h2.grown hg (by simp; omega), s, by simpa using h3.set_ 0 (.string s)⟩)
  ⟨_, HI0.out, HX.out.2.1, HX.out.2.2, TX, HX.out.1⟩ (fun j => { tmps := #[.string TX, undef, .slice none 0 0, .pointer (some ⟨w.heap.size, 0, none⟩), .pointer (some ⟨w2.heap.size, 0, none⟩), .string (sB (wkLine.getD j [])), undef, undef, .string TX, .int .i64 (TX.size : Int), .bool (decide (1048576 < (TX.size : Int))), undef, undef, undef, .pointer (some ⟨A, 0, none⟩), .string TX,
   .func (.func 117) #[] #[.pointer (some ⟨w3.heap.size + 1, 0, none⟩), .pointer (some ⟨w3.heap.size, 0, none⟩), .pointer (some ⟨w3.heap.size + 1 + 1, 0, none⟩)], .string (sB (wkLine.getD j [])), undef, undef, undef, undef, undef, undef, undef, undef, undef, undef, undef, undef], defers := [] }) ?assign ?body ?done
 case assign =>
  intro l j W K hK
  gi_wp2
  exact hK
 case body =>
  intro l j W hl hj hI
  obtain ⟨v, hI, k1, k2, s, k3⟩ := hI
  obtain ⟨ao, cap, hv⟩ := own_form hI.own
  subst hv
  have PL := Lib.hid (wkStep w1.heap.size A bm j hj (by have := hI.lo; omega) W hI.wk)
  have HI := Lib.hid hI
  have HK := Lib.hid (And.intro k1 (And.intro k2 k3))
  have c4 := hI.ab.cell 0
  simp at c4
  obtain ⟨LN, hLN⟩ : ∃ LN, LN = sB (wkLine.getD j []) := ⟨_, rfl⟩
  rw [← hLN] at PL ⊢
  obtain ⟨RP, hRP⟩ : ∃ RP, RP = sB (wkRep.getD j []) := ⟨_, rfl⟩
  have HRP := Lib.hid hRP
  unfold WkPost at PL
  rw [← hRP] at PL
  clear hI k1 k2 k3 hLN hRP
  gi_wp2_with fail
  refine ⟨trivial, ?_⟩
  refine (CallsIn.inRound l (callsIn_wide.2 PL.out)).mono ?_
  rintro e W2 ⟨rfl, hk2, ho⟩
  have HK2 := Lib.hid hk2
  have HO := Lib.hid ho
  have hne := HI.out.wk.ne HI.out.out (by decide)
  have out2 : Blk W2 w.heap.size 48 #[.slice ao j cap] := ho.blk HI.out.out hne.1 hne.2 (by decide)
  have hown2 : W2.ownsRow w4.heap.size 9 1 (.slice ao j cap) j (strsV (wkRep.take j)) := own_onl HI.out.own ho (fun k hk hf => by
   obtain ⟨cs, hc⟩ := ownBlk HI.out.own k hk
   rcases hf with e | e | ⟨-, cs', e⟩
   ·exact (HI.out.wk.ne hc (by decide)).1 e
   ·exact (HI.out.wk.ne hc (by decide)).2 e
   ·exact absurd (blk_one hc e) (by decide))
  have HOW := Lib.hid hown2
  have HTP : Hid (w4.heap.size ≤ W2.heap.size) := Lib.hid (Nat.le_trans HI.out.top ho.2.2.2.1)
  have hal : Below W2.heap.size W2 (W2.alloc (.cells #[.string RP] 9)) := (Below.refl _ _).alloc (Nat.le_refl _) _
  have OB2 := Lib.hid out2
  have c0 := out2.cell 0
  simp at c0
  have out3 := out2.kept hal
  have OB3 := Lib.hid out3
  have hmx : j + 1 ≤ maxLen := by unfold maxLen; omega
  have hby : (j + 1) * 16 ≤ 140737488355328 := by omega
  clear hk2 ho hne out2 hown2 hal c4 PL
  gi_wp2_with (gi_at_builtin; refine wpListIn_append_own _ rfl _ _ 48 rfl w4.heap.size 9 iS (.string ⟨#[]⟩) 1 16 Tryz.underlying48 hi hz0 hz1 hz2 rfl (by decide) _ _ _ rfl (HOW.out.alloc _) ⟨W2.heap.size, 0, none⟩ 1 1 [.string RP] rfl rfl (cell_one_new _ _ _) (by simp [Value.oneCell']) hmx hby (by have := HTP.out; simp; omega) ?_)
  intro v' We hown' hgrow hnil
  obtain ⟨ao', cap', hv'⟩ := own_form hown'
  subst hv'
  have hoe : Blk We w.heap.size 48 #[.slice ao j cap] := OB3.out.grown hgrow (fun e => by have := (HOW.out.lt _ e.symm).1; have := HI.out.lo; omega)
  have d0 := hoe.cell 0
  have f0 := hoe.frozen 0
  simp at d0
  have HR := Lib.hid (HI.out.round HK2.out HO.out ⟨_, HK.out.1⟩ ⟨_, HK.out.2.1⟩ hj (by rw [← HRP.out]; exact hown') (by rw [← HRP.out]; exact hgrow) ⟨s, HK.out.2.2⟩)
  have HK9 := Lib.hid (And.intro (HR.out.2.1.blk (by simp) HK.out.1) (And.intro (HR.out.2.1.blk (by simp) HK.out.2.1) (HR.out.2.1.blk (by simp) HK.out.2.2)))
  clear hown' hgrow hnil hoe c0 HI HK2 HO HOW OB2 OB3
  gi_wp2_with fail
  exact ⟨HR.out.1, HR.out.2.1, _, HR.out.2.2, HK9.out.1, HK9.out.2.1, s, HK9.out.2.2⟩
 case done =>
  intro D W hD hI hK
  obtain ⟨v, hI, -⟩ := hI
  obtain ⟨ao, cap, hv⟩ := own_form hI.own
  subst hv
  have hlo := hI.lo
  have hgd := grownBy_putObj' W D (.deferred none)
  have HOW := Lib.hid (ownKeep (ownBase hI.own (base' := w.heap.size) (by omega)) hgd (fun k hk e => by
   have e := Option.some.inj e
   obtain ⟨cs, hq⟩ := ownBlk hI.own k hk
   rw [← e] at hq
   exact hq.not_other hK rfl rfl))
  have HBW := Lib.hid (hI.bel.grown hgd hI.bel.size (fun k e => by have e := Option.some.inj e; omega))
  have c0 := hI.out.cell 0
  simp at c0
  have HKD := Lib.hid hK
  clear hI hK hlo hgd
  gi_wp2_with fail
  refine ⟨by simp, .inl ⟨_, _, rfl, run_takeDeferred HKD.out, ?_⟩⟩
  refine ⟨.slice ao 7 cap, ?_, _, rfl, HOW.out, HBW.out⟩
  simp [results, Tryz.results19, go_sem]
end Go.Proofs.YtfeficdndjiijaaGreatDoor


namespace Go.Proofs.YtfeficdndjiijaaGreatDoor
open Go.RowKit
set_option linter.unusedVariables false
set_option linter.unusedSimpArgs false

def massA (M : Nat → Int) : Array Value := #[.int .i64 (M 0), .int .i64 (M 1), .int .i64 (M 2)]
theorem massA_at {M : Nat → Int} {h : Nat} (hh : h < 3) : (massA M)[h]? = some (.int .i64 (M h)) := by
  match h, hh with
  | 0, _ => rfl
  | 1, _ => rfl
  | 2, _ => rfl
def putM (M : Nat → Int) (h : Nat) (v : Int) : Nat → Int := fun k => if k = h then v else M k
theorem massA_set {M : Nat → Int} {h : Nat} (hh : h < 3) (v : Int) : (massA M).setIfInBounds h (.int .i64 v) = massA (putM M h v) := by
  match h, hh with
  | 0, _ => rfl
  | 1, _ => rfl
  | 2, _ => rfl
def MassOk (m : Int) (M : Nat → Int) (Z : Nat → Nat → List Int) : Prop := ∀ h, h < 3 → 0 ≤ M h ∧ M h ≤ 36028797018963968 ∧ BndZ 6 m (M h) (Z (h + 1))
theorem MassOk.upd {m : Int} {M : Nat → Int} {Z : Nat → Nat → List Int} (H : MassOk m M Z) (h : Nat) {v : Int} {z : Nat → List Int} (h0 : 0 ≤ v) (h1 : v ≤ 36028797018963968) (hb : BndZ 6 m v z) : MassOk m (putM M h v) (upN Z (h + 1) z) := fun k hk => by
  unfold putM
  by_cases e : k = h
  · subst e
    rw [if_pos rfl, upN_same]
    exact ⟨h0, h1, hb⟩
  · rw [if_neg e, upN_other _ _ (by omega)]
    exact H k hk
theorem mass_put {w0 w : World} {base WB A bm MB : Nat} {r d m s : Int} {cs : Array Value} {n : Nat} {Z : Nat → Nat → List Int} {M : Nat → Int} (hw : WorldIs w base WB A bm r d m s cs n Z) (hm : Blk w MB 54 (massA M)) (hb : Below w0.heap.size w0 w) (hle : w0.heap.size ≤ MB) (hg : 4 < w0.heap.size) (h : Nat) (hh : h < 3) (v : Int) :
    WorldIs (w.setCell ⟨MB, h, none⟩ (.int .i64 v)) base WB A bm r d m s cs n Z ∧ Blk (w.setCell ⟨MB, h, none⟩ (.int .i64 v)) MB 54 (massA (putM M h v)) ∧ Below w0.heap.size w0 (w.setCell ⟨MB, h, none⟩ (.int .i64 v)) := by
  have gr := gr_setC (below_gr (Below.refl w.heap.size w) (row := some MB)) h (.int .i64 v)
  have ho := Onl.of_gr gr
  have hne := hw.ne hm (by decide)
  obtain ⟨S, L, X, Ar, G, C, h1⟩ := hw.ag
  refine ⟨⟨⟨S, L, X, Ar, G, C, h1.onl ho (fun k e => ?_)⟩, ?_, hw.c0, hw.c2, hw.c3, hw.c4, hw.c5⟩, ?_, ?_⟩
  · subst e
    exact ⟨noSt_of hm (by decide), hne.1, hne.2, by omega⟩
  · refine (ho.2.2.2.2 WB hw.wb.lt (fun e => ?_)).trans hw.wb
    subst e
    exact absurd (blk_one hw.wb hm) (by decide)
  · rw [← massA_set hh]
    exact Blk.set_ hm h _
  · exact hb.trans (Onl.to_below ho hb.size (fun k e => by omega))
theorem txt1 (h : Nat) : ((h + 1 : Nat) : Int) = (h : Int) + 1 := by omega
theorem fin_sub {base WB A bm : Nat} {r d m s : Int} {cs : Array Value} {Z : Nat → Nat → List Int} {M : Nat → Int} (hm : m ≠ 2) (hg : 4 < base) (H : MassOk m M Z) (h o : Nat) (hh : h < 3) (ho : o < 3) (hr : M h + M o ≤ 36028797018963968) :
    ∃ M' Z', M' = putM M h (M h + M o) ∧ LineOk base WB A bm r d m s cs 3 Z Z' (sB [115, 117, 98, 116, 114, 97, 99, 116, 32] ++ sB (Lib.itoa ((h : Int) + 1)) ++ sB [32] ++ sB (Lib.itoa ((o : Int) + 1))) ∧ MassOk m M' Z' := by
  obtain ⟨a0, a1, a2⟩ := H h hh
  obtain ⟨b0, b1, b2⟩ := H o ho
  have k := line_sub_ok (base := base) (WB := WB) (A := A) (bm := bm) (r := r) (d := d) (s := s) (cs := cs) (n := 3) hm hg (by omega) (h + 1) (o + 1) (by omega) (by omega) (by omega) (by omega) (M h) (M o) a2 b2 hr
  refine ⟨_, _, rfl, ?_, H.upd h (by omega) hr k.2⟩
  have := k.1
  unfold subT at this
  rw [txt1, txt1] at this
  exact this
theorem fin_merge {base WB A bm : Nat} {r d m s : Int} {cs : Array Value} {Z : Nat → Nat → List Int} {M : Nat → Int} (hg : 4 < base) (H : MassOk m M Z) (h o : Nat) (hh : h < 3) (ho : o < 3) (hr : M h + M o ≤ 36028797018963968) :
    ∃ M' Z', M' = putM M h (M h + M o) ∧ LineOk base WB A bm r d m s cs 3 Z Z' (sB [109, 101, 114, 103, 101, 32] ++ sB (Lib.itoa ((h : Int) + 1)) ++ sB [32] ++ sB (Lib.itoa ((o : Int) + 1))) ∧ MassOk m M' Z' := by
  obtain ⟨a0, a1, a2⟩ := H h hh
  obtain ⟨b0, b1, b2⟩ := H o ho
  have k := line_merge_ok (base := base) (WB := WB) (A := A) (bm := bm) (r := r) (d := d) (s := s) (cs := cs) (n := 3) hg (by omega) (h + 1) (o + 1) (by omega) (by omega) (by omega) (by omega) (M h) (M o) a2 b2 hr
  refine ⟨_, _, rfl, ?_, H.upd h (by omega) hr k.2⟩
  have := k.1
  unfold mergeT at this
  rw [txt1, txt1] at this
  exact this
theorem fin_add {base WB A bm : Nat} {r d m s : Int} {cs : Array Value} {Z : Nat → Nat → List Int} {M : Nat → Int} (s0 : 0 ≤ s) (s1 : s ≤ 18446744073709551615) (hrt : rightB 6 r d m = true) (hg : 4 < base) (H : MassOk m M Z) (h : Nat) (hh : h < 3) (key : Nat) (hk : key < 64) (x : Int) (hx : m = 2 → 0 ≤ x) (hr : M h + absI x ≤ 36028797018963968) :
    ∃ M' Z', M' = putM M h (M h + absI x) ∧ LineOk base WB A bm r d m s cs 3 Z Z' (sB [97, 100, 100, 32] ++ sB (Lib.itoa ((h : Int) + 1)) ++ sB [32] ++ sB (Lib.itoa (key : Int)) ++ sB [32] ++ sB (Lib.itoa x)) ∧ MassOk m M' Z' := by
  obtain ⟨a0, a1, a2⟩ := H h hh
  have hab := absI_bd x
  have k := line_add_ok (base := base) (WB := WB) (A := A) (bm := bm) (r := r) (d := d) (s := s) (cs := cs) (n := 3) hg (by omega) s0 s1 hrt (h + 1) (by omega) (by omega) key hk x (M h) a2 a0 hx hr
  refine ⟨_, _, rfl, ?_, H.upd h (by omega) hr k.2⟩
  have := k.1
  unfold addT at this
  rw [txt1] at this
  exact this
theorem mod_room (D R : Int) (hR : 0 ≤ R) : -R ≤ D.tmod (R + 1) ∧ D.tmod (R + 1) ≤ R := by
  rcases Int.le_total 0 D with h | h
  · rw [Int.tmod_eq_emod_of_nonneg h]
    have h1 := Int.emod_nonneg D (show R + 1 ≠ 0 by omega)
    have h2 := Int.emod_lt_of_pos D (show 0 < R + 1 by omega)
    omega
  · have e : D.tmod (R + 1) = -((-D).tmod (R + 1)) := by rw [Int.neg_tmod]; omega
    rw [e, Int.tmod_eq_emod_of_nonneg (by omega)]
    have h1 := Int.emod_nonneg (-D) (show R + 1 ≠ 0 by omega)
    have h2 := Int.emod_lt_of_pos (-D) (show 0 < R + 1 by omega)
    omega
theorem absI_max (x : Int) : max x (-x) = absI x := by unfold absI; split <;> omega
theorem absI_abs (x : Int) : absI (absI x) = absI x := by have := (absI_bd x).1; generalize absI x = y at *; unfold absI; split <;> omega
theorem line_range_det {base WB A bm : Nat} {r d m s : Int} {cs : Array Value} {n : Nat} {Z : Nat → Nat → List Int} (hn : n ≤ 32) (s0 : 0 ≤ s) (s1 : s ≤ 18446744073709551615) (hr : rightB 6 r d m = true) (i : Nat) (h1 : 1 ≤ i) (h2 : i ≤ n) (M : Int) (hb : BndZ 6 m M (Z i)) (hM : 0 ≤ M) (hs : M ≤ 36028797018963968) :
    ∃ x, In64 x ∧ ∀ W, WorldIs W base WB A bm r d m s cs n Z → Calls Tryz.prog 8 #[.pointer (some ⟨A, 0, none⟩), .string (rangeT i)] W fun e W' => e = .returned (.tuple #[.string (sB ([110, 117, 109, 98, 101, 114, 32] ++ Lib.itoa x)), .bool true]) ∧ WorldIs W' base WB A bm r d m s cs n Z ∧ Below W.heap.size W W' := by
  have hpl : ZsB m M (ptsL ((6 : Nat) : Int) r d m s (Z i) rgL) := fun x hx => by
    unfold ptsL at hx
    obtain ⟨p, hp, rfl⟩ := List.mem_map.1 hx
    exact lvPt_small (hb p.1 (by have := (rgL_in p hp).1; simpa using this)) hM
  have hln : (ptsL ((6 : Nat) : Int) r d m s (Z i) rgL).length = rgL.length := by simp [ptsL]
  have hsum := sumL_small _ hpl
  rw [hln] at hsum
  have hl20 := rgL_len
  have hmm : M * (rgL.length : Int) ≤ M * 20 := Int.mul_le_mul_of_nonneg_left (by omega) hM
  have hx64 : In64 (sumL (ptsL ((6 : Nat) : Int) r d m s (Z i) rgL)) := by
    have h1 := hsum.1
    have h2 := hsum.2
    unfold In64
    omega
  refine ⟨_, hx64, fun W hW => ?_⟩
  obtain ⟨S, L, X, Ar, G, C, ha⟩ := hW.ag
  rw [rangeT_eq]
  refine (line_range W base A bm n 6 r d m s S L X Ar G C Z ha hn s0 s1 i h1 h2 1 62 (by decide) (by decide) (by decide) (by decide) (by decide) (fun p hp => ?_) (fun x hx => ?_) _ rfl ?_ ?_).mono ?_
  · have h3 := rgL_in p hp
    have h60 : 2 ^ (6 - p.1) ≤ 2 ^ 6 := Nat.pow_le_pow_right (by decide) (by omega)
    refine ⟨h3.1, by have : (2 : Nat) ^ 6 = 64 := by decide
                     omega, ?_⟩
    have hr' : rightB ((6 : Nat) : Int) r d m = true := hr
    rw [keysI_yes hr' (by omega) (by omega), show (((6 : Nat) : Int) - (p.1 : Int)).toNat = 6 - p.1 by omega]
    have e : ((2 ^ (6 - p.1) : Nat) : Int) = (2 : Int) ^ (6 - p.1) := by simp
    rw [← e]
    omega
  · exact (hpl x hx).in64 (by omega)
  · have := hsum.1
    unfold rgL at this hmm
    omega
  · have := hsum.2
    unfold rgL at this hmm
    omega
  · rintro e W' ⟨t, rfl, rfl, ha', hb'⟩
    exact ⟨rfl, hW.kept hb', hb'⟩
end Go.Proofs.YtfeficdndjiijaaGreatDoor


namespace Go.Proofs.YtfeficdndjiijaaGreatDoor
open Go.RowKit
set_option linter.unusedVariables false
set_option linter.unusedSimpArgs false

set_option maxRecDepth 100000 in
set_option maxHeartbeats 8000000 in
theorem works_yes (w : World) (ht : Tab w) : Calls Tryz.prog 6 #[] w fun e w' => e = .returned (.bool true) ∧ Below w.heap.size w w' := by
  have PR := run_small w ht
  have hlit : sB (joinN wkLine) = ⟨(joinN wkLine).toArray⟩ := rfl
  rw [hlit] at PR
  simp only [wkLine, joinN, List.cons_append, List.nil_append, List.append_assoc] at PR
  have PR := Lib.hid PR
  clear ht hlit
  go_enter Tryz.func6, Tryz.ntmps6
  go_wp2_with fail
  refine PR.out.mono ?_
  rintro e w2 ⟨v, rfl, hown, hb⟩
  have HB := Lib.hid hb
  obtain ⟨g, cap, hv, -, -, -, -, hc⟩ := own_cells hown (by decide)
  subst hv
  have c3 := hc 3 (.string ⟨#[110, 117, 109, 98, 101, 114, 32, 50]⟩) rfl
  have c4 := hc 4 (.string ⟨#[107, 101, 121, 32, 51]⟩) rfl
  have c5 := hc 5 (.string ⟨#[108, 105, 115, 116, 32, 50, 58, 48, 58, 55, 32, 49, 58, 49, 58, 53, 32, 48, 58, 51, 58, 53]⟩) rfl
  have c6 := hc 6 (.string ⟨#[119, 105, 100, 101, 32, 50, 57]⟩) rfl
  clear hown hb hc PR
  go_wp2_with fail
  go_ret
  exact ⟨rfl, HB.out⟩
end Go.Proofs.YtfeficdndjiijaaGreatDoor


namespace Go.Proofs.YtfeficdndjiijaaGreatDoor
open Go.RowKit
set_option linter.unusedVariables false
set_option linter.unusedSimpArgs false

set_option maxRecDepth 100000 in
set_option maxHeartbeats 8000000 in
theorem TopFits_walk0 (xb xr xd xm : Int) (s : Int) (s0 : 0 ≤ s) (s1 : s ≤ 18446744073709551615) (l : Value) (n : Nat) (kn hs os : Nat → Int) (ks : Nat → Nat) (ds : Nat → Int) (w : World) (ht : Tab w) (ho : OpsAt w l n kn hs os ks ds) :
  Calls Tryz.prog 5 #[.agg #[.int .i64 xb, .int .i64 xr, .int .i64 xd, .int .i64 xm, .int .u64 s], l] w fun e w' => e = .returned (.bool true) ∧ Below w.heap.size w w' := by
 have HT := Lib.hid ht
 have PW := Lib.hid (fun w ht => works_yes w ht)
 have hmd : IntKind.i64.wrap (1 + (bits BinOp.and IntKind.i64 xm 65535).tmod 3) = 1 + xm % 65536 % 3 := by
  rw [and16, Int.tmod_eq_emod_of_nonneg (by omega)]
  simp only [IntKind.wrap, IntKind.bits, IntKind.signed]
  simp
  omega
 obtain ⟨m, hm⟩ : ∃ m, m = 1 + xm % 65536 % 3 := ⟨_, rfl⟩
 rw [← hm] at hmd
 have m1 : 1 ≤ m := by omega
 have m3 : m ≤ 3 := by omega
 have PM := Lib.hid (fun w ht => made_any xb xr xd xm s s0 s1 m m1 m3 w ht)
 have HO := Lib.hid ho
 obtain ⟨ao, cap, rfl, hmx, hin, hce⟩ := ho
 have HIN := Lib.hid (And.intro hmx hin)
 have HM := Lib.hid (And.intro m1 m3)
 clear ht hm hmx hin hce
 go_enter Tryz.func5, Tryz.ntmps5
 go_wp2_with fail
 have HB0 := Lib.hid (below_alloc1 w (.cells #[.int .i64 xb, .int .i64 xr, .int .i64 xd, .int .i64 xm, .int .u64 s] 24))
 have HC0 := Lib.hid (Blk.new w 24 #[.int .i64 xb, .int .i64 xr, .int .i64 xd, .int .i64 xm, .int .u64 s])
 generalize (w.alloc (.cells #[.int .i64 xb, .int .i64 xr, .int .i64 xd, .int .i64 xm, .int .u64 s] 24)) = w0 at *
 with_reducible refine (PW.out _ (HT.out.kept HB0.out)).mono ?_
 rintro e w1 ⟨rfl, hb1⟩
 have HB1 := Lib.hid (btr HB0.out hb1)
 have HC1 := Lib.hid (HC0.out.kept hb1)
 have q0 := HC1.out.cell 0
 have q1 := HC1.out.cell 1
 have q2 := HC1.out.cell 2
 have q3 := HC1.out.cell 3
 have q4 := HC1.out.cell 4
 simp at q0 q1 q2 q3 q4
 clear hb1 PW HB0 HC0
 go_wp2_with fail
 try rw [hmd]
 with_reducible refine (PM.out _ (HT.out.kept HB1.out)).mono ?_
 rintro e w2 ⟨base, WB, A, bm, cs, rfl, hwi, hbs, hWB, hb2⟩
 have HWI := Lib.hid hwi
 have HB2 := Lib.hid (btr HB1.out hb2)
 clear hwi hb2 PM q0 q1 q2 q3 q4
 go_wp2_with fail
 have hnew := Blk.new w2 54 #[.int .i64 0, .int .i64 0, .int .i64 0]
 have hba := below_alloc1 w2 (.cells #[.int .i64 0, .int .i64 0, .int .i64 0] 54)
 have HMA := Lib.hid hnew
 have HB3 := Lib.hid (btr HB2.out hba)
 have HW3 := Lib.hid (HWI.out.kept hba)
 have HSZ : Hid (w.heap.size ≤ base ∧ w.heap.size ≤ WB ∧ w.heap.size ≤ w2.heap.size) := Lib.hid ⟨Nat.le_trans HB1.out.size hbs, Nat.le_trans HB1.out.size hWB, HB2.out.size⟩
 have HO3 := Lib.hid (HO.out.kept HB3.out)
 have HT3 := Lib.hid (HT.out.kept HB3.out)
 have HGT : Hid (4 < base) := Lib.hid (Nat.lt_of_lt_of_le HT.out.lt HSZ.out.1)
 generalize (w2.alloc (.cells #[.int .i64 0, .int .i64 0, .int .i64 0] 54)) = w3 at *
 have br := anyI_bd xr 4 (by decide)
 have bd := anyI_bd xd 9 (by decide)
 generalize anyI xr 4 = r at *
 generalize anyI xd 9 = d at *
 have HRT : Hid (rightB 6 r d m = true) := Lib.hid (right_mk (by omega))
 clear hnew hba HWI HB2 hbs hWB
 go_loopw [8] (fun i wr => ∃ (k : Nat) (M : Nat → Int) (Z : Nat → Nat → List Int), k ≤ n ∧ i = .int .i64 (k : Int) ∧ WorldIs wr base WB A bm r d m s cs 3 Z ∧ Blk wr w2.heap.size 54 (massA M) ∧ MassOk m M Z ∧ Below w.heap.size w wr) (fun i _ => n - (intOf i).toNat)
 case atStart => exact ⟨0, fun _ => 0, _, by omega, rfl, HW3.out, HMA.out, fun h hh => ⟨Int.le_refl 0, show (0 : Int) ≤ 36028797018963968 by decide, zero_small⟩, HB3.out⟩
 case round =>
  obtain ⟨k, M, Z, hk, rfl, hwi, hbm, hmo, hbel⟩ := hrel
  have HWI := Lib.hid hwi
  have HMB := Lib.hid hbm
  have HMO := Lib.hid hmo
  have HBL := Lib.hid hbel
  clear hwi hbm hmo hbel
  have hmaxl := HIN.out.1
  unfold maxLen at hmaxl
  by_cases hlt : k < n
  ·by_cases h20 : k < 20
   ·have hox := HO.out.kept HBL.out
    obtain ⟨ao', cap', e1, -, hin, hce⟩ := hox
    cases e1
    obtain ⟨ob, off, rfl, hob, hcc⟩ := hce (by omega)
    obtain ⟨c0, c1, c2, c3, c4⟩ := hcc k hlt
    obtain ⟨i0, i1, i2, i3, i4⟩ := hin k hlt
    clear hce hcc
    have P1 := Lib.hid (fun w => handle_any (hs k) i1 w)
    have P2 := Lib.hid (fun w => handle_any (os k) i2 w)
    have g0 : ¬ ((k : Int) < 0) := by omega
    go_wp2_with fail
    with_reducible refine (P1.out _).mono ?_
    rintro e wq ⟨h, hh, rfl, rfl⟩
    go_wp2_with fail
    with_reducible refine (P2.out _).mono ?_
    rintro e wq ⟨o, ho', rfl, rfl⟩
    have ch : wr.cell? ⟨w2.heap.size, h, none⟩ = some (.int .i64 (M h)) := (HMB.out.cell h).trans (massA_at hh)
    have co : wr.cell? ⟨w2.heap.size, o, none⟩ = some (.int .i64 (M o)) := (HMB.out.cell o).trans (massA_at ho')
    have mh := HMO.out h hh
    have mo := HMO.out o ho'
    have mh0 := mh.1
    have mh1 := mh.2.1
    have mo0 := mo.1
    have mo1 := mo.2.1
    have h3 : (h : Int) < 3 := by omega
    have o3 : (o : Int) < 3 := by omega
    have g1 : ¬ ((h : Int) < 0) := by omega
    have g2 : ¬ ((o : Int) < 0) := by omega
    clear P1 P2 mh mo
    have HIX : Hid (In64 (ds k) ∧ ks k < 18446744073709551616) := Lib.hid ⟨i3, i4⟩
    by_cases hcon : (kn k = 3 ∨ kn k = 4) ∧ 36028797018963968 - M h < M o
    ·
     have hbig := hcon.2
     rcases hcon.1 with e3 | e4
     ·have e3b : (kn k == 3) = true := by simp [e3]
      go_wp2_with fail
      go_roundw
      case rel => exact ⟨k + 1, M, Z, by omega, by go_num, HWI.out, HMB.out, HMO.out, HBL.out⟩
      case measure => simp [intOf]; omega
     ·have e3b : (kn k == 3) = false := by simp [e4]
      have e4b : (kn k == 4) = true := by simp [e4]
      go_wp2_with fail
      go_roundw
      case rel => exact ⟨k + 1, M, Z, by omega, by go_num, HWI.out, HMB.out, HMO.out, HBL.out⟩
      case measure => simp [intOf]; omega
    ·obtain ⟨bq, hbq⟩ : ∃ bq : Bool, bq = decide (kn k = 3 ∨ kn k = 4) := ⟨_, rfl⟩
     have HBQ := Lib.hid hbq
     have HCON := Lib.hid hcon
     clear hbq hcon
     go_upto_region 13 with fail
     go_cut [70] (fun v wx => v = .bool bq ∧ wx = wr)
     case first =>
      by_cases e3 : kn k = 3
      ·have e3b : (kn k == 3) = true := by simp [e3]
       have eb : bq = true := by rw [HBQ.out]; simp [e3]
       go_wp2_with fail
       go_meet
       exact ⟨by rw [eb], rfl⟩
      ·have e3b : (kn k == 3) = false := by simp [e3]
       by_cases e4 : kn k = 4
       ·have e4b : (kn k == 4) = true := by simp [e4]
        have eb : bq = true := by rw [HBQ.out]; simp [e4]
        go_wp2_with fail
        go_meet
        exact ⟨by rw [eb], rfl⟩
       ·have e4b : (kn k == 4) = false := by simp [e4]
        have eb : bq = false := by rw [HBQ.out]; simp [e3, e4]
        go_wp2_with fail
        go_meet
        exact ⟨by rw [eb], rfl⟩
     case rest =>
     have hcv := hcut.1
     have hcw := hcut.2.symm
     clear hcut
     subst hcv
     subst hcw
     have cm := (HWI.out.wb.cell 4).trans HWI.out.c4
     go_upto_if 70 with fail
     go_cut [11] (fun v wx => ∃ LN M' Z', v = .string LN ∧ LineOk base WB A bm r d m s cs 3 Z Z' LN ∧ WorldIs wx base WB A bm r d m s cs 3 Z ∧ Blk wx w2.heap.size 54 (massA M') ∧ MassOk m M' Z' ∧ Below w.heap.size w wx)
     case first =>
      have hh64 : In64 ((h : Int) + 1) := by unfold In64; omega
      have ho64 : In64 ((o : Int) + 1) := by unfold In64; omega
      have zh := itoa_len ((h : Int) + 1) hh64.1 hh64.2
      have zo := itoa_len ((o : Int) + 1) ho64.1 ho64.2
      have P3 := Lib.hid (fun w => gtext ((h : Int) + 1) hh64 w)
      have P4 := Lib.hid (fun w => gtext ((o : Int) + 1) ho64 w)
      have HZ1 := Lib.hid zh
      have HZ2 := Lib.hid zo
      clear hh64 ho64 zh zo
      by_cases hb : bq = true
      ·subst hb
       have hk34 := of_decide_eq_true HBQ.out.symm
       have hroom : ¬ (36028797018963968 - M h < M o) := fun hx => HCON.out ⟨hk34, hx⟩
       by_cases hsb : kn k = 4 ∧ m ≠ 2
       ·
        have e4b : (kn k == 4) = true := by simp [hsb.1]
        have emb : (m == 2) = false := by simp [hsb.2]
        have emc : (m != 2) = true := by simp [hsb.2]
        have HSB := Lib.hid hsb
        have hfin := fin_sub (base := base) (WB := WB) (A := A) (bm := bm) (r := r) (d := d) (s := s) (cs := cs) hsb.2 HGT.out HMO.out h o hh ho' (by omega)
        clear hsb
        obtain ⟨M', Z', hM', hln, hok⟩ := hfin
        have l0 : sB [115, 117, 98, 116, 114, 97, 99, 116, 32] = ⟨#[115, 117, 98, 116, 114, 97, 99, 116, 32]⟩ := rfl
        have l1 : sB [32] = ⟨#[32]⟩ := rfl
        rw [l0, l1] at hln
        have zh := HZ1.out
        have zo := HZ2.out
        generalize sB (Lib.itoa ((h : Int) + 1)) = TH at *
        generalize sB (Lib.itoa ((o : Int) + 1)) = TO at *
        have yz1 : ¬ 9223372036854775807 < 9 + TH.size := by omega
        have yz2 : ¬ 9223372036854775807 < 9 + TH.size + 1 := by omega
        have yz3 : ¬ 9223372036854775807 < 9 + TH.size + 1 + TO.size := by omega
        have HLN := Lib.hid hln
        have HOK := Lib.hid hok
        have HMM := Lib.hid hM'
        clear l0 l1 hln hok hM' zh zo
        go_wp2_with fail
        go_still_tail 9, (by kernel_rfl)
        change wpList _ _ _ _ _ (wr.drewN 1)
        have HWD := Lib.hid (HWI.out.kept (below_drewN (Below.refl _ _) 1))
        have HMD := Lib.hid (HMB.out.kept (below_drewN (Below.refl _ _) 1))
        have HBD := Lib.hid (below_drewN HBL.out 1)
        generalize wr.drewN 1 = wd at *
        have chd : wd.cell? ⟨w2.heap.size, h, none⟩ = some (.int .i64 (M h)) := (HMD.out.cell h).trans (massA_at hh)
        have cfz := HMD.out.frozen h
        clear ch co
        go_wp2_with fail
        have hput := mass_put HWD.out HMD.out HBD.out HSZ.out.2.2 HT.out.lt h hh (M h + M o)
        have HPU := Lib.hid hput
        clear hput chd cfz
        generalize (wd.setCell ⟨w2.heap.size, h, none⟩ (.int .i64 (M h + M o))) = we at *
        with_reducible refine (P3.out _).mono ?_
        rintro e wf ⟨rfl, hbf⟩
        have HWF := Lib.hid (HPU.out.1.kept hbf)
        have HMF := Lib.hid (HPU.out.2.1.kept hbf)
        have HBF := Lib.hid (btr HPU.out.2.2 hbf)
        clear hbf
        go_wp2_with fail
        with_reducible refine (P4.out _).mono ?_
        rintro e wg ⟨rfl, hbg⟩
        have HWG := Lib.hid (HWF.out.kept hbg)
        have HMG := Lib.hid (HMF.out.kept hbg)
        have HBG := Lib.hid (btr HBF.out hbg)
        clear hbg
        go_wp2_with fail
        go_meet
        have hok2 := HOK.out
        rw [HMM.out] at hok2
        exact ⟨_, _, Z', rfl, HLN.out, HWG.out, HMG.out, hok2, HBG.out⟩
       ·by_cases hk4 : kn k = 4
        ·
         have e4b : (kn k == 4) = true := by simp [hk4]
         have hm2 : m = 2 := Classical.byContradiction (fun hx => hsb ⟨hk4, hx⟩)
         have emb : (m == 2) = true := by simp [hm2]
         have emc : (m != 2) = false := by simp [hm2]
         have HM2 := Lib.hid hm2
         clear hm2
         have hfin := fin_merge (base := base) (WB := WB) (A := A) (bm := bm) (r := r) (d := d) (s := s) (cs := cs) HGT.out HMO.out h o hh ho' (by omega)
         clear hsb
         obtain ⟨M', Z', hM', hln, hok⟩ := hfin
         have l0 : sB [109, 101, 114, 103, 101, 32] = ⟨#[109, 101, 114, 103, 101, 32]⟩ := rfl
         have l1 : sB [32] = ⟨#[32]⟩ := rfl
         rw [l0, l1] at hln
         have zh := HZ1.out
         have zo := HZ2.out
         generalize sB (Lib.itoa ((h : Int) + 1)) = TH at *
         generalize sB (Lib.itoa ((o : Int) + 1)) = TO at *
         have yz1 : ¬ 9223372036854775807 < 6 + TH.size := by omega
         have yz2 : ¬ 9223372036854775807 < 6 + TH.size + 1 := by omega
         have yz3 : ¬ 9223372036854775807 < 6 + TH.size + 1 + TO.size := by omega
         have HLN := Lib.hid hln
         have HOK := Lib.hid hok
         have HMM := Lib.hid hM'
         clear l0 l1 hln hok hM' zh zo
         go_wp2_with fail
         go_still_tail 9, (by kernel_rfl)
         change wpList _ _ _ _ _ (wr.drewN 1)
         have HWD := Lib.hid (HWI.out.kept (below_drewN (Below.refl _ _) 1))
         have HMD := Lib.hid (HMB.out.kept (below_drewN (Below.refl _ _) 1))
         have HBD := Lib.hid (below_drewN HBL.out 1)
         generalize wr.drewN 1 = wd at *
         have chd : wd.cell? ⟨w2.heap.size, h, none⟩ = some (.int .i64 (M h)) := (HMD.out.cell h).trans (massA_at hh)
         have cfz := HMD.out.frozen h
         clear ch co
         go_wp2_with fail
         have hput := mass_put HWD.out HMD.out HBD.out HSZ.out.2.2 HT.out.lt h hh (M h + M o)
         have HPU := Lib.hid hput
         clear hput chd cfz
         generalize (wd.setCell ⟨w2.heap.size, h, none⟩ (.int .i64 (M h + M o))) = we at *
         with_reducible refine (P3.out _).mono ?_
         rintro e wf ⟨rfl, hbf⟩
         have HWF := Lib.hid (HPU.out.1.kept hbf)
         have HMF := Lib.hid (HPU.out.2.1.kept hbf)
         have HBF := Lib.hid (btr HPU.out.2.2 hbf)
         clear hbf
         go_wp2_with fail
         with_reducible refine (P4.out _).mono ?_
         rintro e wg ⟨rfl, hbg⟩
         have HWG := Lib.hid (HWF.out.kept hbg)
         have HMG := Lib.hid (HMF.out.kept hbg)
         have HBG := Lib.hid (btr HBF.out hbg)
         clear hbg
         go_wp2_with fail
         go_meet
         have hok2 := HOK.out
         rw [HMM.out] at hok2
         exact ⟨_, _, Z', rfl, HLN.out, HWG.out, HMG.out, hok2, HBG.out⟩
        ·
         have e4b : (kn k == 4) = false := by simp [hk4]
         have hfin := fin_merge (base := base) (WB := WB) (A := A) (bm := bm) (r := r) (d := d) (s := s) (cs := cs) HGT.out HMO.out h o hh ho' (by omega)
         clear hsb
         obtain ⟨M', Z', hM', hln, hok⟩ := hfin
         have l0 : sB [109, 101, 114, 103, 101, 32] = ⟨#[109, 101, 114, 103, 101, 32]⟩ := rfl
         have l1 : sB [32] = ⟨#[32]⟩ := rfl
         rw [l0, l1] at hln
         have zh := HZ1.out
         have zo := HZ2.out
         generalize sB (Lib.itoa ((h : Int) + 1)) = TH at *
         generalize sB (Lib.itoa ((o : Int) + 1)) = TO at *
         have yz1 : ¬ 9223372036854775807 < 6 + TH.size := by omega
         have yz2 : ¬ 9223372036854775807 < 6 + TH.size + 1 := by omega
         have yz3 : ¬ 9223372036854775807 < 6 + TH.size + 1 + TO.size := by omega
         have HLN := Lib.hid hln
         have HOK := Lib.hid hok
         have HMM := Lib.hid hM'
         clear l0 l1 hln hok hM' zh zo
         go_wp2_with fail
         go_still_tail 9, (by kernel_rfl)
         change wpList _ _ _ _ _ (wr.drewN 1)
         have HWD := Lib.hid (HWI.out.kept (below_drewN (Below.refl _ _) 1))
         have HMD := Lib.hid (HMB.out.kept (below_drewN (Below.refl _ _) 1))
         have HBD := Lib.hid (below_drewN HBL.out 1)
         generalize wr.drewN 1 = wd at *
         have chd : wd.cell? ⟨w2.heap.size, h, none⟩ = some (.int .i64 (M h)) := (HMD.out.cell h).trans (massA_at hh)
         have cfz := HMD.out.frozen h
         clear ch co
         go_wp2_with fail
         have hput := mass_put HWD.out HMD.out HBD.out HSZ.out.2.2 HT.out.lt h hh (M h + M o)
         have HPU := Lib.hid hput
         clear hput chd cfz
         generalize (wd.setCell ⟨w2.heap.size, h, none⟩ (.int .i64 (M h + M o))) = we at *
         with_reducible refine (P3.out _).mono ?_
         rintro e wf ⟨rfl, hbf⟩
         have HWF := Lib.hid (HPU.out.1.kept hbf)
         have HMF := Lib.hid (HPU.out.2.1.kept hbf)
         have HBF := Lib.hid (btr HPU.out.2.2 hbf)
         clear hbf
         go_wp2_with fail
         with_reducible refine (P4.out _).mono ?_
         rintro e wg ⟨rfl, hbg⟩
         have HWG := Lib.hid (HWF.out.kept hbg)
         have HMG := Lib.hid (HMF.out.kept hbg)
         have HBG := Lib.hid (btr HBF.out hbg)
         clear hbg
         go_wp2_with fail
         go_meet
         have hok2 := HOK.out
         rw [HMM.out] at hok2
         exact ⟨_, _, Z', rfl, HLN.out, HWG.out, HMG.out, hok2, HBG.out⟩
      ·
       have eb : bq = false := by simpa using hb
       subst eb
       have hR0 : ¬ (36028797018963968 - M h + 1 = 0) := by omega
       have hmr := mod_room (ds k) (36028797018963968 - M h) (by omega)
       have HMR := Lib.hid hmr
       clear hmr hb
       go_upto_region 21 with fail
       have hmr := HMR.out
       clear HMR
       generalize (ds k).tmod (36028797018963968 - M h + 1) = D at *
       have hn1 : IntKind.i64.wrap (-D) = -D := by
        simp only [IntKind.wrap, IntKind.bits, IntKind.signed]
        simp
        omega
       have hn2 : wrap64 (-D) = -D := by unfold wrap64; omega
       have hle : max D (-D) ≤ 36028797018963968 - M h := by omega
       have hge : 0 ≤ max D (-D) := by omega
       have cfz := HMB.out.frozen h
       have HNN := Lib.hid (And.intro hn1 hn2)
       go_upto_region 22 with fail
       have hput := mass_put HWI.out HMB.out HBL.out HSZ.out.2.2 HT.out.lt h hh (M h + max D (-D))
       have HPU := Lib.hid hput
       clear hput cfz cm ch co
       generalize (wr.setCell ⟨w2.heap.size, h, none⟩ (.int .i64 (M h + max D (-D)))) = we at *
       have cm := (HPU.out.1.wb.cell 4).trans HPU.out.1.c4
       have hbo := HO.out.kept HPU.out.2.2
       obtain ⟨ao', cap', e1, -, -, hce⟩ := hbo
       cases e1
       obtain ⟨ob', off', e2, hob', hcc⟩ := hce (by omega)
       cases e2
       obtain ⟨-, -, -, ck, -⟩ := hcc k hlt
       clear hce hcc
       have HCK := Lib.hid (And.intro hob' ck)
       clear hob' ck c0 c1 c2 c3 c4
       have hk64 : In64 (((ks k : Nat) : Int) % 64) := by unfold In64; omega
       have PK := Lib.hid (fun w => gtext (((ks k : Nat) : Int) % 64) hk64 w)
       clear hk64
       by_cases hm2 : m = 2
       ·have emb : (m == 2) = true := by simp [hm2]
        have emc : (m != 2) = false := by simp [hm2]
        have HM2 := Lib.hid hm2
        clear hm2
        go_upto_region 24 with fail
        have hx64 : In64 (max D (-D)) := by unfold In64; omega
        have hax : absI (max D (-D)) = max D (-D) := by rw [absI_max, absI_abs]
        have hfin := fin_add (base := base) (WB := WB) (A := A) (bm := bm) (r := r) (d := d) (s := s) (cs := cs) s0 s1 HRT.out HGT.out HMO.out h hh (ks k % 64) (by omega) (max D (-D)) (fun e => by first | omega | exact absurd e HM2.out) (by rw [hax]; omega)
        rw [hax, show ((ks k % 64 : Nat) : Int) = ((ks k : Nat) : Int) % 64 by omega] at hfin
        obtain ⟨M', Z', hM', hln, hok⟩ := hfin
        have PX := Lib.hid (fun w => gtext (max D (-D)) hx64 w)
        have zx := itoa_len (max D (-D)) hx64.1 hx64.2
        have zk := itoa_len (((ks k : Nat) : Int) % 64) (by omega) (by omega)
        have zh := HZ1.out
        have l0 : sB [97, 100, 100, 32] = ⟨#[97, 100, 100, 32]⟩ := rfl
        have l1 : sB [32] = ⟨#[32]⟩ := rfl
        rw [l0, l1] at hln
        generalize sB (Lib.itoa ((h : Int) + 1)) = TH at *
        generalize sB (Lib.itoa (((ks k : Nat) : Int) % 64)) = TK at *
        generalize sB (Lib.itoa (max D (-D))) = TX at *
        have yz1 : ¬ 9223372036854775807 < 4 + TH.size := by omega
        have yz2 : ¬ 9223372036854775807 < 4 + TH.size + 1 := by omega
        have yz3 : ¬ 9223372036854775807 < 4 + TH.size + 1 + TK.size := by omega
        have yz4 : ¬ 9223372036854775807 < 4 + TH.size + 1 + TK.size + 1 := by omega
        have yz5 : ¬ 9223372036854775807 < 4 + TH.size + 1 + TK.size + 1 + TX.size := by omega
        have HLN := Lib.hid hln
        have HOK := Lib.hid hok
        have HMM := Lib.hid hM'
        have HAX := Lib.hid hax
        clear l0 l1 hln hok hM' zh zk zx hx64 hax
        have HCL : Hid (ob < w.heap.size) := Lib.hid (by have h1 := HO.out; obtain ⟨a1, a2, e1, -, -, h2⟩ := h1; cases e1; obtain ⟨a3, a4, e2, h3, -⟩ := h2 (by omega); cases e2; exact h3)
        have hw1 : IntKind.i64.wrap ((h : Int) + 1) = (h : Int) + 1 := by
         simp only [IntKind.wrap, IntKind.bits, IntKind.signed]
         simp
         omega
        have kt1 : ((ks k : Nat) : Int).tmod 64 = ((ks k : Nat) : Int) % 64 := by rw [Int.tmod_eq_emod_of_nonneg (by omega)]
        have kt2 : IntKind.i64.wrap (((ks k : Nat) : Int) % 64) = ((ks k : Nat) : Int) % 64 := by
         simp only [IntKind.wrap, IntKind.bits, IntKind.signed]
         simp
         omega
        refine wp_region_held_drew (S := fun w' => WorldIs w' base WB A bm r d m s cs 3 Z ∧ Blk w' w2.heap.size 54 (massA (putM M h (M h + max D (-D)))) ∧ Below w.heap.size w w' ∧ w'.cell? ⟨ob, off + k * 5 + 3, none⟩ = some (.int .u64 (ks k : Int))) (by kernel_rfl) (by exact ⟨HPU.out.1.kept (below_drewN (Below.refl _ _) 1), HPU.out.2.1.kept (below_drewN (Below.refl _ _) 1), below_drewN HPU.out.2.2 1, HCK.out.2⟩) (fun hHeld => ?_)
        refine tkH (i := 0) (v := ?_) rfl (by kernel_rfl) (fun _ _ _ h => h) (Or.inl ⟨by rfl, ?_⟩) (by assumption) ?_
        rotate_left
        ·intro w hSw
         try dsimp only at hSw
         go_simp
         try with_reducible rfl
        simp only [Act.put, z1, z2, z3, z4, z5, z6]
        refine tkH (i := 1) (v := ?_) rfl (by kernel_rfl) (fun _ _ _ h => h) (Or.inl ⟨by rfl, ?_⟩) (by assumption) ?_
        rotate_left
        ·intro w hSw
         try dsimp only at hSw
         go_simp
         try with_reducible rfl
        simp only [Act.put, z1, z2, z3, z4, z5, z6]
        refine tkH (i := 5) (v := ?_) rfl (by kernel_rfl) (fun _ _ _ h => h) (Or.inl ⟨by rfl, ?_⟩) (by assumption) ?_
        rotate_left
        ·intro w hSw
         try dsimp only at hSw
         go_simp
         try with_reducible rfl
        simp only [Act.put, z1, z2, z3, z4, z5, z6]
        refine tkH (i := 6) (v := ?_) rfl (by kernel_rfl) (fun _ _ _ h => h) (Or.inl ⟨by rfl, ?_⟩) (by assumption) ?_
        rotate_left
        ·intro w hSw
         try dsimp only at hSw
         go_simp
         try with_reducible rfl
        simp only [Act.put, z1, z2, z3, z4, z5, z6]
        refine tkH (i := 7) (v := ?_) rfl (by kernel_rfl) (fun _ _ _ h => h) (Or.inl ⟨by rfl, ?_⟩) (by assumption) ?_
        rotate_left
        ·intro w hSw
         try dsimp only at hSw
         go_simp
         try with_reducible rfl
        simp only [Act.put, z1, z2, z3, z4, z5, z6]
        refine tkH (i := 8) (v := ?_) rfl (by kernel_rfl) (fun _ _ _ h => h) (Or.inl ⟨by rfl, ?_⟩) (by assumption) ?_
        rotate_left
        ·intro w hSw
         try dsimp only at hSw
         go_simp
         try with_reducible rfl
        simp only [Act.put, z1, z2, z3, z4, z5, z6]
        refine tkH (i := 9) (v := ?_) rfl (by kernel_rfl) (fun _ _ _ h => h) (Or.inl ⟨by rfl, ?_⟩) (by assumption) ?_
        rotate_left
        ·intro w hSw
         have q3 := hSw.2.2.2
         go_simp
         try with_reducible rfl
        simp only [Act.put, z1, z2, z3, z4, z5, z6]
        refine tkH (i := 10) (v := ?_) rfl (by kernel_rfl) (fun _ _ _ h => h) (Or.inl ⟨by rfl, ?_⟩) (by assumption) ?_
        rotate_left
        ·intro w hSw
         try dsimp only at hSw
         go_simp
         try with_reducible rfl
        simp only [Act.put, z1, z2, z3, z4, z5, z6]
        refine tkH (i := 11) (v := ?_) rfl (by kernel_rfl) (fun _ _ _ h => h) (Or.inl ⟨by rfl, ?_⟩) (by assumption) ?_
        rotate_left
        ·intro w hSw
         try dsimp only at hSw
         go_simp
         try with_reducible rfl
        simp only [Act.put, z1, z2, z3, z4, z5, z6]
        refine tkH (i := 15) (v := ?_) rfl (by kernel_rfl) (fun _ _ _ h => h) (Or.inl ⟨by rfl, ?_⟩) (by assumption) ?_
        rotate_left
        ·intro w hSw
         try dsimp only at hSw
         go_simp
         try with_reducible rfl
        simp only [Act.put, z1, z2, z3, z4, z5, z6]
        refine wpAnyH_ready (rs := [2]) (by kernel_rfl) (by simp) ?_
        refine AllReadyH.cons rfl (fun Kc hKc => ?_) AllReadyH.nil
        go_simp
        go_wp2_with (((try simp only [hw1, kt1, kt2]); first | ((with_reducible refine (P3.out _).mono ?_); rintro e w9 ⟨rfl, hb'⟩) | ((with_reducible refine (PK.out _).mono ?_); rintro e w9 ⟨rfl, hb'⟩) | ((with_reducible refine (PX.out _).mono ?_); rintro e w9 ⟨rfl, hb'⟩)))
        refine hKc.out _ _ ?_ (fun hHeld => ?_)
        ·first | exact hHeld | exact ⟨hHeld.1.kept hb', hHeld.2.1.kept hb', btr hHeld.2.2.1 hb', (hb'.cell (p := ⟨ob, off + k * 5 + 3, none⟩) (Nat.lt_of_lt_of_le HCL.out hHeld.2.2.1.size)).trans hHeld.2.2.2⟩
        clear hKc Kc
        refine tkH (i := 3) (v := ?_) rfl (by kernel_rfl) (fun _ _ _ h => h) (Or.inl ⟨by rfl, ?_⟩) (by assumption) ?_
        rotate_left
        ·intro w hSw
         try dsimp only at hSw
         go_simp
         try with_reducible rfl
        simp only [Act.put, z1, z2, z3, z4, z5, z6]
        refine tkH (i := 4) (v := ?_) rfl (by kernel_rfl) (fun _ _ _ h => h) (Or.inl ⟨by rfl, ?_⟩) (by assumption) ?_
        rotate_left
        ·intro w hSw
         try dsimp only at hSw
         go_simp
         try with_reducible rfl
        simp only [Act.put, z1, z2, z3, z4, z5, z6]
        refine wpAnyH_ready (rs := [12]) (by kernel_rfl) (by simp) ?_
        refine AllReadyH.cons rfl (fun Kc hKc => ?_) AllReadyH.nil
        go_simp
        go_wp2_with (((try simp only [hw1, kt1, kt2]); first | ((with_reducible refine (P3.out _).mono ?_); rintro e w9 ⟨rfl, hb'⟩) | ((with_reducible refine (PK.out _).mono ?_); rintro e w9 ⟨rfl, hb'⟩) | ((with_reducible refine (PX.out _).mono ?_); rintro e w9 ⟨rfl, hb'⟩)))
        refine hKc.out _ _ ?_ (fun hHeld => ?_)
        ·first | exact hHeld | exact ⟨hHeld.1.kept hb', hHeld.2.1.kept hb', btr hHeld.2.2.1 hb', (hb'.cell (p := ⟨ob, off + k * 5 + 3, none⟩) (Nat.lt_of_lt_of_le HCL.out hHeld.2.2.1.size)).trans hHeld.2.2.2⟩
        clear hKc Kc
        refine tkH (i := 13) (v := ?_) rfl (by kernel_rfl) (fun _ _ _ h => h) (Or.inl ⟨by rfl, ?_⟩) (by assumption) ?_
        rotate_left
        ·intro w hSw
         try dsimp only at hSw
         go_simp
         try with_reducible rfl
        simp only [Act.put, z1, z2, z3, z4, z5, z6]
        refine tkH (i := 14) (v := ?_) rfl (by kernel_rfl) (fun _ _ _ h => h) (Or.inl ⟨by rfl, ?_⟩) (by assumption) ?_
        rotate_left
        ·intro w hSw
         try dsimp only at hSw
         go_simp
         try with_reducible rfl
        simp only [Act.put, z1, z2, z3, z4, z5, z6]
        refine wpAnyH_ready (rs := [16]) (by kernel_rfl) (by simp) ?_
        refine AllReadyH.cons rfl (fun Kc hKc => ?_) AllReadyH.nil
        go_simp
        go_wp2_with (((try simp only [hw1, kt1, kt2]); first | ((with_reducible refine (P3.out _).mono ?_); rintro e w9 ⟨rfl, hb'⟩) | ((with_reducible refine (PK.out _).mono ?_); rintro e w9 ⟨rfl, hb'⟩) | ((with_reducible refine (PX.out _).mono ?_); rintro e w9 ⟨rfl, hb'⟩)))
        refine hKc.out _ _ ?_ (fun hHeld => ?_)
        ·first | exact hHeld | exact ⟨hHeld.1.kept hb', hHeld.2.1.kept hb', btr hHeld.2.2.1 hb', (hb'.cell (p := ⟨ob, off + k * 5 + 3, none⟩) (Nat.lt_of_lt_of_le HCL.out hHeld.2.2.1.size)).trans hHeld.2.2.2⟩
        clear hKc Kc
        refine tkH (i := 17) (v := ?_) rfl (by kernel_rfl) (fun _ _ _ h => h) (Or.inl ⟨by rfl, ?_⟩) (by assumption) ?_
        rotate_left
        ·intro w hSw
         try dsimp only at hSw
         go_simp
         try with_reducible rfl
        simp only [Act.put, z1, z2, z3, z4, z5, z6]
        refine tkH (i := 18) (v := ?_) rfl (by kernel_rfl) (fun _ _ _ h => h) (Or.inl ⟨by rfl, ?_⟩) (by assumption) ?_
        rotate_left
        ·intro w hSw
         try dsimp only at hSw
         go_simp
         try with_reducible rfl
        simp only [Act.put, z1, z2, z3, z4, z5, z6]
        refine wpAnyH_done (by kernel_rfl) ?_ _
        have HRR := Lib.hid hHeld
        clear hHeld
        go_wp2_with fail
        go_meet
        have hok2 := HOK.out
        rw [HMM.out] at hok2
        exact ⟨_, _, Z', rfl, HLN.out, HRR.out.1, HRR.out.2.1, hok2, HRR.out.2.2.1⟩
       ·have emb : (m == 2) = false := by simp [hm2]
        have emc : (m != 2) = true := by simp [hm2]
        have HM2 := Lib.hid hm2
        clear hm2
        go_upto_region 24 with fail
        have hx64 : In64 (D) := by unfold In64; omega
        have hax : absI (D) = max D (-D) := (absI_max D).symm
        have hfin := fin_add (base := base) (WB := WB) (A := A) (bm := bm) (r := r) (d := d) (s := s) (cs := cs) s0 s1 HRT.out HGT.out HMO.out h hh (ks k % 64) (by omega) (D) (fun e => by first | omega | exact absurd e HM2.out) (by rw [hax]; omega)
        rw [hax, show ((ks k % 64 : Nat) : Int) = ((ks k : Nat) : Int) % 64 by omega] at hfin
        obtain ⟨M', Z', hM', hln, hok⟩ := hfin
        have PX := Lib.hid (fun w => gtext (D) hx64 w)
        have zx := itoa_len (D) hx64.1 hx64.2
        have zk := itoa_len (((ks k : Nat) : Int) % 64) (by omega) (by omega)
        have zh := HZ1.out
        have l0 : sB [97, 100, 100, 32] = ⟨#[97, 100, 100, 32]⟩ := rfl
        have l1 : sB [32] = ⟨#[32]⟩ := rfl
        rw [l0, l1] at hln
        generalize sB (Lib.itoa ((h : Int) + 1)) = TH at *
        generalize sB (Lib.itoa (((ks k : Nat) : Int) % 64)) = TK at *
        generalize sB (Lib.itoa (D)) = TX at *
        have yz1 : ¬ 9223372036854775807 < 4 + TH.size := by omega
        have yz2 : ¬ 9223372036854775807 < 4 + TH.size + 1 := by omega
        have yz3 : ¬ 9223372036854775807 < 4 + TH.size + 1 + TK.size := by omega
        have yz4 : ¬ 9223372036854775807 < 4 + TH.size + 1 + TK.size + 1 := by omega
        have yz5 : ¬ 9223372036854775807 < 4 + TH.size + 1 + TK.size + 1 + TX.size := by omega
        have HLN := Lib.hid hln
        have HOK := Lib.hid hok
        have HMM := Lib.hid hM'
        have HAX := Lib.hid hax
        clear l0 l1 hln hok hM' zh zk zx hx64 hax
        have HCL : Hid (ob < w.heap.size) := Lib.hid (by have h1 := HO.out; obtain ⟨a1, a2, e1, -, -, h2⟩ := h1; cases e1; obtain ⟨a3, a4, e2, h3, -⟩ := h2 (by omega); cases e2; exact h3)
        have hw1 : IntKind.i64.wrap ((h : Int) + 1) = (h : Int) + 1 := by
         simp only [IntKind.wrap, IntKind.bits, IntKind.signed]
         simp
         omega
        have kt1 : ((ks k : Nat) : Int).tmod 64 = ((ks k : Nat) : Int) % 64 := by rw [Int.tmod_eq_emod_of_nonneg (by omega)]
        have kt2 : IntKind.i64.wrap (((ks k : Nat) : Int) % 64) = ((ks k : Nat) : Int) % 64 := by
         simp only [IntKind.wrap, IntKind.bits, IntKind.signed]
         simp
         omega
        refine wp_region_held_drew (S := fun w' => WorldIs w' base WB A bm r d m s cs 3 Z ∧ Blk w' w2.heap.size 54 (massA (putM M h (M h + max D (-D)))) ∧ Below w.heap.size w w' ∧ w'.cell? ⟨ob, off + k * 5 + 3, none⟩ = some (.int .u64 (ks k : Int))) (by kernel_rfl) (by exact ⟨HPU.out.1.kept (below_drewN (Below.refl _ _) 1), HPU.out.2.1.kept (below_drewN (Below.refl _ _) 1), below_drewN HPU.out.2.2 1, HCK.out.2⟩) (fun hHeld => ?_)
        refine tkH (i := 0) (v := ?_) rfl (by kernel_rfl) (fun _ _ _ h => h) (Or.inl ⟨by rfl, ?_⟩) (by assumption) ?_
        rotate_left
        ·intro w hSw
         try dsimp only at hSw
         go_simp
         try with_reducible rfl
        simp only [Act.put, z1, z2, z3, z4, z5, z6]
        refine tkH (i := 1) (v := ?_) rfl (by kernel_rfl) (fun _ _ _ h => h) (Or.inl ⟨by rfl, ?_⟩) (by assumption) ?_
        rotate_left
        ·intro w hSw
         try dsimp only at hSw
         go_simp
         try with_reducible rfl
        simp only [Act.put, z1, z2, z3, z4, z5, z6]
        refine tkH (i := 5) (v := ?_) rfl (by kernel_rfl) (fun _ _ _ h => h) (Or.inl ⟨by rfl, ?_⟩) (by assumption) ?_
        rotate_left
        ·intro w hSw
         try dsimp only at hSw
         go_simp
         try with_reducible rfl
        simp only [Act.put, z1, z2, z3, z4, z5, z6]
        refine tkH (i := 6) (v := ?_) rfl (by kernel_rfl) (fun _ _ _ h => h) (Or.inl ⟨by rfl, ?_⟩) (by assumption) ?_
        rotate_left
        ·intro w hSw
         try dsimp only at hSw
         go_simp
         try with_reducible rfl
        simp only [Act.put, z1, z2, z3, z4, z5, z6]
        refine tkH (i := 7) (v := ?_) rfl (by kernel_rfl) (fun _ _ _ h => h) (Or.inl ⟨by rfl, ?_⟩) (by assumption) ?_
        rotate_left
        ·intro w hSw
         try dsimp only at hSw
         go_simp
         try with_reducible rfl
        simp only [Act.put, z1, z2, z3, z4, z5, z6]
        refine tkH (i := 8) (v := ?_) rfl (by kernel_rfl) (fun _ _ _ h => h) (Or.inl ⟨by rfl, ?_⟩) (by assumption) ?_
        rotate_left
        ·intro w hSw
         try dsimp only at hSw
         go_simp
         try with_reducible rfl
        simp only [Act.put, z1, z2, z3, z4, z5, z6]
        refine tkH (i := 9) (v := ?_) rfl (by kernel_rfl) (fun _ _ _ h => h) (Or.inl ⟨by rfl, ?_⟩) (by assumption) ?_
        rotate_left
        ·intro w hSw
         have q3 := hSw.2.2.2
         go_simp
         try with_reducible rfl
        simp only [Act.put, z1, z2, z3, z4, z5, z6]
        refine tkH (i := 10) (v := ?_) rfl (by kernel_rfl) (fun _ _ _ h => h) (Or.inl ⟨by rfl, ?_⟩) (by assumption) ?_
        rotate_left
        ·intro w hSw
         try dsimp only at hSw
         go_simp
         try with_reducible rfl
        simp only [Act.put, z1, z2, z3, z4, z5, z6]
        refine tkH (i := 11) (v := ?_) rfl (by kernel_rfl) (fun _ _ _ h => h) (Or.inl ⟨by rfl, ?_⟩) (by assumption) ?_
        rotate_left
        ·intro w hSw
         try dsimp only at hSw
         go_simp
         try with_reducible rfl
        simp only [Act.put, z1, z2, z3, z4, z5, z6]
        refine tkH (i := 15) (v := ?_) rfl (by kernel_rfl) (fun _ _ _ h => h) (Or.inl ⟨by rfl, ?_⟩) (by assumption) ?_
        rotate_left
        ·intro w hSw
         try dsimp only at hSw
         go_simp
         try with_reducible rfl
        simp only [Act.put, z1, z2, z3, z4, z5, z6]
        refine wpAnyH_ready (rs := [2]) (by kernel_rfl) (by simp) ?_
        refine AllReadyH.cons rfl (fun Kc hKc => ?_) AllReadyH.nil
        go_simp
        go_wp2_with (((try simp only [hw1, kt1, kt2]); first | ((with_reducible refine (P3.out _).mono ?_); rintro e w9 ⟨rfl, hb'⟩) | ((with_reducible refine (PK.out _).mono ?_); rintro e w9 ⟨rfl, hb'⟩) | ((with_reducible refine (PX.out _).mono ?_); rintro e w9 ⟨rfl, hb'⟩)))
        refine hKc.out _ _ ?_ (fun hHeld => ?_)
        ·first | exact hHeld | exact ⟨hHeld.1.kept hb', hHeld.2.1.kept hb', btr hHeld.2.2.1 hb', (hb'.cell (p := ⟨ob, off + k * 5 + 3, none⟩) (Nat.lt_of_lt_of_le HCL.out hHeld.2.2.1.size)).trans hHeld.2.2.2⟩
        clear hKc Kc
        refine tkH (i := 3) (v := ?_) rfl (by kernel_rfl) (fun _ _ _ h => h) (Or.inl ⟨by rfl, ?_⟩) (by assumption) ?_
        rotate_left
        ·intro w hSw
         try dsimp only at hSw
         go_simp
         try with_reducible rfl
        simp only [Act.put, z1, z2, z3, z4, z5, z6]
        refine tkH (i := 4) (v := ?_) rfl (by kernel_rfl) (fun _ _ _ h => h) (Or.inl ⟨by rfl, ?_⟩) (by assumption) ?_
        rotate_left
        ·intro w hSw
         try dsimp only at hSw
         go_simp
         try with_reducible rfl
        simp only [Act.put, z1, z2, z3, z4, z5, z6]
        refine wpAnyH_ready (rs := [12]) (by kernel_rfl) (by simp) ?_
        refine AllReadyH.cons rfl (fun Kc hKc => ?_) AllReadyH.nil
        go_simp
        go_wp2_with (((try simp only [hw1, kt1, kt2]); first | ((with_reducible refine (P3.out _).mono ?_); rintro e w9 ⟨rfl, hb'⟩) | ((with_reducible refine (PK.out _).mono ?_); rintro e w9 ⟨rfl, hb'⟩) | ((with_reducible refine (PX.out _).mono ?_); rintro e w9 ⟨rfl, hb'⟩)))
        refine hKc.out _ _ ?_ (fun hHeld => ?_)
        ·first | exact hHeld | exact ⟨hHeld.1.kept hb', hHeld.2.1.kept hb', btr hHeld.2.2.1 hb', (hb'.cell (p := ⟨ob, off + k * 5 + 3, none⟩) (Nat.lt_of_lt_of_le HCL.out hHeld.2.2.1.size)).trans hHeld.2.2.2⟩
        clear hKc Kc
        refine tkH (i := 13) (v := ?_) rfl (by kernel_rfl) (fun _ _ _ h => h) (Or.inl ⟨by rfl, ?_⟩) (by assumption) ?_
        rotate_left
        ·intro w hSw
         try dsimp only at hSw
         go_simp
         try with_reducible rfl
        simp only [Act.put, z1, z2, z3, z4, z5, z6]
        refine tkH (i := 14) (v := ?_) rfl (by kernel_rfl) (fun _ _ _ h => h) (Or.inl ⟨by rfl, ?_⟩) (by assumption) ?_
        rotate_left
        ·intro w hSw
         try dsimp only at hSw
         go_simp
         try with_reducible rfl
        simp only [Act.put, z1, z2, z3, z4, z5, z6]
        refine wpAnyH_ready (rs := [16]) (by kernel_rfl) (by simp) ?_
        refine AllReadyH.cons rfl (fun Kc hKc => ?_) AllReadyH.nil
        go_simp
        go_wp2_with (((try simp only [hw1, kt1, kt2]); first | ((with_reducible refine (P3.out _).mono ?_); rintro e w9 ⟨rfl, hb'⟩) | ((with_reducible refine (PK.out _).mono ?_); rintro e w9 ⟨rfl, hb'⟩) | ((with_reducible refine (PX.out _).mono ?_); rintro e w9 ⟨rfl, hb'⟩)))
        refine hKc.out _ _ ?_ (fun hHeld => ?_)
        ·first | exact hHeld | exact ⟨hHeld.1.kept hb', hHeld.2.1.kept hb', btr hHeld.2.2.1 hb', (hb'.cell (p := ⟨ob, off + k * 5 + 3, none⟩) (Nat.lt_of_lt_of_le HCL.out hHeld.2.2.1.size)).trans hHeld.2.2.2⟩
        clear hKc Kc
        refine tkH (i := 17) (v := ?_) rfl (by kernel_rfl) (fun _ _ _ h => h) (Or.inl ⟨by rfl, ?_⟩) (by assumption) ?_
        rotate_left
        ·intro w hSw
         try dsimp only at hSw
         go_simp
         try with_reducible rfl
        simp only [Act.put, z1, z2, z3, z4, z5, z6]
        refine tkH (i := 18) (v := ?_) rfl (by kernel_rfl) (fun _ _ _ h => h) (Or.inl ⟨by rfl, ?_⟩) (by assumption) ?_
        rotate_left
        ·intro w hSw
         try dsimp only at hSw
         go_simp
         try with_reducible rfl
        simp only [Act.put, z1, z2, z3, z4, z5, z6]
        refine wpAnyH_done (by kernel_rfl) ?_ _
        have HRR := Lib.hid hHeld
        clear hHeld
        go_wp2_with fail
        go_meet
        have hok2 := HOK.out
        rw [HMM.out] at hok2
        exact ⟨_, _, Z', rfl, HLN.out, HRR.out.1, HRR.out.2.1, hok2, HRR.out.2.2.1⟩
     case rest =>
      obtain ⟨LN, M', Z', rfl, hln, hwi, hbm, hmo, hbel⟩ := hcut
      have HWC := Lib.hid hwi
      have HMC := Lib.hid hbm
      have HMP := Lib.hid hmo
      have HBC := Lib.hid hbel
      have HLN := Lib.hid (fun W hW => hln W hW)
      clear hwi hbm hmo hbel hln c0 c1 c2 c3 c4 ch co cm
      have hd : doneT = ⟨#[100, 111, 110, 101]⟩ := rfl
      rw [hd] at HLN
      clear hd
      have cA := (HWC.out.wb.cell 0).trans HWC.out.c0
      go_wp2_with fail
      with_reducible refine (HLN.out _ HWC.out).mono ?_
      rintro e wd ⟨rfl, hwi, hao⟩
      have hne := HWC.out.ne HMC.out (by decide)
      have HWD := Lib.hid hwi
      have HMD := Lib.hid (hao.blk HMC.out hne.1 hne.2 (by decide))
      have HBD : Hid (Below w.heap.size w wd) := Lib.hid (by
       obtain ⟨S, L, X, Ar, G, C, ha⟩ := HWC.out.ag
       exact HBC.out.trans ((hao.to_below ha.base_le.1 ha.lo.1 ha.lo.2).mono HSZ.out.1))
      clear hwi hao hne cA HLN
      go_wp2_with fail
      have hmh := HMP.out h hh
      have hrg := line_range_det (base := base) (WB := WB) (A := A) (bm := bm) (r := r) (d := d) (m := m) (s := s) (cs := cs) (n := 3) (Z := Z') (by omega) s0 s1 HRT.out (h + 1) (by omega) (by omega) (M' h) hmh.2.2 hmh.1 hmh.2.1
      obtain ⟨x, hx64, hrx⟩ := hrg
      have hT : rangeT (h + 1) = sB [114, 97, 110, 103, 101, 32] ++ sB (Lib.itoa ((h : Int) + 1)) ++ sB [32, 49, 32, 54, 50] := rfl
      rw [hT] at hrx
      have hh64 : In64 ((h : Int) + 1) := by unfold In64; omega
      have zh := itoa_len ((h : Int) + 1) hh64.1 hh64.2
      have P3 := Lib.hid (fun w => gtext ((h : Int) + 1) hh64 w)
      have PN := Lib.hid (fun w => gnumber [110, 117, 109, 98, 101, 114, 32] (by decide) x hx64 w)
      have l0 : sB [114, 97, 110, 103, 101, 32] = ⟨#[114, 97, 110, 103, 101, 32]⟩ := rfl
      have l1 : sB [32, 49, 32, 54, 50] = ⟨#[32, 49, 32, 54, 50]⟩ := rfl
      have l2 : sB [110, 117, 109, 98, 101, 114, 32] = ⟨#[110, 117, 109, 98, 101, 114, 32]⟩ := rfl
      rw [l0, l1] at hrx
      rw [l2] at PN
      have PR := Lib.hid (fun W hW => hrx W hW)
      clear hrx hT l0 l1 l2 hmh hh64 hx64
      generalize sB (Lib.itoa ((h : Int) + 1)) = TH at *
      generalize sB ([110, 117, 109, 98, 101, 114, 32] ++ Lib.itoa x) = TN at *
      have yz1 : ¬ 9223372036854775807 < 6 + TH.size := by omega
      have yz2 : ¬ 9223372036854775807 < 6 + TH.size + 5 := by omega
      have hw1 : IntKind.i64.wrap ((h : Int) + 1) = (h : Int) + 1 := by
       simp only [IntKind.wrap, IntKind.bits, IntKind.signed]
       simp
       omega
      clear zh
      refine wp_region_held_drew (S := fun w' => WorldIs w' base WB A bm r d m s cs 3 Z' ∧ Blk w' w2.heap.size 54 (massA M') ∧ Below w.heap.size w w') (by kernel_rfl) (by exact ⟨HWD.out.kept (below_drewN (Below.refl _ _) 1), HMD.out.kept (below_drewN (Below.refl _ _) 1), below_drewN HBD.out 1⟩) (fun hHeld => ?_)
      refine tkH (i := 0) (v := ?_) rfl (by kernel_rfl) (fun _ _ _ h => h) (Or.inl ⟨by rfl, ?_⟩) (by assumption) ?_
      rotate_left
      ·intro w hSw
       try dsimp only at hSw
       go_simp
       try with_reducible rfl
      simp only [Act.put, z1, z2, z3, z4, z5, z6]
      refine tkH (i := 1) (v := ?_) rfl (by kernel_rfl) (fun _ _ _ h => h) (Or.inl ⟨by rfl, ?_⟩) (by assumption) ?_
      rotate_left
      ·intro w hSw
       try dsimp only at hSw
       go_simp
       try with_reducible rfl
      simp only [Act.put, z1, z2, z3, z4, z5, z6]
      refine tkH (i := 2) (v := ?_) rfl (by kernel_rfl) (fun _ _ _ h => h) (Or.inl ⟨by rfl, ?_⟩) (by assumption) ?_
      rotate_left
      ·intro w hSw
       try dsimp only at hSw
       go_simp
       try with_reducible rfl
      simp only [Act.put, z1, z2, z3, z4, z5, z6]
      refine tkH (i := 3) (v := ?_) rfl (by kernel_rfl) (fun _ _ _ h => h) (Or.inl ⟨by rfl, ?_⟩) (by assumption) ?_
      rotate_left
      ·intro w hSw
       have q0 := (hSw.1.wb.cell 0).trans hSw.1.c0
       go_simp
       try with_reducible rfl
      simp only [Act.put, z1, z2, z3, z4, z5, z6]
      refine tkH (i := 4) (v := ?_) rfl (by kernel_rfl) (fun _ _ _ h => h) (Or.inl ⟨by rfl, ?_⟩) (by assumption) ?_
      rotate_left
      ·intro w hSw
       try dsimp only at hSw
       go_simp
       try with_reducible rfl
      simp only [Act.put, z1, z2, z3, z4, z5, z6]
      refine tkH (i := 5) (v := ?_) rfl (by kernel_rfl) (fun _ _ _ h => h) (Or.inl ⟨by rfl, ?_⟩) (by assumption) ?_
      rotate_left
      ·intro w hSw
       try dsimp only at hSw
       go_simp
       try with_reducible rfl
      simp only [Act.put, z1, z2, z3, z4, z5, z6]
      refine wpAnyH_ready (rs := [6]) (by kernel_rfl) (by simp) ?_
      refine AllReadyH.cons rfl (fun Kc hKc => ?_) AllReadyH.nil
      go_simp
      go_wp2_with (((try simp only [hw1]); first | ((with_reducible refine (P3.out _).mono ?_); rintro e w9 ⟨rfl, hb'⟩) | ((with_reducible refine (PR.out _ (by first | exact hHeld.1.kept hb' | exact hHeld.1.kept (below_drewN (Below.refl _ _) 1) | exact hHeld.1)).mono ?_); rintro e w9 ⟨rfl, hwi', hb'⟩)))
      refine hKc.out _ _ ?_ (fun hHeld => ?_)
      ·first | exact hHeld | exact ⟨hHeld.1.kept hb', hHeld.2.1.kept hb', btr hHeld.2.2 hb'⟩
      clear hKc Kc
      refine tkH (i := 7) (v := ?_) rfl (by kernel_rfl) (fun _ _ _ h => h) (Or.inl ⟨by rfl, ?_⟩) (by assumption) ?_
      rotate_left
      ·intro w hSw
       try dsimp only at hSw
       go_simp
       try with_reducible rfl
      simp only [Act.put, z1, z2, z3, z4, z5, z6]
      refine tkH (i := 8) (v := ?_) rfl (by kernel_rfl) (fun _ _ _ h => h) (Or.inl ⟨by rfl, ?_⟩) (by assumption) ?_
      rotate_left
      ·intro w hSw
       try dsimp only at hSw
       go_simp
       try with_reducible rfl
      simp only [Act.put, z1, z2, z3, z4, z5, z6]
      refine wpAnyH_ready (rs := [9]) (by kernel_rfl) (by simp) ?_
      refine AllReadyH.cons rfl (fun Kc hKc => ?_) AllReadyH.nil
      go_simp
      go_wp2_with (((try simp only [hw1]); first | ((with_reducible refine (P3.out _).mono ?_); rintro e w9 ⟨rfl, hb'⟩) | ((with_reducible refine (PR.out _ (by first | exact hHeld.1.kept hb' | exact hHeld.1.kept (below_drewN (Below.refl _ _) 1) | exact hHeld.1)).mono ?_); rintro e w9 ⟨rfl, hwi', hb'⟩)))
      refine hKc.out _ _ ?_ (fun hHeld => ?_)
      ·first | exact hHeld | exact ⟨hHeld.1.kept hb', hHeld.2.1.kept hb', btr hHeld.2.2 hb'⟩
      clear hKc Kc
      refine tkH (i := 10) (v := ?_) rfl (by kernel_rfl) (fun _ _ _ h => h) (Or.inl ⟨by rfl, ?_⟩) (by assumption) ?_
      rotate_left
      ·intro w hSw
       try dsimp only at hSw
       go_simp
       try with_reducible rfl
      simp only [Act.put, z1, z2, z3, z4, z5, z6]
      refine tkH (i := 11) (v := ?_) rfl (by kernel_rfl) (fun _ _ _ h => h) (Or.inl ⟨by rfl, ?_⟩) (by assumption) ?_
      rotate_left
      ·intro w hSw
       try dsimp only at hSw
       go_simp
       try with_reducible rfl
      simp only [Act.put, z1, z2, z3, z4, z5, z6]
      refine tkH (i := 12) (v := ?_) rfl (by kernel_rfl) (fun _ _ _ h => h) (Or.inl ⟨by rfl, ?_⟩) (by assumption) ?_
      rotate_left
      ·intro w hSw
       try dsimp only at hSw
       go_simp
       try with_reducible rfl
      simp only [Act.put, z1, z2, z3, z4, z5, z6]
      refine tkH (i := 13) (v := ?_) rfl (by kernel_rfl) (fun _ _ _ h => h) (Or.inl ⟨by rfl, ?_⟩) (by assumption) ?_
      rotate_left
      ·intro w hSw
       try dsimp only at hSw
       go_simp
       try with_reducible rfl
      simp only [Act.put, z1, z2, z3, z4, z5, z6]
      refine tkH (i := 14) (v := ?_) rfl (by kernel_rfl) (fun _ _ _ h => h) (Or.inl ⟨by rfl, ?_⟩) (by assumption) ?_
      rotate_left
      ·intro w hSw
       try dsimp only at hSw
       go_simp
       try with_reducible rfl
      simp only [Act.put, z1, z2, z3, z4, z5, z6]
      refine wpAnyH_done (by kernel_rfl) ?_ _
      have HRR := Lib.hid hHeld
      clear hHeld
      go_wp2_with fail
      with_reducible refine (PN.out _).mono ?_
      rintro e wz ⟨rfl, rfl⟩
      go_wp2_with fail
      go_roundw
      case rel => exact ⟨k + 1, M', Z', by omega, by go_num, HRR.out.1, HRR.out.2.1, HMP.out, HRR.out.2.2⟩
      case measure => simp [intOf]; omega
   ·go_wp2_with fail
    go_ret
    exact ⟨rfl, HBL.out⟩
  ·obtain rfl : k = n := by omega
   go_wp2_with fail
   go_ret
   exact ⟨rfl, HBL.out⟩
end Go.Proofs.YtfeficdndjiijaaGreatDoor


namespace Go.Proofs.YtfeficdndjiijaaGreatDoor
open Go.RowKit
set_option linter.unusedVariables false
set_option linter.unusedSimpArgs false

def shOps : Sh := .slice shOp
theorem TopFits_walk (v0 v1 : Value) (w : World) (h0 : shCfg.Val w v0) (h1 : shOps.Val w v1) (ht : Tab w) :
    Calls Tryz.prog 5 #[v0, v1] w fun e w' => e = .returned (.bool true) ∧ Below w.heap.size w w' := by
  obtain ⟨b, r, d, m, s, rfl, hb, hr, hd, hm, hs⟩ := valCfg h0
  obtain ⟨n, kn, hs', os, ks, ds, ho⟩ := ops_of_val h1
  simp [Lit.wf, IntKind.min, IntKind.max, IntKind.signed, IntKind.bits] at hs
  exact TopFits_walk0 b r d m s (by omega) (by omega) v1 n kn hs' os ks ds w ht ho
end Go.Proofs.YtfeficdndjiijaaGreatDoor

