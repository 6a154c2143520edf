import Derived.Test.YtfeficdndjiijaaGreatDoorQxi
import Derived.Test.YtfeficdndjiijaaGreatDoorQxg
import Derived.Test.YtfeficdndjiijaaGreatDoorQxh
import Derived.Test.YtfeficdndjiijaaGreatDoorQxc
import Derived.Test.YtfeficdndjiijaaGreatDoorQxa
/-
  Contracts of the functions that TopFits reaches, and the plain laws that it leans on. Conditions: none beyond those stated at each theorem.
-/
namespace Go.Proofs.YtfeficdndjiijaaGreatDoor
open Go.RowKit
set_option linter.unusedVariables false
set_option linter.unusedSimpArgs false

section
variable {F : Fence} {n : Nat} {P : Program} {w : World}
def StrBox (W : World) (B : Nat) (t : TypeId) : Prop := ∃ s, W.heap[B]? = some (.cells #[.string s] t (0, 0))
def BoxFree (B : Nat) (t : TypeId) (J : Nat → World → Prop) : Prop := ∀ (j : Nat) (A : World) (s : ByteArray), J j A → StrBox A B t → J j (A.setCell ⟨B, 0, none⟩ (.string s))
def ordPost (B : Nat) (Kp : World → World → Prop) (I : Nat → World → Prop) (j : Nat) (W : World) : Exit → Act → World → Prop
  | .normal, _, W' => KeepsFrom B W W' ∧ Kp W W' ∧ I j W'
  | _, _, _ => False
theorem wpIn_rangeFunc_ord {g : Operand} {ps : Array Tmp} {assign body : Code} {Q : Exit → Act → World → Prop} {a : Act}
  (hro : F.round = none) (h1 : 1 ≤ n) {gf : Nat} {lb : Array Value} (hg : a.eval g = .func (.func gf) #[] lb) (hFg : F.fn gf) (eg : ∀ args w, (callFunc gf args).run P w = .ok (.enter gf args) w)
  (encs : Nat → Array Value) (N Bx : Nat) (tx : TypeId) (Kp : World → World → Prop) (hBx : Bx < w.heap.size)
  (hseq : ∀ (l : Nat) (J : Nat → World → Prop) (W : World), Below w.heap.size w W → BoxFree Bx tx J →
   (∀ j W1, j < N → J j W1 → YieldAt F (n - 1 - 1) P l (encs j) W1 fun e W' => e = .returned (.bool true) ∧ J (j + 1) W' ∧ Kp W1 W') → J 0 W →
   CallsIn F (n - 1) P gf (#[.func (.yield l) #[] #[]] ++ lb) W fun e W' => (∃ v, e = .returned v) ∧ J N W')
  (hKt : ∀ {A B C : World}, Kp A B → Kp B C → Kp A C) (hKb : ∀ (W : World) (l : Nat) (o o' : Obj), w.heap.size ≤ l → W.heap[l]? = some o → o.isCells = false → Kp W (W.putObj l o')) (hps : ∀ j, (encs j).size = ps.size)
  (I : Nat → World → Prop) (hI : OwnFrom w.heap.size I) (hIb : BoxFree Bx tx I) (h0 : I 0 w) (a₁ : Nat → Act)
  (hassign : ∀ (l j : Nat) (W : World) (K : Act → World → Prop), K (a₁ j) W → assign.wpIn (F.inRound l) (n - 1 - 1) P (Exit.then K (fun _ _ _ => False)) { tmps := (ps.zip (encs j)).foldl (fun t (p, v) => t.setIfInBounds p v) a.tmps, defers := [] } W)
  (hbody : ∀ (l j : Nat) (W : World), w.heap.size ≤ l → j < N → I j W → body.wpIn (F.inRound l) (n - 1 - 1) P (ordPost w.heap.size Kp I (j + 1) W) (a₁ j) W)
  (hdone : ∀ (D : Nat) (W : World), w.heap.size ≤ D → I N W → W.heap[D]? = some (.deferred (some [])) → Q .normal { a with defers := { target := .collected D, args := #[] } :: a.defers } W) :
  (Code.rangeFunc g ps assign body).wpIn F n P Q a w := by
 refine wpIn_rangeFunc ?_
 intro fn hfn
 rw [hro]
 obtain ⟨rec, hrec⟩ : ∃ rec : LoopState → Loop, rec = fun st => { state := st, pending := none, fn, tmps := a.tmps, params := ps, assign, body, defers := w.heap.size } := ⟨_, rfl⟩
 obtain ⟨W1, hW1⟩ : ∃ W1, (w.alloc (.deferred (some []))).alloc (.loop (rec .ready)) = W1 := ⟨_, rfl⟩
 have hL1 : W1.heap[w.heap.size + 1]? = some (.loop (rec .ready)) := by
  rw [← hW1]; have := World.alloc_heap_new (w.alloc (.deferred (some []))) (.loop (rec .ready)); rwa [World.size_alloc] at this
 have hK1 : W1.heap[w.heap.size]? = some (.deferred (some [])) := by
  rw [← hW1]; exact (Below.heap_alloc _ _ _ (by simp)).trans (World.alloc_heap_new w _)
 have hI1 : I 0 W1 := by rw [← hW1]; exact hI.alloc _ (hI.alloc _ h0)
 have hb1 : Below w.heap.size w W1 := by
  rw [← hW1]; exact ((Below.refl _ w).alloc (Nat.le_refl _) _).alloc (by simp) _
 refine ⟨w.heap.size + 1, [{ target := .collected w.heap.size, args := #[] }], W1, { target := .fn (.func gf) lb, args := #[.func (.yield (w.heap.size + 1)) #[] #[]] }, W1, gf,
  #[.func (.yield (w.heap.size + 1)) #[] #[]] ++ lb, W1, ?_, ?_, ?_, ?_, fun _ => h1, ?_⟩
 ·rw [← hW1, hrec]; exact run_enterLoop_outer _ _ _ _ _
 ·simp only [resolve, hg]
  simp [go_sem]
 ·intro f' hf'; simp [Target.leads] at hf'; subst hf'; exact hFg
 ·simp [invoke, go_sem, eg]
 ·refine (hseq (w.heap.size + 1) (fun j W => I j W ∧ W.heap[w.heap.size + 1]? = some (.loop (rec .ready)) ∧ W.heap[w.heap.size]? = some (.deferred (some []))) W1 hb1 ?_ ?_ ⟨hI1, hL1, hK1⟩).mono ?_
  ·rintro j A s ⟨k1, k2, k3⟩ hx
   exact ⟨hIb j A s k1 hx, (Below.heap_setCell _ _ _ _ (by intro e; simp at e; omega)).trans k2, (Below.heap_setCell _ _ _ _ (by intro e; simp at e; omega)).trans k3⟩
  ·rintro j W hj ⟨hi, hl, hk⟩
   have hlt : w.heap.size + 1 < W.heap.size := (Array.getElem?_eq_some_iff.1 hl).1
   have hy := run_yield (P := P) (args := encs j) hl (by rw [hrec]; exact hps j)
   rw [hrec] at hy
   refine ⟨fn, _, assign, body, hy, roundIn_of_wpIn hfn (hassign _ j W _ ?_)⟩
   clear hy
   refine ⟨_, run_beginRound hl (by rw [hrec]), ?_⟩
   have hl2 : (W.putObj (w.heap.size + 1) (.loop { rec .ready with state := .busy })).heap[w.heap.size + 1]? = some (.loop { rec .ready with state := .busy }) := World.putObj_heap_same hlt
   have hk2 : (W.putObj (w.heap.size + 1) (.loop { rec .ready with state := .busy })).heap[w.heap.size]? = some (.deferred (some [])) := (World.putObj_heap_other (by omega)).trans hk
   have hw2 : Kp W (W.putObj (w.heap.size + 1) (.loop { rec .ready with state := .busy })) := hKb _ _ _ _ (by omega) hl rfl
   refine wpIn_mono (hbody _ j _ (by omega) hj (hI.putObj _ hi (by omega) hl rfl)) ?_
   rintro e a3 W3 hp
   cases e with
   | normal =>
    obtain ⟨hk3, hkp3, hi3⟩ := hp
    have hl3 := hk3.same _ _ (by omega) hl2 rfl
    have hr := run_endRound (P := P) none hl3
    rw [hrec] at hr hl3 ⊢
    refine ⟨_, _, hr, rfl, ⟨hI.putObj _ hi3 (by omega) hl3 rfl, ?_, (World.putObj_heap_other (by omega)).trans (hk3.same _ _ (Nat.le_refl _) hk2 rfl)⟩, hKt (hKt hw2 hkp3) (hKb _ _ _ _ (by omega) hl3 rfl)⟩
    exact World.putObj_heap_same (Array.getElem?_eq_some_iff.1 hl3).1
   | ret => exact hp.elim
   | exit id => exact hp.elim
   | goto t => exact hp.elim
   | panic ch => exact hp.elim
   | outgrown => exact hp.elim
  ·rintro e W2 ⟨⟨v, rfl⟩, hi, hl, hk⟩
   exact ⟨none, _, by have := run_endLoop (P := P) hl (by rw [hrec]; simp); rw [hrec] at this; exact this, hdone _ _ (Nat.le_refl _) (hI.putObj _ hi (by omega) hl rfl) ((World.putObj_heap_other (by omega)).trans hk)⟩
end
end Go.Proofs.YtfeficdndjiijaaGreatDoor


namespace Go.Proofs.YtfeficdndjiijaaGreatDoor
open Go.RowKit Go.Shelf
set_option linter.unusedVariables false
set_option linter.unusedSimpArgs false
attribute [local go_sem] Oper.semAt_some

def joinN : List (List UInt8) → List UInt8
  | [] => []
  | [a] => a
  | a :: b :: r => a ++ 10 :: joinN (b :: r)
theorem idx_no : ∀ (a : List UInt8), (∀ x ∈ a, x ≠ 10) → Lib.indexByte a 10 = -1
  | [], _ => rfl
  | x :: r, h => by
    have h1 := h x (by simp)
    have h2 := idx_no r (fun y hy => h y (by simp [hy]))
    simp [Lib.indexByte, h1, h2]
theorem idx_at : ∀ (a r : List UInt8), (∀ x ∈ a, x ≠ 10) → Lib.indexByte (a ++ 10 :: r) 10 = (a.length : Int)
  | [], r, _ => by simp [Lib.indexByte]
  | x :: q, r, h => by
    have h1 := h x (by simp)
    have h2 := idx_at q r (fun y hy => h y (by simp [hy]))
    have h3 : ¬ ((q.length : Int) = -1) := by omega
    simp [Lib.indexByte, h1, h2, h3]
theorem splitseq (T S : ByteArray) (w : World) :
    Calls Tryz.prog 41 #[.string T, .string S] w fun e w' => e = .returned (.func (.func 117) #[] #[.pointer (some ⟨w.heap.size + 1, 0, none⟩), .pointer (some ⟨w.heap.size, 0, none⟩), .pointer (some ⟨w.heap.size + 1 + 1, 0, none⟩)]) ∧
      w' = ((w.alloc (.cells #[.string T] 9)).alloc (.cells #[.string S] 9)).alloc (.cells #[.int .i64 0] 3) := by
  have P : Hid (Calls Tryz.prog 74 #[.string T, .string S, .int .i64 0] w fun e w' => e = .returned (.func (.func 117) #[] #[.pointer (some ⟨w.heap.size + 1, 0, none⟩), .pointer (some ⟨w.heap.size, 0, none⟩), .pointer (some ⟨w.heap.size + 1 + 1, 0, none⟩)]) ∧
      w' = ((w.alloc (.cells #[.string T] 9)).alloc (.cells #[.string S] 9)).alloc (.cells #[.int .i64 0] 3)) := Lib.hid (by
    go_enter Tryz.func74, Tryz.ntmps74
    go_wp2
    go_ret
    exact ⟨rfl, rfl⟩)
  go_enter Tryz.func41, Tryz.ntmps41
  go_wp2_with fail
  with_reducible refine P.out.mono ?_
  rintro e w1 ⟨rfl, hw⟩
  subst hw
  go_wp2_with fail
  go_ret
  exact ⟨rfl, rfl⟩
def strN (W : World) (B : Nat) : Nat := match W.cell? ⟨B, 0, none⟩ with | some (.string s) => s.size | _ => 0
set_option maxRecDepth 100000 in
set_option maxHeartbeats 4000000 in
theorem split1 (n : Nat) (hn : 1 ≤ n) (l B0 B1 B2 : Nat) (L : List (List UInt8)) (hL : L ≠ []) (hno : ∀ a ∈ L, ∀ x ∈ a, x ≠ 10) (hlen : (joinN L).length ≤ 1000000) (J : Nat → World → Prop) (hJ : BoxFree B0 9 J)
  (hY : ∀ j W, j < L.length → J j W → YieldAt Fence.wide (n - 1) Tryz.prog l #[.string (sB (L.getD j []))] W fun e W' => e = .returned (.bool true) ∧ J (j + 1) W' ∧ KpB [B0, B1, B2] W W')
  (W : World) (h0 : Blk W B0 9 #[.string (sB (joinN L))]) (hne : B0 ≠ B1) (h1 : Blk W B1 9 #[.string ⟨#[10]⟩]) (h2 : Blk W B2 3 #[.int .i64 0]) (hJ0 : J 0 W) :
  CallsIn Fence.wide n Tryz.prog 117 #[.func (.yield l) #[] #[], .pointer (some ⟨B1, 0, none⟩), .pointer (some ⟨B0, 0, none⟩), .pointer (some ⟨B2, 0, none⟩)] W fun e W' => (∃ v, e = .returned v) ∧ J L.length W' := by
 have HY := Lib.hid hY
 have HJ := Lib.hid hJ
 have HNO := Lib.hid hno
 have HNE : Hid (B0 ≠ B1 ∧ B0 ≠ B2) := Lib.hid ⟨hne, h0.ne_ h2 (by decide)⟩
 have HB0 := Lib.hid h0
 have HB1 := Lib.hid h1
 have HB2 := Lib.hid h2
 have c0 := h0.cell 0
 have c1 := h1.cell 0
 have c2 := h2.cell 0
 simp at c0 c1 c2
 clear hY hJ hno h0 h1 h2 hne
 refine callsIn_of_wp Tryz.func117 rfl trivial ?_ rfl
 simp only [Tryz.ntmps117, List.size_toArray, List.length_cons, List.length_nil, Nat.reduceAdd, Nat.reduceSub, Array.replicate_succ, Array.replicate_zero, List.push_toArray, List.append_toArray, List.nil_append, List.cons_append]
 obtain ⟨N, hN⟩ : ∃ N, N = L.length := ⟨_, rfl⟩
 have HN := Lib.hid hN
 have hN0 : 0 < N := by rw [hN]; exact List.length_pos_iff.2 hL
 rw [← hN]
 gi_wp2
 gi_loopw [7] (fun _ wr => ∃ j : Nat, j < N ∧ Blk wr B0 9 #[.string (sB (joinN (L.drop j)))] ∧ Blk wr B1 9 #[.string ⟨#[10]⟩] ∧ Blk wr B2 3 #[.int .i64 0] ∧ J j wr) (fun _ wr => strN wr B0)
 case atStart => exact ⟨0, hN0, HB0.out, HB1.out, HB2.out, hJ0⟩
 case round =>
  obtain ⟨j, hj, b0, b1, b2, hJs⟩ := hrel
  have HB0 := Lib.hid b0
  have HB1 := Lib.hid b1
  have HB2 := Lib.hid b2
  have HJS := Lib.hid hJs
  have c0 := b0.cell 0
  have c1 := b1.cell 0
  have c2 := b2.cell 0
  simp at c0 c1 c2
  clear b0 b1 b2 hJs
  have hjl : j < L.length := by have := HN.out; omega
  obtain ⟨a, ha⟩ : ∃ a, L[j]? = some a := ⟨_, List.getElem?_eq_getElem hjl⟩
  have had : L.getD j [] = a := by rw [List.getD_eq_getElem?_getD, ha]; rfl
  have hdr : L.drop j = a :: L.drop (j + 1) := by
   rw [List.drop_eq_getElem_cons hjl]
   congr 1
   rw [List.getElem?_eq_getElem hjl] at ha
   exact Option.some.inj ha
  have hna := HNO.out a (List.mem_of_getElem? ha)
  obtain ⟨fn, tmps, assign, body, hy, hR⟩ := HY.out j wr (by have := HN.out; omega) HJS.out
  rw [had] at hy
  by_cases hlast : j + 1 < N
  ·have hjl1 : j + 1 < L.length := by have := HN.out; omega
   have hR' : joinN (L.drop j) = a ++ 10 :: joinN (L.drop (j + 1)) := by
    rw [hdr, List.drop_eq_getElem_cons hjl1]
    rfl
   obtain ⟨R, hRR⟩ : ∃ R, R = joinN (L.drop (j + 1)) := ⟨_, rfl⟩
   have HRR := Lib.hid hRR
   have hlenT : (joinN (L.drop j)).length ≤ 1000000 := by
    have : ∀ (M : List (List UInt8)) (i : Nat), (joinN (M.drop i)).length ≤ (joinN M).length := by
     intro M
     induction M with
     | nil => intro i; simp
     | cons x M ih =>
      intro i
      cases i with
      | zero => exact Nat.le_refl _
      | succ i =>
       refine Nat.le_trans (ih i) ?_
       cases M with
       | nil => simp [joinN]
       | cons y M => simp [joinN]; omega
    exact Nat.le_trans (this L j) hlen
   rw [hR', ← hRR] at hlenT
   rw [hR', ← hRR] at c0
   have HRX : Hid (sB (joinN (L.drop j)) = sB (a ++ 10 :: R)) := Lib.hid (by rw [hR', ← hRR])
   have PI := Tryz.strings_Index_one (sB (a ++ 10 :: R)) 10 wr
   rw [sB_data, idx_at a R hna] at PI
   have x1 := sB_extract (a ++ 10 :: R) 0 a.length
   have x2 := sB_extract (a ++ 10 :: R) (a.length + 1) R.length
   simp only [List.drop_zero, Nat.zero_add, List.take_left] at x1
   have e2 : ((a ++ 10 :: R).drop (a.length + 1)).take R.length = R := by
    rw [show a ++ 10 :: R = (a ++ [10]) ++ R by simp, List.drop_left' (by simp)]
    exact List.take_length
   rw [e2] at x2
   have hsz : (sB (a ++ 10 :: R)).size = a.length + 1 + R.length := by rw [sB_size]; simp; omega
   simp at hlenT
   clear hR' hRR hdr ha had hjl hjl1 e2 hna
   generalize sB (a ++ 10 :: R) = TT at *
   obtain ⟨k, hk⟩ : ∃ k, k = a.length := ⟨_, rfl⟩
   rw [← hk] at PI x1 x2 hsz hlenT
   obtain ⟨q, hq⟩ : ∃ q, q = R.length := ⟨_, rfl⟩
   rw [← hq] at x2 hsz hlenT
   have HQR : Hid ((sB R).size = q) := Lib.hid (by rw [sB_size, hq])
   clear hk hq
   have PI := Lib.hid (callsIn_wide (n := n - 1) |>.2 PI)
   have k0 : (0 : Int) ≤ (k : Int) := by omega
   have k1 : (k : Int) ≤ (TT.size : Int) := by omega
   have k2 : (k : Int) + 1 ≤ (TT.size : Int) := by omega
   gi_wp2_with fail
   refine ⟨trivial, ?_⟩
   with_reducible refine PI.out.mono ?_
   rintro e w2 ⟨rfl, hw⟩
   subst hw
   gi_wp2_with fail
   refine hR.mono ?_
   rintro e W3 ⟨rfl, hJ3, hk3⟩
   have b0 := hk3.blk (by simp) HB0.out
   have b1 := hk3.blk (by simp) HB1.out
   have b2 := hk3.blk (by simp) HB2.out
   have HJ3 := Lib.hid hJ3
   have C0 := Lib.hid b0
   have C1 := Lib.hid b1
   have C2 := Lib.hid b2
   have d0 := b0.cell 0
   have d1 := b1.cell 0
   have f0 := b0.frozen 0
   simp at d0 d1
   rw [HRX.out] at d0
   clear b0 b1 b2 hk3 hJ3 c0 c1 c2 hy hR PI
   rw [← hsz] at x2
   have HSZ := Lib.hid hsz
   clear hsz
   gi_wp2_with fail
   have HJ4 : Hid (J (j + 1) (W3.setCell ⟨B0, 0, none⟩ (.string (sB R)))) := Lib.hid (HJ.out _ _ _ HJ3.out ⟨_, C0.out⟩)
   have E0 : Hid (Blk (W3.setCell ⟨B0, 0, none⟩ (.string (sB R))) B0 9 #[.string (sB R)]) := Lib.hid (by simpa using C0.out.set_ 0 (.string (sB R)))
   have hgs : W3.grownBy (W3.setCell ⟨B0, 0, none⟩ (.string (sB R))) (some B0) := gr_setC (World.grownBy.refl _ _) 0 _
   have E1 := Lib.hid (C1.out.grown hgs (by simpa using HNE.out.1.symm))
   have E2 := Lib.hid (C2.out.grown hgs (by simpa using HNE.out.2.symm))
   have c9 := E0.out.cell 0
   simp at c9
   go_roundw
   case rel => exact ⟨j + 1, hlast, by rw [← HRR.out]; exact E0.out, E1.out, E2.out, HJ4.out⟩
   case measure =>
    have q0 := HB0.out.cell 0
    simp at q0
    simp only [strN, q0, c9]
    rw [HRX.out, HSZ.out, HQR.out]
    omega
  ·have hdr2 : L.drop (j + 1) = [] := List.drop_eq_nil_of_le (by have := HN.out; omega)
   have hT : joinN (L.drop j) = a := by rw [hdr, hdr2]; rfl
   rw [hT] at c0
   have PI := Tryz.strings_Index_one (sB a) 10 wr
   rw [sB_data, idx_no a hna] at PI
   have PI := Lib.hid (callsIn_wide (n := n - 1) |>.2 PI)
   have hjN : j + 1 = N := by omega
   clear hT hdr2 hdr had ha hna hjl
   gi_wp2_with fail
   refine ⟨trivial, ?_⟩
   with_reducible refine PI.out.mono ?_
   rintro e w2 ⟨rfl, hw⟩
   subst hw
   gi_wp2_with fail
   refine hR.mono ?_
   rintro e W3 ⟨rfl, hJ3, hk3⟩
   have HJ3 := Lib.hid hJ3
   clear hJ3 hk3 hR hy c0 c1 c2
   gi_wp2_with fail
   go_end0
   exact ⟨⟨_, rfl⟩, by rw [← hjN]; exact HJ3.out⟩
end Go.Proofs.YtfeficdndjiijaaGreatDoor


namespace Go.Proofs.YtfeficdndjiijaaGreatDoor
open Go.RowKit
set_option linter.unusedVariables false
set_option linter.unusedSimpArgs false

def OpsAt (w : World) (l : Value) (n : Nat) (kn hs os : Nat → Int) (ks : Nat → Nat) (ds : Nat → Int) : Prop :=
  ∃ (ao : Option Addr) (cap : Nat), l = .slice ao n cap ∧ n ≤ maxLen ∧ (∀ i, i < n → In64 (kn i) ∧ In64 (hs i) ∧ In64 (os i) ∧ In64 (ds i) ∧ ks i < 18446744073709551616) ∧
    (0 < n → ∃ b off, ao = some ⟨b, off, none⟩ ∧ b < w.heap.size ∧ ∀ i, i < n → w.cell? ⟨b, off + i * 5, none⟩ = some (.int .i64 (kn i)) ∧ w.cell? ⟨b, off + i * 5 + 1, none⟩ = some (.int .i64 (hs i)) ∧ w.cell? ⟨b, off + i * 5 + 2, none⟩ = some (.int .i64 (os i)) ∧ w.cell? ⟨b, off + i * 5 + 3, none⟩ = some (.int .u64 (ks i : Int)) ∧ w.cell? ⟨b, off + i * 5 + 4, none⟩ = some (.int .i64 (ds i)))
theorem OpsAt.kept {w w' : World} {l : Value} {n : Nat} {kn hs os : Nat → Int} {ks : Nat → Nat} {ds : Nat → Int} (h : OpsAt w l n kn hs os ks ds) (hb : Below w.heap.size w w') : OpsAt w' l n kn hs os ks ds := by
  obtain ⟨ao, cap, e, hm, hu, h⟩ := h
  refine ⟨ao, cap, e, hm, hu, fun h0 => ?_⟩
  obtain ⟨b, off, e2, hlt, hc⟩ := h h0
  refine ⟨b, off, e2, Nat.lt_of_lt_of_le hlt hb.size, fun i hi => ?_⟩
  obtain ⟨c1, c2, c3, c4, c5⟩ := hc i hi
  exact ⟨(hb.cell (p := ⟨b, off + i * 5, none⟩) hlt).trans c1, (hb.cell (p := ⟨b, off + i * 5 + 1, none⟩) hlt).trans c2, (hb.cell (p := ⟨b, off + i * 5 + 2, none⟩) hlt).trans c3, (hb.cell (p := ⟨b, off + i * 5 + 3, none⟩) hlt).trans c4, (hb.cell (p := ⟨b, off + i * 5 + 4, none⟩) hlt).trans c5⟩
def shOp : Sh := .agg (.cons (.int .i64) (.cons (.int .i64) (.cons (.int .i64) (.cons (.int .u64) (.cons (.int .i64) .unit)))))
theorem ops_of_val {w : World} {v : Value} (h : (Sh.slice shOp).Val w v) : ∃ n kn hs os ks ds, OpsAt w v n kn hs os ks ds := by
 obtain ⟨ao, len, cap, h1, hl, hm, hx⟩ := h
 have h1 : v = .slice ao len cap := by simpa using h1
 subst h1
 by_cases h0 : 0 < len
 ·obtain ⟨b, off, rfl, hb, hc⟩ := hx h0
  have key : ∀ i, i < len → ∃ c : Int × Int × Int × Nat × Int, (In64 c.1 ∧ In64 c.2.1 ∧ In64 c.2.2.1 ∧ In64 c.2.2.2.2 ∧ c.2.2.2.1 < 18446744073709551616) ∧ w.cell? ⟨b, off + i * 5, none⟩ = some (.int .i64 c.1) ∧ w.cell? ⟨b, off + i * 5 + 1, none⟩ = some (.int .i64 c.2.1) ∧ w.cell? ⟨b, off + i * 5 + 2, none⟩ = some (.int .i64 c.2.2.1) ∧ w.cell? ⟨b, off + i * 5 + 3, none⟩ = some (.int .u64 (c.2.2.2.1 : Int)) ∧ w.cell? ⟨b, off + i * 5 + 4, none⟩ = some (.int .i64 c.2.2.2.2) := by
   intro i hi
   obtain ⟨c0, hcl, hcell, hr⟩ := hc i hi
   obtain ⟨x1, d1, rfl, h1, hr⟩ := Sh.reads_int hr
   obtain ⟨x2, d2, rfl, h2, hr⟩ := Sh.reads_int hr
   obtain ⟨x3, d3, rfl, h3, hr⟩ := Sh.reads_int hr
   obtain ⟨x4, d4, rfl, h4, hr⟩ := Sh.reads_int hr
   obtain ⟨x5, d5, rfl, h5, hr⟩ := Sh.reads_int hr
   have e : shOp.size = 5 := rfl
   have a0 := hcell 0 (by decide)
   have a1 := hcell 1 (by decide)
   have a2 := hcell 2 (by decide)
   have a3 := hcell 3 (by decide)
   have a4 := hcell 4 (by decide)
   rw [e] at a0 a1 a2 a3 a4
   simp [Lit.wf, IntKind.min, IntKind.max, IntKind.signed, IntKind.bits] at h1 h2 h3 h4 h5
   refine ⟨(x1, x2, x3, x4.toNat, x5), ⟨⟨by show _ ≤ x1; omega, by show x1 ≤ _; omega⟩, ⟨by show _ ≤ x2; omega, by show x2 ≤ _; omega⟩, ⟨by show _ ≤ x3; omega, by show x3 ≤ _; omega⟩, ⟨by show _ ≤ x5; omega, by show x5 ≤ _; omega⟩, by show x4.toNat < _; omega⟩, by simpa using a0, by simpa [Nat.add_assoc] using a1, by simpa [Nat.add_assoc] using a2, ?_, by simpa [Nat.add_assoc] using a4⟩
   simp only [Int.toNat_of_nonneg (show 0 ≤ x4 by omega)]
   simpa [Nat.add_assoc] using a3
  have key2 : ∃ c : Nat → Int × Int × Int × Nat × Int, ∀ i, i < len → (In64 (c i).1 ∧ In64 (c i).2.1 ∧ In64 (c i).2.2.1 ∧ In64 (c i).2.2.2.2 ∧ (c i).2.2.2.1 < 18446744073709551616) ∧ w.cell? ⟨b, off + i * 5, none⟩ = some (.int .i64 (c i).1) ∧ w.cell? ⟨b, off + i * 5 + 1, none⟩ = some (.int .i64 (c i).2.1) ∧ w.cell? ⟨b, off + i * 5 + 2, none⟩ = some (.int .i64 (c i).2.2.1) ∧ w.cell? ⟨b, off + i * 5 + 3, none⟩ = some (.int .u64 ((c i).2.2.2.1 : Int)) ∧ w.cell? ⟨b, off + i * 5 + 4, none⟩ = some (.int .i64 (c i).2.2.2.2) := by
   refine ⟨fun i => if h : i < len then (key i h).choose else (0, 0, 0, 0, 0), fun i hi => ?_⟩
   simp only [dif_pos hi]; exact (key i hi).choose_spec
  obtain ⟨c, hc2⟩ := key2
  exact ⟨len, fun i => (c i).1, fun i => (c i).2.1, fun i => (c i).2.2.1, fun i => (c i).2.2.2.1, fun i => (c i).2.2.2.2, some ⟨b, off, none⟩, cap, rfl, by omega, fun i hi => (hc2 i hi).1, fun _ => ⟨b, off, rfl, hb, fun i hi => (hc2 i hi).2⟩⟩
 ·obtain rfl : len = 0 := by omega
  exact ⟨0, fun _ => 0, fun _ => 0, fun _ => 0, fun _ => 0, fun _ => 0, ao, cap, rfl, by omega, fun i hi => by omega, fun h => by omega⟩
end Go.Proofs.YtfeficdndjiijaaGreatDoor

