import Derived.Test.YtfeficdndjiijaaGreatDoorQwi
import Derived.Test.YtfeficdndjiijaaGreatDoorQwd
import Derived.Test.YtfeficdndjiijaaGreatDoorQwh
/-
  Contracts of the functions that TopWire reaches, and the plain laws that it leans on. Conditions: none beyond those stated at each theorem.
-/
namespace Go.Proofs.YtfeficdndjiijaaGreatDoor
open Go.RowKit Go.Shelf
set_option linter.unusedVariables false
set_option linter.unusedSimpArgs false
attribute [local go_sem] Oper.semAt_some

theorem stat (S : Nat) (k : Int) (w : World) :
    Calls Tryz.prog 129 #[.pointer (some ⟨S, 0, none⟩), .int .u64 k] w fun e w' => e = .returned (.func (.func 170) #[] #[.pointer (some ⟨w.heap.size, 0, none⟩), .pointer (some ⟨w.heap.size + 1, 0, none⟩)]) ∧ w' = (w.alloc (.cells #[.pointer (some ⟨S, 0, none⟩)] 49)).alloc (.cells #[.int .u64 k] 22) := by
  go_enter Tryz.func129, Tryz.ntmps129
  go_wp2
  go_ret
  exact ⟨rfl, rfl⟩
abbrev LvN (q : Nat) := { n : Nat // n ≤ q }
def uptoN (q : Nat) : Nat → List (LvN q)
  | 0 => []
  | k + 1 => if h : k ≤ q then uptoN q k ++ [⟨k, h⟩] else uptoN q k
theorem uptoN_succ (q k : Nat) (hk : k ≤ q) : uptoN q (k + 1) = uptoN q k ++ [⟨k, hk⟩] := by
  rw [uptoN, dif_pos hk]
theorem uptoN_map (q k : Nat) (hk : k ≤ q + 1) : (uptoN q k).map (·.1) = List.range k := by
  induction k with
  | zero => rfl
  | succ k ih => rw [uptoN_succ q k (by omega), List.map_append, ih (by omega), List.range_succ]; rfl
theorem uptoN_len (q k : Nat) (hk : k ≤ q + 1) : (uptoN q k).length = k := by
  have := congrArg List.length (uptoN_map q k hk)
  simpa using this
set_option maxRecDepth 100000 in
set_option maxHeartbeats 4000000 in
theorem stat1 (n : Nat) (hn : 1 ≤ n) (l Bs Bk S L q cap k : Nat) (cs : Array Value) (X : Nat → Value) (hq : q ≤ 59) (J Jx : List (LvN q) → World → Prop)
  (hX : ∀ n, n ≤ q → ∃ t a, X n = .iface t (.pointer (some ⟨a, 0, none⟩)))
  (hY : ∀ pre x W, J pre W → pre.length < q + 1 → YieldAt Fence.wide (n - 1) Tryz.prog l #[X x.1, .int .u64 ((k / 2 ^ x.1 : Nat) : Int)] W fun e W' =>
   (e = .returned (.bool true) ∧ J (pre ++ [x]) W' ∧ KpB [Bs, Bk, S, L] W W') ∨ (e = .returned (.bool false) ∧ Jx (pre ++ [x]) W'))
  (W : World) (hBs : Blk W Bs 49 #[.pointer (some ⟨S, 0, none⟩)]) (hBk : Blk W Bk 22 #[.int .u64 (k : Int)]) (hS : ∃ b r d m s, Blk W S 172 #[b, r, d, m, s, .slice (some ⟨L, 0, none⟩) (q + 1) cap])
  (hL : Blk W L 174 cs) (hcs : ∀ n, n ≤ q → cs[n]? = some (X n)) (h0 : J [] W) :
  CallsIn Fence.wide n Tryz.prog 170 #[.func (.yield l) #[] #[], .pointer (some ⟨Bs, 0, none⟩), .pointer (some ⟨Bk, 0, none⟩)] W fun e W' => (∃ v, e = .returned v) ∧
   ((∃ ys, ys = uptoN q (q + 1) ∧ J ys W') ∨ (∃ pre, (∃ j, j ≤ q + 1 ∧ pre = uptoN q j) ∧ Jx pre W')) := by
 obtain ⟨vb, vr, vd, vm, vs, hS⟩ := hS
 have HX := Lib.hid hX
 have HY := Lib.hid hY
 have HCS := Lib.hid hcs
 have HBS := Lib.hid hBs
 have HBK := Lib.hid hBk
 have HL := Lib.hid hL
 have HLT : Hid (Bs < W.heap.size ∧ Bk < W.heap.size ∧ S < W.heap.size ∧ L < W.heap.size) := Lib.hid ⟨hBs.lt, hBk.lt, hS.lt, hL.lt⟩
 have c0 := hBs.cell 0
 have c5 := hS.cell 5
 simp at c0 c5
 clear hX hY hcs hBs hBk hS hL
 refine callsIn_of_wp Tryz.func170 rfl trivial ?_ rfl
 simp only [Tryz.ntmps170, List.size_toArray, List.length_cons, List.length_nil, Nat.reduceAdd, Nat.reduceSub, Array.replicate_succ, Array.replicate_zero, List.push_toArray, List.append_toArray, List.nil_append, List.cons_append]
 gi_wp2
 gi_loopw [11] (fun i wr => ∃ j : Nat, j ≤ q + 1 ∧ i = .int .i64 (j : Int) ∧ J (uptoN q j) wr ∧ KpB [Bs, Bk, S, L] W wr) (fun i _ => q + 1 - (intOf i).toNat)
 case atStart => exact ⟨0, by omega, rfl, by simpa [uptoN] using h0, Nat.le_refl _, fun _ _ => rfl⟩
 case round =>
  obtain ⟨j, hj, rfl, hJs, hkp⟩ := hrel
  clear c0 c5
  have HKP := Lib.hid hkp
  by_cases hlt : j < q + 1
  ·have hjq : j ≤ q := by omega
   have ck := (hkp.blk (by simp) HBK.out).cell 0
   have cx := ((hkp.blk (by simp) HL.out).cell j).trans (HCS.out j hjq)
   simp at ck
   have HSUC := Lib.hid (uptoN_succ q j hjq)
   obtain ⟨t, a, hx⟩ := HX.out j hjq
   rw [hx] at cx
   obtain ⟨fn, tmps, assign, body, hy, hR⟩ := HY.out _ ⟨j, hjq⟩ wr hJs (by rw [uptoN_len q j (by omega)]; exact hlt)
   dsimp only at hy
   rw [hx] at hy
   rw [HSUC.out.symm] at hR
   clear hkp hJs hx
   have i0 : (0 : Int) ≤ (j : Int) := by omega
   have i1 : (j : Int) < (q : Int) + 1 := by omega
   have ed : ((k / 2 ^ j : Nat) : Int) = (k : Int) / 2 ^ j := by rw [Int.natCast_ediv, Int.natCast_pow]; rfl
   rw [ed] at hy
   clear ed
   gi_wp2
   refine hR.mono ?_
   rintro e W3 (⟨rfl, hJ3, hk3⟩ | ⟨rfl, hJx3⟩)
   ·have HJ3 := Lib.hid hJ3
    have HK3 := Lib.hid (KpB.trans HKP.out hk3)
    clear hJ3 hk3 cx ck hy hR
    gi_wp2
    go_roundw
    case rel => exact ⟨j + 1, by omega, by simp, HJ3.out, HK3.out⟩
    case measure => simp [intOf]; omega
   ·have HJ3 := Lib.hid hJx3
    clear hJx3 cx ck hy hR
    gi_wp2
    refine bodyPost_ret (results_none rfl _ _ _) rfl ?_
    exact ⟨⟨_, rfl⟩, .inr ⟨_, ⟨j + 1, by omega, rfl⟩, HJ3.out⟩⟩
  ·obtain rfl : j = q + 1 := by omega
   have HJ := Lib.hid hJs
   clear hJs hkp
   gi_wp2
   go_end0
   exact ⟨⟨_, rfl⟩, .inl ⟨_, rfl, HJ.out⟩⟩
theorem st_stops (n : Nat) (hn : 1 ≤ n) (Bs Bk S L q cap k : Nat) (cs : Array Value) (X : Nat → Value) (hq : q ≤ 59) (w : World)
    (hX : ∀ n, n ≤ q → ∃ t a, X n = .iface t (.pointer (some ⟨a, 0, none⟩)))
    (hBs : Blk w Bs 49 #[.pointer (some ⟨S, 0, none⟩)]) (hBk : Blk w Bk 22 #[.int .u64 (k : Int)]) (hS : ∃ b r d m s, Blk w S 172 #[b, r, d, m, s, .slice (some ⟨L, 0, none⟩) (q + 1) cap])
    (hL : Blk w L 174 cs) (hcs : ∀ n, n ≤ q → cs[n]? = some (X n)) :
    SeqStopsK Fence.wide n Tryz.prog 170 #[.pointer (some ⟨Bs, 0, none⟩), .pointer (some ⟨Bk, 0, none⟩)] (fun x : LvN q => #[X x.1, .int .u64 ((k / 2 ^ x.1 : Nat) : Int)]) (KpB [Bs, Bk, S, L]) (fun ys => ys = uptoN q (q + 1)) (fun pre => ∃ j, j ≤ q + 1 ∧ pre = uptoN q j) (q + 1) w := fun l J Jx W hW _ _ hY h0 => by
  obtain ⟨vb, vr, vd, vm, vs, hS⟩ := hS
  exact stat1 n hn l Bs Bk S L q cap k cs X hq J Jx hX hY W (hBs.kept hW) (hBk.kept hW) ⟨vb, vr, vd, vm, vs, hS.kept hW⟩ (hL.kept hW) hcs h0
end Go.Proofs.YtfeficdndjiijaaGreatDoor


namespace Go.Proofs.YtfeficdndjiijaaGreatDoor
open Go.RowKit
set_option linter.unusedVariables false
set_option linter.unusedSimpArgs false

section
variable {W W' : World} {row : Option Nat}
theorem GridIs.walked {G C R V : Nat} {zs : List Int} (h : GridIs W G C R V zs) (hg : W.grownBy W' row) (hr : ∀ r, row = some r → ∃ o : Obj, W.heap[r]? = some o ∧ o.isCells = false) : GridIs W' G C R V zs := by
  obtain ⟨cap, hG, -⟩ := h.fields
  obtain ⟨cur, hC, -⟩ := h.cells
  have key : ∀ g t cs, Blk W g t cs → some g ≠ row := fun g t cs hb e => by
    obtain ⟨o, ho, hc⟩ := hr g e.symm
    exact hb.not_other ho hc rfl
  exact h.grown hg (key _ _ _ hG) (key _ _ _ hC)
theorem LevIs.walked {x : Value} {A G C : Nat} {b r d m s l : Int} {zs : List Int} (h : LevIs W x A G C b r d m s l zs) (hg : W.grownBy W' row) (hr : ∀ r, row = some r → ∃ o : Obj, W.heap[r]? = some o ∧ o.isCells = false) : LevIs W' x A G C b r d m s l zs := by
  rcases h with ⟨h1, h2, h3⟩ | ⟨h1, h2, h3⟩
  · exact .inl ⟨h1, h2, h3.1.walked hg hr, h3.2.walked hg hr⟩
  · exact .inr ⟨h1, h2, h3.box.walked hg hr, h3.grid.walked hg hr⟩
theorem StIs.walked {base S L : Nat} {b r d m s : Int} {X : Nat → Value} {A G C : Nat → Nat} {Z : Nat → List Int} (h : StIs W base S L b r d m s X A G C Z) (hg : W.grownBy W' row) (hr : ∀ r, row = some r → ∃ o : Obj, W.heap[r]? = some o ∧ o.isCells = false) : StIs W' base S L b r d m s X A G C Z := by
  obtain ⟨cap, h1, h2⟩ := h.box
  obtain ⟨cur, h3, h4⟩ := h.row
  exact ⟨⟨cap, h1.walked hg hr, h2⟩, h.right, ⟨cur, h3.walked hg hr, h4⟩, fun n hn => (h.lev n hn).walked hg hr, h.apart, h.low⟩
end
theorem Tryz.mExCheck (k : Nat) (a : Addr) (w : World) : (method (k + 1) 232 (.pointer (some a)) "Check").run Tryz.prog w = .ok (276, .pointer (some a)) w := by kernel_rfl
theorem Tryz.mSkCheck (k : Nat) (a : Addr) (w : World) : (method (k + 1) 235 (.pointer (some a)) "Check").run Tryz.prog w = .ok (284, .pointer (some a)) w := by kernel_rfl
theorem Tryz.mExUpdate (k : Nat) (a : Addr) (w : World) : (method (k + 1) 232 (.pointer (some a)) "Update").run Tryz.prog w = .ok (279, .pointer (some a)) w := by kernel_rfl
theorem Tryz.mSkUpdate (k : Nat) (a : Addr) (w : World) : (method (k + 1) 235 (.pointer (some a)) "Update").run Tryz.prog w = .ok (287, .pointer (some a)) w := by kernel_rfl
def HasM (x : Value) (A : Nat) (name : String) (f : FuncId) : Prop :=
  ∃ T, x = .iface T (.pointer (some ⟨A, 0, none⟩)) ∧ (∀ (j : Nat) (W : World), (method (j + 1) T (.pointer (some ⟨A, 0, none⟩)) name).run Tryz.prog W = .ok (f, .pointer (some ⟨A, 0, none⟩)) W) ∧
    ∀ (args : Array Value) (W : World), (callFunc f args).run Tryz.prog W = .ok (.enter f args) W
theorem lvcheck (w : World) (x : Value) (A G C : Nat) (b r d m s l : Int) (zs : List Int) (h : LevIs w x A G C b r d m s l zs) (hr : rightB b r d m = true) (s0 : 0 ≤ s) (s1 : s ≤ 18446744073709551615) (k : Nat) (hk : k < 18446744073709551616) (y : Int) (hy : In64 y) :
    ∃ f, HasM x A "Check" f ∧ Calls Tryz.prog f #[.pointer (some ⟨A, 0, none⟩), .int .u64 (k : Int), .int .i64 y] w fun e w' => e = .returned (.int .i64 (lvErr b r d m s l zs k y)) ∧ Below w.heap.size w w' := by
  rcases h with ⟨h1, h2, h3⟩ | ⟨h1, h2, h3⟩
  · refine ⟨_, ⟨_, h2, fun j W => Tryz.mExCheck j _ W, enters_of Tryz.func276 (by kernel_rfl) rfl⟩, ?_⟩
    have e : lvErr b r d m s l zs k y = chkI (keysI b r d m l).toNat m zs k y := by unfold lvErr; rw [if_pos h1]
    rw [e]
    exact excheck w A G C b r d m s l _ k zs y h3 hy hk
  · refine ⟨_, ⟨_, h2, fun j W => Tryz.mSkCheck j _ W, enters_of Tryz.func284 (by kernel_rfl) rfl⟩, ?_⟩
    have e : lvErr b r d m s l zs k y = skErr b r d m s l zs (k : Int) y := by unfold lvErr; rw [if_neg (by rw [h1]; decide)]
    rw [e]
    exact skcheck w A G C b r d m s l zs h3 hr s0 s1 (k : Int) y (by omega) (by omega) hy
def LvUpPost (w : World) (x : Value) (A G C : Nat) (b r d m s l : Int) (zs : List Int) (k : Nat) (y : Int) (e : Ending) (w' : World) : Prop :=
  e = .returned (.int .i64 (lvErr b r d m s l zs k y)) ∧ LevIs w' x A G C b r d m s l (lvUpd b r d m s l zs k y) ∧ w.grownBy w' (some C)
theorem lvupdate (w : World) (x : Value) (A G C : Nat) (b r d m s l : Int) (zs : List Int) (h : LevIs w x A G C b r d m s l zs) (hr : rightB b r d m = true) (s0 : 0 ≤ s) (s1 : s ≤ 18446744073709551615) (k : Nat) (hk : k < 18446744073709551616) (y : Int) (hy : In64 y) :
  ∃ f, HasM x A "Update" f ∧ Calls Tryz.prog f #[.pointer (some ⟨A, 0, none⟩), .int .u64 (k : Int), .int .i64 y] w (LvUpPost w x A G C b r d m s l zs k y) := by
 rcases h with ⟨h1, h2, h3⟩ | ⟨h1, h2, h3⟩
 ·refine ⟨_, ⟨_, h2, fun j W => Tryz.mExUpdate j _ W, enters_of Tryz.func279 (by kernel_rfl) rfl⟩, ?_⟩
  refine (exupdate w A G C b r d m s l _ k zs y h3 hy hk).mono ?_
  rintro e w' ⟨he, ha, hg⟩
  refine ⟨?_, .inl ⟨h1, h2, ?_⟩, hg⟩
  ·rw [he]; unfold lvErr; rw [if_pos h1]
  ·unfold lvUpd; rw [if_pos h1]; exact ha
 ·refine ⟨_, ⟨_, h2, fun j W => Tryz.mSkUpdate j _ W, enters_of Tryz.func287 (by kernel_rfl) rfl⟩, ?_⟩
  refine (skupdate w A G C b r d m s l zs h3 hr s0 s1 (k : Int) y (by omega) (by omega) hy).mono ?_
  rintro e w' ⟨he, ha, hg⟩
  refine ⟨?_, .inr ⟨h1, h2, ?_⟩, hg⟩
  ·rw [he]; unfold lvErr; rw [if_neg (by rw [h1]; decide)]
  ·unfold lvUpd; rw [if_neg (by rw [h1]; decide)]; exact ha
set_option maxRecDepth 100000 in
set_option maxHeartbeats 4000000 in
theorem first_any (g : Nat) (a c : Int) (w : World) (hb : Blk w g 50 #[.int .i64 a, .int .i64 c]) :
  Calls Tryz.prog 130 #[.slice (some ⟨g, 0, none⟩) 2 2] w fun e w' => e = .returned (.int .i64 (firstI a c)) ∧ w = w' := by
 have c0 := hb.cell 0
 have c1 := hb.cell 1
 simp at c0 c1
 have hq : ∃ q, q = firstI a c := ⟨_, rfl⟩
 obtain ⟨q, hq⟩ := hq
 rw [← hq]
 unfold firstI at hq
 have HQ := Lib.hid hq
 clear hb hq
 by_cases ha : a = 0
 ·subst ha
  have HQ : Hid (q = c) := Lib.hid (by rw [HQ.out, if_pos rfl])
  by_cases hc : c = 0
  ·subst hc
   go_enter Tryz.func130, Tryz.ntmps130
   go_wp2
   go_loop [8] (fun i => ∃ j : Nat, j ≤ 2 ∧ i = .int .i64 (j : Int)) (fun i => 2 - (intOf i).toNat)
   case atStart => exact ⟨0, by omega, rfl⟩
   case round =>
    obtain ⟨j, hj, rfl⟩ := hrel
    rcases (show j = 0 ∨ j = 1 ∨ j = 2 by omega) with rfl | rfl | rfl
    ·go_wp2
     go_round
     case rel => exact ⟨1, by omega, rfl⟩
     case measure => simp [intOf]
    ·go_wp2
     go_round
     case rel => exact ⟨2, by omega, rfl⟩
     case measure => simp [intOf]
    ·go_wp2
     go_ret
     exact ⟨ret_err HQ.out.symm, rfl⟩
  ·have n1 : (c != 0) = true := by simp [hc]
   clear hc
   go_enter Tryz.func130, Tryz.ntmps130
   go_wp2
   go_loop [8] (fun i => ∃ j : Nat, j ≤ 1 ∧ i = .int .i64 (j : Int)) (fun i => 2 - (intOf i).toNat)
   case atStart => exact ⟨0, by omega, rfl⟩
   case round =>
    obtain ⟨j, hj, rfl⟩ := hrel
    rcases (show j = 0 ∨ j = 1 by omega) with rfl | rfl
    ·go_wp2
     go_round
     case rel => exact ⟨1, by omega, rfl⟩
     case measure => simp [intOf]
    ·go_wp2
     go_ret
     exact ⟨ret_err HQ.out.symm, rfl⟩
 ·have HQ : Hid (q = a) := Lib.hid (by rw [HQ.out, if_neg ha])
  have n1 : (a != 0) = true := by simp [ha]
  clear ha
  go_enter Tryz.func130, Tryz.ntmps130
  go_wp2
  go_loop [8] (fun i => i = .int .i64 0) (fun i => 2 - (intOf i).toNat)
  case atStart => rfl
  case round =>
   subst hrel
   go_wp2
   go_ret
   exact ⟨ret_err HQ.out.symm, rfl⟩
end Go.Proofs.YtfeficdndjiijaaGreatDoor


namespace Go.Proofs.YtfeficdndjiijaaGreatDoor
open Go.RowKit Go.Shelf
set_option linter.unusedVariables false
set_option linter.unusedSimpArgs false
attribute [local go_sem] Oper.semAt_some

structure RGr (w w' : World) (B : Nat → Nat) (R : Nat) : Prop where
  os : w'.os = w.os
  tape : w'.tape = w.tape
  output : w'.output = w.output
  size : w.heap.size ≤ w'.heap.size
  block : ∀ k, k < w.heap.size → (∀ r, r < R → k ≠ B r) → w'.heap[k]? = w.heap[k]?
theorem RGr.of_below {w w' : World} {B : Nat → Nat} {R : Nat} (h : Below w.heap.size w w') : RGr w w' B R := ⟨h.os, h.tape, h.output, h.size, fun k hk _ => h.block k hk⟩
theorem RGr.trans {w w1 w2 : World} {B : Nat → Nat} {R : Nat} (h : RGr w w1 B R) (k : RGr w1 w2 B R) : RGr w w2 B R :=
  ⟨k.os.trans h.os, k.tape.trans h.tape, k.output.trans h.output, Nat.le_trans h.size k.size, fun j hj hne => (k.block j (Nat.lt_of_lt_of_le hj h.size) hne).trans (h.block j hj hne)⟩
theorem RGr.set {w : World} {B : Nat → Nat} {R r c : Nat} (hr : r < R) (u : Value) : RGr w (w.setCell ⟨B r, c, none⟩ u) B R :=
  ⟨rfl, rfl, rfl, by simp [World.setCell], fun k hk hne => Below.heap_setCell _ _ _ _ (by simpa using hne r hr)⟩

def StUpPost (w : World) (base S L : Nat) (b r d m s : Int) (X : Nat → Value) (A G C : Nat → Nat) (Z : Nat → List Int) (k : Nat) (x : Int) (e : Ending) (w' : World) : Prop :=
  e = .returned (.int .i64 (stErr b r d m s Z k x)) ∧ StIs w' base S L b r d m s X A G C (stUpd b r d m s Z k x) ∧ RGr w w' C (b.toNat + 1)
theorem stupdate_key (w : World) (base S L : Nat) (b r d m s : Int) (X : Nat → Value) (A G C : Nat → Nat) (Z : Nat → List Int) (h : StIs w base S L b r d m s X A G C Z) (k : Nat) (x : Int) (hk : keysI b r d m 0 ≤ (k : Int)) :
  Calls Tryz.prog 87 #[.pointer (some ⟨S, 0, none⟩), .int .u64 (k : Int), .int .i64 x] w (StUpPost w base S L b r d m s X A G C Z k x) := by
 have HE : Hid (stErr b r d m s Z k x = 2) := Lib.hid (by unfold stErr; rw [if_pos hk])
 have HU : Hid (∀ n, stUpd b r d m s Z k x n = Z n) := Lib.hid (fun n => by unfold stUpd; rw [HE.out, if_neg (by decide)])
 unfold StUpPost
 rw [HE.out]
 have PK := Lib.hid (fun w => keys_any b r d m s 0 w)
 have e1 : decide (keysI b r d m 0 ≤ (k : Int)) = true := decide_eq_true hk
 have hal : Below w.heap.size w (w.alloc (.cells #[.int .i64 x] 2)) := (Below.refl _ _).alloc (Nat.le_refl _) _
 obtain ⟨cap, hbx, -⟩ := h.box
 have hA := hbx.kept hal
 have c0 := hA.cell 0
 have c1 := hA.cell 1
 have c2 := hA.cell 2
 have c3 := hA.cell 3
 have c4 := hA.cell 4
 simp at c0 c1 c2 c3 c4
 have HS := Lib.hid (h.kept hal)
 have HB := Lib.hid hal
 clear h hk hbx hal hA
 go_enter Tryz.func87, Tryz.ntmps87
 go_wp2_with fail
 generalize (w.alloc (.cells #[.int .i64 x] 2)) = w1 at *
 with_reducible refine (PK.out _).mono ?_
 rintro e w2 ⟨rfl, hb⟩
 have HS2 := Lib.hid (HS.out.kept hb)
 have HB2 := Lib.hid (btr HB.out hb)
 clear hb c0 c1 c2 c3 c4
 go_wp2
 go_ret
 exact ⟨rfl, HS2.out.setC (fun n _ => (HU.out n).symm), RGr.of_below HB2.out⟩
def vals {q : Nat} (l : List (LvN q)) : List Nat := l.map (·.1)
theorem vals_snoc {q : Nat} (l : List (LvN q)) (y : LvN q) : vals (l ++ [y]) = vals l ++ [y.1] := by simp [vals]
theorem vals_all (q : Nat) : vals (uptoN q (q + 1)) = List.range (q + 1) := uptoN_map q (q + 1) (Nat.le_refl _)
structure ChkI (W0 W : World) (base S L : Nat) (b r d m s : Int) (X : Nat → Value) (A G C : Nat → Nat) (Z : Nat → List Int) (BD BB T : Nat) (x v : Int) : Prop where
  top : T ≤ W.heap.size
  st : StIs W base S L b r d m s X A G C Z
  num : Blk W BD 2 #[.int .i64 x]
  bad : Blk W BB 50 #[.int .i64 v]
  bel : Below W0.heap.size W0 W
theorem ChkI.kept {W0 W W' : World} {base S L : Nat} {b r d m s : Int} {X : Nat → Value} {A G C : Nat → Nat} {Z : Nat → List Int} {BD BB T : Nat} {x v : Int} (h : ChkI W0 W base S L b r d m s X A G C Z BD BB T x v) (hb : Below W.heap.size W W') : ChkI W0 W' base S L b r d m s X A G C Z BD BB T x v :=
  ⟨Nat.le_trans h.top hb.size, h.st.kept hb, h.num.kept hb, h.bad.kept hb, btr h.bel hb⟩
theorem ChkI.walked {W0 W W' : World} {base S L : Nat} {b r d m s : Int} {X : Nat → Value} {A G C : Nat → Nat} {Z : Nat → List Int} {BD BB T : Nat} {x v : Int} {row : Option Nat} (h : ChkI W0 W base S L b r d m s X A G C Z BD BB T x v) (hg : W.grownBy W' row) (hr : ∀ r, row = some r → W0.heap.size ≤ r ∧ ∃ o : Obj, W.heap[r]? = some o ∧ o.isCells = false) : ChkI W0 W' base S L b r d m s X A G C Z BD BB T x v :=
  ⟨Nat.le_trans h.top hg.size, h.st.walked hg (fun r e => (hr r e).2), h.num.walked hg (fun r e => (hr r e).2), h.bad.walked hg (fun r e => (hr r e).2), h.bel.grown hg h.bel.size (fun k e => (hr k e).1)⟩
theorem ChkI.put {W0 W : World} {base S L : Nat} {b r d m s : Int} {X : Nat → Value} {A G C : Nat → Nat} {Z : Nat → List Int} {BD BB T : Nat} {x v : Int} (h : ChkI W0 W base S L b r d m s X A G C Z BD BB T x v) (hB : W0.heap.size ≤ BB) (u : Int) : ChkI W0 (W.setCell ⟨BB, 0, none⟩ (.int .i64 u)) base S L b r d m s X A G C Z BD BB T x u :=
  ⟨by simpa using h.top, h.st.far h.bad (by decide) (by decide) (grown_set W BB 0 _), h.num.far (by simpa using h.num.ne_ h.bad (by decide)) _, by simpa using h.bad.set_ 0 (.int .i64 u), h.bel.setCell (p := ⟨BB, 0, none⟩) hB _⟩
theorem ChkI.round {W0 W w5 : World} {base S L : Nat} {b r d m s : Int} {X : Nat → Value} {A G C : Nat → Nat} {Z : Nat → List Int} {BD BB T : Nat} {x v : Int} (h : ChkI W0 W base S L b r d m s X A G C Z BD BB T x v) (hb : Below W.heap.size W w5) (o : Obj) (hB : W0.heap.size ≤ BB) (u : Int) (l : List Nat) (hl : ∀ i ∈ l, i < W.heap.size ∧ i ≠ BB) :
    KeepsOthers W ((w5.alloc o).setCell ⟨BB, 0, none⟩ (.int .i64 u)) ∧ KpB l W ((w5.alloc o).setCell ⟨BB, 0, none⟩ (.int .i64 u)) ∧ ChkI W0 ((w5.alloc o).setCell ⟨BB, 0, none⟩ (.int .i64 u)) base S L b r d m s X A G C Z BD BB T x u := by
  have h2 : Below W.heap.size W (w5.alloc o) := btr hb (below_alloc1 w5 o)
  have h3 : W.grownBy ((w5.alloc o).setCell ⟨BB, 0, none⟩ (.int .i64 u)) (some BB) := gr_trans (below_gr h2) (grown_set _ BB 0 _)
  exact ⟨kept_others h3 (fun g e => ⟨_, _, by cases e; exact h.bad⟩), KpB.of_grown h3 (fun i hi => ⟨(hl i hi).1, by simpa using (hl i hi).2⟩), (h.kept h2).put hB u⟩
noncomputable def foldE (b r d m s : Int) (Z : Nat → List Int) (k : Nat) (x : Int) (l : List Nat) : Int := l.foldl (fun a (n : Nat) => firstI a (lvErr b r d m s (n : Int) (Z n) (k / 2 ^ n) x)) 0
theorem foldE_snoc (b r d m s : Int) (Z : Nat → List Int) (k : Nat) (x : Int) (l : List Nat) (n : Nat) : foldE b r d m s Z k x (l ++ [n]) = firstI (foldE b r d m s Z k x l) (lvErr b r d m s (n : Int) (Z n) (k / 2 ^ n) x) := by
  unfold foldE
  rw [List.foldl_append]
  rfl
noncomputable def timesU (b r d m s : Int) (k : Nat) (x : Int) (n : Nat) (zs : List Int) : Nat → List Int
  | 0 => zs
  | j + 1 => lvUpd b r d m s (n : Int) (timesU b r d m s k x n zs j) (k / 2 ^ n) x
structure UpdI (W0 W : World) (base S L : Nat) (b r d m s : Int) (X : Nat → Value) (A G C : Nat → Nat) (Z : Nat → List Int) (BD T D1 : Nat) (x : Int) (k : Nat) (l : List Nat) : Prop where
  top : T ≤ W.heap.size
  st : StIs W base S L b r d m s X A G C (fun n => timesU b r d m s k x n (Z n) (l.count n))
  num : Blk W BD 2 #[.int .i64 x]
  gr : RGr W0 W C (b.toNat + 1)
  mark : W.heap[D1]? = some (.deferred (some []))
theorem RGr.grown {W0 W W' : World} {C : Nat → Nat} {q : Nat} {row : Option Nat} (h : RGr W0 W C q) (hg : W.grownBy W' row) (hr : ∀ r, row = some r → W0.heap.size ≤ r ∨ ∃ n, n < q ∧ r = C n) : RGr W0 W' C q :=
  ⟨hg.os.trans h.os, hg.tape.trans h.tape, hg.output.trans h.output, Nat.le_trans h.size hg.size, fun k hk hne => (hg.block k (Nat.lt_of_lt_of_le hk h.size) (fun e => by
    rcases hr k e.symm with h1 | ⟨n, hn, e2⟩
    · omega
    · exact hne n hn e2)).trans (h.block k hk hne)⟩
theorem UpdI.walked {W0 W W' : World} {base S L : Nat} {b r d m s : Int} {X : Nat → Value} {A G C : Nat → Nat} {Z : Nat → List Int} {BD T D1 : Nat} {x : Int} {k : Nat} {l : List Nat} {row : Option Nat} {B : Nat} (h : UpdI W0 W base S L b r d m s X A G C Z BD T D1 x k l) (h0 : W0.heap.size ≤ B) (h1 : D1 < B) (hg : W.grownBy W' row) (hr : ∀ r, row = some r → B ≤ r ∧ ∃ o : Obj, W.heap[r]? = some o ∧ o.isCells = false) : UpdI W0 W' base S L b r d m s X A G C Z BD T D1 x k l :=
  ⟨Nat.le_trans h.top hg.size, h.st.walked hg (fun r e => (hr r e).2), h.num.walked hg (fun r e => (hr r e).2), h.gr.grown hg (fun r e => .inl (by have := (hr r e).1; omega)),
    (hg.block D1 (Array.getElem?_eq_some_iff.1 h.mark).1 (fun e => by have := (hr D1 e.symm).1; omega)).trans h.mark⟩
theorem UpdI.next {W0 W W' : World} {base S L : Nat} {b r d m s : Int} {X : Nat → Value} {A G C : Nat → Nat} {Z : Nat → List Int} {BD T D1 : Nat} {x : Int} {k : Nat} {l : List Nat} (h : UpdI W0 W base S L b r d m s X A G C Z BD T D1 x k l) (hT : BD < T) {n : Nat} (hn : n ≤ b.toNat) (hBD : BD ≠ C n) {e : Ending}
  (hp : LvUpPost W (X n) (A n) (G n) (C n) b r d m s n (timesU b r d m s k x n (Z n) (l.count n)) (k / 2 ^ n) x e W') : UpdI W0 W' base S L b r d m s X A G C Z BD T D1 x k (l ++ [n]) := by
 obtain ⟨-, hl, hg⟩ := hp
 obtain ⟨cur, hC⟩ := (h.st.lev n hn).cells
 refine ⟨Nat.le_trans h.top hg.size, (h.st.put hn hg hl).setC (fun j hj => ?_), h.num.grown hg (by simpa using hBD), h.gr.grown hg (fun r e => .inr ⟨n, by omega, by have := Option.some.inj e; omega⟩), ?_⟩
 ·by_cases e : j = n
  ·subst e
   rw [upN_same, List.count_append, List.count_singleton_self]
   rfl
  ·rw [upN_other _ _ e, List.count_append, List.count_singleton, if_neg (by simpa using fun e2 => e e2.symm), Nat.add_zero]
 ·refine (hg.block D1 (Array.getElem?_eq_some_iff.1 h.mark).1 (fun e => ?_)).trans h.mark
  have e := Option.some.inj e
  have h1 := h.mark
  unfold Blk at hC
  rw [e, hC] at h1
  cases h1
theorem count_upto (q n : Nat) : (List.range q).count n = if n < q then 1 else 0 := by
  induction q with
  | zero => simp
  | succ q ih =>
    rw [List.range_succ, List.count_append, ih, List.count_singleton]
    by_cases h1 : n < q
    · rw [if_pos h1, if_neg (by simp; omega), if_pos (by omega)]
    · by_cases h2 : n = q
      · subst h2; simp
      · rw [if_neg h1, if_neg (by simp; omega), if_neg (by omega)]
theorem shr_small {k : Nat} (hk : k < 18446744073709551616) (n : Nat) : k / 2 ^ n < 18446744073709551616 := Nat.lt_of_le_of_lt (Nat.div_le_self _ _) hk
set_option maxRecDepth 100000 in
set_option maxHeartbeats 8000000 in
theorem stupdate_in (w : World) (base S L : Nat) (b r d m s : Int) (X : Nat → Value) (A G C : Nat → Nat) (Z : Nat → List Int) (h : StIs w base S L b r d m s X A G C Z) (s0 : 0 ≤ s) (s1 : s ≤ 18446744073709551615) (k : Nat) (hk64 : k < 18446744073709551616) (x : Int) (hx : In64 x) (hk : (k : Int) < keysI b r d m 0) :
  Calls Tryz.prog 87 #[.pointer (some ⟨S, 0, none⟩), .int .u64 (k : Int), .int .i64 x] w (StUpPost w base S L b r d m s X A G C Z k x) := by
 obtain ⟨q, hq⟩ : ∃ q : Nat, b.toNat = q := ⟨_, rfl⟩
 have hR := right_of h.right
 have hq59 : q ≤ 59 := by omega
 have PK := Lib.hid (fun w => keys_any b r d m s 0 w)
 have e1 : decide (keysI b r d m 0 ≤ (k : Int)) = false := decide_eq_false (by omega)
 have hal : Below w.heap.size w (w.alloc (.cells #[.int .i64 x] 2)) := (Below.refl _ _).alloc (Nat.le_refl _) _
 have HNUM := Lib.hid (Blk.new w 2 #[.int .i64 x])
 obtain ⟨cap, hbx, hcap⟩ := h.box
 rw [hq] at hbx hcap
 have hA := hbx.kept hal
 have c0 := hA.cell 0
 have c1 := hA.cell 1
 have c2 := hA.cell 2
 have c3 := hA.cell 3
 have c4 := hA.cell 4
 simp at c0 c1 c2 c3 c4
 have HCL : Hid (∀ n, n ≤ b.toNat → C n < w.heap.size) := Lib.hid (fun n hn => (h.lev n hn).ltC)
 have HS := Lib.hid (h.kept hal)
 have HB := Lib.hid hal
 have HRT := Lib.hid h.right
 have HKK := Lib.hid hk
 have HQ := Lib.hid hq
 have PI := Lib.hid hbx
 clear h hbx hal hA hR hk hcap hq
 refine (callsIn_wide (n := 6)).1 ?_
 refine callsIn_of_wp_marks Tryz.func87 rfl trivial ?_ rfl
 simp only [Tryz.ntmps87, List.size_toArray, List.length_cons, List.length_nil, Nat.reduceAdd, Nat.reduceSub, Array.replicate_succ, Array.replicate_zero, List.push_toArray, List.append_toArray, List.nil_append, List.cons_append]
 gi_wp2_with fail
 generalize hw1 : (w.alloc (.cells #[.int .i64 x] 2)) = w1 at *
 have HW1 := Lib.hid hw1
 clear hw1
 refine ⟨trivial, ?_⟩
 with_reducible refine (callsIn_wide.2 (PK.out _)).mono ?_
 rintro e w2 ⟨rfl, hb⟩
 have HS2 := Lib.hid (HS.out.kept hb)
 have HB2 := Lib.hid (btr HB.out hb)
 have HN2 := Lib.hid (HNUM.out.kept hb)
 clear hb c0 c1 c2 c3 c4
 gi_wp2_with fail
 have HS3 := Lib.hid (HS2.out.kept (below_alloc1 w2 (.cells #[.int .i64 0] 50)))
 have HB3 := Lib.hid (btr HB2.out (below_alloc1 w2 (.cells #[.int .i64 0] 50)))
 have HN3 := Lib.hid (HN2.out.kept (below_alloc1 w2 (.cells #[.int .i64 0] 50)))
 have HE3 := Lib.hid (Blk.new w2 50 #[.int .i64 0])
 have HSZ : Hid (w.heap.size ≤ w2.heap.size) := Lib.hid HB2.out.size
 generalize (w2.alloc (.cells #[.int .i64 0] 50)) = w3 at *
 refine ⟨trivial, ?_⟩
 with_reducible refine (callsIn_wide.2 (stat S (k : Int) w3)).mono ?_
 rintro e w4 ⟨rfl, hw4⟩
 obtain ⟨ga, gb, gc, gd⟩ := news2 w3 (.cells #[.pointer (some ⟨S, 0, none⟩)] 49) (.cells #[.int .u64 (k : Int)] 22)
 rw [← hw4] at ga gb gc gd
 have HGA : Hid (Blk w4 w3.heap.size 49 #[.pointer (some ⟨S, 0, none⟩)]) := Lib.hid ga
 have HGB : Hid (Blk w4 (w3.heap.size + 1) 22 #[.int .u64 (k : Int)]) := Lib.hid gb
 have HI0 : Hid (ChkI w w4 base S L b r d m s X A G C Z w.heap.size w2.heap.size w4.heap.size x (foldE b r d m s Z k x [])) := Lib.hid ⟨Nat.le_refl _, HS3.out.kept gc, HN3.out.kept gc, HE3.out.kept gc, btr HB3.out gc⟩
 have HTOP : Hid (w3.heap.size + 2 = w4.heap.size ∧ w2.heap.size < w3.heap.size) := Lib.hid ⟨gd.symm, HE3.out.lt⟩
 clear hw4 ga gb gc gd
 gi_wp2_with fail
 obtain ⟨capS, hbx, -⟩ := HI0.out.st.box
 obtain ⟨cur, hrow, hcur⟩ := HI0.out.st.row
 rw [HQ.out] at hbx hcur
 have HXO : Hid (∀ n, n ≤ q → ∃ t a, X n = .iface t (.pointer (some ⟨a, 0, none⟩))) := Lib.hid (fun n hn => by
  obtain ⟨t, ht⟩ := (HI0.out.st.lev n (by rw [HQ.out]; exact hn)).open_
  exact ⟨t, _, ht⟩)
 have HNE : Hid (S < w4.heap.size ∧ L < w4.heap.size ∧ S ≠ w2.heap.size ∧ L ≠ w2.heap.size) := Lib.hid ⟨hbx.lt, hrow.lt, hbx.ne_ HI0.out.bad (by decide), hrow.ne_ HI0.out.bad (by decide)⟩
 refine wpIn_rangeFunc_ownF rfl (by omega) (gf := 170) (lb := #[.pointer (some ⟨w3.heap.size, 0, none⟩), .pointer (some ⟨w3.heap.size + 1, 0, none⟩)]) rfl trivial (enters_of Tryz.func170 (by kernel_rfl) rfl)
  (st_stops (6 - 1) (by omega) w3.heap.size (w3.heap.size + 1) S L q capS k cur X hq59 w4 HXO.out HGA.out HGB.out ⟨_, _, _, _, _, hbx⟩ hrow hcur) KpB.trans (KpB.put (by
   have h1 := HTOP.out; have h2 := HNE.out
   intro i hi
   simp at hi
   omega)) (Below.refl _ _) (fun _ => rfl)
  (fun (pre : List (LvN q)) W => ChkI w W base S L b r d m s X A G C Z w.heap.size w2.heap.size w4.heap.size x (foldE b r d m s Z k x (vals pre)))
  (fun _ _ _ => False)
  (fun pre W W' row hs hg hr => hs.walked hg (fun r e => ⟨by have h1 := (hr r e).1; have h2 := HI0.out.bel.size; omega, (hr r e).2⟩))
  (fun _ _ _ _ _ hs _ _ => hs)
  HI0.out
  (fun (y : LvN q) => { tmps := #[.pointer (some ⟨S, 0, none⟩), .int .u64 (k : Int), .int .i64 x, undef, undef, .pointer (some ⟨w.heap.size, 0, none⟩), .int .i64 0, .pointer (some ⟨w2.heap.size, 0, none⟩), X y.1, .int .u64 ((k / 2 ^ y.1 : Nat) : Int), undef, undef,
   .int .u64 (k : Int), .pointer (some ⟨S, 0, none⟩), .pointer (some ⟨S, 0, none⟩), .pointer (some ⟨S, 0, none⟩), .agg #[.int .i64 b, .int .i64 r, .int .i64 d, .int .i64 m, .int .u64 s], .int .u64 (keysI b r d m 0), .bool false, .pointer (some ⟨S, 0, none⟩), .int .u64 (k : Int),
   .func (.func 170) #[] #[.pointer (some ⟨w3.heap.size, 0, none⟩), .pointer (some ⟨w3.heap.size + 1, 0, none⟩)], X y.1, .int .u64 ((k / 2 ^ y.1 : Nat) : Int), undef, undef, undef, undef, undef, undef, undef, undef, undef, undef, undef, undef, undef, undef, undef, undef, undef, undef, undef], defers := [] }) ?assign ?body ?done ?stop
 case assign =>
  intro l y W K hK
  obtain ⟨t, a, hx⟩ := HXO.out y.1 y.2
  simp only [hx] at hK ⊢
  gi_wp2
  exact hK
 case body =>
  intro l pre y W hI _
  have HI := Lib.hid hI
  have hyb : y.1 ≤ b.toNat := by have := HQ.out; have := y.2; omega
  obtain ⟨f, ⟨TX, hX, hm, hen⟩, PCk⟩ := lvcheck W.drew (X y.1) _ _ _ b r d m s (y.1 : Int) (Z y.1) ((hI.st.lev y.1 hyb).kept (below_drewN (Below.refl _ _) 1)) HRT.out s0 s1 (k / 2 ^ y.1) (shr_small hk64 _) x hx
  rw [show ((k / 2 ^ y.1 : Nat) : Int) = (k : Int) / 2 ^ y.1 by rw [Int.natCast_ediv, Int.natCast_pow]; rfl] at PCk
  have PCk := Lib.hid PCk
  have HI1 : Hid (ChkI w W.drew base S L b r d m s X A G C Z w.heap.size w2.heap.size w4.heap.size x (foldE b r d m s Z k x (vals pre))) := Lib.hid (hI.kept (below_drewN (Below.refl _ _) 1))
  have HF := Lib.hid (foldE_snoc b r d m s Z k x (vals pre) y.1)
  have HEND : Hid (∀ w5 o, Below W.drew.heap.size W.drew w5 → ∀ u, u = foldE b r d m s Z k x (vals (pre ++ [y])) → KeepsOthers W ((w5.alloc o).setCell ⟨w2.heap.size, 0, none⟩ (.int .i64 u)) ∧ KpB [w3.heap.size, w3.heap.size + 1, S, L] W ((w5.alloc o).setCell ⟨w2.heap.size, 0, none⟩ (.int .i64 u)) ∧ ChkI w ((w5.alloc o).setCell ⟨w2.heap.size, 0, none⟩ (.int .i64 u)) base S L b r d m s X A G C Z w.heap.size w2.heap.size w4.heap.size x (foldE b r d m s Z k x (vals (pre ++ [y])))) := Lib.hid (fun w5 o hb u hu => by
   rw [← hu]
   refine hI.round (btr (below_drewN (Below.refl _ _) 1) hb) o HSZ.out u _ (fun i hi => ?_)
   have h1 := HTOP.out; have h2 := HNE.out; have h3 := hI.top
   simp at hi
   omega)
  have HUE : Hid (firstI (foldE b r d m s Z k x (vals pre)) (lvErr b r d m s (y.1 : Int) (Z y.1) (k / 2 ^ y.1) x) = foldE b r d m s Z k x (vals (pre ++ [y]))) := Lib.hid (by rw [vals_snoc, HF.out])
  simp only [hX]
  clear hI hX
  gi_wp2_with fail
  refine wpIn_round_any (by kernel_rfl) (by kernel_rfl) (by rintro ⟨_, _, h⟩; exact h) ?_; generalize W.drew = Wd at *; have q0 := HI1.out.bad.cell 0; have q1 := HI1.out.num.cell 0; simp at q0 q1
  refine tkA (i := 1) (v := ?_) rfl (by kernel_rfl) (fun _ _ _ h => h) (Or.inl ⟨by rfl, ?_⟩) ?_
  rotate_left
  ·intro w
   go_simp
   try with_reducible rfl
  simp only [Act.put, z1, z2, z3, z4, z5, z6]
  refine tkA (i := 2) (v := ?_) rfl (by kernel_rfl) (fun _ _ _ h => h) (Or.inl ⟨by rfl, ?_⟩) ?_
  rotate_left
  ·intro w
   go_simp
   try with_reducible rfl
  simp only [Act.put, z1, z2, z3, z4, z5, z6]
  refine wpAny_ready (rs := [0, 3]) (by kernel_rfl) (by simp) ?_
  refine AllReady.cons rfl (fun Kc hKc => ?_) (AllReady.cons rfl (fun Kc hKc => ?_) AllReady.nil)
  ·have HKc := Lib.hid hKc
   clear hKc
   go_simp
   refine HKc.out _ _ ?_
   clear HKc Kc
   refine wpAny_ready (rs := [3]) (by kernel_rfl) (by simp) ?_
   refine AllReady.cons rfl (fun Kc hKc => ?_) AllReady.nil
   have HKc := Lib.hid hKc
   clear hKc
   go_simp
   refine HKc.out _ _ ?_
   clear HKc Kc
   refine wpAny_ready (rs := [4]) (by kernel_rfl) (by simp) ?_
   refine AllReady.cons rfl (fun Kc hKc => ?_) AllReady.nil
   have HKc := Lib.hid hKc
   clear hKc
   go_simp
   go_wp2_with (first | (with_reducible refine PCk.out.mono ?_; rintro e w5 ⟨rfl, hb⟩; have HI5 := Lib.hid (HI1.out.kept hb); have HP := Lib.hid (HEND.out w5 (.cells #[.int .i64 (foldE b r d m s Z k x (vals pre)), .int .i64 (lvErr b r d m s (y.1 : Int) (Z y.1) (k / 2 ^ y.1) x)] 50) hb _ HUE.out); have q0 := HI5.out.bad.cell 0; simp at q0; clear hb) | (go_at_call 130; refine (first_any w5.heap.size _ _ _ (Blk.new w5 _ _)).mono ?_; rintro e w6 ⟨rfl, hw6⟩; subst hw6; have HI6 := Lib.hid (HI5.out.kept (below_alloc1 w5 (.cells #[.int .i64 (foldE b r d m s Z k x (vals pre)), .int .i64 (lvErr b r d m s (y.1 : Int) (Z y.1) (k / 2 ^ y.1) x)] 50))); have f0 := HI6.out.bad.frozen 0; have q0 := HI6.out.bad.cell 0; simp at q0 f0))
   refine HKc.out _ _ ?_
   clear HKc Kc
   refine wpAny_ready (rs := [5]) (by kernel_rfl) (by simp) ?_
   refine AllReady.cons rfl (fun Kc hKc => ?_) AllReady.nil
   have HKc := Lib.hid hKc
   clear hKc
   go_simp
   refine HKc.out _ _ ?_
   clear HKc Kc
   refine wpAny_ready (rs := [6]) (by kernel_rfl) (by simp) ?_
   refine AllReady.cons rfl (fun Kc hKc => ?_) AllReady.nil
   have HKc := Lib.hid hKc
   clear hKc
   go_simp
   go_wp2_with (first | (with_reducible refine PCk.out.mono ?_; rintro e w5 ⟨rfl, hb⟩; have HI5 := Lib.hid (HI1.out.kept hb); have HP := Lib.hid (HEND.out w5 (.cells #[.int .i64 (foldE b r d m s Z k x (vals pre)), .int .i64 (lvErr b r d m s (y.1 : Int) (Z y.1) (k / 2 ^ y.1) x)] 50) hb _ HUE.out); have q0 := HI5.out.bad.cell 0; simp at q0; clear hb) | (go_at_call 130; refine (first_any w5.heap.size _ _ _ (Blk.new w5 _ _)).mono ?_; rintro e w6 ⟨rfl, hw6⟩; subst hw6; have HI6 := Lib.hid (HI5.out.kept (below_alloc1 w5 (.cells #[.int .i64 (foldE b r d m s Z k x (vals pre)), .int .i64 (lvErr b r d m s (y.1 : Int) (Z y.1) (k / 2 ^ y.1) x)] 50))); have f0 := HI6.out.bad.frozen 0; have q0 := HI6.out.bad.cell 0; simp at q0 f0))
   refine HKc.out _ _ ?_
   clear HKc Kc
   refine wpAny_ready (rs := [7]) (by kernel_rfl) (by simp) ?_
   refine AllReady.cons rfl (fun Kc hKc => ?_) AllReady.nil
   have HKc := Lib.hid hKc
   clear hKc
   go_simp
   refine HKc.out _ _ ?_
   clear HKc Kc
   refine wpAny_done (by kernel_rfl) ?_ _
   gi_wp2
   exact HP.out
  ·have HKc := Lib.hid hKc
   clear hKc
   go_simp
   refine HKc.out _ _ ?_
   clear HKc Kc
   refine wpAny_ready (rs := [0, 4]) (by kernel_rfl) (by simp) ?_
   refine AllReady.cons rfl (fun Kc hKc => ?_) (AllReady.cons rfl (fun Kc hKc => ?_) AllReady.nil)
   ·have HKc := Lib.hid hKc
    clear hKc
    go_simp
    refine HKc.out _ _ ?_
    clear HKc Kc
    refine wpAny_ready (rs := [4]) (by kernel_rfl) (by simp) ?_
    refine AllReady.cons rfl (fun Kc hKc => ?_) AllReady.nil
    have HKc := Lib.hid hKc
    clear hKc
    go_simp
    go_wp2_with (first | (with_reducible refine PCk.out.mono ?_; rintro e w5 ⟨rfl, hb⟩; have HI5 := Lib.hid (HI1.out.kept hb); have HP := Lib.hid (HEND.out w5 (.cells #[.int .i64 (foldE b r d m s Z k x (vals pre)), .int .i64 (lvErr b r d m s (y.1 : Int) (Z y.1) (k / 2 ^ y.1) x)] 50) hb _ HUE.out); have q0 := HI5.out.bad.cell 0; simp at q0; clear hb) | (go_at_call 130; refine (first_any w5.heap.size _ _ _ (Blk.new w5 _ _)).mono ?_; rintro e w6 ⟨rfl, hw6⟩; subst hw6; have HI6 := Lib.hid (HI5.out.kept (below_alloc1 w5 (.cells #[.int .i64 (foldE b r d m s Z k x (vals pre)), .int .i64 (lvErr b r d m s (y.1 : Int) (Z y.1) (k / 2 ^ y.1) x)] 50))); have f0 := HI6.out.bad.frozen 0; have q0 := HI6.out.bad.cell 0; simp at q0 f0))
    refine HKc.out _ _ ?_
    clear HKc Kc
    refine wpAny_ready (rs := [5]) (by kernel_rfl) (by simp) ?_
    refine AllReady.cons rfl (fun Kc hKc => ?_) AllReady.nil
    have HKc := Lib.hid hKc
    clear hKc
    go_simp
    refine HKc.out _ _ ?_
    clear HKc Kc
    refine wpAny_ready (rs := [6]) (by kernel_rfl) (by simp) ?_
    refine AllReady.cons rfl (fun Kc hKc => ?_) AllReady.nil
    have HKc := Lib.hid hKc
    clear hKc
    go_simp
    go_wp2_with (first | (with_reducible refine PCk.out.mono ?_; rintro e w5 ⟨rfl, hb⟩; have HI5 := Lib.hid (HI1.out.kept hb); have HP := Lib.hid (HEND.out w5 (.cells #[.int .i64 (foldE b r d m s Z k x (vals pre)), .int .i64 (lvErr b r d m s (y.1 : Int) (Z y.1) (k / 2 ^ y.1) x)] 50) hb _ HUE.out); have q0 := HI5.out.bad.cell 0; simp at q0; clear hb) | (go_at_call 130; refine (first_any w5.heap.size _ _ _ (Blk.new w5 _ _)).mono ?_; rintro e w6 ⟨rfl, hw6⟩; subst hw6; have HI6 := Lib.hid (HI5.out.kept (below_alloc1 w5 (.cells #[.int .i64 (foldE b r d m s Z k x (vals pre)), .int .i64 (lvErr b r d m s (y.1 : Int) (Z y.1) (k / 2 ^ y.1) x)] 50))); have f0 := HI6.out.bad.frozen 0; have q0 := HI6.out.bad.cell 0; simp at q0 f0))
    refine HKc.out _ _ ?_
    clear HKc Kc
    refine wpAny_ready (rs := [7]) (by kernel_rfl) (by simp) ?_
    refine AllReady.cons rfl (fun Kc hKc => ?_) AllReady.nil
    have HKc := Lib.hid hKc
    clear hKc
    go_simp
    refine HKc.out _ _ ?_
    clear HKc Kc
    refine wpAny_done (by kernel_rfl) ?_ _
    gi_wp2
    exact HP.out
   ·have HKc := Lib.hid hKc
    clear hKc
    go_simp
    go_wp2_with (first | (with_reducible refine PCk.out.mono ?_; rintro e w5 ⟨rfl, hb⟩; have HI5 := Lib.hid (HI1.out.kept hb); have HP := Lib.hid (HEND.out w5 (.cells #[.int .i64 (foldE b r d m s Z k x (vals pre)), .int .i64 (lvErr b r d m s (y.1 : Int) (Z y.1) (k / 2 ^ y.1) x)] 50) hb _ HUE.out); have q0 := HI5.out.bad.cell 0; simp at q0; clear hb) | (go_at_call 130; refine (first_any w5.heap.size _ _ _ (Blk.new w5 _ _)).mono ?_; rintro e w6 ⟨rfl, hw6⟩; subst hw6; have HI6 := Lib.hid (HI5.out.kept (below_alloc1 w5 (.cells #[.int .i64 (foldE b r d m s Z k x (vals pre)), .int .i64 (lvErr b r d m s (y.1 : Int) (Z y.1) (k / 2 ^ y.1) x)] 50))); have f0 := HI6.out.bad.frozen 0; have q0 := HI6.out.bad.cell 0; simp at q0 f0))
    refine HKc.out _ _ ?_
    clear HKc Kc
    refine wpAny_ready (rs := [0]) (by kernel_rfl) (by simp) ?_
    refine AllReady.cons rfl (fun Kc hKc => ?_) AllReady.nil
    have HKc := Lib.hid hKc
    clear hKc
    go_simp
    refine HKc.out _ _ ?_
    clear HKc Kc
    refine wpAny_ready (rs := [5]) (by kernel_rfl) (by simp) ?_
    refine AllReady.cons rfl (fun Kc hKc => ?_) AllReady.nil
    have HKc := Lib.hid hKc
    clear hKc
    go_simp
    refine HKc.out _ _ ?_
    clear HKc Kc
    refine wpAny_ready (rs := [6]) (by kernel_rfl) (by simp) ?_
    refine AllReady.cons rfl (fun Kc hKc => ?_) AllReady.nil
    have HKc := Lib.hid hKc
    clear hKc
    go_simp
    go_wp2_with (first | (with_reducible refine PCk.out.mono ?_; rintro e w5 ⟨rfl, hb⟩; have HI5 := Lib.hid (HI1.out.kept hb); have HP := Lib.hid (HEND.out w5 (.cells #[.int .i64 (foldE b r d m s Z k x (vals pre)), .int .i64 (lvErr b r d m s (y.1 : Int) (Z y.1) (k / 2 ^ y.1) x)] 50) hb _ HUE.out); have q0 := HI5.out.bad.cell 0; simp at q0; clear hb) | (go_at_call 130; refine (first_any w5.heap.size _ _ _ (Blk.new w5 _ _)).mono ?_; rintro e w6 ⟨rfl, hw6⟩; subst hw6; have HI6 := Lib.hid (HI5.out.kept (below_alloc1 w5 (.cells #[.int .i64 (foldE b r d m s Z k x (vals pre)), .int .i64 (lvErr b r d m s (y.1 : Int) (Z y.1) (k / 2 ^ y.1) x)] 50))); have f0 := HI6.out.bad.frozen 0; have q0 := HI6.out.bad.cell 0; simp at q0 f0))
    refine HKc.out _ _ ?_
    clear HKc Kc
    refine wpAny_ready (rs := [7]) (by kernel_rfl) (by simp) ?_
    refine AllReady.cons rfl (fun Kc hKc => ?_) AllReady.nil
    have HKc := Lib.hid hKc
    clear hKc
    go_simp
    refine HKc.out _ _ ?_
    clear HKc Kc
    refine wpAny_done (by kernel_rfl) ?_ _
    gi_wp2
    exact HP.out
 case done =>
  intro D xs W hD hxs hI hK
  subst hxs
  rw [vals_all] at hI
  have hfe : foldE b r d m s Z k x (List.range (q + 1)) = stErr b r d m s Z k x := by
   have h1 := stErr_firsts (s := s) (Z := Z) (x := x) HRT.out HKK.out
   rw [HQ.out] at h1
   exact h1
  rw [hfe] at hI
  have HI := Lib.hid hI
  have HK := Lib.hid hK
  have hDs : w.heap.size ≤ D := by have := HI0.out.bel.size; omega
  have HDS := Lib.hid hDs
  have q0 := hI.bad.cell 0
  simp at q0
  clear hI hfe hK hDs
  by_cases h0 : stErr b r d m s Z k x = 0
  ·have H0 := Lib.hid h0
   rw [h0] at q0
   clear h0
   gi_wp2_with fail
   refine ⟨trivial, ?_⟩
   with_reducible refine (callsIn_wide.2 (stat S (k : Int) W)).mono ?_
   rintro e w5 ⟨rfl, hw5⟩
   obtain ⟨ga, gb, gc, gd⟩ := news2 W (.cells #[.pointer (some ⟨S, 0, none⟩)] 49) (.cells #[.int .u64 (k : Int)] 22)
   rw [← hw5] at ga gb gc gd
   have HGA5 : Hid (Blk w5 W.heap.size 49 #[.pointer (some ⟨S, 0, none⟩)]) := Lib.hid ga
   have HGB5 : Hid (Blk w5 (W.heap.size + 1) 22 #[.int .u64 (k : Int)]) := Lib.hid gb
   have HT5 : Hid (W.heap.size + 2 = w5.heap.size ∧ w4.heap.size ≤ W.heap.size ∧ D < W.heap.size ∧ w.heap.size ≤ W.heap.size) := Lib.hid ⟨gd.symm, HI.out.top, (Array.getElem?_eq_some_iff.1 HK.out).1, HI.out.bel.size⟩
   have HJ0 : Hid (UpdI w w5 base S L b r d m s X A G C Z w.heap.size w5.heap.size D x k []) := Lib.hid ⟨Nat.le_refl _, (HI.out.st.kept gc).setC (fun n _ => rfl), HI.out.num.kept gc, RGr.of_below (btr HI.out.bel gc), (gc.block D HT5.out.2.2.1).trans HK.out⟩
   clear hw5 ga gb gc gd q0
   gi_wp2_with fail
   obtain ⟨capS2, hbx2, -⟩ := HJ0.out.st.box
   obtain ⟨cur2, hrow2, hcur2⟩ := HJ0.out.st.row
   rw [HQ.out] at hbx2 hcur2
   have HLT5 : Hid (S < w5.heap.size ∧ L < w5.heap.size ∧ w.heap.size < w5.heap.size) := Lib.hid ⟨hbx2.lt, hrow2.lt, HJ0.out.num.lt⟩
   refine wpIn_rangeFunc_ownF rfl (by omega) (gf := 170) (lb := #[.pointer (some ⟨W.heap.size, 0, none⟩), .pointer (some ⟨W.heap.size + 1, 0, none⟩)]) rfl trivial (enters_of Tryz.func170 (by kernel_rfl) rfl)
    (st_stops (6 - 1) (by omega) W.heap.size (W.heap.size + 1) S L q capS2 k cur2 X hq59 w5 HXO.out HGA5.out HGB5.out ⟨_, _, _, _, _, hbx2⟩ hrow2 hcur2) KpB.trans (KpB.put (by
     have h1 := HT5.out; have h2 := HLT5.out
     intro i hi
     simp at hi
     omega)) (Below.refl _ _) (fun _ => rfl)
    (fun (pre : List (LvN q)) W' => UpdI w W' base S L b r d m s X A G C Z w.heap.size w5.heap.size D x k (vals pre))
    (fun _ _ _ => False)
    (fun pre W1 W2 row hs hg hr => hs.walked (B := w5.heap.size) (by have := HT5.out; omega) (by have := HT5.out; omega) hg hr)
    (fun _ _ _ _ _ hs _ _ => hs)
    HJ0.out
    (fun (y : LvN q) => { tmps := #[.pointer (some ⟨S, 0, none⟩), .int .u64 (k : Int), .int .i64 x, undef, undef, .pointer (some ⟨w.heap.size, 0, none⟩), .int .i64 0, .pointer (some ⟨w2.heap.size, 0, none⟩), undef, undef, X y.1, .int .u64 ((k / 2 ^ y.1 : Nat) : Int),
     .int .u64 (k : Int), .pointer (some ⟨S, 0, none⟩), .pointer (some ⟨S, 0, none⟩), .pointer (some ⟨S, 0, none⟩), .agg #[.int .i64 b, .int .i64 r, .int .i64 d, .int .i64 m, .int .u64 s], .int .u64 (keysI b r d m 0), .bool false, .pointer (some ⟨S, 0, none⟩), .int .u64 (k : Int),
     .func (.func 170) #[] #[.pointer (some ⟨w3.heap.size, 0, none⟩), .pointer (some ⟨w3.heap.size + 1, 0, none⟩)], undef, undef, undef, undef, undef, undef, undef, undef, undef, .int .i64 0, .bool false, undef, .pointer (some ⟨S, 0, none⟩), .int .u64 (k : Int),
     .func (.func 170) #[] #[.pointer (some ⟨W.heap.size, 0, none⟩), .pointer (some ⟨W.heap.size + 1, 0, none⟩)], X y.1, .int .u64 ((k / 2 ^ y.1 : Nat) : Int), undef, undef, undef, undef], defers := [] }) ?assign2 ?body2 ?done2 ?stop2
   case assign2 =>
    intro l y W K hK
    obtain ⟨t, a, hx⟩ := HXO.out y.1 y.2
    simp only [hx] at hK ⊢
    gi_wp2
    exact hK
   case body2 =>
    intro l pre y W1 hI1 _
    have hyb : y.1 ≤ b.toNat := by have := HQ.out; have := y.2; omega
    have HI1 := Lib.hid hI1
    obtain ⟨f, ⟨TX, hX, hm, hen⟩, PUp⟩ := lvupdate W1 (X y.1) _ _ _ b r d m s (y.1 : Int) _ (hI1.st.lev y.1 hyb) HRT.out s0 s1 (k / 2 ^ y.1) (shr_small hk64 _) x hx
    obtain ⟨curC, hC⟩ := (hI1.st.lev y.1 hyb).cells
    obtain ⟨capS3, hb3, -⟩ := hI1.st.box
    obtain ⟨cur3, hr3, -⟩ := hI1.st.row
    have HNE3 : Hid (∀ i ∈ [W.heap.size, W.heap.size + 1, S, L], i < W1.heap.size ∧ i ≠ C y.1) := Lib.hid (by
     have h1 := HT5.out; have h2 := HLT5.out; have h3 := hI1.top
     have n1 := hb3.ne_ hC (by decide)
     have n2 := hr3.ne_ hC (by decide)
     have n3 : C y.1 < W.heap.size := by
      obtain ⟨c2, h5⟩ := (HI.out.st.lev y.1 hyb).cells
      exact h5.lt
     intro i hi
     simp at hi
     omega)
    have HBN : Hid (w.heap.size ≠ C y.1) := Lib.hid (by have := HCL.out y.1 hyb; omega)
    have PUp2 : Calls Tryz.prog f #[.pointer (some ⟨A y.1, 0, none⟩), .int .u64 ((k : Int) / 2 ^ y.1), .int .i64 x] W1 fun e W2 => (∃ v, e = .returned v) ∧ KeepsOthers W1 W2 ∧ KpB [W.heap.size, W.heap.size + 1, S, L] W1 W2 ∧ UpdI w W2 base S L b r d m s X A G C Z w.heap.size w5.heap.size D x k (vals (pre ++ [y])) := by
     rw [show ((k / 2 ^ y.1 : Nat) : Int) = (k : Int) / 2 ^ y.1 by rw [Int.natCast_ediv, Int.natCast_pow]; rfl] at PUp
     refine PUp.mono (fun e W2 hp => ?_)
     have hp2 := hp
     obtain ⟨he, -, hg⟩ := hp2
     refine ⟨⟨_, he⟩, kept_others hg (fun g e => ⟨_, _, by cases e; exact hC⟩), KpB.of_grown hg (fun i hi => ⟨(HNE3.out i hi).1, by simpa using (HNE3.out i hi).2⟩), ?_⟩
     rw [vals_snoc]
     exact HI1.out.next (by have := HLT5.out; omega) hyb HBN.out hp
    have PUp2 := Lib.hid PUp2
    have q1 := hI1.num.cell 0
    simp at q1
    simp only [hX]
    clear hI1 hX PUp hC hb3 hr3
    gi_wp2_with fail
    refine ⟨trivial, ?_⟩
    with_reducible refine (CallsIn.inRound l (callsIn_wide.2 PUp2.out)).mono ?_
    rintro e W2 ⟨⟨v, rfl⟩, hp⟩
    have HP := Lib.hid hp
    clear hp q1
    gi_wp2
    exact HP.out
   case done2 =>
    intro D2 xs W2 hD2 hxs hI2 hK2
    subst hxs
    rw [vals_all] at hI2
    have hne : D ≠ D2 := by have := HT5.out; omega
    have g1 := grownBy_putObj' W2 D2 (.deferred none)
    have hK1 : (W2.putObj D2 (.deferred none)).heap[D]? = some (.deferred (some [])) := (World.putObj_heap_other hne).trans hI2.mark
    have g2 := grownBy_putObj' (W2.putObj D2 (.deferred none)) D (.deferred none)
    have HP : Hid (StUpPost w base S L b r d m s X A G C Z k x (.returned (.int .i64 0)) ((W2.putObj D2 (.deferred none)).putObj D (.deferred none))) := Lib.hid (by
     refine ⟨by rw [H0.out], ?_, ?_⟩
     ·refine ((hI2.st.walked g1 (fun r e => by cases e; exact ⟨_, hK2, rfl⟩)).walked g2 (fun r e => by cases e; exact ⟨_, hK1, rfl⟩)).setC (fun n hn => ?_)
      have hc : (List.range (q + 1)).count n = 1 := by
       rw [HQ.out] at hn
       rw [count_upto, if_pos (by omega)]
      unfold stUpd
      rw [if_pos H0.out, hc]
      rfl
     ·exact (hI2.gr.grown g1 (fun r e => .inl (by cases e; have := HT5.out; omega))).grown g2 (fun r e => .inl (by cases e; exact HDS.out)))
    have HK1 := Lib.hid hK1
    have HK2 := Lib.hid hK2
    clear hI2 g1 g2 hK1 hK2
    gi_wp2
    refine ⟨by simp, .inl ⟨_, _, rfl, run_takeDeferred HK2.out, by simp, .inl ⟨_, _, rfl, run_takeDeferred HK1.out, ?_⟩⟩⟩
    refine ⟨.int .i64 0, ?_, HP.out⟩
    simp [results, Tryz.results87, go_sem]
   case stop2 =>
    intro D c pre W _ _ h _
    exact h.elim
  ·have n1 : (stErr b r d m s Z k x != 0) = true := by simp [h0]
   have HU : Hid (∀ n, stUpd b r d m s Z k x n = Z n) := Lib.hid (fun n => by unfold stUpd; rw [if_neg h0])
   have HP : Hid (StUpPost w base S L b r d m s X A G C Z k x (.returned (.int .i64 (stErr b r d m s Z k x))) (W.putObj D (.deferred none))) := Lib.hid
    ⟨rfl, (HI.out.st.walked (grownBy_putObj' W D _) (fun r e => by cases e; exact ⟨_, HK.out, rfl⟩)).setC (fun n _ => (HU.out n).symm), (RGr.of_below HI.out.bel).grown (grownBy_putObj' W D _) (fun r e => .inl (by cases e; exact HDS.out))⟩
   generalize stErr b r d m s Z k x = e0 at *
   clear h0
   gi_wp2
   refine ⟨by simp, .inl ⟨_, _, rfl, run_takeDeferred HK.out, ?_⟩⟩
   refine ⟨.int .i64 e0, ?_, HP.out⟩
   simp [results, Tryz.results87, go_sem]
 case stop =>
  intro D c pre W _ _ h _
  exact h.elim
theorem stupdate (w : World) (base S L : Nat) (b r d m s : Int) (X : Nat → Value) (A G C : Nat → Nat) (Z : Nat → List Int) (h : StIs w base S L b r d m s X A G C Z) (s0 : 0 ≤ s) (s1 : s ≤ 18446744073709551615) (k : Nat) (hk64 : k < 18446744073709551616) (x : Int) (hx : In64 x) :
    Calls Tryz.prog 87 #[.pointer (some ⟨S, 0, none⟩), .int .u64 (k : Int), .int .i64 x] w (StUpPost w base S L b r d m s X A G C Z k x) := by
  by_cases hk : keysI b r d m 0 ≤ (k : Int)
  · exact stupdate_key w base S L b r d m s X A G C Z h k x hk
  · exact stupdate_in w base S L b r d m s X A G C Z h s0 s1 k hk64 x hx (by omega)
end Go.Proofs.YtfeficdndjiijaaGreatDoor


namespace Go.Proofs.YtfeficdndjiijaaGreatDoor
open Go.RowKit
set_option linter.unusedVariables false
set_option linter.unusedSimpArgs false

theorem LevIs.frame {w w' : World} {x : Value} {A G C : Nat} {b r d m s l : Int} {zs : List Int} (h : LevIs w x A G C b r d m s l zs) (hA : w'.heap[A]? = w.heap[A]?) (hG : w'.heap[G]? = w.heap[G]?) (hC : w'.heap[C]? = w.heap[C]?) : LevIs w' x A G C b r d m s l zs := by
  have hg : ∀ {R W : Nat}, GridIs w G C R W zs → GridIs w' G C R W zs := fun g => by
    obtain ⟨cap, h1, h2⟩ := g.fields
    obtain ⟨cur, h3, h4⟩ := g.cells
    exact ⟨⟨cap, hG.trans h1, h2⟩, g.len, ⟨cur, hC.trans h3, h4⟩, g.rows, g.width, g.fit⟩
  rcases h with ⟨h1, h2, h3, h4⟩ | ⟨h1, h2, h3⟩
  · exact .inl ⟨h1, h2, hA.trans h3, hg h4⟩
  · exact .inr ⟨h1, h2, ⟨hA.trans h3.box, hg h3.grid⟩⟩
theorem StIs.frame {w w' : World} {base S L : Nat} {b r d m s : Int} {X : Nat → Value} {A G C : Nat → Nat} {Z : Nat → List Int} (h : StIs w base S L b r d m s X A G C Z) (hS : w'.heap[S]? = w.heap[S]?) (hL : w'.heap[L]? = w.heap[L]?)
    (hk : ∀ n, n ≤ b.toNat → w'.heap[A n]? = w.heap[A n]? ∧ w'.heap[G n]? = w.heap[G n]? ∧ w'.heap[C n]? = w.heap[C n]?) : StIs w' base S L b r d m s X A G C Z := by
  obtain ⟨cap, h1, h2⟩ := h.box
  obtain ⟨cur, h3, h4⟩ := h.row
  exact ⟨⟨cap, hS.trans h1, h2⟩, h.right, ⟨cur, hL.trans h3, h4⟩, fun n hn => (h.lev n hn).frame (hk n hn).1 (hk n hn).2.1 (hk n hn).2.2, h.apart, h.low⟩
theorem StIs.under {w : World} {base S L : Nat} {b r d m s : Int} {X : Nat → Value} {A G C : Nat → Nat} {Z : Nat → List Int} (h : StIs w base S L b r d m s X A G C Z) : S < w.heap.size ∧ L < w.heap.size ∧ ∀ n, n ≤ b.toNat → A n < w.heap.size ∧ G n < w.heap.size ∧ C n < w.heap.size := by
  obtain ⟨cap, h1, h2⟩ := h.box
  obtain ⟨cur, h3, h4⟩ := h.row
  refine ⟨h1.lt, h3.lt, fun n hn => ?_⟩
  rcases h.lev n hn with ⟨-, -, k1, k2⟩ | ⟨-, -, k3⟩
  · exact ⟨k1.lt, k2.ltG, k2.ltC⟩
  · exact ⟨k3.box.lt, k3.grid.ltG, k3.grid.ltC⟩
def Onl (F : Nat → Prop) (w w' : World) : Prop := w'.os = w.os ∧ w'.tape = w.tape ∧ w'.output = w.output ∧ w.heap.size ≤ w'.heap.size ∧ ∀ k, k < w.heap.size → ¬ F k → w'.heap[k]? = w.heap[k]?
theorem Onl.below {F : Nat → Prop} {w w' : World} (h : Below w.heap.size w w') : Onl F w w' := ⟨h.os, h.tape, h.output, h.size, fun k hk _ => h.block k hk⟩
theorem Onl.trans {F : Nat → Prop} {w w1 w2 : World} (h : Onl F w w1) (k : Onl F w1 w2) : Onl F w w2 :=
  ⟨k.1.trans h.1, k.2.1.trans h.2.1, k.2.2.1.trans h.2.2.1, Nat.le_trans h.2.2.2.1 k.2.2.2.1, fun x hx hn => (k.2.2.2.2 x (Nat.lt_of_lt_of_le hx h.2.2.2.1) hn).trans (h.2.2.2.2 x hx hn)⟩
theorem Onl.mono {F F' : Nat → Prop} {w w' : World} (h : Onl F w w') (hl : ∀ k, F k → F' k ∨ w.heap.size ≤ k) : Onl F' w w' := ⟨h.1, h.2.1, h.2.2.1, h.2.2.2.1, fun k hk hn => h.2.2.2.2 k hk (fun hm => by rcases hl k hm with h1 | h1; exact hn h1; omega)⟩
theorem Onl.of_chg {l : List Nat} {w w' : World} (h : Chg l w w') : Onl (fun k => k ∈ l) w w' := h
theorem Onl.of_rgr {C : Nat → Nat} {q : Nat} {w w' : World} (h : RGr w w' C q) : Onl (fun k => ∃ n, n < q ∧ k = C n) w w' := ⟨h.os, h.tape, h.output, h.size, fun k hk hn => h.block k hk (fun n hq e => hn ⟨n, hq, e⟩)⟩
theorem Onl.of_gr {g : Nat} {w w' : World} (h : w.grownBy w' (some g)) : Onl (fun k => k = g) w w' := ⟨h.os, h.tape, h.output, h.size, fun k hk hn => h.block k hk (fun e => hn (Option.some.inj e))⟩
theorem Onl.to_below {F : Nat → Prop} {w w' : World} {B : Nat} (h : Onl F w w') (hB : B ≤ w.heap.size) (hF : ∀ k, F k → B ≤ k) : Below B w w' := ⟨h.1, h.2.1, h.2.2.1, h.2.2.2.1, fun k hk => h.2.2.2.2 k (by omega) (fun hf => by have := hF k hf; omega)⟩
def NoSt (w : World) (k : Nat) : Prop := ∀ t cs, Blk w k t cs → t ≠ 2 ∧ t ≠ 337 ∧ t ≠ 284 ∧ t ≠ 288 ∧ t ≠ 174 ∧ t ≠ 172
theorem blk_one {w : World} {k : Nat} {t t' : TypeId} {cs cs' : Array Value} (h : Blk w k t cs) (h' : Blk w k t' cs') : t = t' := by
  have := (show w.heap[k]? = _ from h).symm.trans h'
  simp at this
  exact this.2
theorem StIs.onl {F : Nat → Prop} {w w' : World} {base S L : Nat} {b r d m s : Int} {X : Nat → Value} {A G C : Nat → Nat} {Z : Nat → List Int} (h : StIs w base S L b r d m s X A G C Z) (ho : Onl F w w')
  (hF : ∀ k, F k → NoSt w k ∨ ((∃ cs, Blk w k 2 cs) ∧ ∀ n, n ≤ b.toNat → k ≠ C n)) : StIs w' base S L b r d m s X A G C Z := by
 have keep : ∀ (k : Nat) (t : TypeId) (cs : Array Value), Blk w k t cs → (t = 2 → ∃ n, n ≤ b.toNat ∧ k = C n) → (t = 2 ∨ t = 337 ∨ t = 284 ∨ t = 288 ∨ t = 174 ∨ t = 172) → w'.heap[k]? = w.heap[k]? := by
  intro k t cs hk hi ht
  refine ho.2.2.2.2 k hk.lt (fun hf => ?_)
  rcases hF k hf with h1 | ⟨⟨cs', h1⟩, h2⟩
  ·have := h1 t cs hk
   rcases ht with e | e | e | e | e | e
   ·exact this.1 e
   ·exact this.2.1 e
   ·exact this.2.2.1 e
   ·exact this.2.2.2.1 e
   ·exact this.2.2.2.2.1 e
   ·exact this.2.2.2.2.2 e
  ·obtain ⟨n, hn, e⟩ := hi (blk_one hk h1)
   exact h2 n hn e
 obtain ⟨cap, h1, -⟩ := h.box
 obtain ⟨cur, h3, -⟩ := h.row
 refine h.frame (keep S _ _ h1 (fun e => absurd e (by decide)) (by simp)) (keep L _ _ h3 (fun e => absurd e (by decide)) (by simp)) (fun n hn => ?_)
 rcases h.lev n hn with ⟨-, -, k1, k2⟩ | ⟨-, -, k3⟩
 ·obtain ⟨c1, f1, -⟩ := k2.fields
  obtain ⟨cu, f2, -⟩ := k2.cells
  exact ⟨keep _ _ _ k1 (fun e => absurd e (by decide)) (by simp), keep _ _ _ f1 (fun e => absurd e (by decide)) (by simp), keep _ _ _ f2 (fun _ => ⟨n, hn, rfl⟩) (by simp)⟩
 ·obtain ⟨c1, f1, -⟩ := k3.grid.fields
  obtain ⟨cu, f2, -⟩ := k3.grid.cells
  exact ⟨keep _ _ _ k3.box (fun e => absurd e (by decide)) (by simp), keep _ _ _ f1 (fun e => absurd e (by decide)) (by simp), keep _ _ _ f2 (fun _ => ⟨n, hn, rfl⟩) (by simp)⟩
structure AggSt (w : World) (base A bm n : Nat) (b r d m s : Int) (S L : Nat → Nat) (X : Nat → Nat → Value) (Ar G C : Nat → Nat → Nat) (Z : Nat → Nat → List Int) : Prop where
  agg : ∃ T, AggIs w A bm n T ∧ ∀ i, 1 ≤ i → i ≤ n → T i = (some (S i), none)
  st : ∀ i, 1 ≤ i → i ≤ n → StIs w base (S i) (L i) b r d m s (X i) (Ar i) (G i) (C i) (Z i)
  apart : ∀ i j p q, 1 ≤ i → i ≤ n → 1 ≤ j → j ≤ n → i ≠ j → p ≤ b.toNat → q ≤ b.toNat → C i p ≠ C j q
  lo : base ≤ A ∧ base ≤ bm
  tab : Tab w
theorem AggSt.kept {w w' : World} {base A bm n : Nat} {b r d m s : Int} {S L : Nat → Nat} {X : Nat → Nat → Value} {Ar G C : Nat → Nat → Nat} {Z : Nat → Nat → List Int} (h : AggSt w base A bm n b r d m s S L X Ar G C Z) (hb : Below w.heap.size w w') : AggSt w' base A bm n b r d m s S L X Ar G C Z := by
  obtain ⟨T, h1, h2⟩ := h.agg
  exact ⟨⟨T, h1.kept hb, h2⟩, fun i h3 h4 => (h.st i h3 h4).kept hb, h.apart, h.lo, h.tab.kept hb⟩
theorem AggIs.noSt {w : World} {A bm n : Nat} {T : Nat → Option Nat × Option Nat} (h : AggIs w A bm n T) : NoSt w A ∧ NoSt w bm := by
  obtain ⟨h1, D, ⟨es, clock, h2, -⟩, -⟩ := h
  refine ⟨fun t cs hk => ?_, fun t cs hk => ?_⟩
  · have := blk_one hk h1
    subst this
    exact ⟨by decide, by decide, by decide, by decide, by decide, by decide⟩
  · rw [show w.heap[bm]? = _ from hk] at h2
    cases h2
def AOnl (base A bm : Nat) (w w' : World) : Prop := Onl (fun k => k = A ∨ k = bm ∨ (base ≤ k ∧ ∃ cs, Blk w k 2 cs)) w w'
theorem AOnl.below {base A bm : Nat} {w w' : World} (h : Below w.heap.size w w') : AOnl base A bm w w' := Onl.below h
theorem AOnl.of {F : Nat → Prop} {base A bm : Nat} {w w' : World} (h : Onl F w w') (hF : ∀ k, k < w.heap.size → F k → k = A ∨ k = bm ∨ (base ≤ k ∧ ∃ cs, Blk w k 2 cs)) : AOnl base A bm w w' :=
  ⟨h.1, h.2.1, h.2.2.1, h.2.2.2.1, fun k hk hn => h.2.2.2.2 k hk (fun hf => hn (hF k hk hf))⟩
theorem AOnl.trans {base A bm : Nat} {w w1 w2 : World} (h : AOnl base A bm w w1) (k : AOnl base A bm w1 w2) : AOnl base A bm w w2 :=
  ⟨k.1.trans h.1, k.2.1.trans h.2.1, k.2.2.1.trans h.2.2.1, Nat.le_trans h.2.2.2.1 k.2.2.2.1, fun x hx hn => by
    have e := h.2.2.2.2 x hx hn
    refine (k.2.2.2.2 x (Nat.lt_of_lt_of_le hx h.2.2.2.1) (fun hf => hn ?_)).trans e
    rcases hf with h1 | h1 | ⟨h1, cs, h2⟩
    · exact .inl h1
    · exact .inr (.inl h1)
    · exact .inr (.inr ⟨h1, cs, by rw [show Blk w x 2 cs ↔ w.heap[x]? = some (.cells cs 2 (0, 0)) from Iff.rfl, ← e]; exact h2⟩)⟩
theorem AOnl.to_below {base A bm : Nat} {w w' : World} (h : AOnl base A bm w w') (hs : base ≤ w.heap.size) (hA : base ≤ A) (hB : base ≤ bm) : Below base w w' :=
  Onl.to_below h hs (fun k hk => by rcases hk with h1 | h1 | ⟨h1, -⟩ <;> omega)
theorem AOnl.blk {base A bm : Nat} {w w' : World} (h : AOnl base A bm w w') {k : Nat} {t : TypeId} {cs : Array Value} (hk : Blk w k t cs) (h1 : k ≠ A) (h2 : k ≠ bm) (h3 : t ≠ 2) : Blk w' k t cs := by
  refine (h.2.2.2.2 k hk.lt ?_).trans hk
  rintro (e | e | ⟨-, cs', e⟩)
  · exact h1 e
  · exact h2 e
  · exact h3 (blk_one hk e)
end Go.Proofs.YtfeficdndjiijaaGreatDoor


namespace Go.Proofs.YtfeficdndjiijaaGreatDoor
open Go.RowKit
set_option linter.unusedVariables false
set_option linter.unusedSimpArgs false

def PlainW (a : List UInt8) : Prop := GoodW a ∧ Asc a ∧ a.length ≤ 5000
theorem num_plain (n : Int) (h0 : -9223372036854775808 ≤ n) (h1 : n ≤ 9223372036854775807) : PlainW (Lib.itoa n) := by
  refine ⟨⟨itoa_ne n, itoa_head n, fun x hx e => ?_⟩, fun x hx => ?_, ?_⟩
  · have := itoa_chars n x hx
    subst e
    revert this
    decide
  · rcases itoa_chars n x hx with h | h <;> omega
  · have := Lib.itoa_length_le n h0 h1
    omega
theorem asc_join : ∀ (ws : List (List UInt8)), (∀ a ∈ ws, Asc a) → Asc (joinW ws)
  | [], _ => fun x hx => by simp [joinW] at hx
  | a :: r, h => fun x hx => by
    rw [joinW_cons] at hx
    rcases List.mem_append.1 hx with h1 | h1
    · exact h a (by simp) x h1
    · split at h1
      · simp at h1
      · rcases List.mem_cons.1 h1 with h2 | h2
        · subst h2; decide
        · exact asc_join r (fun b hb => h b (by simp [hb])) x h2
theorem len_join (k : Nat) : ∀ (ws : List (List UInt8)), (∀ a ∈ ws, a.length ≤ k) → (joinW ws).length ≤ ws.length * (k + 1)
  | [], _ => by simp [joinW]
  | a :: r, h => by
    rw [joinW_cons, List.length_append]
    have h1 := h a (by simp)
    have h2 := len_join k r (fun b hb => h b (by simp [hb]))
    rw [List.length_cons, Nat.add_mul, Nat.one_mul]
    split
    · simp; omega
    · simp; omega
theorem parse_ws (PC : Value → World → Prop) (hPC : Stays PC) (ws : List (List UInt8)) (hg : ∀ a ∈ ws, PlainW a) (hlen : ws.length ≤ 12) (hws : ws ≠ []) (w : World) (ht : Tab w)
    (hcmd : ∀ (w1 : World) (R : Nat) (v : Value) (en : Int), w.heap.size ≤ w1.heap.size → Rd w1 R v 0 en → WdAt w1 v ws → Tab w1 →
      Calls Tryz.prog 44 #[.pointer (some ⟨R, 0, none⟩)] w1 fun e w' => ∃ c, e = .returned c ∧ PC c w' ∧ Rd w' R v (ws.length : Int) en ∧ w1.grownBy w' (some R)) :
    Calls Tryz.prog 21 #[.string (sB (joinW ws))] w fun e w' => ∃ c, e = .returned (.tuple #[c, .int .i64 0, .int .i64 0]) ∧ PC c w' ∧ Below w.heap.size w w' := by
  have hl := len_join 5000 ws (fun a ha => (hg a ha).2.2)
  have h12 : ws.length * 5001 ≤ 12 * 5001 := Nat.mul_le_mul_right _ hlen
  exact parse_of PC hPC _ ws rfl (fun a ha => (hg a ha).1) (asc_join ws (fun a ha => (hg a ha).2.1)) (by omega) (by omega) hws w ht hcmd
theorem stays_eq (c0 : Value) : Stays (fun c _ => c = c0) := fun c w w' h _ => h
theorem AggSt.zero {w : World} {A bm base : Nat} {b r d m s : Int} {S L : Nat → Nat} {X : Nat → Nat → Value} {Ar G C : Nat → Nat → Nat} {Z : Nat → Nat → List Int} {T : Nat → Option Nat × Option Nat} (h : AggIs w A bm 0 T) (h1 : base ≤ A) (h2 : base ≤ bm) (ht : Tab w) : AggSt w base A bm 0 b r d m s S L X Ar G C Z :=
  ⟨⟨T, h, fun i h3 h4 => by omega⟩, fun i h3 h4 => by omega, fun i j p q h3 h4 => by omega, ⟨h1, h2⟩, ht⟩
theorem Tab.onl {F : Nat → Prop} {w w' : World} (h : Tab w) (ho : Onl F w w') (hF : ∀ k, F k → k ≠ 4) : Tab w' := by
  unfold Tab Lib.TabIs World.var? at h ⊢
  rw [Tryz.tabNum] at h ⊢
  simp only [Option.bind_some] at h ⊢
  have hlt : 4 < w.heap.size := by
    cases hx : w.heap[4]? with
    | none => rw [hx] at h; simp at h
    | some o => exact (Array.getElem?_eq_some_iff.1 hx).1
  rw [ho.2.2.2.2 _ hlt (fun hf => hF _ hf rfl)]
  exact h
theorem Tab.lt {w : World} (h : Tab w) : 4 < w.heap.size := by
  unfold Tab Lib.TabIs World.var? at h
  rw [Tryz.tabNum] at h
  simp only [Option.bind_some] at h
  cases hx : w.heap[4]? with
  | none => rw [hx] at h; simp at h
  | some o => exact (Array.getElem?_eq_some_iff.1 hx).1
theorem AggSt.push {w1 w2 : World} {base A bm n : Nat} {b r d m s : Int} {S L : Nat → Nat} {X : Nat → Nat → Value} {Ar G C : Nat → Nat → Nat} {Z : Nat → Nat → List Int} {T : Nat → Option Nat × Option Nat} {S' L' lo : Nat} {X' : Nat → Value} {A' G' C' : Nat → Nat} {Z' : Nat → List Int} (h : AggSt w1 base A bm n b r d m s S L X Ar G C Z) (hT : ∀ i, 1 ≤ i → i ≤ n → T i = (some (S i), none)) (hbase : 4 < base) (hlo0 : base ≤ lo)
  (hlo : ∀ i p, 1 ≤ i → i ≤ n → p ≤ b.toNat → C i p < lo) (hst : StIs w1 lo S' L' b r d m s X' A' G' C' Z') (ha : AggIs w2 A bm (n + 1) (upT T (n + 1) (some S') none)) (hc : Chg [A, bm] w1 w2) (hns : NoSt w1 A ∧ NoSt w1 bm) :
  AggSt w2 base A bm (n + 1) b r d m s (upN S (n + 1) S') (upN L (n + 1) L') (upN X (n + 1) X') (upN Ar (n + 1) A') (upN G (n + 1) G') (upN C (n + 1) C') (upN Z (n + 1) Z') := by
 have ho := Onl.of_chg hc
 have hF : ∀ (CC : Nat → Nat), ∀ k, k ∈ [A, bm] → NoSt w1 k ∨ ((∃ cs, Blk w1 k 2 cs) ∧ ∀ n, n ≤ b.toNat → k ≠ CC n) := fun CC k hk => by
  simp at hk
  rcases hk with rfl | rfl
  ·exact .inl hns.1
  ·exact .inl hns.2
 refine ⟨⟨_, ha, fun i h1 h2 => ?_⟩, fun i h1 h2 => ?_, fun i j p q h1 h2 h3 h4 hne h5 h6 => ?_, h.lo, h.tab.onl ho (fun k hk => by simp at hk; have := h.lo; rcases hk with rfl | rfl <;> omega)⟩
 ·by_cases e : i = n + 1
  ·subst e; simp [upT, upN_same]
  ·rw [upN_other _ _ e]
   simp only [upT, if_neg e]
   exact hT i h1 (by omega)
 ·by_cases e : i = n + 1
  ·subst e
   simp only [upN_same]
   exact (hst.low_ hlo0).onl ho (hF _)
  ·simp only [upN_other _ _ e]
   exact (h.st i h1 (by omega)).onl ho (hF _)
 ·by_cases e1 : i = n + 1
  ·subst e1
   rw [upN_same, upN_other _ _ (Ne.symm hne)]
   have h7 := hst.low p h5
   have h8 := hlo j q h3 (by omega) h6
   omega
  ·rw [upN_other _ _ e1]
   by_cases e2 : j = n + 1
   ·subst e2
    rw [upN_same]
    have h7 := hst.low q h6
    have h8 := hlo i p h1 (by omega) h5
    omega
   ·rw [upN_other _ _ e2]
    exact h.apart i j p q h1 (by omega) h3 (by omega) hne h5 h6
end Go.Proofs.YtfeficdndjiijaaGreatDoor


namespace Go.Proofs.YtfeficdndjiijaaGreatDoor
open Go.RowKit
set_option linter.unusedVariables false
set_option linter.unusedSimpArgs false

def wCreate : List UInt8 := [99, 114, 101, 97, 116, 101]
def wAdd : List UInt8 := [97, 100, 100]
theorem plainLit (a : List UInt8) (h : (a != [] && a.head? != some 34 && a.all (fun x => x != 32 && decide (x.toNat < 128)) && decide (a.length ≤ 5000)) = true) : PlainW a := by
  simp only [Bool.and_eq_true, bne_iff_ne, ne_eq, List.all_eq_true, decide_eq_true_eq] at h
  obtain ⟨⟨⟨h1, h2⟩, h3⟩, h4⟩ := h
  exact ⟨⟨h1, h2, fun x hx => (h3 x hx).1⟩, fun x hx => (h3 x hx).2, h4⟩
theorem AggSt.base_le {w : World} {base A bm n : Nat} {b r d m s : Int} {S L : Nat → Nat} {X : Nat → Nat → Value} {Ar G C : Nat → Nat → Nat} {Z : Nat → Nat → List Int} (h : AggSt w base A bm n b r d m s S L X Ar G C Z) : base ≤ w.heap.size ∧ A < w.heap.size ∧ bm < w.heap.size := by
  obtain ⟨T, h1, h2⟩ := h.agg
  have := h1.lt
  have := h.lo
  omega
theorem AggSt.ltC {w : World} {base A bm n : Nat} {b r d m s : Int} {S L : Nat → Nat} {X : Nat → Nat → Value} {Ar G C : Nat → Nat → Nat} {Z : Nat → Nat → List Int} (h : AggSt w base A bm n b r d m s S L X Ar G C Z) (i p : Nat) (h1 : 1 ≤ i) (h2 : i ≤ n) (h3 : p ≤ b.toNat) : C i p < w.heap.size := ((h.st i h1 h2).under.2.2 p h3).2.2
theorem line_create (w : World) (base A bm n : Nat) (b r d m s x4 : Int) (S L : Nat → Nat) (X : Nat → Nat → Value) (Ar G C : Nat → Nat → Nat) (Z : Nat → Nat → List Int) (h : AggSt w base A bm n b r d m s S L X Ar G C Z) (hg : 4 < base) (hn : n < 32) (hr : rightB b r d m = true) (hx4 : In64 x4) (hs : IntKind.u64.wrap x4 = s) :
  Calls Tryz.prog 8 #[.pointer (some ⟨A, 0, none⟩), .string (sB (joinW [wCreate, Lib.itoa b, Lib.itoa r, Lib.itoa d, Lib.itoa m, Lib.itoa x4]))] w fun e w' => ∃ t, e = .returned (.tuple #[.string t, .bool true]) ∧ t = sB ([104, 97, 110, 100, 108, 101, 32] ++ Lib.itoa ((n : Int) + 1)) ∧
   ∃ S' L' X' A' G' C', AggSt w' base A bm (n + 1) b r d m s (upN S (n + 1) S') (upN L (n + 1) L') (upN X (n + 1) X') (upN Ar (n + 1) A') (upN G (n + 1) G') (upN C (n + 1) C') (upN Z (n + 1) (zeroZ b r d m)) ∧ AOnl base A bm w w' := by
 have hR := right_of hr
 have i64 : ∀ x : Int, 0 ≤ x → x ≤ 1000 → In64 x := fun x h0 h1 => by unfold In64; omega
 have hb := i64 b (by omega) (by omega)
 have hrr := i64 r (by omega) (by omega)
 have hd := i64 d (by omega) (by omega)
 have hm := i64 m (by omega) (by omega)
 obtain ⟨T, hT1, hT2⟩ := h.agg
 have hsz := h.base_le
 refine line_of A _ w (fun c _ => c = .iface 110 (.agg #[.int .i64 b, .int .i64 r, .int .i64 d, .int .i64 m, .int .u64 s]))
  (fun rr w2 => rr = .iface 135 (.agg #[.int .i64 ((n : Int) + 1)]) ∧ ∃ S' L' X' A' G' C', AggSt w2 base A bm (n + 1) b r d m s (upN S (n + 1) S') (upN L (n + 1) L') (upN X (n + 1) X') (upN Ar (n + 1) A') (upN G (n + 1) G') (upN C (n + 1) C') (upN Z (n + 1) (zeroZ b r d m)) ∧ AOnl base A bm w w2)
  _ (fun c _ hc => ⟨_, _, hc⟩) ?_ ?_ ?_
 ·refine parse_ws _ (stays_eq _) _ (fun a ha => ?_) (by simp) (by simp) w h.tab (fun w1 R v en hle hr1 hv ht1 => ?_)
  ·simp only [List.mem_cons, List.mem_nil_iff, or_false] at ha
   rcases ha with rfl | rfl | rfl | rfl | rfl | rfl
   ·exact plainLit _ (by decide)
   ·exact num_plain _ hb.1 hb.2
   ·exact num_plain _ hrr.1 hrr.2
   ·exact num_plain _ hd.1 hd.2
   ·exact num_plain _ hm.1 hm.2
   ·exact num_plain _ hx4.1 hx4.2
  ·refine (cmd_create w1 R v _ en b r d m x4 hr1 hv rfl (by simp) rfl rfl rfl rfl rfl hb hrr hd hm hx4 ht1 s hs).mono ?_
   rintro e w' ⟨rfl, h2, h3⟩
   exact ⟨_, rfl, rfl, h2, h3⟩
 ·rintro c w1 hb1 rfl
  refine do_create w1 A b r d m s _ (fun S' w2 => ∃ lo L' X' A' G' C', w.heap.size ≤ lo ∧ StIs w2 lo S' L' b r d m s X' A' G' C' (zeroZ b r d m) ∧ Below w.heap.size w w2) ?_ ?_
  ·intro w2 hb2
   refine (stnew_yes b r d m s hr w2).mono ?_
   rintro e w3 ⟨S', L', X', A', G', C', rfl, -, hst, hb3⟩
   have h12 := btr hb1 hb2
   exact ⟨S', rfl, _, L', X', A', G', C', h12.size, hst, btr h12 hb3⟩
  ·rintro S' w2 ⟨lo, L', X', A', G', C', hlo, hst, hb2⟩
   have hk := h.kept hb2
   have ha2 := hT1.kept hb2
   refine (aggmade w2 A bm n T (some S') none ha2 hn).mono ?_
   rintro e w3 ⟨rfl, ha3, hc⟩
   refine ⟨_, rfl, rfl, S', L', X', A', G', C', hk.push hT2 hg (by omega) (fun i p h1 h2 h3 => Nat.lt_of_lt_of_le (h.ltC i p h1 h2 h3) hlo) hst ha3 hc ha2.noSt, ?_⟩
   exact (AOnl.below hb2).trans (AOnl.of (Onl.of_chg hc) (fun k _ hk => by simp at hk; rcases hk with e | e; exact .inl e; exact .inr (.inl e)))
 ·rintro rr w2 ⟨rfl, S', L', X', A', G', C', hA, hB⟩
  refine (text_handle _ (by omega) (by omega) w2 hA.tab).mono ?_
  rintro e w3 ⟨rfl, hb3⟩
  exact ⟨_, rfl, rfl, S', L', X', A', G', C', hA.kept hb3, hB.trans (AOnl.below hb3)⟩
theorem AggIs.onl {F : Nat → Prop} {w w' : World} {A bm n : Nat} {T : Nat → Option Nat × Option Nat} (h : AggIs w A bm n T) (ho : Onl F w w') (hA : ¬ F A) (hB : ¬ F bm) : AggIs w' A bm n T := by
  have hlt := h.lt
  obtain ⟨h1, D, ⟨es, clock, h2, h4⟩, h3⟩ := h
  exact ⟨(ho.2.2.2.2 A hlt.1 hA).trans h1, D, ⟨es, clock, (ho.2.2.2.2 bm hlt.2 hB).trans h2, h4⟩, h3⟩
theorem AggSt.upd {w1 w2 : World} {base A bm n : Nat} {b r d m s : Int} {S L : Nat → Nat} {X : Nat → Nat → Value} {Ar G C : Nat → Nat → Nat} {Z : Nat → Nat → List Int} (h : AggSt w1 base A bm n b r d m s S L X Ar G C Z) (hbase : 4 < base) {i : Nat} (h1 : 1 ≤ i) (h2 : i ≤ n) {Z' : Nat → List Int}
  (hst : StIs w2 base (S i) (L i) b r d m s (X i) (Ar i) (G i) (C i) Z') (hg : RGr w1 w2 (C i) (b.toNat + 1)) : AggSt w2 base A bm n b r d m s S L X Ar G C (upN Z i Z') ∧ AOnl base A bm w1 w2 := by
 have ho := Onl.of_rgr hg
 have hsi := h.st i h1 h2
 have hblk : ∀ p, p ≤ b.toNat → ∃ cs, Blk w1 (C i p) 2 cs := fun p hp => (hsi.lev p hp).cells
 obtain ⟨T, hT1, hT2⟩ := h.agg
 refine ⟨⟨⟨T, hT1.onl ho ?_ ?_, hT2⟩, fun j h3 h4 => ?_, h.apart, h.lo, h.tab.onl ho ?_⟩, AOnl.of ho ?_⟩
 ·rintro ⟨p, hp, e⟩
  obtain ⟨cs, hc⟩ := hblk p (by omega)
  rw [← e] at hc
  exact (hT1.noSt.1 _ _ hc).1 rfl
 ·rintro ⟨p, hp, e⟩
  obtain ⟨cs, hc⟩ := hblk p (by omega)
  rw [← e] at hc
  exact (hT1.noSt.2 _ _ hc).1 rfl
 ·by_cases e : j = i
  ·subst e; rw [upN_same]; exact hst
  ·rw [upN_other _ _ e]
   refine (h.st j h3 h4).onl ho ?_
   rintro k ⟨p, hp, rfl⟩
   exact .inr ⟨hblk p (by omega), fun q hq => h.apart i j p q h1 h2 h3 h4 (Ne.symm e) (by omega) hq⟩
 ·rintro k ⟨p, hp, rfl⟩
  have := hsi.low p (by omega)
  omega
 ·rintro k - ⟨p, hp, rfl⟩
  exact .inr (.inr ⟨hsi.low p (by omega), hblk p (by omega)⟩)
theorem line_add (w : World) (base A bm n : Nat) (b r d m s : Int) (S L : Nat → Nat) (X : Nat → Nat → Value) (Ar G C : Nat → Nat → Nat) (Z : Nat → Nat → List Int) (h : AggSt w base A bm n b r d m s S L X Ar G C Z) (hg : 4 < base) (hn : n ≤ 32) (s0 : 0 ≤ s) (s1 : s ≤ 18446744073709551615)
  (i : Nat) (h1 : 1 ≤ i) (h2 : i ≤ n) (key : Nat) (hk : key ≤ 9223372036854775807) (x : Int) (hx : In64 x) (herr : stErr b r d m s (Z i) key x = 0) :
  Calls Tryz.prog 8 #[.pointer (some ⟨A, 0, none⟩), .string (sB (joinW [wAdd, Lib.itoa (i : Int), Lib.itoa (key : Int), Lib.itoa x]))] w fun e w' => ∃ t, e = .returned (.tuple #[.string t, .bool true]) ∧ t = sB [100, 111, 110, 101] ∧
   AggSt w' base A bm n b r d m s S L X Ar G C (upN Z i (stUpd b r d m s (Z i) key x)) ∧ AOnl base A bm w w' := by
 obtain ⟨T, hT1, hT2⟩ := h.agg
 have hsz := h.base_le
 have hi64 : In64 (i : Int) := by unfold In64; omega
 refine line_of A _ w (fun c _ => c = .iface 117 (.agg #[.int .i64 (i : Int), .bool false, .string ⟨#[]⟩, .int .u64 (key : Int), .int .i64 x]))
  (fun rr w2 => rr = .iface 133 (.agg #[]) ∧ AggSt w2 base A bm n b r d m s S L X Ar G C (upN Z i (stUpd b r d m s (Z i) key x)) ∧ AOnl base A bm w w2)
  _ (fun c _ hc => ⟨_, _, hc⟩) ?_ ?_ ?_
 ·refine parse_ws _ (stays_eq _) _ (fun a ha => ?_) (by simp) (by simp) w h.tab (fun w1 R v en hle hr1 hv ht1 => ?_)
  ·simp only [List.mem_cons, List.mem_nil_iff, or_false] at ha
   rcases ha with rfl | rfl | rfl | rfl
   ·exact plainLit _ (by decide)
   ·exact num_plain _ hi64.1 hi64.2
   ·exact num_plain _ (by omega) (by omega)
   ·exact num_plain _ hx.1 hx.2
  ·refine (cmd_add w1 R v _ en i key x hr1 hv rfl (by simp) rfl rfl rfl hi64 (by omega) (by omega) hx ht1).mono ?_
   rintro e w' ⟨rfl, h2, h3⟩
   exact ⟨_, rfl, rfl, h2, h3⟩
 ·rintro c w1 hb1 rfl
  refine do_add w1 A i key x _ (fun w2 hb2 => ?_)
  have hk2 := hT1.kept (btr hb1 hb2)
  refine (aggadd w2 A bm n T i key x (S i) hk2 (by omega) (by omega) (by omega) (by rw [Int.toNat_natCast]; exact hT2 i h1 h2) (fun w3 w4 => Below w2.heap.size w2 w3 → AggSt w4 base A bm n b r d m s S L X Ar G C (upN Z i (stUpd b r d m s (Z i) key x)) ∧ AOnl base A bm w w4) (fun w3 hb3 => ?_)).mono ?_
  ·have hb13 := btr (btr hb1 hb2) hb3
   have h3 := h.kept hb13
   refine (stupdate w3 base (S i) (L i) b r d m s (X i) (Ar i) (G i) (C i) (Z i) (h3.st i h1 h2) s0 s1 key (by omega) x hx).mono ?_
   rintro e w4 ⟨rfl, hst, hgr⟩
   rw [herr]
   refine ⟨rfl, fun _ => ?_⟩
   have hu := h3.upd hg h1 h2 hst hgr
   exact ⟨hu.1, (AOnl.below hb13).trans hu.2⟩
  ·rintro e w4 ⟨rfl, w3, hb3, hu⟩
   exact ⟨_, rfl, rfl, hu hb3⟩
 ·rintro rr w2 ⟨rfl, hA, hB⟩
  refine (text_done w2).mono ?_
  rintro e w3 ⟨rfl, hb3⟩
  exact ⟨_, rfl, rfl, hA.kept hb3, hB.trans (AOnl.below hb3)⟩
end Go.Proofs.YtfeficdndjiijaaGreatDoor


namespace Go.Proofs.YtfeficdndjiijaaGreatDoor
open Go.RowKit
set_option linter.unusedVariables false
set_option linter.unusedSimpArgs false

def wTick : List UInt8 := [116, 105, 99, 107]
theorem line_tick (w : World) (base A bm n : Nat) (b r d m s : Int) (S L : Nat → Nat) (X : Nat → Nat → Value) (Ar G C : Nat → Nat → Nat) (Z : Nat → Nat → List Int) (h : AggSt w base A bm n b r d m s S L X Ar G C Z) (hn : n ≤ 32) :
  Calls Tryz.prog 8 #[.pointer (some ⟨A, 0, none⟩), .string (sB (joinW [wTick]))] w fun e w' => ∃ t, e = .returned (.tuple #[.string t, .bool true]) ∧ t = sB [100, 111, 110, 101] ∧
   AggSt w' base A bm n b r d m s S L X Ar G C Z ∧ Below w.heap.size w w' := by
 obtain ⟨T, hT1, hT2⟩ := h.agg
 refine line_of A _ w (fun c _ => c = .iface 120 (.agg #[]))
  (fun rr w2 => rr = .iface 133 (.agg #[]) ∧ Below w.heap.size w w2)
  _ (fun c _ hc => ⟨_, _, hc⟩) ?_ ?_ ?_
 ·refine parse_ws _ (stays_eq _) _ (fun a ha => ?_) (by simp) (by simp) w h.tab (fun w1 R v en hle hr1 hv ht1 => ?_)
  ·simp only [List.mem_cons, List.mem_nil_iff, or_false] at ha
   subst ha
   exact plainLit _ (by decide)
  ·refine (cmd_tick w1 R v _ en hr1 hv rfl (by simp)).mono ?_
   rintro e w' ⟨rfl, h2, h3⟩
   exact ⟨_, rfl, rfl, h2, h3⟩
 ·rintro c w1 hb1 rfl
  refine do_tick w1 A _ (fun w2 hb2 => ?_)
  have hk2 := hT1.kept (btr hb1 hb2)
  refine (tick_none w2 A bm n T hk2 (by omega) (fun k h1 h2 => by rw [hT2 k h1 h2])).mono ?_
  rintro e w3 ⟨rfl, hb3⟩
  exact ⟨_, rfl, rfl, btr (btr hb1 hb2) hb3⟩
 ·rintro rr w2 ⟨rfl, hb⟩
  refine (text_done w2).mono ?_
  rintro e w3 ⟨rfl, hb3⟩
  exact ⟨_, rfl, rfl, h.kept (btr hb hb3), btr hb hb3⟩
end Go.Proofs.YtfeficdndjiijaaGreatDoor


namespace Go.Proofs.YtfeficdndjiijaaGreatDoor
open Go.RowKit
set_option linter.unusedVariables false
set_option linter.unusedSimpArgs false

def TRow (bs : List Int) (n : Nat) (zs : List Int) (at' : Nat) : Prop := zs.length = n ∧ Fit zs ∧ at' = (rowB zs).length ∧ ∃ r, bs = rowB zs ++ r
def TRowNo (bs : List Int) (n : Nat) : Prop := ∀ zs a, ¬ TRow bs n zs a
theorem Fit.nil : Fit [] := fun u hu => by cases hu
theorem Fit.snoc {zs : List Int} (h : Fit zs) {z : Int} (hz : -9223372036854775808 ≤ z ∧ z ≤ 9223372036854775807) : Fit (zs ++ [z]) := fun u hu => by
  rcases List.mem_append.1 hu with hu | hu
  · exact h u hu
  · rw [List.mem_singleton.1 hu]; exact hz
theorem TRow.zero (bs : List Int) : TRow bs 0 [] 0 := ⟨rfl, Fit.nil, rfl, bs, rfl⟩
theorem TRow.rest {bs : List Int} {n : Nat} {zs : List Int} {a : Nat} (h : TRow bs n zs a) : bs = rowB zs ++ bs.drop a ∧ a ≤ bs.length := by
  obtain ⟨-, -, rfl, r, rfl⟩ := h
  exact ⟨by rw [List.drop_left], by simp⟩
theorem TRow.le {bs : List Int} {n : Nat} {zs : List Int} {a : Nat} (h : TRow bs n zs a) : n ≤ a ∧ a ≤ 10 * n := by
  obtain ⟨rfl, h2, rfl, -⟩ := h
  exact ⟨rowB_ge zs, rowB_le zs h2⟩
theorem TRow.next {bs : List Int} {n : Nat} {zs : List Int} {a u m : Nat} (h : TRow bs n zs a) (k : TakeS (bs.drop a) u m) : TRow bs (n + 1) (zs ++ [zagI u]) (a + m) := by
  obtain ⟨h1, h2, h3, r, h4⟩ := h
  obtain ⟨k1, k2, s, k3⟩ := k
  refine ⟨by simp [h1], h2.snoc (zag_fit k1), ?_, s, ?_⟩
  · rw [rowB_snoc, zig_zag, List.length_append, h3, k2]
  · rw [rowB_snoc, zig_zag, List.append_assoc, ← k3, h3, h4, List.drop_left]
theorem row_split {zs ys : List Int} (hz : Fit zs) (hy : Fit ys) {r s : List Int} (h : rowB zs ++ r = rowB ys ++ s) (hl : zs.length < ys.length) : ∃ y t, ys = zs ++ y :: t ∧ r = putN (zigI y) ++ (rowB t ++ s) := by
  induction zs generalizing ys with
  | nil =>
    cases ys with
    | nil => simp at hl
    | cons y t => exact ⟨y, t, rfl, by simpa [rowB_cons, rowB_nil] using h⟩
  | cons z zs ih =>
    cases ys with
    | nil => simp at hl
    | cons y ys =>
      rw [rowB_cons, rowB_cons, List.append_assoc, List.append_assoc] at h
      have e := VL_prefix (putN_VL _) (putN_VL _) h
      have e2 := putN_inj e
      have e3 : z = y := by rw [← zag_zig z, e2, zag_zig]
      subst e3
      obtain ⟨y2, t, e4, e5⟩ := ih (fun u hu => hz u (by simp [hu])) (fun u hu => hy u (by simp [hu])) (List.append_cancel_left h) (by simpa using hl)
      exact ⟨y2, t, by rw [e4]; rfl, e5⟩
theorem row_same {zs ys : List Int} {r s : List Int} (h : rowB zs ++ r = rowB ys ++ s) (hl : zs.length = ys.length) : zs = ys := by
  induction zs generalizing ys with
  | nil => exact (List.eq_nil_of_length_eq_zero hl.symm).symm
  | cons z zs ih =>
    cases ys with
    | nil => simp at hl
    | cons y ys =>
      rw [rowB_cons, rowB_cons, List.append_assoc, List.append_assoc] at h
      have e2 := putN_inj (VL_prefix (putN_VL _) (putN_VL _) h)
      have e3 : z = y := by rw [← zag_zig z, e2, zag_zig]
      subst e3
      rw [ih (List.append_cancel_left h) (by simpa using hl)]
theorem TRow.unique {bs : List Int} {n : Nat} {zs ys : List Int} {a b : Nat} (h : TRow bs n zs a) (k : TRow bs n ys b) : zs = ys ∧ a = b := by
  obtain ⟨h1, -, h3, r, h4⟩ := h
  obtain ⟨k1, -, k3, s, k4⟩ := k
  have := row_same (h4.symm.trans k4) (by omega)
  subst this
  exact ⟨rfl, by omega⟩
theorem TRow.no {bs : List Int} {j n : Nat} {zs : List Int} {a : Nat} (h : TRow bs j zs a) (hn : TakeNo (bs.drop a)) (hj : j < n) : TRowNo bs n := by
  intro ys b k
  obtain ⟨h1, h2, h3, r, h4⟩ := h
  obtain ⟨k1, k2, k3, s, k4⟩ := k
  obtain ⟨y, t, e1, e2⟩ := row_split h2 k2 (h4.symm.trans k4) (by omega)
  refine hn (zigI y) (putN (zigI y)).length ⟨zig_lt (k2 y (by rw [e1]; simp)), rfl, rowB t ++ s, ?_⟩
  rw [h3, h4, List.drop_left, e2]
theorem trow_long {bs : List Int} {n : Nat} (h : bs.length < n) : TRowNo bs n := fun zs a k => by
  have := k.le
  have := k.rest
  omega
def OwnZ (w : World) (base : Nat) (v : Value) (zs : List Int) : Prop := w.ownsRow base 2 1 v zs.length (zs.map (Value.int .i64))
theorem OwnZ.ints {w : World} {base : Nat} {v : Value} {zs : List Int} (h : OwnZ w base v zs) : IntsAt w v zs := IntsAt.of_own h rfl
theorem OwnZ.kept {w w' : World} {base : Nat} {v : Value} {zs : List Int} (h : OwnZ w base v zs) (hb : Below w.heap.size w w') : OwnZ w' base v zs := World.ownsRow.kept h (below_gr (row := none) hb) (by cases v.ownBlock <;> simp)
theorem OwnZ.lt {w : World} {base : Nat} {v : Value} {zs : List Int} (h : OwnZ w base v zs) : ∀ k, v.ownBlock = some k → base ≤ k ∧ k < w.heap.size := World.ownsRow.lt h
def TRowRes (w : World) (bs : List Int) (n : Nat) (e : Ending) (w' : World) : Prop :=
  ((∃ zs a v, TRow bs n zs a ∧ e = .returned (.tuple #[v, .int .i64 (a : Int), .int .i64 0]) ∧ OwnZ w' w.heap.size v zs) ∨ (TRowNo bs n ∧ e = .returned (.tuple #[.slice none 0 0, .int .i64 0, .int .i64 8]))) ∧ Below w.heap.size w w'
theorem BytesAt.from_ {w : World} {g off n cap : Nat} {bs : List Int} (h : BytesAt w (.slice (some ⟨g, off, none⟩) n cap) bs) (a : Nat) (ha : a ≤ n) (k : Nat) (hk : a < cap → k = off + a) (hk2 : a = cap → k = off) : BytesAt w (.slice (some ⟨g, k, none⟩) (n - a) (cap - a)) (bs.drop a) := by
  obtain ⟨ao2, cap2, e, h1, h2, h3⟩ := h
  simp only [Value.slice.injEq] at e
  obtain ⟨rfl, rfl, rfl⟩ := e
  refine ⟨_, cap - a, by rw [List.length_drop], by rw [List.length_drop]; omega, by omega, ?_⟩
  rcases h3 with ⟨rfl, h3⟩ | ⟨g2, off2, e2, hg, hcc⟩
  · cases h3
  · have e2 := Option.some.inj e2
    cases e2
    refine .inr ⟨g, k, rfl, hg, fun i u hu => ?_⟩
    rw [List.getElem?_drop] at hu
    have hlt := (List.getElem?_eq_some_iff.1 hu).1
    rw [hk (by omega), Nat.add_assoc]
    exact hcc (a + i) u hu
set_option maxRecDepth 100000 in
set_option maxHeartbeats 8000000 in
theorem takerow_any (w : World) (v : Value) (bs : List Int) (n : Nat) (hv : BytesAt w v bs) (hb : Byts bs) (hl : bs.length ≤ 100000) (hn : n ≤ 100000) :
  Calls Tryz.prog 37 #[v, .int .i64 (n : Int)] w (TRowRes w bs n) := by
 obtain ⟨i0', hi, hz0, hz1, hz2⟩ := info_parts Tryz.info64
 have HV := Lib.hid hv
 have HB := Lib.hid hb
 obtain ⟨ao, cap, rfl, hcap, hmx, hc⟩ := hv
 obtain ⟨m, hm⟩ : ∃ m, m = bs.length := ⟨_, rfl⟩
 have HM := Lib.hid hm
 rw [← hm] at hcap hl ⊢
 clear hm hc hb
 by_cases hlong : m < n
 ·have d1 : decide ((m : Int) < (n : Int)) = true := decide_eq_true (by omega)
  have d1' : decide (m < n) = true := decide_eq_true hlong
  have d2 : decide ((n : Int) < 0) = false := decide_eq_false (by omega)
  have HP : Hid (TRowNo bs n) := Lib.hid (trow_long (by rw [← HM.out]; exact hlong))
  clear hlong
  go_enter Tryz.func37, Tryz.ntmps37
  go_wp2
  go_ret3
  exact ⟨.inr ⟨HP.out, rfl⟩, Below.refl _ _⟩
 ·have d1 : decide ((m : Int) < (n : Int)) = false := decide_eq_false (by omega)
  have d1' : decide (m < n) = false := decide_eq_false hlong
  have d2 : decide ((n : Int) < 0) = false := decide_eq_false (by omega)
  go_enter Tryz.func37, Tryz.ntmps37
  go_wp2_with (at_make; refine wpList_make_own _ rfl _ _ 93 rfl w.heap.size 2 i0' (.int .i64 0) 1 Tryz.underlying93 hi hz0 hz1 .i64 .i64 _ n rfl rfl rfl (by rw [hz2]; omega) (by unfold maxLen; omega) (Nat.le_refl _) ?_)
  intro w2 ho2 hg2
  have HO2 : Hid (OwnZ w2 w.heap.size (.slice (some ⟨w.heap.size, 0, none⟩) 0 n) []) := Lib.hid ho2
  have HB2 : Hid (Below w.heap.size w w2) := Lib.hid ((Below.refl _ _).grown hg2 (Nat.le_refl _) (fun k e => by cases e))
  clear ho2 hg2
  go_wp2_with fail
  go_loopw [7, 8, 23] (fun x y i wr => ∃ (j a : Nat) (zs : List Int), j ≤ n ∧ i = .int .i64 (j : Int) ∧ y = .int .i64 (a : Int) ∧ TRow bs j zs a ∧ OwnZ wr w.heap.size x zs ∧ Below w.heap.size w wr) (fun _ _ i _ => n - (intOf i).toNat)
  case atStart => exact ⟨0, 0, [], by omega, rfl, rfl, TRow.zero _, HO2.out, HB2.out⟩
  case round =>
   obtain ⟨j, a, zs, hj, rfl, rfl, htr, ho, hbel⟩ := hrel
   have HTR := Lib.hid htr
   have HO := Lib.hid ho
   have HBL := Lib.hid hbel
   have ha := htr.rest.2
   have ha10 := htr.le.2
   have hzl : zs.length ≤ 100000 := by have := htr.1; omega
   have HZL := Lib.hid hzl
   rw [← HM.out] at ha
   have hsz := hbel.size
   clear htr ho hbel hzl HO2 HB2
   by_cases hlt : j < n
   ·obtain ⟨g, off, rfl, hg, -⟩ := HV.out.cell (j := 0) (by have := HM.out; omega)
    have i0 : (0 : Int) ≤ (a : Int) := by omega
    have i1 : (a : Int) ≤ (m : Int) := by omega
    have HVR := Lib.hid (HV.out.kept HBL.out)
    have HVF := Lib.hid (fun k h1 h2 => HVR.out.from_ a (by rw [← HM.out]; exact ha) k h1 h2)
    have HDB := Lib.hid (HB.out.drop a)
    have HDL : Hid ((bs.drop a).length ≤ 100000) := Lib.hid (by rw [List.length_drop, ← HM.out]; omega)
    have HNX := Lib.hid (fun u k h => HTR.out.next (u := u) (m := k) h)
    have HNO := Lib.hid (fun h => HTR.out.no h hlt)
    rw [← HM.out] at HVF
    clear hg
    by_cases hk : a < cap
    all_goals
     have PT : Hid (∀ k, (if a < cap then off + a else off) = k → Calls Tryz.prog 69 #[.slice (some ⟨g, k, none⟩) (m - a) (cap - a)] wr fun e w' => TakeRes (bs.drop a) e ∧ wr = w') := Lib.hid (fun k hk2 => take_any wr _ _ (HVF.out k (fun h => by rw [← hk2, if_pos h]) (fun h => by rw [← hk2, if_neg (by omega)])) HDB.out HDL.out)
     first | have PT := Lib.hid (PT.out (off + a) (if_pos hk)) | have PT := Lib.hid (PT.out off (if_neg hk))
     go_wp2_with fail
     with_reducible refine PT.out.mono ?_
     rintro e w5 ⟨hres, hw5⟩
     subst hw5
     rcases hres with ⟨u, k, hts, rfl⟩ | ⟨hno, rfl⟩
     ·have HTS := Lib.hid (HNX.out _ _ hts)
      have hu := hts.1
      have hk10 : a + k ≤ 10000000 := by have := HTS.out.le.2; omega
      have PZ := Lib.hid (fun w => zag_any u w hu)
      have e3 : IntKind.i64.wrap ((a : Int) + (k : Int)) = ((a + k : Nat) : Int) := by rw [wrapI_eq64]; unfold wrap64; omega
      generalize zagI u = z at *
      have hc1 : zs.length + 1 ≤ maxLen := by have := HZL.out; unfold maxLen; omega
      have hc4 : (zs.length + 1) * 8 ≤ 140737488355328 := by have := HZL.out; omega
      clear hts hu
      go_wp2_with fail
      with_reducible refine (PZ.out _).mono ?_
      rintro e w6 ⟨rfl, hw6⟩
      subst hw6
      go_wp2_with (at_builtin; refine wpList_append_own_at _ rfl _ _ 93 rfl w.heap.size 2 i0' (.int .i64 0) 1 8 Tryz.underlying93 hi hz0 hz1 hz2 rfl (by decide) _ zs.length _ rfl (World.ownsRow.alloc HO.out _) ⟨wr.heap.size, 0, none⟩ 1 1 [.int .i64 z] rfl rfl (cell_one_new _ _ _) ?c2 hc1 hc4 ?c5 ?_)
      case c2 => simp [Value.oneCell']
      case c5 => simp; omega
      intro v8 w8 hown' hgrow hnil' hq9
      have HO8 : Hid (OwnZ w8 w.heap.size v8 (zs ++ [z])) := Lib.hid (by unfold OwnZ; rw [show (zs ++ [z]).length = zs.length + 1 by simp only [List.length_append, List.length_singleton]]; simpa using hown')
      have HB8 : Hid (Below w.heap.size w w8) := Lib.hid ((HBL.out.alloc HBL.out.size _).grown hgrow (by simp; omega) (fun k e => (HO.out.lt k e).1))
      clear hown' hgrow hnil' hq9
      go_wp2
      go_roundw
      case rel => exact ⟨j + 1, a + k, zs ++ [z], by omega, by go_num, by first | rfl | rw [e3] | go_num, HTS.out, HO8.out, HB8.out⟩
      case measure => simp [intOf]; omega
     ·have HNR := Lib.hid (HNO.out hno)
      clear hno
      go_wp2
      go_ret3
      exact ⟨.inr ⟨HNR.out, rfl⟩, HBL.out⟩
   ·obtain rfl : j = n := by omega
    clear hlt
    go_wp2
    go_ret3
    exact ⟨.inl ⟨zs, a, _, HTR.out, rfl, HO.out⟩, HBL.out⟩
end Go.Proofs.YtfeficdndjiijaaGreatDoor


namespace Go.Proofs.YtfeficdndjiijaaGreatDoor
open Go.RowKit
set_option linter.unusedVariables false
set_option linter.unusedSimpArgs false

def sizeUp (b r d m : Int) : Nat → Nat
  | 0 => 0
  | j + 1 => sizeUp b r d m j + cellsN b r d m (j : Int)
def sizeN (b r d m : Int) : Nat := if rightB b r d m = true then sizeUp b r d m (b.toNat + 1) else 0
theorem sizeUp_le {b r d m : Int} (hr : rightB b r d m = true) (j : Nat) : sizeUp b r d m j ≤ 1024 * j := by
  induction j with
  | zero => simp [sizeUp]
  | succ j ih => rw [sizeUp]; have := cellsN_le (l := (j : Int)) hr; omega
theorem sizeN_le (b r d m : Int) : sizeN b r d m ≤ 61440 := by
  unfold sizeN
  split
  · rename_i h
    have := sizeUp_le h (b.toNat + 1)
    have := right_of h
    omega
  · omega
set_option maxRecDepth 100000 in
set_option maxHeartbeats 4000000 in
theorem wcells_any (b r d m s l : Int) (hr : rightB b r d m = true) (w : World) :
  Calls Tryz.prog 38 #[.agg #[.int .i64 b, .int .i64 r, .int .i64 d, .int .i64 m, .int .u64 s], .int .i64 l] w fun e w' => e = .returned (.int .i64 (cellsN b r d m l : Int)) ∧ Below w.heap.size w w' := by
 have PE := fun w => exact_any b r d m s l w
 have PK := Lib.hid (fun w => keys_any b r d m s l w)
 have hR := right_of hr
 have hkb := keysI_bd b r d m l
 obtain ⟨g1, hb1, hsz1⟩ := news1 w (.cells #[.int .i64 b, .int .i64 r, .int .i64 d, .int .i64 m, .int .u64 s] 24)
 have hx1 : Blk _ w.heap.size 24 #[.int .i64 b, .int .i64 r, .int .i64 d, .int .i64 m, .int .u64 s] := g1
 have HB1 := Lib.hid hb1
 have HX1 := Lib.hid hx1
 clear g1 hb1 hsz1
 cases he : exactB b r d m l
 ·rw [he] at PE
  have PE := Lib.hid PE
  obtain ⟨n, hn⟩ : ∃ n, n = cellsN b r d m l := ⟨_, rfl⟩
  have HCN : Hid (n = r.toNat * d.toNat) := Lib.hid (by rw [hn]; unfold cellsN; rw [he]; simp)
  rw [← hn]
  have hp : (r.toNat : Int) * (d.toNat : Int) = (n : Int) := by rw [HCN.out]; exact (Int.natCast_mul ..).symm
  rw [show (r.toNat : Int) = r by omega, show (d.toNat : Int) = d by omega] at hp
  have hle : n ≤ 1024 := by rw [HCN.out]; exact Nat.mul_le_mul (show r.toNat ≤ 8 by omega) (show d.toNat ≤ 128 by omega)
  have hw : IntKind.i64.wrap (n : Int) = (n : Int) := by rw [wrapI_eq64]; unfold wrap64; omega
  clear he hr hn hR hkb
  go_enter Tryz.func38, Tryz.ntmps38
  go_wp2_with (refine wpList_load_row rfl 24 _ rfl w.heap.size rfl 24 _ (0, 0) _ hx1 Tryz.underlying24 rfl (by kernel_rfl) ?_)
  with_reducible refine (PE.out _).mono ?_
  rintro e w2 ⟨rfl, hb⟩
  have HB2 := Lib.hid (btr HB1.out hb)
  have hx2 := HX1.out.kept hb
  have q1 := hx2.cell 1
  have q2 := hx2.cell 2
  simp at q1 q2
  clear hb hx1 hx2
  go_wp2
  go_ret
  exact ⟨congrArg (fun z => Ending.returned (.int .i64 z)) (by omega), HB2.out⟩
 ·rw [he] at PE
  have PE := Lib.hid PE
  obtain ⟨n, hn⟩ : ∃ n, n = cellsN b r d m l := ⟨_, rfl⟩
  have HCN : Hid (keysI b r d m l = (n : Int)) := Lib.hid (by rw [hn]; unfold cellsN; rw [he]; simp; omega)
  rw [← hn]
  have hkd := of_decide_eq_true he
  rw [HCN.out] at PK hkd
  have hw : IntKind.i64.wrap (n : Int) = (n : Int) := by rw [wrapI_eq64]; unfold wrap64; omega
  clear he hr hn hR hkb hkd
  go_enter Tryz.func38, Tryz.ntmps38
  go_wp2_with (refine wpList_load_row rfl 24 _ rfl w.heap.size rfl 24 _ (0, 0) _ hx1 Tryz.underlying24 rfl (by kernel_rfl) ?_)
  with_reducible refine (PE.out _).mono ?_
  rintro e w2 ⟨rfl, hb⟩
  have HB2 := Lib.hid (btr HB1.out hb)
  have HX2 := Lib.hid (HX1.out.kept hb)
  clear hb hx1
  go_wp2_with (refine wpList_load_row rfl 24 _ rfl w.heap.size rfl 24 _ (0, 0) _ HX2.out Tryz.underlying24 rfl (by kernel_rfl) ?_)
  with_reducible refine (PK.out _).mono ?_
  rintro e w3 ⟨rfl, hb⟩
  have HB3 := Lib.hid (btr HB2.out hb)
  clear hb
  go_wp2
  go_ret
  exact ⟨rfl, HB3.out⟩
set_option maxRecDepth 100000 in
set_option maxHeartbeats 4000000 in
theorem wsize_any (b r d m s : Int) (w : World) :
  Calls Tryz.prog 67 #[.agg #[.int .i64 b, .int .i64 r, .int .i64 d, .int .i64 m, .int .u64 s]] w fun e w' => e = .returned (.int .i64 (sizeN b r d m : Int)) ∧ Below w.heap.size w w' := by
 have PR := fun w => right_any b r d m s w
 obtain ⟨g1, hb1, hsz1⟩ := news1 w (.cells #[.int .i64 b, .int .i64 r, .int .i64 d, .int .i64 m, .int .u64 s] 24)
 have hx1 : Blk _ w.heap.size 24 #[.int .i64 b, .int .i64 r, .int .i64 d, .int .i64 m, .int .u64 s] := g1
 have HB1 := Lib.hid hb1
 have HX1 := Lib.hid hx1
 clear g1 hb1 hsz1
 cases hr : rightB b r d m
 ·rw [hr] at PR
  have PR := Lib.hid PR
  have HN : Hid (sizeN b r d m = 0) := Lib.hid (by unfold sizeN; rw [hr]; rfl)
  rw [HN.out]
  clear hr
  go_enter Tryz.func67, Tryz.ntmps67
  go_wp2_with (refine wpList_load_row rfl 24 _ rfl w.heap.size rfl 24 _ (0, 0) _ hx1 Tryz.underlying24 rfl (by kernel_rfl) ?_)
  with_reducible refine (PR.out _).mono ?_
  rintro e w2 ⟨rfl, hb⟩
  have HB2 := Lib.hid (btr HB1.out hb)
  clear hb
  go_wp2
  go_ret
  exact ⟨rfl, HB2.out⟩
 ·rw [hr] at PR
  have PR := Lib.hid PR
  have PC := Lib.hid (fun (j : Nat) w => wcells_any b r d m s (j : Int) hr w)
  have hR := right_of hr
  obtain ⟨n, hn⟩ : ∃ n : Nat, b = (n : Int) := ⟨b.toNat, by omega⟩
  subst hn
  have HN : Hid (sizeN (n : Int) r d m = sizeUp (n : Int) r d m (n + 1)) := Lib.hid (by unfold sizeN; rw [if_pos hr]; rfl)
  have HLE := Lib.hid (fun j => sizeUp_le hr j)
  have HCL := Lib.hid (fun (j : Nat) => cellsN_le (l := (j : Int)) hr)
  rw [HN.out]
  have hn59 : n ≤ 59 := by omega
  clear hr hR
  go_enter Tryz.func67, Tryz.ntmps67
  go_wp2_with (refine wpList_load_row rfl 24 _ rfl w.heap.size rfl 24 _ (0, 0) _ hx1 Tryz.underlying24 rfl (by kernel_rfl) ?_)
  with_reducible refine (PR.out _).mono ?_
  rintro e w2 ⟨rfl, hb⟩
  have HB2 := Lib.hid (btr HB1.out hb)
  have HX2 := Lib.hid (HX1.out.kept hb)
  have q0 := HX2.out.cell 0
  simp at q0
  clear hb hx1
  go_wp2_with fail
  clear q0
  go_loopw [3, 11] (fun y i wr => ∃ j : Nat, j ≤ n + 1 ∧ i = .int .i64 (j : Int) ∧ y = .int .i64 (sizeUp (n : Int) r d m j : Int) ∧ Blk wr w.heap.size 24 #[.int .i64 (n : Int), .int .i64 r, .int .i64 d, .int .i64 m, .int .u64 s] ∧ Below w.heap.size w wr) (fun _ i _ => n + 1 - (intOf i).toNat)
  case atStart => exact ⟨0, by omega, rfl, rfl, HX2.out, HB2.out⟩
  case round =>
   obtain ⟨j, hj, rfl, rfl, hx, hbel⟩ := hrel
   have HX := Lib.hid hx
   have HBL := Lib.hid hbel
   clear hx hbel HX2 HB2
   by_cases hlt : j < n + 1
   ·have PC2 := Lib.hid (PC.out j)
    have HSU : Hid (sizeUp (n : Int) r d m (j + 1) = sizeUp (n : Int) r d m j + cellsN (n : Int) r d m (j : Int)) := Lib.hid rfl
    have hc := HCL.out j
    have hz := HLE.out j
    generalize cellsN (n : Int) r d m (j : Int) = cn at *
    generalize sizeUp (n : Int) r d m j = su at *
    go_wp2_with (refine wpList_load_row rfl 24 _ rfl w.heap.size rfl 24 _ (0, 0) _ HX.out Tryz.underlying24 rfl (by kernel_rfl) ?_)
    with_reducible refine (PC2.out _).mono ?_
    rintro e w3 ⟨rfl, hb⟩
    have HX3 := Lib.hid (HX.out.kept hb)
    have HB3 := Lib.hid (btr HBL.out hb)
    clear hb
    go_wp2
    go_roundw
    case rel => exact ⟨j + 1, by omega, by go_num, by rw [HSU.out]; go_num, HX3.out, HB3.out⟩
    case measure => simp [intOf]; omega
   ·obtain rfl : j = n + 1 := by omega
    have i1 : ¬ (((n + 1 : Nat) : Int) < (n : Int) + 1) := by omega
    clear hlt
    go_wp2
    go_ret
    exact ⟨rfl, HBL.out⟩
end Go.Proofs.YtfeficdndjiijaaGreatDoor

