import Derived.Test.YtfeficdndjiijaaGreatDoorQzg
import Derived.Test.YtfeficdndjiijaaGreatDoorQzd
/-
  Contracts of the functions that TopWindow reaches, and the plain laws that it leans on. Conditions: none beyond those stated at each theorem.
-/
namespace Go.Proofs.YtfeficdndjiijaaGreatDoor
open Go.RowKit Go.Shelf
set_option linter.unusedVariables false
set_option linter.unusedSimpArgs false
attribute [local go_sem] Oper.semAt_some

theorem stat (S : Nat) (k : Int) (w : World) :
    Calls Tryz.prog 129 #[.pointer (some ⟨S, 0, none⟩), .int .u64 k] w fun e w' => e = .returned (.func (.func 170) #[] #[.pointer (some ⟨w.heap.size, 0, none⟩), .pointer (some ⟨w.heap.size + 1, 0, none⟩)]) ∧ w' = (w.alloc (.cells #[.pointer (some ⟨S, 0, none⟩)] 49)).alloc (.cells #[.int .u64 k] 22) := by
  go_enter Tryz.func129, Tryz.ntmps129
  go_wp2
  go_ret
  exact ⟨rfl, rfl⟩
abbrev LvN (q : Nat) := { n : Nat // n ≤ q }
def uptoN (q : Nat) : Nat → List (LvN q)
  | 0 => []
  | k + 1 => if h : k ≤ q then uptoN q k ++ [⟨k, h⟩] else uptoN q k
theorem uptoN_succ (q k : Nat) (hk : k ≤ q) : uptoN q (k + 1) = uptoN q k ++ [⟨k, hk⟩] := by
  rw [uptoN, dif_pos hk]
theorem uptoN_map (q k : Nat) (hk : k ≤ q + 1) : (uptoN q k).map (·.1) = List.range k := by
  induction k with
  | zero => rfl
  | succ k ih => rw [uptoN_succ q k (by omega), List.map_append, ih (by omega), List.range_succ]; rfl
theorem uptoN_len (q k : Nat) (hk : k ≤ q + 1) : (uptoN q k).length = k := by
  have := congrArg List.length (uptoN_map q k hk)
  simpa using this
set_option maxRecDepth 100000 in
set_option maxHeartbeats 4000000 in
theorem stat1 (n : Nat) (hn : 1 ≤ n) (l Bs Bk S L q cap k : Nat) (cs : Array Value) (X : Nat → Value) (hq : q ≤ 59) (J Jx : List (LvN q) → World → Prop)
  (hX : ∀ n, n ≤ q → ∃ t a, X n = .iface t (.pointer (some ⟨a, 0, none⟩)))
  (hY : ∀ pre x W, J pre W → pre.length < q + 1 → YieldAt Fence.wide (n - 1) Tryz.prog l #[X x.1, .int .u64 ((k / 2 ^ x.1 : Nat) : Int)] W fun e W' =>
   (e = .returned (.bool true) ∧ J (pre ++ [x]) W' ∧ KpB [Bs, Bk, S, L] W W') ∨ (e = .returned (.bool false) ∧ Jx (pre ++ [x]) W'))
  (W : World) (hBs : Blk W Bs 49 #[.pointer (some ⟨S, 0, none⟩)]) (hBk : Blk W Bk 22 #[.int .u64 (k : Int)]) (hS : ∃ b r d m s, Blk W S 172 #[b, r, d, m, s, .slice (some ⟨L, 0, none⟩) (q + 1) cap])
  (hL : Blk W L 174 cs) (hcs : ∀ n, n ≤ q → cs[n]? = some (X n)) (h0 : J [] W) :
  CallsIn Fence.wide n Tryz.prog 170 #[.func (.yield l) #[] #[], .pointer (some ⟨Bs, 0, none⟩), .pointer (some ⟨Bk, 0, none⟩)] W fun e W' => (∃ v, e = .returned v) ∧
   ((∃ ys, ys = uptoN q (q + 1) ∧ J ys W') ∨ (∃ pre, (∃ j, j ≤ q + 1 ∧ pre = uptoN q j) ∧ Jx pre W')) := by
 obtain ⟨vb, vr, vd, vm, vs, hS⟩ := hS
 have HX := Lib.hid hX
 have HY := Lib.hid hY
 have HCS := Lib.hid hcs
 have HBS := Lib.hid hBs
 have HBK := Lib.hid hBk
 have HL := Lib.hid hL
 have HLT : Hid (Bs < W.heap.size ∧ Bk < W.heap.size ∧ S < W.heap.size ∧ L < W.heap.size) := Lib.hid ⟨hBs.lt, hBk.lt, hS.lt, hL.lt⟩
 have c0 := hBs.cell 0
 have c5 := hS.cell 5
 simp at c0 c5
 clear hX hY hcs hBs hBk hS hL
 refine callsIn_of_wp Tryz.func170 rfl trivial ?_ rfl
 simp only [Tryz.ntmps170, List.size_toArray, List.length_cons, List.length_nil, Nat.reduceAdd, Nat.reduceSub, Array.replicate_succ, Array.replicate_zero, List.push_toArray, List.append_toArray, List.nil_append, List.cons_append]
 gi_wp2
 gi_loopw [11] (fun i wr => ∃ j : Nat, j ≤ q + 1 ∧ i = .int .i64 (j : Int) ∧ J (uptoN q j) wr ∧ KpB [Bs, Bk, S, L] W wr) (fun i _ => q + 1 - (intOf i).toNat)
 case atStart => exact ⟨0, by omega, rfl, by simpa [uptoN] using h0, Nat.le_refl _, fun _ _ => rfl⟩
 case round =>
  obtain ⟨j, hj, rfl, hJs, hkp⟩ := hrel
  clear c0 c5
  have HKP := Lib.hid hkp
  by_cases hlt : j < q + 1
  ·have hjq : j ≤ q := by omega
   have ck := (hkp.blk (by simp) HBK.out).cell 0
   have cx := ((hkp.blk (by simp) HL.out).cell j).trans (HCS.out j hjq)
   simp at ck
   have HSUC := Lib.hid (uptoN_succ q j hjq)
   obtain ⟨t, a, hx⟩ := HX.out j hjq
   rw [hx] at cx
   obtain ⟨fn, tmps, assign, body, hy, hR⟩ := HY.out _ ⟨j, hjq⟩ wr hJs (by rw [uptoN_len q j (by omega)]; exact hlt)
   dsimp only at hy
   rw [hx] at hy
   rw [HSUC.out.symm] at hR
   clear hkp hJs hx
   have i0 : (0 : Int) ≤ (j : Int) := by omega
   have i1 : (j : Int) < (q : Int) + 1 := by omega
   have ed : ((k / 2 ^ j : Nat) : Int) = (k : Int) / 2 ^ j := by rw [Int.natCast_ediv, Int.natCast_pow]; rfl
   rw [ed] at hy
   clear ed
   gi_wp2
   refine hR.mono ?_
   rintro e W3 (⟨rfl, hJ3, hk3⟩ | ⟨rfl, hJx3⟩)
   ·have HJ3 := Lib.hid hJ3
    have HK3 := Lib.hid (KpB.trans HKP.out hk3)
    clear hJ3 hk3 cx ck hy hR
    gi_wp2
    go_roundw
    case rel => exact ⟨j + 1, by omega, by simp, HJ3.out, HK3.out⟩
    case measure => simp [intOf]; omega
   ·have HJ3 := Lib.hid hJx3
    clear hJx3 cx ck hy hR
    gi_wp2
    refine bodyPost_ret (results_none rfl _ _ _) rfl ?_
    exact ⟨⟨_, rfl⟩, .inr ⟨_, ⟨j + 1, by omega, rfl⟩, HJ3.out⟩⟩
  ·obtain rfl : j = q + 1 := by omega
   have HJ := Lib.hid hJs
   clear hJs hkp
   gi_wp2
   go_end0
   exact ⟨⟨_, rfl⟩, .inl ⟨_, rfl, HJ.out⟩⟩
theorem st_stops (n : Nat) (hn : 1 ≤ n) (Bs Bk S L q cap k : Nat) (cs : Array Value) (X : Nat → Value) (hq : q ≤ 59) (w : World)
    (hX : ∀ n, n ≤ q → ∃ t a, X n = .iface t (.pointer (some ⟨a, 0, none⟩)))
    (hBs : Blk w Bs 49 #[.pointer (some ⟨S, 0, none⟩)]) (hBk : Blk w Bk 22 #[.int .u64 (k : Int)]) (hS : ∃ b r d m s, Blk w S 172 #[b, r, d, m, s, .slice (some ⟨L, 0, none⟩) (q + 1) cap])
    (hL : Blk w L 174 cs) (hcs : ∀ n, n ≤ q → cs[n]? = some (X n)) :
    SeqStopsK Fence.wide n Tryz.prog 170 #[.pointer (some ⟨Bs, 0, none⟩), .pointer (some ⟨Bk, 0, none⟩)] (fun x : LvN q => #[X x.1, .int .u64 ((k / 2 ^ x.1 : Nat) : Int)]) (KpB [Bs, Bk, S, L]) (fun ys => ys = uptoN q (q + 1)) (fun pre => ∃ j, j ≤ q + 1 ∧ pre = uptoN q j) (q + 1) w := fun l J Jx W hW _ _ hY h0 => by
  obtain ⟨vb, vr, vd, vm, vs, hS⟩ := hS
  exact stat1 n hn l Bs Bk S L q cap k cs X hq J Jx hX hY W (hBs.kept hW) (hBk.kept hW) ⟨vb, vr, vd, vm, vs, hS.kept hW⟩ (hL.kept hW) hcs h0
end Go.Proofs.YtfeficdndjiijaaGreatDoor


namespace Go.Proofs.YtfeficdndjiijaaGreatDoor
open Go.RowKit
set_option linter.unusedVariables false
set_option linter.unusedSimpArgs false

section
variable {W W' : World} {row : Option Nat}
theorem GridIs.walked {G C R V : Nat} {zs : List Int} (h : GridIs W G C R V zs) (hg : W.grownBy W' row) (hr : ∀ r, row = some r → ∃ o : Obj, W.heap[r]? = some o ∧ o.isCells = false) : GridIs W' G C R V zs := by
  obtain ⟨cap, hG, -⟩ := h.fields
  obtain ⟨cur, hC, -⟩ := h.cells
  have key : ∀ g t cs, Blk W g t cs → some g ≠ row := fun g t cs hb e => by
    obtain ⟨o, ho, hc⟩ := hr g e.symm
    exact hb.not_other ho hc rfl
  exact h.grown hg (key _ _ _ hG) (key _ _ _ hC)
theorem LevIs.walked {x : Value} {A G C : Nat} {b r d m s l : Int} {zs : List Int} (h : LevIs W x A G C b r d m s l zs) (hg : W.grownBy W' row) (hr : ∀ r, row = some r → ∃ o : Obj, W.heap[r]? = some o ∧ o.isCells = false) : LevIs W' x A G C b r d m s l zs := by
  rcases h with ⟨h1, h2, h3⟩ | ⟨h1, h2, h3⟩
  · exact .inl ⟨h1, h2, h3.1.walked hg hr, h3.2.walked hg hr⟩
  · exact .inr ⟨h1, h2, h3.box.walked hg hr, h3.grid.walked hg hr⟩
theorem StIs.walked {base S L : Nat} {b r d m s : Int} {X : Nat → Value} {A G C : Nat → Nat} {Z : Nat → List Int} (h : StIs W base S L b r d m s X A G C Z) (hg : W.grownBy W' row) (hr : ∀ r, row = some r → ∃ o : Obj, W.heap[r]? = some o ∧ o.isCells = false) : StIs W' base S L b r d m s X A G C Z := by
  obtain ⟨cap, h1, h2⟩ := h.box
  obtain ⟨cur, h3, h4⟩ := h.row
  exact ⟨⟨cap, h1.walked hg hr, h2⟩, h.right, ⟨cur, h3.walked hg hr, h4⟩, fun n hn => (h.lev n hn).walked hg hr, h.apart, h.low⟩
end
theorem Tryz.mExCheck (k : Nat) (a : Addr) (w : World) : (method (k + 1) 232 (.pointer (some a)) "Check").run Tryz.prog w = .ok (276, .pointer (some a)) w := by kernel_rfl
theorem Tryz.mSkCheck (k : Nat) (a : Addr) (w : World) : (method (k + 1) 235 (.pointer (some a)) "Check").run Tryz.prog w = .ok (284, .pointer (some a)) w := by kernel_rfl
theorem Tryz.mExUpdate (k : Nat) (a : Addr) (w : World) : (method (k + 1) 232 (.pointer (some a)) "Update").run Tryz.prog w = .ok (279, .pointer (some a)) w := by kernel_rfl
theorem Tryz.mSkUpdate (k : Nat) (a : Addr) (w : World) : (method (k + 1) 235 (.pointer (some a)) "Update").run Tryz.prog w = .ok (287, .pointer (some a)) w := by kernel_rfl
def HasM (x : Value) (A : Nat) (name : String) (f : FuncId) : Prop :=
  ∃ T, x = .iface T (.pointer (some ⟨A, 0, none⟩)) ∧ (∀ (j : Nat) (W : World), (method (j + 1) T (.pointer (some ⟨A, 0, none⟩)) name).run Tryz.prog W = .ok (f, .pointer (some ⟨A, 0, none⟩)) W) ∧
    ∀ (args : Array Value) (W : World), (callFunc f args).run Tryz.prog W = .ok (.enter f args) W
theorem lvcheck (w : World) (x : Value) (A G C : Nat) (b r d m s l : Int) (zs : List Int) (h : LevIs w x A G C b r d m s l zs) (hr : rightB b r d m = true) (s0 : 0 ≤ s) (s1 : s ≤ 18446744073709551615) (k : Nat) (hk : k < 18446744073709551616) (y : Int) (hy : In64 y) :
    ∃ f, HasM x A "Check" f ∧ Calls Tryz.prog f #[.pointer (some ⟨A, 0, none⟩), .int .u64 (k : Int), .int .i64 y] w fun e w' => e = .returned (.int .i64 (lvErr b r d m s l zs k y)) ∧ Below w.heap.size w w' := by
  rcases h with ⟨h1, h2, h3⟩ | ⟨h1, h2, h3⟩
  · refine ⟨_, ⟨_, h2, fun j W => Tryz.mExCheck j _ W, enters_of Tryz.func276 (by kernel_rfl) rfl⟩, ?_⟩
    have e : lvErr b r d m s l zs k y = chkI (keysI b r d m l).toNat m zs k y := by unfold lvErr; rw [if_pos h1]
    rw [e]
    exact excheck w A G C b r d m s l _ k zs y h3 hy hk
  · refine ⟨_, ⟨_, h2, fun j W => Tryz.mSkCheck j _ W, enters_of Tryz.func284 (by kernel_rfl) rfl⟩, ?_⟩
    have e : lvErr b r d m s l zs k y = skErr b r d m s l zs (k : Int) y := by unfold lvErr; rw [if_neg (by rw [h1]; decide)]
    rw [e]
    exact skcheck w A G C b r d m s l zs h3 hr s0 s1 (k : Int) y (by omega) (by omega) hy
def LvUpPost (w : World) (x : Value) (A G C : Nat) (b r d m s l : Int) (zs : List Int) (k : Nat) (y : Int) (e : Ending) (w' : World) : Prop :=
  e = .returned (.int .i64 (lvErr b r d m s l zs k y)) ∧ LevIs w' x A G C b r d m s l (lvUpd b r d m s l zs k y) ∧ w.grownBy w' (some C)
theorem lvupdate (w : World) (x : Value) (A G C : Nat) (b r d m s l : Int) (zs : List Int) (h : LevIs w x A G C b r d m s l zs) (hr : rightB b r d m = true) (s0 : 0 ≤ s) (s1 : s ≤ 18446744073709551615) (k : Nat) (hk : k < 18446744073709551616) (y : Int) (hy : In64 y) :
  ∃ f, HasM x A "Update" f ∧ Calls Tryz.prog f #[.pointer (some ⟨A, 0, none⟩), .int .u64 (k : Int), .int .i64 y] w (LvUpPost w x A G C b r d m s l zs k y) := by
 rcases h with ⟨h1, h2, h3⟩ | ⟨h1, h2, h3⟩
 ·refine ⟨_, ⟨_, h2, fun j W => Tryz.mExUpdate j _ W, enters_of Tryz.func279 (by kernel_rfl) rfl⟩, ?_⟩
  refine (exupdate w A G C b r d m s l _ k zs y h3 hy hk).mono ?_
  rintro e w' ⟨he, ha, hg⟩
  refine ⟨?_, .inl ⟨h1, h2, ?_⟩, hg⟩
  ·rw [he]; unfold lvErr; rw [if_pos h1]
  ·unfold lvUpd; rw [if_pos h1]; exact ha
 ·refine ⟨_, ⟨_, h2, fun j W => Tryz.mSkUpdate j _ W, enters_of Tryz.func287 (by kernel_rfl) rfl⟩, ?_⟩
  refine (skupdate w A G C b r d m s l zs h3 hr s0 s1 (k : Int) y (by omega) (by omega) hy).mono ?_
  rintro e w' ⟨he, ha, hg⟩
  refine ⟨?_, .inr ⟨h1, h2, ?_⟩, hg⟩
  ·rw [he]; unfold lvErr; rw [if_neg (by rw [h1]; decide)]
  ·unfold lvUpd; rw [if_neg (by rw [h1]; decide)]; exact ha
set_option maxRecDepth 100000 in
set_option maxHeartbeats 4000000 in
theorem first_any (g : Nat) (a c : Int) (w : World) (hb : Blk w g 50 #[.int .i64 a, .int .i64 c]) :
  Calls Tryz.prog 130 #[.slice (some ⟨g, 0, none⟩) 2 2] w fun e w' => e = .returned (.int .i64 (firstI a c)) ∧ w = w' := by
 have c0 := hb.cell 0
 have c1 := hb.cell 1
 simp at c0 c1
 have hq : ∃ q, q = firstI a c := ⟨_, rfl⟩
 obtain ⟨q, hq⟩ := hq
 rw [← hq]
 unfold firstI at hq
 have HQ := Lib.hid hq
 clear hb hq
 by_cases ha : a = 0
 ·subst ha
  have HQ : Hid (q = c) := Lib.hid (by rw [HQ.out, if_pos rfl])
  by_cases hc : c = 0
  ·subst hc
   go_enter Tryz.func130, Tryz.ntmps130
   go_wp2
   go_loop [8] (fun i => ∃ j : Nat, j ≤ 2 ∧ i = .int .i64 (j : Int)) (fun i => 2 - (intOf i).toNat)
   case atStart => exact ⟨0, by omega, rfl⟩
   case round =>
    obtain ⟨j, hj, rfl⟩ := hrel
    rcases (show j = 0 ∨ j = 1 ∨ j = 2 by omega) with rfl | rfl | rfl
    ·go_wp2
     go_round
     case rel => exact ⟨1, by omega, rfl⟩
     case measure => simp [intOf]
    ·go_wp2
     go_round
     case rel => exact ⟨2, by omega, rfl⟩
     case measure => simp [intOf]
    ·go_wp2
     go_ret
     exact ⟨ret_err HQ.out.symm, rfl⟩
  ·have n1 : (c != 0) = true := by simp [hc]
   clear hc
   go_enter Tryz.func130, Tryz.ntmps130
   go_wp2
   go_loop [8] (fun i => ∃ j : Nat, j ≤ 1 ∧ i = .int .i64 (j : Int)) (fun i => 2 - (intOf i).toNat)
   case atStart => exact ⟨0, by omega, rfl⟩
   case round =>
    obtain ⟨j, hj, rfl⟩ := hrel
    rcases (show j = 0 ∨ j = 1 by omega) with rfl | rfl
    ·go_wp2
     go_round
     case rel => exact ⟨1, by omega, rfl⟩
     case measure => simp [intOf]
    ·go_wp2
     go_ret
     exact ⟨ret_err HQ.out.symm, rfl⟩
 ·have HQ : Hid (q = a) := Lib.hid (by rw [HQ.out, if_neg ha])
  have n1 : (a != 0) = true := by simp [ha]
  clear ha
  go_enter Tryz.func130, Tryz.ntmps130
  go_wp2
  go_loop [8] (fun i => i = .int .i64 0) (fun i => 2 - (intOf i).toNat)
  case atStart => rfl
  case round =>
   subst hrel
   go_wp2
   go_ret
   exact ⟨ret_err HQ.out.symm, rfl⟩
end Go.Proofs.YtfeficdndjiijaaGreatDoor


namespace Go.Proofs.YtfeficdndjiijaaGreatDoor
open Go.RowKit Go.Shelf
set_option linter.unusedVariables false
set_option linter.unusedSimpArgs false
attribute [local go_sem] Oper.semAt_some

structure RGr (w w' : World) (B : Nat → Nat) (R : Nat) : Prop where
  os : w'.os = w.os
  tape : w'.tape = w.tape
  output : w'.output = w.output
  size : w.heap.size ≤ w'.heap.size
  block : ∀ k, k < w.heap.size → (∀ r, r < R → k ≠ B r) → w'.heap[k]? = w.heap[k]?
theorem RGr.of_below {w w' : World} {B : Nat → Nat} {R : Nat} (h : Below w.heap.size w w') : RGr w w' B R := ⟨h.os, h.tape, h.output, h.size, fun k hk _ => h.block k hk⟩
theorem RGr.trans {w w1 w2 : World} {B : Nat → Nat} {R : Nat} (h : RGr w w1 B R) (k : RGr w1 w2 B R) : RGr w w2 B R :=
  ⟨k.os.trans h.os, k.tape.trans h.tape, k.output.trans h.output, Nat.le_trans h.size k.size, fun j hj hne => (k.block j (Nat.lt_of_lt_of_le hj h.size) hne).trans (h.block j hj hne)⟩
theorem RGr.set {w : World} {B : Nat → Nat} {R r c : Nat} (hr : r < R) (u : Value) : RGr w (w.setCell ⟨B r, c, none⟩ u) B R :=
  ⟨rfl, rfl, rfl, by simp [World.setCell], fun k hk hne => Below.heap_setCell _ _ _ _ (by simpa using hne r hr)⟩

def StUpPost (w : World) (base S L : Nat) (b r d m s : Int) (X : Nat → Value) (A G C : Nat → Nat) (Z : Nat → List Int) (k : Nat) (x : Int) (e : Ending) (w' : World) : Prop :=
  e = .returned (.int .i64 (stErr b r d m s Z k x)) ∧ StIs w' base S L b r d m s X A G C (stUpd b r d m s Z k x) ∧ RGr w w' C (b.toNat + 1)
theorem stupdate_key (w : World) (base S L : Nat) (b r d m s : Int) (X : Nat → Value) (A G C : Nat → Nat) (Z : Nat → List Int) (h : StIs w base S L b r d m s X A G C Z) (k : Nat) (x : Int) (hk : keysI b r d m 0 ≤ (k : Int)) :
  Calls Tryz.prog 87 #[.pointer (some ⟨S, 0, none⟩), .int .u64 (k : Int), .int .i64 x] w (StUpPost w base S L b r d m s X A G C Z k x) := by
 have HE : Hid (stErr b r d m s Z k x = 2) := Lib.hid (by unfold stErr; rw [if_pos hk])
 have HU : Hid (∀ n, stUpd b r d m s Z k x n = Z n) := Lib.hid (fun n => by unfold stUpd; rw [HE.out, if_neg (by decide)])
 unfold StUpPost
 rw [HE.out]
 have PK := Lib.hid (fun w => keys_any b r d m s 0 w)
 have e1 : decide (keysI b r d m 0 ≤ (k : Int)) = true := decide_eq_true hk
 have hal : Below w.heap.size w (w.alloc (.cells #[.int .i64 x] 2)) := (Below.refl _ _).alloc (Nat.le_refl _) _
 obtain ⟨cap, hbx, -⟩ := h.box
 have hA := hbx.kept hal
 have c0 := hA.cell 0
 have c1 := hA.cell 1
 have c2 := hA.cell 2
 have c3 := hA.cell 3
 have c4 := hA.cell 4
 simp at c0 c1 c2 c3 c4
 have HS := Lib.hid (h.kept hal)
 have HB := Lib.hid hal
 clear h hk hbx hal hA
 go_enter Tryz.func87, Tryz.ntmps87
 go_wp2_with fail
 generalize (w.alloc (.cells #[.int .i64 x] 2)) = w1 at *
 with_reducible refine (PK.out _).mono ?_
 rintro e w2 ⟨rfl, hb⟩
 have HS2 := Lib.hid (HS.out.kept hb)
 have HB2 := Lib.hid (btr HB.out hb)
 clear hb c0 c1 c2 c3 c4
 go_wp2
 go_ret
 exact ⟨rfl, HS2.out.setC (fun n _ => (HU.out n).symm), RGr.of_below HB2.out⟩
def vals {q : Nat} (l : List (LvN q)) : List Nat := l.map (·.1)
theorem vals_snoc {q : Nat} (l : List (LvN q)) (y : LvN q) : vals (l ++ [y]) = vals l ++ [y.1] := by simp [vals]
theorem vals_all (q : Nat) : vals (uptoN q (q + 1)) = List.range (q + 1) := uptoN_map q (q + 1) (Nat.le_refl _)
structure ChkI (W0 W : World) (base S L : Nat) (b r d m s : Int) (X : Nat → Value) (A G C : Nat → Nat) (Z : Nat → List Int) (BD BB T : Nat) (x v : Int) : Prop where
  top : T ≤ W.heap.size
  st : StIs W base S L b r d m s X A G C Z
  num : Blk W BD 2 #[.int .i64 x]
  bad : Blk W BB 50 #[.int .i64 v]
  bel : Below W0.heap.size W0 W
theorem ChkI.kept {W0 W W' : World} {base S L : Nat} {b r d m s : Int} {X : Nat → Value} {A G C : Nat → Nat} {Z : Nat → List Int} {BD BB T : Nat} {x v : Int} (h : ChkI W0 W base S L b r d m s X A G C Z BD BB T x v) (hb : Below W.heap.size W W') : ChkI W0 W' base S L b r d m s X A G C Z BD BB T x v :=
  ⟨Nat.le_trans h.top hb.size, h.st.kept hb, h.num.kept hb, h.bad.kept hb, btr h.bel hb⟩
theorem ChkI.walked {W0 W W' : World} {base S L : Nat} {b r d m s : Int} {X : Nat → Value} {A G C : Nat → Nat} {Z : Nat → List Int} {BD BB T : Nat} {x v : Int} {row : Option Nat} (h : ChkI W0 W base S L b r d m s X A G C Z BD BB T x v) (hg : W.grownBy W' row) (hr : ∀ r, row = some r → W0.heap.size ≤ r ∧ ∃ o : Obj, W.heap[r]? = some o ∧ o.isCells = false) : ChkI W0 W' base S L b r d m s X A G C Z BD BB T x v :=
  ⟨Nat.le_trans h.top hg.size, h.st.walked hg (fun r e => (hr r e).2), h.num.walked hg (fun r e => (hr r e).2), h.bad.walked hg (fun r e => (hr r e).2), h.bel.grown hg h.bel.size (fun k e => (hr k e).1)⟩
theorem ChkI.put {W0 W : World} {base S L : Nat} {b r d m s : Int} {X : Nat → Value} {A G C : Nat → Nat} {Z : Nat → List Int} {BD BB T : Nat} {x v : Int} (h : ChkI W0 W base S L b r d m s X A G C Z BD BB T x v) (hB : W0.heap.size ≤ BB) (u : Int) : ChkI W0 (W.setCell ⟨BB, 0, none⟩ (.int .i64 u)) base S L b r d m s X A G C Z BD BB T x u :=
  ⟨by simpa using h.top, h.st.far h.bad (by decide) (by decide) (grown_set W BB 0 _), h.num.far (by simpa using h.num.ne_ h.bad (by decide)) _, by simpa using h.bad.set_ 0 (.int .i64 u), h.bel.setCell (p := ⟨BB, 0, none⟩) hB _⟩
theorem ChkI.round {W0 W w5 : World} {base S L : Nat} {b r d m s : Int} {X : Nat → Value} {A G C : Nat → Nat} {Z : Nat → List Int} {BD BB T : Nat} {x v : Int} (h : ChkI W0 W base S L b r d m s X A G C Z BD BB T x v) (hb : Below W.heap.size W w5) (o : Obj) (hB : W0.heap.size ≤ BB) (u : Int) (l : List Nat) (hl : ∀ i ∈ l, i < W.heap.size ∧ i ≠ BB) :
    KeepsOthers W ((w5.alloc o).setCell ⟨BB, 0, none⟩ (.int .i64 u)) ∧ KpB l W ((w5.alloc o).setCell ⟨BB, 0, none⟩ (.int .i64 u)) ∧ ChkI W0 ((w5.alloc o).setCell ⟨BB, 0, none⟩ (.int .i64 u)) base S L b r d m s X A G C Z BD BB T x u := by
  have h2 : Below W.heap.size W (w5.alloc o) := btr hb (below_alloc1 w5 o)
  have h3 : W.grownBy ((w5.alloc o).setCell ⟨BB, 0, none⟩ (.int .i64 u)) (some BB) := gr_trans (below_gr h2) (grown_set _ BB 0 _)
  exact ⟨kept_others h3 (fun g e => ⟨_, _, by cases e; exact h.bad⟩), KpB.of_grown h3 (fun i hi => ⟨(hl i hi).1, by simpa using (hl i hi).2⟩), (h.kept h2).put hB u⟩
noncomputable def foldE (b r d m s : Int) (Z : Nat → List Int) (k : Nat) (x : Int) (l : List Nat) : Int := l.foldl (fun a (n : Nat) => firstI a (lvErr b r d m s (n : Int) (Z n) (k / 2 ^ n) x)) 0
theorem foldE_snoc (b r d m s : Int) (Z : Nat → List Int) (k : Nat) (x : Int) (l : List Nat) (n : Nat) : foldE b r d m s Z k x (l ++ [n]) = firstI (foldE b r d m s Z k x l) (lvErr b r d m s (n : Int) (Z n) (k / 2 ^ n) x) := by
  unfold foldE
  rw [List.foldl_append]
  rfl
noncomputable def timesU (b r d m s : Int) (k : Nat) (x : Int) (n : Nat) (zs : List Int) : Nat → List Int
  | 0 => zs
  | j + 1 => lvUpd b r d m s (n : Int) (timesU b r d m s k x n zs j) (k / 2 ^ n) x
structure UpdI (W0 W : World) (base S L : Nat) (b r d m s : Int) (X : Nat → Value) (A G C : Nat → Nat) (Z : Nat → List Int) (BD T D1 : Nat) (x : Int) (k : Nat) (l : List Nat) : Prop where
  top : T ≤ W.heap.size
  st : StIs W base S L b r d m s X A G C (fun n => timesU b r d m s k x n (Z n) (l.count n))
  num : Blk W BD 2 #[.int .i64 x]
  gr : RGr W0 W C (b.toNat + 1)
  mark : W.heap[D1]? = some (.deferred (some []))
theorem RGr.grown {W0 W W' : World} {C : Nat → Nat} {q : Nat} {row : Option Nat} (h : RGr W0 W C q) (hg : W.grownBy W' row) (hr : ∀ r, row = some r → W0.heap.size ≤ r ∨ ∃ n, n < q ∧ r = C n) : RGr W0 W' C q :=
  ⟨hg.os.trans h.os, hg.tape.trans h.tape, hg.output.trans h.output, Nat.le_trans h.size hg.size, fun k hk hne => (hg.block k (Nat.lt_of_lt_of_le hk h.size) (fun e => by
    rcases hr k e.symm with h1 | ⟨n, hn, e2⟩
    · omega
    · exact hne n hn e2)).trans (h.block k hk hne)⟩
theorem UpdI.walked {W0 W W' : World} {base S L : Nat} {b r d m s : Int} {X : Nat → Value} {A G C : Nat → Nat} {Z : Nat → List Int} {BD T D1 : Nat} {x : Int} {k : Nat} {l : List Nat} {row : Option Nat} {B : Nat} (h : UpdI W0 W base S L b r d m s X A G C Z BD T D1 x k l) (h0 : W0.heap.size ≤ B) (h1 : D1 < B) (hg : W.grownBy W' row) (hr : ∀ r, row = some r → B ≤ r ∧ ∃ o : Obj, W.heap[r]? = some o ∧ o.isCells = false) : UpdI W0 W' base S L b r d m s X A G C Z BD T D1 x k l :=
  ⟨Nat.le_trans h.top hg.size, h.st.walked hg (fun r e => (hr r e).2), h.num.walked hg (fun r e => (hr r e).2), h.gr.grown hg (fun r e => .inl (by have := (hr r e).1; omega)),
    (hg.block D1 (Array.getElem?_eq_some_iff.1 h.mark).1 (fun e => by have := (hr D1 e.symm).1; omega)).trans h.mark⟩
theorem UpdI.next {W0 W W' : World} {base S L : Nat} {b r d m s : Int} {X : Nat → Value} {A G C : Nat → Nat} {Z : Nat → List Int} {BD T D1 : Nat} {x : Int} {k : Nat} {l : List Nat} (h : UpdI W0 W base S L b r d m s X A G C Z BD T D1 x k l) (hT : BD < T) {n : Nat} (hn : n ≤ b.toNat) (hBD : BD ≠ C n) {e : Ending}
  (hp : LvUpPost W (X n) (A n) (G n) (C n) b r d m s n (timesU b r d m s k x n (Z n) (l.count n)) (k / 2 ^ n) x e W') : UpdI W0 W' base S L b r d m s X A G C Z BD T D1 x k (l ++ [n]) := by
 obtain ⟨-, hl, hg⟩ := hp
 obtain ⟨cur, hC⟩ := (h.st.lev n hn).cells
 refine ⟨Nat.le_trans h.top hg.size, (h.st.put hn hg hl).setC (fun j hj => ?_), h.num.grown hg (by simpa using hBD), h.gr.grown hg (fun r e => .inr ⟨n, by omega, by have := Option.some.inj e; omega⟩), ?_⟩
 ·by_cases e : j = n
  ·subst e
   rw [upN_same, List.count_append, List.count_singleton_self]
   rfl
  ·rw [upN_other _ _ e, List.count_append, List.count_singleton, if_neg (by simpa using fun e2 => e e2.symm), Nat.add_zero]
 ·refine (hg.block D1 (Array.getElem?_eq_some_iff.1 h.mark).1 (fun e => ?_)).trans h.mark
  have e := Option.some.inj e
  have h1 := h.mark
  unfold Blk at hC
  rw [e, hC] at h1
  cases h1
theorem count_upto (q n : Nat) : (List.range q).count n = if n < q then 1 else 0 := by
  induction q with
  | zero => simp
  | succ q ih =>
    rw [List.range_succ, List.count_append, ih, List.count_singleton]
    by_cases h1 : n < q
    · rw [if_pos h1, if_neg (by simp; omega), if_pos (by omega)]
    · by_cases h2 : n = q
      · subst h2; simp
      · rw [if_neg h1, if_neg (by simp; omega), if_neg (by omega)]
theorem shr_small {k : Nat} (hk : k < 18446744073709551616) (n : Nat) : k / 2 ^ n < 18446744073709551616 := Nat.lt_of_le_of_lt (Nat.div_le_self _ _) hk
set_option maxRecDepth 100000 in
set_option maxHeartbeats 8000000 in
theorem stupdate_in (w : World) (base S L : Nat) (b r d m s : Int) (X : Nat → Value) (A G C : Nat → Nat) (Z : Nat → List Int) (h : StIs w base S L b r d m s X A G C Z) (s0 : 0 ≤ s) (s1 : s ≤ 18446744073709551615) (k : Nat) (hk64 : k < 18446744073709551616) (x : Int) (hx : In64 x) (hk : (k : Int) < keysI b r d m 0) :
  Calls Tryz.prog 87 #[.pointer (some ⟨S, 0, none⟩), .int .u64 (k : Int), .int .i64 x] w (StUpPost w base S L b r d m s X A G C Z k x) := by
 obtain ⟨q, hq⟩ : ∃ q : Nat, b.toNat = q := ⟨_, rfl⟩
 have hR := right_of h.right
 have hq59 : q ≤ 59 := by omega
 have PK := Lib.hid (fun w => keys_any b r d m s 0 w)
 have e1 : decide (keysI b r d m 0 ≤ (k : Int)) = false := decide_eq_false (by omega)
 have hal : Below w.heap.size w (w.alloc (.cells #[.int .i64 x] 2)) := (Below.refl _ _).alloc (Nat.le_refl _) _
 have HNUM := Lib.hid (Blk.new w 2 #[.int .i64 x])
 obtain ⟨cap, hbx, hcap⟩ := h.box
 rw [hq] at hbx hcap
 have hA := hbx.kept hal
 have c0 := hA.cell 0
 have c1 := hA.cell 1
 have c2 := hA.cell 2
 have c3 := hA.cell 3
 have c4 := hA.cell 4
 simp at c0 c1 c2 c3 c4
 have HCL : Hid (∀ n, n ≤ b.toNat → C n < w.heap.size) := Lib.hid (fun n hn => (h.lev n hn).ltC)
 have HS := Lib.hid (h.kept hal)
 have HB := Lib.hid hal
 have HRT := Lib.hid h.right
 have HKK := Lib.hid hk
 have HQ := Lib.hid hq
 have PI := Lib.hid hbx
 clear h hbx hal hA hR hk hcap hq
 refine (callsIn_wide (n := 6)).1 ?_
 refine callsIn_of_wp_marks Tryz.func87 rfl trivial ?_ rfl
 simp only [Tryz.ntmps87, List.size_toArray, List.length_cons, List.length_nil, Nat.reduceAdd, Nat.reduceSub, Array.replicate_succ, Array.replicate_zero, List.push_toArray, List.append_toArray, List.nil_append, List.cons_append]
 gi_wp2_with fail
 generalize hw1 : (w.alloc (.cells #[.int .i64 x] 2)) = w1 at *
 have HW1 := Lib.hid hw1
 clear hw1
 refine ⟨trivial, ?_⟩
 with_reducible refine (callsIn_wide.2 (PK.out _)).mono ?_
 rintro e w2 ⟨rfl, hb⟩
 have HS2 := Lib.hid (HS.out.kept hb)
 have HB2 := Lib.hid (btr HB.out hb)
 have HN2 := Lib.hid (HNUM.out.kept hb)
 clear hb c0 c1 c2 c3 c4
 gi_wp2_with fail
 have HS3 := Lib.hid (HS2.out.kept (below_alloc1 w2 (.cells #[.int .i64 0] 50)))
 have HB3 := Lib.hid (btr HB2.out (below_alloc1 w2 (.cells #[.int .i64 0] 50)))
 have HN3 := Lib.hid (HN2.out.kept (below_alloc1 w2 (.cells #[.int .i64 0] 50)))
 have HE3 := Lib.hid (Blk.new w2 50 #[.int .i64 0])
 have HSZ : Hid (w.heap.size ≤ w2.heap.size) := Lib.hid HB2.out.size
 generalize (w2.alloc (.cells #[.int .i64 0] 50)) = w3 at *
 refine ⟨trivial, ?_⟩
 with_reducible refine (callsIn_wide.2 (stat S (k : Int) w3)).mono ?_
 rintro e w4 ⟨rfl, hw4⟩
 obtain ⟨ga, gb, gc, gd⟩ := news2 w3 (.cells #[.pointer (some ⟨S, 0, none⟩)] 49) (.cells #[.int .u64 (k : Int)] 22)
 rw [← hw4] at ga gb gc gd
 have HGA : Hid (Blk w4 w3.heap.size 49 #[.pointer (some ⟨S, 0, none⟩)]) := Lib.hid ga
 have HGB : Hid (Blk w4 (w3.heap.size + 1) 22 #[.int .u64 (k : Int)]) := Lib.hid gb
 have HI0 : Hid (ChkI w w4 base S L b r d m s X A G C Z w.heap.size w2.heap.size w4.heap.size x (foldE b r d m s Z k x [])) := Lib.hid ⟨Nat.le_refl _, HS3.out.kept gc, HN3.out.kept gc, HE3.out.kept gc, btr HB3.out gc⟩
 have HTOP : Hid (w3.heap.size + 2 = w4.heap.size ∧ w2.heap.size < w3.heap.size) := Lib.hid ⟨gd.symm, HE3.out.lt⟩
 clear hw4 ga gb gc gd
 gi_wp2_with fail
 obtain ⟨capS, hbx, -⟩ := HI0.out.st.box
 obtain ⟨cur, hrow, hcur⟩ := HI0.out.st.row
 rw [HQ.out] at hbx hcur
 have HXO : Hid (∀ n, n ≤ q → ∃ t a, X n = .iface t (.pointer (some ⟨a, 0, none⟩))) := Lib.hid (fun n hn => by
  obtain ⟨t, ht⟩ := (HI0.out.st.lev n (by rw [HQ.out]; exact hn)).open_
  exact ⟨t, _, ht⟩)
 have HNE : Hid (S < w4.heap.size ∧ L < w4.heap.size ∧ S ≠ w2.heap.size ∧ L ≠ w2.heap.size) := Lib.hid ⟨hbx.lt, hrow.lt, hbx.ne_ HI0.out.bad (by decide), hrow.ne_ HI0.out.bad (by decide)⟩
 refine wpIn_rangeFunc_ownF rfl (by omega) (gf := 170) (lb := #[.pointer (some ⟨w3.heap.size, 0, none⟩), .pointer (some ⟨w3.heap.size + 1, 0, none⟩)]) rfl trivial (enters_of Tryz.func170 (by kernel_rfl) rfl)
  (st_stops (6 - 1) (by omega) w3.heap.size (w3.heap.size + 1) S L q capS k cur X hq59 w4 HXO.out HGA.out HGB.out ⟨_, _, _, _, _, hbx⟩ hrow hcur) KpB.trans (KpB.put (by
   have h1 := HTOP.out; have h2 := HNE.out
   intro i hi
   simp at hi
   omega)) (Below.refl _ _) (fun _ => rfl)
  (fun (pre : List (LvN q)) W => ChkI w W base S L b r d m s X A G C Z w.heap.size w2.heap.size w4.heap.size x (foldE b r d m s Z k x (vals pre)))
  (fun _ _ _ => False)
  (fun pre W W' row hs hg hr => hs.walked hg (fun r e => ⟨by have h1 := (hr r e).1; have h2 := HI0.out.bel.size; omega, (hr r e).2⟩))
  (fun _ _ _ _ _ hs _ _ => hs)
  HI0.out
  (fun (y : LvN q) => { tmps := #[.pointer (some ⟨S, 0, none⟩), .int .u64 (k : Int), .int .i64 x, undef, undef, .pointer (some ⟨w.heap.size, 0, none⟩), .int .i64 0, .pointer (some ⟨w2.heap.size, 0, none⟩), X y.1, .int .u64 ((k / 2 ^ y.1 : Nat) : Int), undef, undef,
   .int .u64 (k : Int), .pointer (some ⟨S, 0, none⟩), .pointer (some ⟨S, 0, none⟩), .pointer (some ⟨S, 0, none⟩), .agg #[.int .i64 b, .int .i64 r, .int .i64 d, .int .i64 m, .int .u64 s], .int .u64 (keysI b r d m 0), .bool false, .pointer (some ⟨S, 0, none⟩), .int .u64 (k : Int),
   .func (.func 170) #[] #[.pointer (some ⟨w3.heap.size, 0, none⟩), .pointer (some ⟨w3.heap.size + 1, 0, none⟩)], X y.1, .int .u64 ((k / 2 ^ y.1 : Nat) : Int), undef, undef, undef, undef, undef, undef, undef, undef, undef, undef, undef, undef, undef, undef, undef, undef, undef, undef, undef], defers := [] }) ?assign ?body ?done ?stop
 case assign =>
  intro l y W K hK
  obtain ⟨t, a, hx⟩ := HXO.out y.1 y.2
  simp only [hx] at hK ⊢
  gi_wp2
  exact hK
 case body =>
  intro l pre y W hI _
  have HI := Lib.hid hI
  have hyb : y.1 ≤ b.toNat := by have := HQ.out; have := y.2; omega
  obtain ⟨f, ⟨TX, hX, hm, hen⟩, PCk⟩ := lvcheck W.drew (X y.1) _ _ _ b r d m s (y.1 : Int) (Z y.1) ((hI.st.lev y.1 hyb).kept (below_drewN (Below.refl _ _) 1)) HRT.out s0 s1 (k / 2 ^ y.1) (shr_small hk64 _) x hx
  rw [show ((k / 2 ^ y.1 : Nat) : Int) = (k : Int) / 2 ^ y.1 by rw [Int.natCast_ediv, Int.natCast_pow]; rfl] at PCk
  have PCk := Lib.hid PCk
  have HI1 : Hid (ChkI w W.drew base S L b r d m s X A G C Z w.heap.size w2.heap.size w4.heap.size x (foldE b r d m s Z k x (vals pre))) := Lib.hid (hI.kept (below_drewN (Below.refl _ _) 1))
  have HF := Lib.hid (foldE_snoc b r d m s Z k x (vals pre) y.1)
  have HEND : Hid (∀ w5 o, Below W.drew.heap.size W.drew w5 → ∀ u, u = foldE b r d m s Z k x (vals (pre ++ [y])) → KeepsOthers W ((w5.alloc o).setCell ⟨w2.heap.size, 0, none⟩ (.int .i64 u)) ∧ KpB [w3.heap.size, w3.heap.size + 1, S, L] W ((w5.alloc o).setCell ⟨w2.heap.size, 0, none⟩ (.int .i64 u)) ∧ ChkI w ((w5.alloc o).setCell ⟨w2.heap.size, 0, none⟩ (.int .i64 u)) base S L b r d m s X A G C Z w.heap.size w2.heap.size w4.heap.size x (foldE b r d m s Z k x (vals (pre ++ [y])))) := Lib.hid (fun w5 o hb u hu => by
   rw [← hu]
   refine hI.round (btr (below_drewN (Below.refl _ _) 1) hb) o HSZ.out u _ (fun i hi => ?_)
   have h1 := HTOP.out; have h2 := HNE.out; have h3 := hI.top
   simp at hi
   omega)
  have HUE : Hid (firstI (foldE b r d m s Z k x (vals pre)) (lvErr b r d m s (y.1 : Int) (Z y.1) (k / 2 ^ y.1) x) = foldE b r d m s Z k x (vals (pre ++ [y]))) := Lib.hid (by rw [vals_snoc, HF.out])
  simp only [hX]
  clear hI hX
  gi_wp2_with fail
  refine wpIn_round_any (by kernel_rfl) (by kernel_rfl) (by rintro ⟨_, _, h⟩; exact h) ?_; generalize W.drew = Wd at *; have q0 := HI1.out.bad.cell 0; have q1 := HI1.out.num.cell 0; simp at q0 q1
  refine tkA (i := 1) (v := ?_) rfl (by kernel_rfl) (fun _ _ _ h => h) (Or.inl ⟨by rfl, ?_⟩) ?_
  rotate_left
  ·intro w
   go_simp
   try with_reducible rfl
  simp only [Act.put, z1, z2, z3, z4, z5, z6]
  refine tkA (i := 2) (v := ?_) rfl (by kernel_rfl) (fun _ _ _ h => h) (Or.inl ⟨by rfl, ?_⟩) ?_
  rotate_left
  ·intro w
   go_simp
   try with_reducible rfl
  simp only [Act.put, z1, z2, z3, z4, z5, z6]
  refine wpAny_ready (rs := [0, 3]) (by kernel_rfl) (by simp) ?_
  refine AllReady.cons rfl (fun Kc hKc => ?_) (AllReady.cons rfl (fun Kc hKc => ?_) AllReady.nil)
  ·have HKc := Lib.hid hKc
   clear hKc
   go_simp
   refine HKc.out _ _ ?_
   clear HKc Kc
   refine wpAny_ready (rs := [3]) (by kernel_rfl) (by simp) ?_
   refine AllReady.cons rfl (fun Kc hKc => ?_) AllReady.nil
   have HKc := Lib.hid hKc
   clear hKc
   go_simp
   refine HKc.out _ _ ?_
   clear HKc Kc
   refine wpAny_ready (rs := [4]) (by kernel_rfl) (by simp) ?_
   refine AllReady.cons rfl (fun Kc hKc => ?_) AllReady.nil
   have HKc := Lib.hid hKc
   clear hKc
   go_simp
   go_wp2_with (first | (with_reducible refine PCk.out.mono ?_; rintro e w5 ⟨rfl, hb⟩; have HI5 := Lib.hid (HI1.out.kept hb); have HP := Lib.hid (HEND.out w5 (.cells #[.int .i64 (foldE b r d m s Z k x (vals pre)), .int .i64 (lvErr b r d m s (y.1 : Int) (Z y.1) (k / 2 ^ y.1) x)] 50) hb _ HUE.out); have q0 := HI5.out.bad.cell 0; simp at q0; clear hb) | (go_at_call 130; refine (first_any w5.heap.size _ _ _ (Blk.new w5 _ _)).mono ?_; rintro e w6 ⟨rfl, hw6⟩; subst hw6; have HI6 := Lib.hid (HI5.out.kept (below_alloc1 w5 (.cells #[.int .i64 (foldE b r d m s Z k x (vals pre)), .int .i64 (lvErr b r d m s (y.1 : Int) (Z y.1) (k / 2 ^ y.1) x)] 50))); have f0 := HI6.out.bad.frozen 0; have q0 := HI6.out.bad.cell 0; simp at q0 f0))
   refine HKc.out _ _ ?_
   clear HKc Kc
   refine wpAny_ready (rs := [5]) (by kernel_rfl) (by simp) ?_
   refine AllReady.cons rfl (fun Kc hKc => ?_) AllReady.nil
   have HKc := Lib.hid hKc
   clear hKc
   go_simp
   refine HKc.out _ _ ?_
   clear HKc Kc
   refine wpAny_ready (rs := [6]) (by kernel_rfl) (by simp) ?_
   refine AllReady.cons rfl (fun Kc hKc => ?_) AllReady.nil
   have HKc := Lib.hid hKc
   clear hKc
   go_simp
   go_wp2_with (first | (with_reducible refine PCk.out.mono ?_; rintro e w5 ⟨rfl, hb⟩; have HI5 := Lib.hid (HI1.out.kept hb); have HP := Lib.hid (HEND.out w5 (.cells #[.int .i64 (foldE b r d m s Z k x (vals pre)), .int .i64 (lvErr b r d m s (y.1 : Int) (Z y.1) (k / 2 ^ y.1) x)] 50) hb _ HUE.out); have q0 := HI5.out.bad.cell 0; simp at q0; clear hb) | (go_at_call 130; refine (first_any w5.heap.size _ _ _ (Blk.new w5 _ _)).mono ?_; rintro e w6 ⟨rfl, hw6⟩; subst hw6; have HI6 := Lib.hid (HI5.out.kept (below_alloc1 w5 (.cells #[.int .i64 (foldE b r d m s Z k x (vals pre)), .int .i64 (lvErr b r d m s (y.1 : Int) (Z y.1) (k / 2 ^ y.1) x)] 50))); have f0 := HI6.out.bad.frozen 0; have q0 := HI6.out.bad.cell 0; simp at q0 f0))
   refine HKc.out _ _ ?_
   clear HKc Kc
   refine wpAny_ready (rs := [7]) (by kernel_rfl) (by simp) ?_
   refine AllReady.cons rfl (fun Kc hKc => ?_) AllReady.nil
   have HKc := Lib.hid hKc
   clear hKc
   go_simp
   refine HKc.out _ _ ?_
   clear HKc Kc
   refine wpAny_done (by kernel_rfl) ?_ _
   gi_wp2
   exact HP.out
  ·have HKc := Lib.hid hKc
   clear hKc
   go_simp
   refine HKc.out _ _ ?_
   clear HKc Kc
   refine wpAny_ready (rs := [0, 4]) (by kernel_rfl) (by simp) ?_
   refine AllReady.cons rfl (fun Kc hKc => ?_) (AllReady.cons rfl (fun Kc hKc => ?_) AllReady.nil)
   ·have HKc := Lib.hid hKc
    clear hKc
    go_simp
    refine HKc.out _ _ ?_
    clear HKc Kc
    refine wpAny_ready (rs := [4]) (by kernel_rfl) (by simp) ?_
    refine AllReady.cons rfl (fun Kc hKc => ?_) AllReady.nil
    have HKc := Lib.hid hKc
    clear hKc
    go_simp
    go_wp2_with (first | (with_reducible refine PCk.out.mono ?_; rintro e w5 ⟨rfl, hb⟩; have HI5 := Lib.hid (HI1.out.kept hb); have HP := Lib.hid (HEND.out w5 (.cells #[.int .i64 (foldE b r d m s Z k x (vals pre)), .int .i64 (lvErr b r d m s (y.1 : Int) (Z y.1) (k / 2 ^ y.1) x)] 50) hb _ HUE.out); have q0 := HI5.out.bad.cell 0; simp at q0; clear hb) | (go_at_call 130; refine (first_any w5.heap.size _ _ _ (Blk.new w5 _ _)).mono ?_; rintro e w6 ⟨rfl, hw6⟩; subst hw6; have HI6 := Lib.hid (HI5.out.kept (below_alloc1 w5 (.cells #[.int .i64 (foldE b r d m s Z k x (vals pre)), .int .i64 (lvErr b r d m s (y.1 : Int) (Z y.1) (k / 2 ^ y.1) x)] 50))); have f0 := HI6.out.bad.frozen 0; have q0 := HI6.out.bad.cell 0; simp at q0 f0))
    refine HKc.out _ _ ?_
    clear HKc Kc
    refine wpAny_ready (rs := [5]) (by kernel_rfl) (by simp) ?_
    refine AllReady.cons rfl (fun Kc hKc => ?_) AllReady.nil
    have HKc := Lib.hid hKc
    clear hKc
    go_simp
    refine HKc.out _ _ ?_
    clear HKc Kc
    refine wpAny_ready (rs := [6]) (by kernel_rfl) (by simp) ?_
    refine AllReady.cons rfl (fun Kc hKc => ?_) AllReady.nil
    have HKc := Lib.hid hKc
    clear hKc
    go_simp
    go_wp2_with (first | (with_reducible refine PCk.out.mono ?_; rintro e w5 ⟨rfl, hb⟩; have HI5 := Lib.hid (HI1.out.kept hb); have HP := Lib.hid (HEND.out w5 (.cells #[.int .i64 (foldE b r d m s Z k x (vals pre)), .int .i64 (lvErr b r d m s (y.1 : Int) (Z y.1) (k / 2 ^ y.1) x)] 50) hb _ HUE.out); have q0 := HI5.out.bad.cell 0; simp at q0; clear hb) | (go_at_call 130; refine (first_any w5.heap.size _ _ _ (Blk.new w5 _ _)).mono ?_; rintro e w6 ⟨rfl, hw6⟩; subst hw6; have HI6 := Lib.hid (HI5.out.kept (below_alloc1 w5 (.cells #[.int .i64 (foldE b r d m s Z k x (vals pre)), .int .i64 (lvErr b r d m s (y.1 : Int) (Z y.1) (k / 2 ^ y.1) x)] 50))); have f0 := HI6.out.bad.frozen 0; have q0 := HI6.out.bad.cell 0; simp at q0 f0))
    refine HKc.out _ _ ?_
    clear HKc Kc
    refine wpAny_ready (rs := [7]) (by kernel_rfl) (by simp) ?_
    refine AllReady.cons rfl (fun Kc hKc => ?_) AllReady.nil
    have HKc := Lib.hid hKc
    clear hKc
    go_simp
    refine HKc.out _ _ ?_
    clear HKc Kc
    refine wpAny_done (by kernel_rfl) ?_ _
    gi_wp2
    exact HP.out
   ·have HKc := Lib.hid hKc
    clear hKc
    go_simp
    go_wp2_with (first | (with_reducible refine PCk.out.mono ?_; rintro e w5 ⟨rfl, hb⟩; have HI5 := Lib.hid (HI1.out.kept hb); have HP := Lib.hid (HEND.out w5 (.cells #[.int .i64 (foldE b r d m s Z k x (vals pre)), .int .i64 (lvErr b r d m s (y.1 : Int) (Z y.1) (k / 2 ^ y.1) x)] 50) hb _ HUE.out); have q0 := HI5.out.bad.cell 0; simp at q0; clear hb) | (go_at_call 130; refine (first_any w5.heap.size _ _ _ (Blk.new w5 _ _)).mono ?_; rintro e w6 ⟨rfl, hw6⟩; subst hw6; have HI6 := Lib.hid (HI5.out.kept (below_alloc1 w5 (.cells #[.int .i64 (foldE b r d m s Z k x (vals pre)), .int .i64 (lvErr b r d m s (y.1 : Int) (Z y.1) (k / 2 ^ y.1) x)] 50))); have f0 := HI6.out.bad.frozen 0; have q0 := HI6.out.bad.cell 0; simp at q0 f0))
    refine HKc.out _ _ ?_
    clear HKc Kc
    refine wpAny_ready (rs := [0]) (by kernel_rfl) (by simp) ?_
    refine AllReady.cons rfl (fun Kc hKc => ?_) AllReady.nil
    have HKc := Lib.hid hKc
    clear hKc
    go_simp
    refine HKc.out _ _ ?_
    clear HKc Kc
    refine wpAny_ready (rs := [5]) (by kernel_rfl) (by simp) ?_
    refine AllReady.cons rfl (fun Kc hKc => ?_) AllReady.nil
    have HKc := Lib.hid hKc
    clear hKc
    go_simp
    refine HKc.out _ _ ?_
    clear HKc Kc
    refine wpAny_ready (rs := [6]) (by kernel_rfl) (by simp) ?_
    refine AllReady.cons rfl (fun Kc hKc => ?_) AllReady.nil
    have HKc := Lib.hid hKc
    clear hKc
    go_simp
    go_wp2_with (first | (with_reducible refine PCk.out.mono ?_; rintro e w5 ⟨rfl, hb⟩; have HI5 := Lib.hid (HI1.out.kept hb); have HP := Lib.hid (HEND.out w5 (.cells #[.int .i64 (foldE b r d m s Z k x (vals pre)), .int .i64 (lvErr b r d m s (y.1 : Int) (Z y.1) (k / 2 ^ y.1) x)] 50) hb _ HUE.out); have q0 := HI5.out.bad.cell 0; simp at q0; clear hb) | (go_at_call 130; refine (first_any w5.heap.size _ _ _ (Blk.new w5 _ _)).mono ?_; rintro e w6 ⟨rfl, hw6⟩; subst hw6; have HI6 := Lib.hid (HI5.out.kept (below_alloc1 w5 (.cells #[.int .i64 (foldE b r d m s Z k x (vals pre)), .int .i64 (lvErr b r d m s (y.1 : Int) (Z y.1) (k / 2 ^ y.1) x)] 50))); have f0 := HI6.out.bad.frozen 0; have q0 := HI6.out.bad.cell 0; simp at q0 f0))
    refine HKc.out _ _ ?_
    clear HKc Kc
    refine wpAny_ready (rs := [7]) (by kernel_rfl) (by simp) ?_
    refine AllReady.cons rfl (fun Kc hKc => ?_) AllReady.nil
    have HKc := Lib.hid hKc
    clear hKc
    go_simp
    refine HKc.out _ _ ?_
    clear HKc Kc
    refine wpAny_done (by kernel_rfl) ?_ _
    gi_wp2
    exact HP.out
 case done =>
  intro D xs W hD hxs hI hK
  subst hxs
  rw [vals_all] at hI
  have hfe : foldE b r d m s Z k x (List.range (q + 1)) = stErr b r d m s Z k x := by
   have h1 := stErr_firsts (s := s) (Z := Z) (x := x) HRT.out HKK.out
   rw [HQ.out] at h1
   exact h1
  rw [hfe] at hI
  have HI := Lib.hid hI
  have HK := Lib.hid hK
  have hDs : w.heap.size ≤ D := by have := HI0.out.bel.size; omega
  have HDS := Lib.hid hDs
  have q0 := hI.bad.cell 0
  simp at q0
  clear hI hfe hK hDs
  by_cases h0 : stErr b r d m s Z k x = 0
  ·have H0 := Lib.hid h0
   rw [h0] at q0
   clear h0
   gi_wp2_with fail
   refine ⟨trivial, ?_⟩
   with_reducible refine (callsIn_wide.2 (stat S (k : Int) W)).mono ?_
   rintro e w5 ⟨rfl, hw5⟩
   obtain ⟨ga, gb, gc, gd⟩ := news2 W (.cells #[.pointer (some ⟨S, 0, none⟩)] 49) (.cells #[.int .u64 (k : Int)] 22)
   rw [← hw5] at ga gb gc gd
   have HGA5 : Hid (Blk w5 W.heap.size 49 #[.pointer (some ⟨S, 0, none⟩)]) := Lib.hid ga
   have HGB5 : Hid (Blk w5 (W.heap.size + 1) 22 #[.int .u64 (k : Int)]) := Lib.hid gb
   have HT5 : Hid (W.heap.size + 2 = w5.heap.size ∧ w4.heap.size ≤ W.heap.size ∧ D < W.heap.size ∧ w.heap.size ≤ W.heap.size) := Lib.hid ⟨gd.symm, HI.out.top, (Array.getElem?_eq_some_iff.1 HK.out).1, HI.out.bel.size⟩
   have HJ0 : Hid (UpdI w w5 base S L b r d m s X A G C Z w.heap.size w5.heap.size D x k []) := Lib.hid ⟨Nat.le_refl _, (HI.out.st.kept gc).setC (fun n _ => rfl), HI.out.num.kept gc, RGr.of_below (btr HI.out.bel gc), (gc.block D HT5.out.2.2.1).trans HK.out⟩
   clear hw5 ga gb gc gd q0
   gi_wp2_with fail
   obtain ⟨capS2, hbx2, -⟩ := HJ0.out.st.box
   obtain ⟨cur2, hrow2, hcur2⟩ := HJ0.out.st.row
   rw [HQ.out] at hbx2 hcur2
   have HLT5 : Hid (S < w5.heap.size ∧ L < w5.heap.size ∧ w.heap.size < w5.heap.size) := Lib.hid ⟨hbx2.lt, hrow2.lt, HJ0.out.num.lt⟩
   refine wpIn_rangeFunc_ownF rfl (by omega) (gf := 170) (lb := #[.pointer (some ⟨W.heap.size, 0, none⟩), .pointer (some ⟨W.heap.size + 1, 0, none⟩)]) rfl trivial (enters_of Tryz.func170 (by kernel_rfl) rfl)
    (st_stops (6 - 1) (by omega) W.heap.size (W.heap.size + 1) S L q capS2 k cur2 X hq59 w5 HXO.out HGA5.out HGB5.out ⟨_, _, _, _, _, hbx2⟩ hrow2 hcur2) KpB.trans (KpB.put (by
     have h1 := HT5.out; have h2 := HLT5.out
     intro i hi
     simp at hi
     omega)) (Below.refl _ _) (fun _ => rfl)
    (fun (pre : List (LvN q)) W' => UpdI w W' base S L b r d m s X A G C Z w.heap.size w5.heap.size D x k (vals pre))
    (fun _ _ _ => False)
    (fun pre W1 W2 row hs hg hr => hs.walked (B := w5.heap.size) (by have := HT5.out; omega) (by have := HT5.out; omega) hg hr)
    (fun _ _ _ _ _ hs _ _ => hs)
    HJ0.out
    (fun (y : LvN q) => { tmps := #[.pointer (some ⟨S, 0, none⟩), .int .u64 (k : Int), .int .i64 x, undef, undef, .pointer (some ⟨w.heap.size, 0, none⟩), .int .i64 0, .pointer (some ⟨w2.heap.size, 0, none⟩), undef, undef, X y.1, .int .u64 ((k / 2 ^ y.1 : Nat) : Int),
     .int .u64 (k : Int), .pointer (some ⟨S, 0, none⟩), .pointer (some ⟨S, 0, none⟩), .pointer (some ⟨S, 0, none⟩), .agg #[.int .i64 b, .int .i64 r, .int .i64 d, .int .i64 m, .int .u64 s], .int .u64 (keysI b r d m 0), .bool false, .pointer (some ⟨S, 0, none⟩), .int .u64 (k : Int),
     .func (.func 170) #[] #[.pointer (some ⟨w3.heap.size, 0, none⟩), .pointer (some ⟨w3.heap.size + 1, 0, none⟩)], undef, undef, undef, undef, undef, undef, undef, undef, undef, .int .i64 0, .bool false, undef, .pointer (some ⟨S, 0, none⟩), .int .u64 (k : Int),
     .func (.func 170) #[] #[.pointer (some ⟨W.heap.size, 0, none⟩), .pointer (some ⟨W.heap.size + 1, 0, none⟩)], X y.1, .int .u64 ((k / 2 ^ y.1 : Nat) : Int), undef, undef, undef, undef], defers := [] }) ?assign2 ?body2 ?done2 ?stop2
   case assign2 =>
    intro l y W K hK
    obtain ⟨t, a, hx⟩ := HXO.out y.1 y.2
    simp only [hx] at hK ⊢
    gi_wp2
    exact hK
   case body2 =>
    intro l pre y W1 hI1 _
    have hyb : y.1 ≤ b.toNat := by have := HQ.out; have := y.2; omega
    have HI1 := Lib.hid hI1
    obtain ⟨f, ⟨TX, hX, hm, hen⟩, PUp⟩ := lvupdate W1 (X y.1) _ _ _ b r d m s (y.1 : Int) _ (hI1.st.lev y.1 hyb) HRT.out s0 s1 (k / 2 ^ y.1) (shr_small hk64 _) x hx
    obtain ⟨curC, hC⟩ := (hI1.st.lev y.1 hyb).cells
    obtain ⟨capS3, hb3, -⟩ := hI1.st.box
    obtain ⟨cur3, hr3, -⟩ := hI1.st.row
    have HNE3 : Hid (∀ i ∈ [W.heap.size, W.heap.size + 1, S, L], i < W1.heap.size ∧ i ≠ C y.1) := Lib.hid (by
     have h1 := HT5.out; have h2 := HLT5.out; have h3 := hI1.top
     have n1 := hb3.ne_ hC (by decide)
     have n2 := hr3.ne_ hC (by decide)
     have n3 : C y.1 < W.heap.size := by
      obtain ⟨c2, h5⟩ := (HI.out.st.lev y.1 hyb).cells
      exact h5.lt
     intro i hi
     simp at hi
     omega)
    have HBN : Hid (w.heap.size ≠ C y.1) := Lib.hid (by have := HCL.out y.1 hyb; omega)
    have PUp2 : Calls Tryz.prog f #[.pointer (some ⟨A y.1, 0, none⟩), .int .u64 ((k : Int) / 2 ^ y.1), .int .i64 x] W1 fun e W2 => (∃ v, e = .returned v) ∧ KeepsOthers W1 W2 ∧ KpB [W.heap.size, W.heap.size + 1, S, L] W1 W2 ∧ UpdI w W2 base S L b r d m s X A G C Z w.heap.size w5.heap.size D x k (vals (pre ++ [y])) := by
     rw [show ((k / 2 ^ y.1 : Nat) : Int) = (k : Int) / 2 ^ y.1 by rw [Int.natCast_ediv, Int.natCast_pow]; rfl] at PUp
     refine PUp.mono (fun e W2 hp => ?_)
     have hp2 := hp
     obtain ⟨he, -, hg⟩ := hp2
     refine ⟨⟨_, he⟩, kept_others hg (fun g e => ⟨_, _, by cases e; exact hC⟩), KpB.of_grown hg (fun i hi => ⟨(HNE3.out i hi).1, by simpa using (HNE3.out i hi).2⟩), ?_⟩
     rw [vals_snoc]
     exact HI1.out.next (by have := HLT5.out; omega) hyb HBN.out hp
    have PUp2 := Lib.hid PUp2
    have q1 := hI1.num.cell 0
    simp at q1
    simp only [hX]
    clear hI1 hX PUp hC hb3 hr3
    gi_wp2_with fail
    refine ⟨trivial, ?_⟩
    with_reducible refine (CallsIn.inRound l (callsIn_wide.2 PUp2.out)).mono ?_
    rintro e W2 ⟨⟨v, rfl⟩, hp⟩
    have HP := Lib.hid hp
    clear hp q1
    gi_wp2
    exact HP.out
   case done2 =>
    intro D2 xs W2 hD2 hxs hI2 hK2
    subst hxs
    rw [vals_all] at hI2
    have hne : D ≠ D2 := by have := HT5.out; omega
    have g1 := grownBy_putObj' W2 D2 (.deferred none)
    have hK1 : (W2.putObj D2 (.deferred none)).heap[D]? = some (.deferred (some [])) := (World.putObj_heap_other hne).trans hI2.mark
    have g2 := grownBy_putObj' (W2.putObj D2 (.deferred none)) D (.deferred none)
    have HP : Hid (StUpPost w base S L b r d m s X A G C Z k x (.returned (.int .i64 0)) ((W2.putObj D2 (.deferred none)).putObj D (.deferred none))) := Lib.hid (by
     refine ⟨by rw [H0.out], ?_, ?_⟩
     ·refine ((hI2.st.walked g1 (fun r e => by cases e; exact ⟨_, hK2, rfl⟩)).walked g2 (fun r e => by cases e; exact ⟨_, hK1, rfl⟩)).setC (fun n hn => ?_)
      have hc : (List.range (q + 1)).count n = 1 := by
       rw [HQ.out] at hn
       rw [count_upto, if_pos (by omega)]
      unfold stUpd
      rw [if_pos H0.out, hc]
      rfl
     ·exact (hI2.gr.grown g1 (fun r e => .inl (by cases e; have := HT5.out; omega))).grown g2 (fun r e => .inl (by cases e; exact HDS.out)))
    have HK1 := Lib.hid hK1
    have HK2 := Lib.hid hK2
    clear hI2 g1 g2 hK1 hK2
    gi_wp2
    refine ⟨by simp, .inl ⟨_, _, rfl, run_takeDeferred HK2.out, by simp, .inl ⟨_, _, rfl, run_takeDeferred HK1.out, ?_⟩⟩⟩
    refine ⟨.int .i64 0, ?_, HP.out⟩
    simp [results, Tryz.results87, go_sem]
   case stop2 =>
    intro D c pre W _ _ h _
    exact h.elim
  ·have n1 : (stErr b r d m s Z k x != 0) = true := by simp [h0]
   have HU : Hid (∀ n, stUpd b r d m s Z k x n = Z n) := Lib.hid (fun n => by unfold stUpd; rw [if_neg h0])
   have HP : Hid (StUpPost w base S L b r d m s X A G C Z k x (.returned (.int .i64 (stErr b r d m s Z k x))) (W.putObj D (.deferred none))) := Lib.hid
    ⟨rfl, (HI.out.st.walked (grownBy_putObj' W D _) (fun r e => by cases e; exact ⟨_, HK.out, rfl⟩)).setC (fun n _ => (HU.out n).symm), (RGr.of_below HI.out.bel).grown (grownBy_putObj' W D _) (fun r e => .inl (by cases e; exact HDS.out))⟩
   generalize stErr b r d m s Z k x = e0 at *
   clear h0
   gi_wp2
   refine ⟨by simp, .inl ⟨_, _, rfl, run_takeDeferred HK.out, ?_⟩⟩
   refine ⟨.int .i64 e0, ?_, HP.out⟩
   simp [results, Tryz.results87, go_sem]
 case stop =>
  intro D c pre W _ _ h _
  exact h.elim
theorem stupdate (w : World) (base S L : Nat) (b r d m s : Int) (X : Nat → Value) (A G C : Nat → Nat) (Z : Nat → List Int) (h : StIs w base S L b r d m s X A G C Z) (s0 : 0 ≤ s) (s1 : s ≤ 18446744073709551615) (k : Nat) (hk64 : k < 18446744073709551616) (x : Int) (hx : In64 x) :
    Calls Tryz.prog 87 #[.pointer (some ⟨S, 0, none⟩), .int .u64 (k : Int), .int .i64 x] w (StUpPost w base S L b r d m s X A G C Z k x) := by
  by_cases hk : keysI b r d m 0 ≤ (k : Int)
  · exact stupdate_key w base S L b r d m s X A G C Z h k x hk
  · exact stupdate_in w base S L b r d m s X A G C Z h s0 s1 k hk64 x hx (by omega)
end Go.Proofs.YtfeficdndjiijaaGreatDoor


namespace Go.Proofs.YtfeficdndjiijaaGreatDoor
open Go.RowKit Go.Shelf
set_option linter.unusedVariables false
set_option linter.unusedSimpArgs false
attribute [local go_sem] Oper.semAt_some

theorem slvals (ao : Option Addr) (n cap : Nat) (w : World) :
    Calls Tryz.prog 176 #[.slice ao n cap] w fun e w' => e = .returned (.func (.func 213) #[] #[.pointer (some ⟨w.heap.size, 0, none⟩)]) ∧ w' = w.alloc (.cells #[.slice ao n cap] 256) := by
  go_enter Tryz.func176, Tryz.ntmps176
  go_wp2
  go_ret
  exact ⟨rfl, rfl⟩
def pcV (p : Nat × Nat) : Value := .agg #[.int .i64 (p.1 : Int), .int .u64 (p.2 : Int)]
set_option maxRecDepth 100000 in
set_option maxHeartbeats 4000000 in
theorem slv1 (n : Nat) (hn : 1 ≤ n) (l Bs g cap : Nat) {α : Type} (f : α → Nat × Nat) (qs : List α) (hlen : qs.length ≤ 100000) (J Jx : List α → World → Prop)
  (hY : ∀ pre x W, J pre W → pre.length < qs.length → YieldAt Fence.wide (n - 1) Tryz.prog l #[pcV (f x)] W fun e W' =>
   (e = .returned (.bool true) ∧ J (pre ++ [x]) W' ∧ KpB [Bs, g] W W') ∨ (e = .returned (.bool false) ∧ Jx (pre ++ [x]) W'))
  (W : World) (hJ : AbidesFrom W.heap.size J) (hBs : Blk W Bs 256 #[.slice (some ⟨g, 0, none⟩) qs.length cap]) (hg : PcAt W g (qs.map f)) (h0 : J [] W) :
  CallsIn Fence.wide n Tryz.prog 213 #[.func (.yield l) #[] #[], .pointer (some ⟨Bs, 0, none⟩)] W fun e W' => (∃ v, e = .returned v) ∧
   ((∃ ys, ys = qs ∧ J ys W') ∨ (∃ pre, (∃ j, pre = qs.take j) ∧ Jx pre W')) := by
 obtain ⟨N, hN⟩ : ∃ N, N = qs.length := ⟨_, rfl⟩
 have HN := Lib.hid hN
 have HY := Lib.hid hY
 have HJ := Lib.hid hJ
 have HBS := Lib.hid hBs
 have HG := Lib.hid hg
 have HLT : Hid (Bs < W.heap.size ∧ g < W.heap.size) := Lib.hid ⟨hBs.lt, hg.lt⟩
 have c0 := hBs.cell 0
 simp at c0
 rw [← hN] at c0 hlen
 clear hY hJ hBs hg hN
 refine callsIn_of_wp Tryz.func213 rfl trivial ?_ rfl
 simp only [Tryz.ntmps213, List.size_toArray, List.length_cons, List.length_nil, Nat.reduceAdd, Nat.reduceSub, Array.replicate_succ, Array.replicate_zero, List.push_toArray, List.append_toArray, List.nil_append, List.cons_append]
 gi_wp2
 gi_loopw [7] (fun i wr => ∃ j : Nat, j ≤ N ∧ i = .int .i64 (j : Int) ∧ J (qs.take j) wr ∧ KpB [Bs, g] W wr) (fun i _ => N - (intOf i).toNat)
 case atStart => exact ⟨0, by omega, rfl, by simpa using h0, Nat.le_refl _, fun _ _ => rfl⟩
 case round =>
  obtain ⟨j, hj, rfl, hJs, hkp⟩ := hrel
  clear c0
  have HKP := Lib.hid hkp
  by_cases hlt : j < N
  ·have hjl : j < qs.length := by have := HN.out; omega
   obtain ⟨q, hq⟩ : ∃ q, qs[j]? = some q := ⟨_, List.getElem?_eq_getElem hjl⟩
   obtain ⟨p, hpf⟩ : ∃ p, p = f q := ⟨_, rfl⟩
   have hp : (qs.map f)[j]? = some p := by rw [List.getElem?_map, hq, hpf]; rfl
   have HTK : Hid (qs.take (j + 1) = qs.take j ++ [q]) := Lib.hid (by rw [List.take_add_one, hq]; rfl)
   have hpr := (HG.out.of_block (hkp.2 g (by simp))).rng j p hp
   have cx := hpr 0 _ rfl
   have cy := hpr 1 _ rfl
   simp only [Nat.add_zero] at cx
   have HP := Lib.hid hp
   have i0 : (0 : Int) ≤ (j : Int) := by omega
   have i1 : (j : Int) < (N : Int) := by omega
   have HJS := Lib.hid hJs
   have hal : Below wr.heap.size wr (wr.alloc (.cells #[.int .i64 (p.1 : Int), .int .u64 (p.2 : Int)] 155)) := (Below.refl _ _).alloc (Nat.le_refl _) _
   have HKA : Hid (KpB [Bs, g] W (wr.alloc (.cells #[.int .i64 (p.1 : Int), .int .u64 (p.2 : Int)] 155))) := Lib.hid (KpB.trans hkp (KpB.of_below hal (by have := HLT.out; have := hkp.1; intro i hi; simp at hi; omega)))
   have hJA := HJ.out _ wr _ none hJs (below_gr hal) (fun r e => by cases e)
   obtain ⟨fn, tmps, assign, body, hy, hR⟩ := HY.out _ q _ hJA (by rw [List.length_take]; omega)
   rw [← HTK.out] at hR
   rw [← hpf] at hy
   unfold pcV at hy
   clear hkp hpr hp hJs hjl hq hpf hal hJA HJS
   gi_wp2_with fail
   refine hR.mono ?_
   rintro e W3 (⟨rfl, hJ3, hk3⟩ | ⟨rfl, hJx3⟩)
   ·have HJ3 := Lib.hid hJ3
    have HK3 := Lib.hid (KpB.trans HKA.out hk3)
    clear hJ3 hk3 cx cy hy hR
    gi_wp2
    go_roundw
    case rel => exact ⟨j + 1, by omega, by simp, HJ3.out, HK3.out⟩
    case measure => simp [intOf]; omega
   ·have HJ3 := Lib.hid hJx3
    clear hJx3 cx cy hy hR
    gi_wp2
    refine bodyPost_ret (results_none rfl _ _ _) rfl ?_
    exact ⟨⟨_, rfl⟩, .inr ⟨_, ⟨j + 1, rfl⟩, HJ3.out⟩⟩
  ·obtain rfl : j = N := by omega
   have HJ4 : Hid (J qs wr) := Lib.hid (by rw [HN.out, List.take_length] at hJs; exact hJs)
   clear hJs hkp
   gi_wp2
   go_end0
   exact ⟨⟨_, rfl⟩, .inl ⟨_, rfl, HJ4.out⟩⟩
theorem slv_stops (n : Nat) (hn : 1 ≤ n) (Bs g cap : Nat) {α : Type} (f : α → Nat × Nat) (qs : List α) (hlen : qs.length ≤ 100000) (w : World) (hBs : Blk w Bs 256 #[.slice (some ⟨g, 0, none⟩) qs.length cap]) (hg : PcAt w g (qs.map f)) :
    SeqStopsK Fence.wide n Tryz.prog 213 #[.pointer (some ⟨Bs, 0, none⟩)] (fun x : α => #[pcV (f x)]) (KpB [Bs, g]) (fun ys => ys = qs) (fun pre => ∃ j, pre = qs.take j) qs.length w := fun l J Jx W hW hJ _ hY h0 =>
  slv1 n hn l Bs g cap f qs hlen J Jx hY W hJ (hBs.kept hW) (hg.kept hW) h0
end Go.Proofs.YtfeficdndjiijaaGreatDoor


namespace Go.Proofs.YtfeficdndjiijaaGreatDoor
open Go.RowKit
set_option linter.unusedVariables false
set_option linter.unusedSimpArgs false

set_option maxRecDepth 100000 in
set_option maxHeartbeats 4000000 in
theorem line_of (A : Nat) (S : ByteArray) (w : World) (PC : Value → World → Prop) (R1 : Value → World → Prop) (Fin : ByteArray → World → Prop) (hif : ∀ c w, PC c w → ∃ t v, c = .iface t v)
  (hp : Calls Tryz.prog 21 #[.string S] w fun e w' => ∃ c, e = .returned (.tuple #[c, .int .i64 0, .int .i64 0]) ∧ PC c w' ∧ Below w.heap.size w w')
  (hd : ∀ c w1, Below w.heap.size w w1 → PC c w1 → Calls Tryz.prog 24 #[.pointer (some ⟨A, 0, none⟩), c] w1 fun e w' => ∃ r, e = .returned (.tuple #[r, .int .i64 0]) ∧ R1 r w')
  (ht : ∀ r w2, R1 r w2 → Calls Tryz.prog 25 #[r] w2 fun e w' => ∃ s, e = .returned (.string s) ∧ Fin s w') :
  Calls Tryz.prog 8 #[.pointer (some ⟨A, 0, none⟩), .string S] w fun e w' => ∃ s, e = .returned (.tuple #[.string s, .bool true]) ∧ Fin s w' := by
 have HP := Lib.hid hp
 have HD := Lib.hid hd
 have HT := Lib.hid ht
 have HIF := Lib.hid hif
 clear hp hd ht hif
 go_enter Tryz.func8, Tryz.ntmps8
 go_wp2_with fail
 with_reducible refine HP.out.mono ?_
 rintro e w1 ⟨c, rfl, hc, hb⟩
 obtain ⟨t, v, rfl⟩ := HIF.out _ _ hc
 have HD1 := Lib.hid (HD.out _ _ hb hc)
 clear hb hc HD HIF HP
 go_wp2_with fail
 with_reducible refine HD1.out.mono ?_
 rintro e w2 ⟨r, rfl, hr⟩
 have HT1 := Lib.hid (HT.out _ _ hr)
 clear hr HT HD1
 go_wp2_with fail
 with_reducible refine HT1.out.mono ?_
 rintro e w3 ⟨s, rfl, hf⟩
 have HF := Lib.hid hf
 clear hf HT1
 go_wp2_with fail
 go_ret2
 exact ⟨s, rfl, HF.out⟩
end Go.Proofs.YtfeficdndjiijaaGreatDoor


namespace Go.Proofs.YtfeficdndjiijaaGreatDoor
open Go.RowKit
set_option linter.unusedVariables false
set_option linter.unusedSimpArgs false

theorem fmtUintSmall (k : Nat) (hk : k < 100) (w : World) : Calls Tryz.prog 54 #[.int .u64 (k : Int), .int .i64 10] w fun e w' => e = .returned (.string (sB (Lib.decDigits k))) ∧ w = w' := by
  have P := Lib.hid (fun w => Tryz.internal_strconv_small k hk w)
  have hk' : (k : Int) < 100 := by omega
  have hk2 : IntKind.i64.wrap (k : Int) = (k : Int) := wrapI_of _ (by omega) (by omega)
  have P2 : Hid (∀ w, Calls Tryz.prog 101 #[.int .u64 (k : Int), .int .i64 10] w fun e w' => e = .returned (.string (sB (Lib.decDigits k))) ∧ w = w') := Lib.hid (fun w => by
    go_enter Tryz.func101, Tryz.ntmps101
    go_wp2_with fail
    with_reducible refine (P.out _).mono ?_
    rintro e w2 ⟨rfl, hw⟩
    subst hw
    go_wp2_with fail
    go_ret
    exact ⟨rfl, rfl⟩)
  go_enter Tryz.func54, Tryz.ntmps54
  go_wp2_with fail
  with_reducible refine (P2.out _).mono ?_
  rintro e w2 ⟨rfl, hw⟩
  subst hw
  go_wp2_with fail
  go_ret
  exact ⟨rfl, rfl⟩
theorem hd_size (a : List UInt8) (n : Int) (h0 : -9223372036854775808 ≤ n) (h1 : n ≤ 9223372036854775807) (ha : a.length ≤ 100) : ¬ 9223372036854775807 < (sB a).size + (sB (Lib.itoa n)).size := by
  have := itoa_len n h0 h1
  rw [sB_size]
  omega
theorem taDoneDone (w : World) : (Instr.typeAssert (.iface 133 (.agg #[])) 68 133 true).run Tryz.prog w = .ok (.tuple #[.agg #[], .bool true]) w := by kernel_rfl
theorem taHandleDone (n : Int) (w : World) : (Instr.typeAssert (.iface 135 (.agg #[.int .i64 n])) 68 133 true).run Tryz.prog w = .ok (.tuple #[.agg #[], .bool false]) w := by kernel_rfl
theorem taHandleHandle (n : Int) (w : World) : (Instr.typeAssert (.iface 135 (.agg #[.int .i64 n])) 68 135 true).run Tryz.prog w = .ok (.tuple #[.agg #[.int .i64 n], .bool true]) w := by kernel_rfl
theorem taNumberDone (n : Int) (w : World) : (Instr.typeAssert (.iface 137 (.agg #[.int .i64 n])) 68 133 true).run Tryz.prog w = .ok (.tuple #[.agg #[], .bool false]) w := by kernel_rfl
theorem taNumberHandle (n : Int) (w : World) : (Instr.typeAssert (.iface 137 (.agg #[.int .i64 n])) 68 135 true).run Tryz.prog w = .ok (.tuple #[.agg #[.int .i64 0], .bool false]) w := by kernel_rfl
theorem taNumberNumber (n : Int) (w : World) : (Instr.typeAssert (.iface 137 (.agg #[.int .i64 n])) 68 137 true).run Tryz.prog w = .ok (.tuple #[.agg #[.int .i64 n], .bool true]) w := by kernel_rfl
theorem taKeyDone (n : Int) (w : World) : (Instr.typeAssert (.iface 140 (.agg #[.int .u64 n])) 68 133 true).run Tryz.prog w = .ok (.tuple #[.agg #[], .bool false]) w := by kernel_rfl
theorem taKeyHandle (n : Int) (w : World) : (Instr.typeAssert (.iface 140 (.agg #[.int .u64 n])) 68 135 true).run Tryz.prog w = .ok (.tuple #[.agg #[.int .i64 0], .bool false]) w := by kernel_rfl
theorem taKeyNumber (n : Int) (w : World) : (Instr.typeAssert (.iface 140 (.agg #[.int .u64 n])) 68 137 true).run Tryz.prog w = .ok (.tuple #[.agg #[.int .i64 0], .bool false]) w := by kernel_rfl
theorem taKeyKey (n : Int) (w : World) : (Instr.typeAssert (.iface 140 (.agg #[.int .u64 n])) 68 140 true).run Tryz.prog w = .ok (.tuple #[.agg #[.int .u64 n], .bool true]) w := by kernel_rfl
set_option maxRecDepth 100000 in
set_option maxHeartbeats 4000000 in
theorem text_done (w : World) : Calls Tryz.prog 25 #[.iface 133 (.agg #[])] w fun e w' => e = .returned (.string (sB [100, 111, 110, 101])) ∧ Below w.heap.size w w' := by
  have t1 := taDoneDone
  go_enter Tryz.func25, Tryz.ntmps25
  go_wp2_with fail
  go_ret
  exact ⟨rfl, ((Below.refl _ w).alloc (Nat.le_refl _) _).alloc (by simp) _⟩
set_option maxRecDepth 100000 in
set_option maxHeartbeats 4000000 in
theorem text_handle (n : Int) (h0 : -9223372036854775808 ≤ n) (h1 : n ≤ 9223372036854775807) (w : World) (ht : Tab w) : Calls Tryz.prog 25 #[.iface 135 (.agg #[.int .i64 n])] w fun e w' => e = .returned (.string (sB ([104, 97, 110, 100, 108, 101, 32] ++ Lib.itoa n))) ∧ Below w.heap.size w w' := by
 have P := Lib.hid (fun w ht => itoaAny n h0 h1 w ht)
 have HT := Lib.hid ht
 have hsz := hd_size [104, 97, 110, 100, 108, 101, 32] n h0 h1 (by decide)
 have HAP := Lib.hid (sB_append [104, 97, 110, 100, 108, 101, 32] (Lib.itoa n))
 have HB : Hid (Below w.heap.size w ((w.alloc (.cells #[.pointer none, .slice none 0 0] 132)).alloc (.cells #[.int .i64 n] 135))) := Lib.hid (((Below.refl _ w).alloc (Nat.le_refl _) _).alloc (by simp) _)
 have t0 := taHandleDone n
 have t1 := taHandleHandle n
 clear ht h0 h1
 obtain ⟨S, hS⟩ : ∃ S, S = sB (Lib.itoa n) := ⟨_, rfl⟩
 rw [← hS] at P hsz HAP
 obtain ⟨H, hH⟩ : ∃ H, H = sB [104, 97, 110, 100, 108, 101, 32] := ⟨_, rfl⟩
 have HH := Lib.hid hH
 have hsz' : ¬ 9223372036854775807 < 7 + S.size := by rw [sB_size] at hsz; exact hsz
 clear hS hH
 go_enter Tryz.func25, Tryz.ntmps25
 go_wp2_with fail
 with_reducible refine (P.out _ (HT.out.kept HB.out)).mono ?_
 rintro e w2 ⟨rfl, hb⟩
 have HB2 := Lib.hid (btr HB.out hb)
 clear hb
 go_wp2_with fail
 go_ret
 exact ⟨congrArg (fun s => Ending.returned (Value.string s)) HAP.out, HB2.out⟩
set_option maxRecDepth 100000 in
set_option maxHeartbeats 4000000 in
theorem text_number (n : Int) (h0 : -9223372036854775808 ≤ n) (h1 : n ≤ 9223372036854775807) (w : World) (ht : Tab w) : Calls Tryz.prog 25 #[.iface 137 (.agg #[.int .i64 n])] w fun e w' => e = .returned (.string (sB ([110, 117, 109, 98, 101, 114, 32] ++ Lib.itoa n))) ∧ Below w.heap.size w w' := by
 have P := Lib.hid (fun w ht => fmtInt n h0 h1 w ht)
 have HT := Lib.hid ht
 have hsz := hd_size [110, 117, 109, 98, 101, 114, 32] n h0 h1 (by decide)
 have HAP := Lib.hid (sB_append [110, 117, 109, 98, 101, 114, 32] (Lib.itoa n))
 have HB : Hid (Below w.heap.size w ((w.alloc (.cells #[.pointer none, .slice none 0 0] 132)).alloc (.cells #[.int .i64 n] 137))) := Lib.hid (((Below.refl _ w).alloc (Nat.le_refl _) _).alloc (by simp) _)
 have t0 := taNumberDone n
 have t1 := taNumberHandle n
 have t2 := taNumberNumber n
 clear ht h0 h1
 obtain ⟨S, hS⟩ : ∃ S, S = sB (Lib.itoa n) := ⟨_, rfl⟩
 rw [← hS] at P hsz HAP
 obtain ⟨H, hH⟩ : ∃ H, H = sB [110, 117, 109, 98, 101, 114, 32] := ⟨_, rfl⟩
 have HH := Lib.hid hH
 have hsz' : ¬ 9223372036854775807 < 7 + S.size := by rw [sB_size] at hsz; exact hsz
 clear hS hH
 go_enter Tryz.func25, Tryz.ntmps25
 go_wp2_with fail
 with_reducible refine (P.out _ (HT.out.kept HB.out)).mono ?_
 rintro e w2 ⟨rfl, hb⟩
 have HB2 := Lib.hid (btr HB.out hb)
 clear hb
 go_wp2_with fail
 go_ret
 exact ⟨congrArg (fun s => Ending.returned (Value.string s)) HAP.out, HB2.out⟩
set_option maxRecDepth 100000 in
set_option maxHeartbeats 4000000 in
theorem text_key (k : Nat) (hk : k < 100) (w : World) : Calls Tryz.prog 25 #[.iface 140 (.agg #[.int .u64 (k : Int)])] w fun e w' => e = .returned (.string (sB ([107, 101, 121, 32] ++ Lib.decDigits k))) ∧ Below w.heap.size w w' := by
  have P := Lib.hid (fun w => fmtUintSmall k hk w)
  have hsz : ¬ 9223372036854775807 < 4 + (sB (Lib.decDigits k)).size := by
    rw [sB_size]; have := dec_len k (by omega); omega
  have HAP := Lib.hid (sB_append [107, 101, 121, 32] (Lib.decDigits k))
  have t0 := taKeyDone (k : Int)
  have t1 := taKeyHandle (k : Int)
  have t2 := taKeyNumber (k : Int)
  have t3 := taKeyKey (k : Int)
  clear hk
  generalize sB (Lib.decDigits k) = S at *
  go_enter Tryz.func25, Tryz.ntmps25
  go_wp2_with fail
  with_reducible refine (P.out _).mono ?_
  rintro e w2 ⟨rfl, hw⟩
  subst hw
  go_wp2_with fail
  go_ret
  exact ⟨congrArg (fun s => Ending.returned (Value.string s)) HAP.out, ((Below.refl _ w).alloc (Nat.le_refl _) _).alloc (by simp) _⟩
end Go.Proofs.YtfeficdndjiijaaGreatDoor


namespace Go.Proofs.YtfeficdndjiijaaGreatDoor
open Go.RowKit Go.Maps
set_option linter.unusedVariables false
set_option linter.unusedSimpArgs false

theorem AggIs.look {w : World} {A b n : Nat} {T : Nat → Option Nat × Option Nat} (h : AggIs w A b n T) (k : Int) (h1 : 1 ≤ k) (h2 : k ≤ (n : Int)) (hn : n ≤ 100) :
    (Instr.lookup 75 (.map (some b)) (.int .i64 k) true).run Tryz.prog w = .ok (.tuple #[thVal (T k.toNat).1 (T k.toNat).2, .bool true]) w := by
  obtain ⟨-, D, ho, -, hD⟩ := h
  have hk : In64 k := by unfold In64; omega
  obtain ⟨v, ps, hrun, hv⟩ := ho.look_ok keyInt Tryz.underlying75 (zeroTh w) (thElem_mk none none) (keyOfInt k hk)
  obtain ⟨h3, h4⟩ := hD k hk
  rw [hrun, h3, decide_eq_true ⟨h1, h2⟩]
  rw [h4 ⟨h1, h2⟩] at hv
  rw [thElem_inv hv]
theorem done_ok (w : World) : Calls Tryz.prog 85 #[.int .i64 0] w fun e w' => e = .returned (.tuple #[.iface 133 (.agg #[]), .int .i64 0]) ∧ w = w' := by
  go_enter Tryz.func85, Tryz.ntmps85
  go_wp2_with fail
  go_ret2
  exact ⟨rfl, rfl⟩
theorem num_ok (n : Int) (w : World) : Calls Tryz.prog 93 #[.int .i64 n, .int .i64 0] w fun e w' => e = .returned (.tuple #[.iface 137 (.agg #[.int .i64 n]), .int .i64 0]) ∧ w = w' := by
  go_enter Tryz.func93, Tryz.ntmps93
  go_wp2_with fail
  go_ret2
  exact ⟨rfl, rfl⟩
theorem thstack (S : Nat) (w : World) : Calls Tryz.prog 90 #[.agg #[.pointer (some ⟨S, 0, none⟩), .pointer none]] w fun e w' => e = .returned (.pointer (some ⟨S, 0, none⟩)) ∧ Below w.heap.size w w' := by
  go_enter Tryz.func90, Tryz.ntmps90
  go_wp2_with fail
  go_ret
  exact ⟨rfl, (Below.refl _ w).alloc (Nat.le_refl _) _⟩
theorem thstackP (S : Nat) (w : World) : Calls Tryz.prog 90 #[.agg #[thPtr (some S), thPtr none]] w fun e w' => e = .returned (.pointer (some ⟨S, 0, none⟩)) ∧ Below w.heap.size w w' := thstack S w
theorem freshOf {B : Nat} {w w1 : World} {cs : Array Value} {t : TypeId} (h : Below B w (w1.alloc (.cells cs t))) : Blk (w1.alloc (.cells cs t)) w1.heap.size t cs := Blk.new w1 t cs
theorem freshDrew {B : Nat} {w w1 : World} {cs : Array Value} {t : TypeId} (h : Below B w (w1.alloc (.cells cs t)).drew) : Blk (w1.alloc (.cells cs t)).drew w1.heap.size t cs := Blk.new w1 t cs
theorem blkRowNew {w : World} {g : Nat} {t : TypeId} {cs cs' : Array Value} (h : Blk w g t cs) : Blk (w.setRow g cs') g t cs' := setRow_heap w g cs cs' t (0, 0) h
set_option maxRecDepth 100000 in
set_option maxHeartbeats 4000000 in
theorem aggadd (w : World) (A b n : Nat) (T : Nat → Option Nat × Option Nat) (h key d : Int) (S : Nat) (hA : AggIs w A b n T) (h1 : 1 ≤ h) (h2 : h ≤ (n : Int)) (hn : n ≤ 100) (hT : T h.toNat = (some S, none)) (U : World → World → Prop)
  (hU : ∀ w1, Below w.heap.size w w1 → Calls Tryz.prog 87 #[.pointer (some ⟨S, 0, none⟩), .int .u64 key, .int .i64 d] w1 fun e w' => e = .returned (.int .i64 0) ∧ U w1 w') :
  Calls Tryz.prog 49 #[.pointer (some ⟨A, 0, none⟩), .agg #[.int .i64 h, .bool false, .string ⟨#[]⟩, .int .u64 key, .int .i64 d]] w fun e w' => e = .returned (.tuple #[.iface 133 (.agg #[]), .int .i64 0]) ∧ ∃ w1, Below w.heap.size w w1 ∧ U w1 w' := by
 have HA := Lib.hid hA
 have HH := Lib.hid (And.intro h1 (And.intro h2 hn))
 have HT := Lib.hid hT
 have HU := Lib.hid hU
 have PD := Lib.hid done_ok
 have hb1 : Below w.heap.size w (w.alloc (.cells #[.int .i64 h, .bool false, .string ⟨#[]⟩, .int .u64 key, .int .i64 d] 117)) := (Below.refl _ w).alloc (Nat.le_refl _) _
 have HX1 := Lib.hid (Blk.new w 117 #[.int .i64 h, .bool false, .string ⟨#[]⟩, .int .u64 key, .int .i64 d])
 have HA1 := Lib.hid (hA.kept hb1)
 have HB1 := Lib.hid hb1
 clear hA h1 h2 hn hT hU hb1
 go_enter Tryz.func49, Tryz.ntmps49
 go_wp2_with fail
 generalize (w.alloc (.cells #[.int .i64 h, .bool false, .string ⟨#[]⟩, .int .u64 key, .int .i64 d] 117)) = w1 at *
 generalize hX : w.heap.size = X at *
 have HXX := Lib.hid hX
 clear hX
 have HXW : Hid (X ≤ w1.heap.size) := Lib.hid (Nat.le_of_lt HX1.out.lt)
 refine wp_region_held_drew (S := fun w' => Below w1.heap.size w1 w') (by kernel_rfl) (by exact below_drewN (Below.refl _ _) 1) (fun hHeld => ?_)
 refine tkH (i := 0) (v := ?_) rfl (by kernel_rfl) (fun _ _ _ h => h) (Or.inl ⟨by rfl, ?_⟩) (by assumption) ?_
 rotate_left
 ·intro w hSw
  try dsimp only at hSw
  go_simp
  try with_reducible rfl
 simp only [Act.put, z1, z2, z3, z4, z5, z6]
 refine tkH (i := 1) (v := ?_) rfl (by kernel_rfl) (fun _ _ _ h => h) (Or.inl ⟨by rfl, ?_⟩) (by assumption) ?_
 rotate_left
 ·intro w hSw
  try dsimp only at hSw
  go_simp
  try with_reducible rfl
 simp only [Act.put, z1, z2, z3, z4, z5, z6]
 refine tkH (i := 2) (v := ?_) rfl (by kernel_rfl) (fun _ _ _ h => h) (Or.inl ⟨by rfl, ?_⟩) (by assumption) ?_
 rotate_left
 ·intro w hSw
  try dsimp only at hSw
  go_simp
  try with_reducible rfl
 simp only [Act.put, z1, z2, z3, z4, z5, z6]
 refine tkH (i := 3) (v := ?_) rfl (by kernel_rfl) (fun _ _ _ h => h) (Or.inl ⟨by rfl, ?_⟩) (by assumption) ?_
 rotate_left
 ·intro w hSw
  have q0 := (HA1.out.kept hSw).1.cell 0
  have q1 := (HX1.out.kept hSw).cell 0
  have hlk := (HA1.out.kept hSw).look h HH.out.1 HH.out.2.1 HH.out.2.2
  rw [HT.out] at hlk
  simp at q0 q1
  go_simp
  try with_reducible rfl
 simp only [Act.put, z1, z2, z3, z4, z5, z6]
 refine tkH (i := 4) (v := ?_) rfl (by kernel_rfl) (fun _ _ _ h => h) (Or.inl ⟨by rfl, ?_⟩) (by assumption) ?_
 rotate_left
 ·intro w hSw
  try dsimp only at hSw
  go_simp
  try with_reducible rfl
 simp only [Act.put, z1, z2, z3, z4, z5, z6]
 refine tkH (i := 5) (v := ?_) rfl (by kernel_rfl) (fun _ _ _ h => h) (Or.inl ⟨by rfl, ?_⟩) (by assumption) ?_
 rotate_left
 ·intro w hSw
  have q0 := (HA1.out.kept hSw).1.cell 0
  have q1 := (HX1.out.kept hSw).cell 0
  have hlk := (HA1.out.kept hSw).look h HH.out.1 HH.out.2.1 HH.out.2.2
  rw [HT.out] at hlk
  simp at q0 q1
  go_simp
  try with_reducible rfl
 simp only [Act.put, z1, z2, z3, z4, z5, z6]
 refine tkH (i := 6) (v := ?_) rfl (by kernel_rfl) (fun _ _ _ h => h) (Or.inl ⟨by rfl, ?_⟩) (by assumption) ?_
 rotate_left
 ·intro w hSw
  have q0 := (HA1.out.kept hSw).1.cell 0
  have q1 := (HX1.out.kept hSw).cell 0
  have hlk := (HA1.out.kept hSw).look h HH.out.1 HH.out.2.1 HH.out.2.2
  rw [HT.out] at hlk
  simp at q0 q1
  go_simp
  try with_reducible rfl
 simp only [Act.put, z1, z2, z3, z4, z5, z6]
 refine tkH (i := 7) (v := ?_) rfl (by kernel_rfl) (fun _ _ _ h => h) (Or.inl ⟨by rfl, ?_⟩) (by assumption) ?_
 rotate_left
 ·intro w hSw
  try dsimp only at hSw
  go_simp
  try with_reducible rfl
 simp only [Act.put, z1, z2, z3, z4, z5, z6]
 refine tkH (i := 8) (v := ?_) rfl (by kernel_rfl) (fun _ _ _ h => h) (Or.inl ⟨by rfl, ?_⟩) (by assumption) ?_
 rotate_left
 ·intro w hSw
  try dsimp only at hSw
  go_simp
  try with_reducible rfl
 simp only [Act.put, z1, z2, z3, z4, z5, z6]
 refine tkH (i := 9) (v := ?_) rfl (by kernel_rfl) (fun _ _ _ h => h) (Or.inl ⟨by rfl, ?_⟩) (by assumption) ?_
 rotate_left
 ·intro w hSw
  try dsimp only at hSw
  go_simp
  try with_reducible rfl
 simp only [Act.put, z1, z2, z3, z4, z5, z6]
 refine wpAnyH_ready (rs := [10]) (by kernel_rfl) (by simp) ?_
 refine AllReadyH.cons rfl (fun Kc hKc => ?_) AllReadyH.nil
 go_simp
 have hPrev := Lib.hid hHeld.size
 refine hKc.out _ _ ?_ (fun hHeld => ?_)
 ·first | assumption | exact hHeld | exact hHeld.alloc hHeld.size _ | exact below_setRow hHeld hPrev.out _
 clear hKc Kc
 first | have HAQ := Lib.hid (freshOf hHeld) | have HAQ := Lib.hid (freshDrew hHeld)
 refine wpAnyH_ready (rs := [11]) (by kernel_rfl) (by simp) ?_
 refine AllReadyH.cons rfl (fun Kc hKc => ?_) AllReadyH.nil
 have HAR := Lib.hid (blkRowNew (cs' := #[thPtr (some S), thPtr none]) HAQ.out); refine wp_store_row 84 _ _ rfl _ #[thPtr (some S), thPtr none] rfl (by rfl) 84 _ HAQ.out (by kernel_rfl) rfl (by simp [Value.oneCell', thPtr]) ?_
 refine hKc.out _ _ ?_ (fun hHeld => ?_)
 ·first | assumption | exact hHeld | exact hHeld.alloc hHeld.size _ | exact below_setRow hHeld hPrev.out _
 clear hKc Kc
 refine tkH (i := 12) (v := ?_) rfl (by kernel_rfl) (fun _ _ _ h => h) (Or.inl ⟨by rfl, ?_⟩) (by assumption) ?_
 rotate_left
 ·intro w hSw
  try dsimp only at hSw
  go_simp
  try with_reducible rfl
 simp only [Act.put, z1, z2, z3, z4, z5, z6]
 refine wpAnyH_done (by kernel_rfl) ?_ _
 generalize ((w1.alloc (.cells #[.pointer none, .pointer none] 84)).drew.setRow w1.heap.size #[thPtr (some S), thPtr none]) = wz at *
 have hx := HX1.out.kept hHeld
 have t0 := HAR.out.cell 0
 have t1 := HAR.out.cell 1
 have x2 := hx.cell 3
 have x3 := hx.cell 4
 have x1 := hx.cell 1
 simp [thPtr] at t0 t1 x1 x2 x3
 have HB9 : Hid (Below X w wz) := Lib.hid (HB1.out.trans (hHeld.mono HXW.out))
 have HU9 := Lib.hid (HU.out _ HB9.out)
 clear hHeld hx HAR HAQ
 go_wp2_with fail
 with_reducible refine HU9.out.mono ?_
 rintro e w9 ⟨rfl, hu⟩
 have HUU := Lib.hid hu
 clear hu HU HU9 t0 t1 x1 x2 x3
 go_wp2_with fail
 with_reducible refine (PD.out _).mono ?_
 rintro e w10 ⟨rfl, hw⟩
 subst hw
 go_wp2_with fail
 go_ret2
 exact ⟨rfl, wz, by rw [HXX.out]; exact HB9.out, HUU.out⟩
end Go.Proofs.YtfeficdndjiijaaGreatDoor

