import Derived.Test.YtfeficdndjiijaaGreatDoorQzh
import Derived.Test.YtfeficdndjiijaaGreatDoorQzi
import Derived.Test.YtfeficdndjiijaaGreatDoorQzd
import Derived.Shelf.SlGeneric
import Derived.Shelf.SlLaysZI
import Derived.Shelf.SlLaysM
import Derived.Ground.GgzProg
import Derived.Ground.SlgmProg
import Derived.Test.YtfeficdndjiijaaGreatDoorProg
import Derived.Shelf.SlIterI.Nil
import Derived.Shelf.SortM.Plain
import Derived.Shelf.SortM.SortNone
import Derived.Test.YtfeficdndjiijaaGreatDoorQzf
import Derived.Deep.Cut
/-
  Contracts of the functions that TopWindow reaches, and the plain laws that it leans on. Conditions: none beyond those stated at each theorem.
-/
namespace Go.Proofs.YtfeficdndjiijaaGreatDoor
open Go.RowKit Go.Shelf
set_option linter.unusedVariables false
set_option linter.unusedSimpArgs false
attribute [local go_sem] Oper.semAt_some
theorem run_store_func {P : Program} {w : World} {a : Addr} {m : Mode} (fn : Fn) (f c : Array Value) : (store a (.func fn f c) m).run P w = stored P w a (.func fn f c) m := run_store P w a _ m rfl
attribute [local go_sem] run_store_func

section
variable {P : Program}
theorem wp_append_own_at {o : Oper} {a : Act} {w : World} {K : Act → World → Prop} {Q : Exit → Act → World → Prop} (s x : Operand) (t : TypeId)
  (ho : o.op = .call { callee := .builtin .append, args := #[s, x], argTypes := #[t, t] })
  (base : Nat) (e : TypeId) (i : TypeInfo) (z : Value) (size bytes : Nat) (ht : P.underlying t = some (.slice e)) (hi : P.info? e = some i) (hz : i.zero = some z)
  (hsize : i.size = size) (hby : i.bytes = bytes) (hzs : z.cells.size = size) (hsz : 0 < size)
  (v : Value) (n : Nat) (xs : List Value) (hs : a.eval s = v) (hown : w.ownsRow base e size v n xs)
  (ad : Addr) (m c : Nat) (news : List Value) (hx : a.eval x = .slice (some ad) m c) (hl : news.length = m * size) (hnews : ∀ j u, news[j]? = some u → w.cell? (ad.add j) = some u) (h1 : ∀ u ∈ news, u.oneCell' = true)
  (h63 : n + m ≤ maxLen) (hbytes : (n + m) * bytes ≤ 140737488355328) (hbase : base ≤ w.heap.size)
  (h : ∀ v' w', w'.ownsRow base e size v' (n + m) (xs ++ news) → w.grownBy w' v.ownBlock → (v' = .slice none 0 0 ↔ v = .slice none 0 0 ∧ m = 0) → (v'.ownBlock = v.ownBlock ∨ v'.ownBlock = some w.heap.size) → K (a.put o.dst v') w') :
  o.wp P a w K Q := by
 obtain ⟨v', w', hr, h2, h3, h4, h5⟩ := run_append_own_at (P := P) w base t o.type e i z size bytes ht hi hz hsize hby hzs hsz v n xs hown ad m c news hl hnews h1 h63 hbytes hbase
 unfold Oper.wp execOp
 simp only [ho, resolve, invoke, builtin, Sem.run_bind, Sem.run_pure, Result.andThen_ok, List.map_toArray, List.map_cons, List.map_nil, hs, hx, hr]
 exact h v' w' h2 h3 h4 h5
end
set_option maxRecDepth 100000 in
theorem spt1 (w : World) (base S L BS : Nat) (b r d m s : Int) (X : Nat → Value) (A G C : Nat → Nat) (Z : Nat → List Int) (h : StIs w base S L b r d m s X A G C Z) (s0 : 0 ≤ s) (s1 : s ≤ 18446744073709551615) (hB : Blk w BS 49 #[.pointer (some ⟨S, 0, none⟩)]) (n : Nat) (hn : n ≤ b.toNat) (k : Nat) (k1 : k < 18446744073709551616) (hk : (k : Int) < keysI b r d m (n : Int)) :
  Calls Tryz.prog 175 #[pcV (n, k), .pointer (some ⟨BS, 0, none⟩)] w fun e w' => e = .returned (.int .i64 (lvPt b r d m s (n : Int) (Z n) k)) ∧ Below w.heap.size w w' := by
 unfold pcV
 have hal : Below w.heap.size w (w.alloc (.cells #[.int .i64 (n : Int), .int .u64 (k : Int)] 155)) := (Below.refl _ _).alloc (Nat.le_refl _) _
 have HAL := Lib.hid hal
 have PP := Lib.hid (stpoint _ base S L b r d m s X A G C Z (h.kept hal) s0 s1 n hn k k1 hk)
 have c0 := (hB.kept hal).cell 0
 have hnb := Blk.new w 155 #[.int .i64 (n : Int), .int .u64 (k : Int)]
 have d0 := hnb.cell 0
 have d1 := hnb.cell 1
 simp at c0 d0 d1
 clear h hB hal hk hn hnb
 go_enter Tryz.func175, Tryz.ntmps175
 go_wp2_with fail
 with_reducible refine PP.out.mono ?_
 rintro e w2 ⟨rfl, hb2⟩
 have HB2 := Lib.hid (btr HAL.out hb2)
 clear hb2 c0 d0 d1 PP
 go_wp2
 go_ret
 exact ⟨rfl, HB2.out⟩

noncomputable def ptsL (b r d m s : Int) (Z : Nat → List Int) (l : List (Nat × Nat)) : List Int := l.map (fun p => lvPt b r d m s (p.1 : Int) (Z p.1) p.2)
def numsV (l : List Int) : List Value := l.map (fun x => .int .i64 x)
theorem ownBase {W : World} {base base' : Nat} {e : TypeId} {size : Nat} {v : Value} {k : Nat} {xs : List Value} (h : W.ownsRow base e size v k xs) (hb : base' ≤ base) : W.ownsRow base' e size v k xs := by
  refine ⟨h.1, ?_⟩
  rcases h.2 with hn | ⟨g, cap, cur, hv, hbg, rest⟩
  · exact .inl hn
  · exact .inr ⟨g, cap, cur, hv, Nat.le_trans hb hbg, rest⟩
structure SpI (w W : World) (base S L BS BP BO T : Nat) (b r d m s : Int) (X : Nat → Value) (A G C : Nat → Nat) (Z : Nat → List Int) (v : Value) (xs : List Int) : Prop where
  top : T ≤ W.heap.size
  st : StIs W base S L b r d m s X A G C Z
  bs : Blk W BS 49 #[.pointer (some ⟨S, 0, none⟩)]
  bp : Blk W BP 308 #[.func (.func 175) #[] #[.pointer (some ⟨BS, 0, none⟩)]]
  bo : Blk W BO 93 #[v]
  own : W.ownsRow T 2 1 v xs.length (numsV xs)
  bel : Below w.heap.size w W
  lo : w.heap.size ≤ BO ∧ BO < T ∧ BP < T ∧ BS < T ∧ w.heap.size ≤ T
  und : S < T ∧ L < T ∧ ∀ n, n ≤ b.toNat → A n < T ∧ G n < T ∧ C n < T
theorem SpI.kept {w W W' : World} {base S L BS BP BO T : Nat} {b r d m s : Int} {X : Nat → Value} {A G C : Nat → Nat} {Z : Nat → List Int} {v : Value} {xs : List Int} (h : SpI w W base S L BS BP BO T b r d m s X A G C Z v xs) (hb : Below W.heap.size W W') : SpI w W' base S L BS BP BO T b r d m s X A G C Z v xs :=
  ⟨Nat.le_trans h.top hb.size, h.st.kept hb, h.bs.kept hb, h.bp.kept hb, h.bo.kept hb, ownKeep h.own (below_gr (row := none) hb) (fun _ _ => by simp), btr h.bel hb, h.lo, h.und⟩
theorem SpI.walked {w W W' : World} {base S L BS BP BO T : Nat} {b r d m s : Int} {X : Nat → Value} {A G C : Nat → Nat} {Z : Nat → List Int} {v : Value} {xs : List Int} {row : Option Nat} (h : SpI w W base S L BS BP BO T b r d m s X A G C Z v xs) (hg : W.grownBy W' row) (hr : ∀ r, row = some r → w.heap.size ≤ r ∧ ∃ o : Obj, W.heap[r]? = some o ∧ o.isCells = false) : SpI w W' base S L BS BP BO T b r d m s X A G C Z v xs :=
  ⟨Nat.le_trans h.top hg.size, h.st.walked hg (fun r e => (hr r e).2), h.bs.walked hg (fun r e => (hr r e).2), h.bp.walked hg (fun r e => (hr r e).2), h.bo.walked hg (fun r e => (hr r e).2), ownKeep h.own hg (fun k hk e => by
    obtain ⟨cs, hc⟩ := ownBlk h.own k hk
    obtain ⟨-, o, ho, hn⟩ := hr k e
    exact hc.not_other ho hn rfl), h.bel.grown hg h.bel.size (fun k e => (hr k e).1), h.lo, h.und⟩
theorem SpI.round {w W Wc We : World} {base S L BS BP BO T : Nat} {b r d m s : Int} {X : Nat → Value} {A G C : Nat → Nat} {Z : Nat → List Int} {v v' : Value} {xs : List Int} (h : SpI w W base S L BS BP BO T b r d m s X A G C Z v xs) (hb : Below W.heap.size W Wc) (x : Int)
    (hown : We.ownsRow T 2 1 v' (xs.length + 1) (numsV xs ++ [.int .i64 x])) (hg : Wc.grownBy We v.ownBlock) (l : List Nat) (hl : ∀ i ∈ l, i < T ∧ i ≠ BO) :
    KeepsOthers W (We.setCell ⟨BO, 0, none⟩ v') ∧ KpB l W (We.setCell ⟨BO, 0, none⟩ v') ∧ SpI w (We.setCell ⟨BO, 0, none⟩ v') base S L BS BP BO T b r d m s X A G C Z v' (xs ++ [x]) := by
  have hc := h.kept hb
  have hvT : ∀ k, v.ownBlock = some k → T ≤ k := fun k e => (hc.own.lt k e).1
  have hne : ∀ i, i < T → some i ≠ v.ownBlock := fun i hi e => by have := hvT i e.symm; omega
  have hgs : We.grownBy (We.setCell ⟨BO, 0, none⟩ v') (some BO) := gr_setC (World.grownBy.refl _ _) 0 _
  have hbo := hc.bo.grown hg (hne BO h.lo.2.1)
  have hk1 : KeepsOthers W Wc := kept_others (below_gr (row := none) hb) (fun g e => by cases e)
  have hk2 : KeepsOthers Wc We := kept_others hg (fun g e => by
    obtain ⟨cs, q⟩ := ownBlk hc.own g e
    exact ⟨_, _, q⟩)
  have hk3 : KeepsOthers We (We.setCell ⟨BO, 0, none⟩ v') := kept_others hgs (fun g e => ⟨_, _, by cases e; exact hbo⟩)
  have hTc : T ≤ Wc.heap.size := hc.top
  have hblk : ∀ i, i < T → We.heap[i]? = Wc.heap[i]? := fun i hi => hg.block i (by omega) (hne i hi)
  have hst : StIs We base S L b r d m s X A G C Z := hc.st.frame (hblk _ h.und.1) (hblk _ h.und.2.1) (fun n hn => ⟨hblk _ (h.und.2.2 n hn).1, hblk _ (h.und.2.2 n hn).2.1, hblk _ (h.und.2.2 n hn).2.2⟩)
  refine ⟨(hk1.trans hk2).trans hk3, KpB.trans (KpB.trans (KpB.of_below hb (fun i hi => by have := (hl i hi).1; have := h.top; omega)) (KpB.of_grown hg (fun i hi => ⟨by have := (hl i hi).1; omega, hne i (hl i hi).1⟩))) (KpB.of_grown hgs (fun i hi => ⟨by have := (hl i hi).1; have := hg.size; omega, by simpa using (hl i hi).2⟩)), ?_⟩
  exact { top := by have := hg.size; simp; omega
          st := hst.far hbo (by decide) (by decide) hgs
          bs := (hc.bs.grown hg (hne BS h.lo.2.2.2.1)).grown hgs (by simpa using (hc.bs.ne_ hc.bo (by decide)))
          bp := (hc.bp.grown hg (hne BP h.lo.2.2.1)).grown hgs (by simpa using (hc.bp.ne_ hc.bo (by decide)))
          bo := by simpa using hbo.set_ 0 v'
          own := by
            have e1 : numsV (xs ++ [x]) = numsV xs ++ [.int .i64 x] := by simp [numsV]
            rw [e1, List.length_append]
            refine ownKeep hown hgs (fun k hk e => ?_)
            have e := Option.some.inj e
            obtain ⟨cs, hq⟩ := ownBlk hown k hk
            rw [← e] at hq
            exact absurd rfl (hbo.ne_ hq (by decide))
          bel := (hc.bel.grown hg hc.bel.size (fun k e => by have := hvT k e; have := h.lo; omega)).setCell h.lo.1 _
          lo := h.lo
          und := h.und }
set_option maxRecDepth 100000 in
set_option maxHeartbeats 16000000 in
theorem parts_any (w : World) (base S L : Nat) (b r d m s : Int) (X : Nat → Value) (A G C : Nat → Nat) (Z : Nat → List Int) (h : StIs w base S L b r d m s X A G C Z) (s0 : 0 ≤ s) (s1 : s ≤ 18446744073709551615) (nb l0 h0 : Nat) (hbn : b = (nb : Int)) (hb1 : 1 ≤ nb) (hb : nb ≤ 59) (hlh : l0 ≤ h0) (hhi : h0 < 2 ^ nb) (hne : covR (nb + 1) 0 l0 h0 ≠ [])
  (hks : ∀ p ∈ covO (nb + 1) 0 l0 h0 ++ (covR (nb + 1) 0 l0 h0).reverse, p.1 ≤ nb ∧ p.2 < 18446744073709551616 ∧ (p.2 : Int) < keysI b r d m (p.1 : Int)) :
  Calls Tryz.prog 135 #[.pointer (some ⟨S, 0, none⟩), .int .u64 (l0 : Int), .int .u64 (h0 : Int)] w fun e w' => ∃ v, e = .returned (.tuple #[v, .int .i64 0]) ∧ w'.ownsRow w.heap.size 2 1 v (covO (nb + 1) 0 l0 h0 ++ (covR (nb + 1) 0 l0 h0).reverse).length (numsV (ptsL b r d m s Z (covO (nb + 1) 0 l0 h0 ++ (covR (nb + 1) 0 l0 h0).reverse))) ∧ Below w.heap.size w w' := by
 obtain ⟨iI, hi, hz0, hz1, hz2⟩ := info_parts (show (Tryz.prog.info? 2).map (fun i => (i.zero, i.size, i.bytes)) = some (some (.int .i64 0), 1, 8) by kernel_rfl)
 obtain ⟨PL, hPL⟩ : ∃ PL, PL = covO (nb + 1) 0 l0 h0 ++ (covR (nb + 1) 0 l0 h0).reverse := ⟨_, rfl⟩
 have PC := Lib.hid (fun w => cover_any nb l0 h0 hb1 hb hlh hhi hne w)
 have HPL := Lib.hid hPL
 rw [← hPL] at hks ⊢
 have HKS := Lib.hid hks
 have HPN : Hid (0 < PL.length) := Lib.hid (by rw [hPL]; have := List.length_pos_iff.2 hne; simp; omega)
 have HLEN : Hid (PL.length ≤ 180) := Lib.hid (by rw [hPL]; have := cov_len (nb + 1) 0 l0 h0; simp; omega)
 have PF := Lib.hid (fun w base S L b r d m s X A G C Z h => stconfig w base S L b r d m s X A G C Z h)
 have e3 : ¬ ((l0 : Int) > (h0 : Int)) := by omega
 have hal : Below w.heap.size w (w.alloc (.cells #[.pointer (some ⟨S, 0, none⟩)] 49)) := (Below.refl _ _).alloc (Nat.le_refl _) _
 have HS := Lib.hid (h.kept hal)
 have HB := Lib.hid hal
 have HBS := Lib.hid (Blk.new w 49 #[.pointer (some ⟨S, 0, none⟩)])
 have c0 := HBS.out.cell 0
 simp at c0
 clear h hks hal hPL hhi hne
 subst hbn
 refine (callsIn_wide (n := 6)).1 ?_
 refine callsIn_of_wp_marks Tryz.func135 rfl trivial ?_ rfl
 simp only [Tryz.ntmps135, List.size_toArray, List.length_cons, List.length_nil, Nat.reduceAdd, Nat.reduceSub, Array.replicate_succ, Array.replicate_zero, List.push_toArray, List.append_toArray, List.nil_append, List.cons_append]
 gi_wp2_with fail
 generalize (w.alloc (.cells #[.pointer (some ⟨S, 0, none⟩)] 49)) = w1 at *
 refine ⟨trivial, ?_⟩
 with_reducible refine (callsIn_wide.2 (PF.out _ _ _ _ _ _ _ _ _ _ _ _ _ _ HS.out)).mono ?_
 rintro e w2 ⟨rfl, hb2⟩
 have HS2 := Lib.hid (HS.out.kept hb2)
 have HB2 := Lib.hid (btr HB.out hb2)
 have HBS2 := Lib.hid (HBS.out.kept hb2)
 clear hb2 HS HB HBS PF
 have hfd : ∀ w : World, (Instr.field 24 (.agg #[.int .i64 (nb : Int), .int .i64 r, .int .i64 d, .int .i64 m, .int .u64 s]) 0).run Tryz.prog w = .ok (.int .i64 (nb : Int)) w := fun _ => by kernel_rfl
 gi_wp2_with fail
 refine ⟨trivial, ?_⟩
 with_reducible refine (callsIn_wide.2 (PC.out _)).mono ?_
 rintro e w3 ⟨v3, rfl, hown3, hb3⟩
 rw [← HPL.out] at hown3
 have HS3 := Lib.hid (HS2.out.kept hb3)
 have HB3 := Lib.hid (btr HB2.out hb3)
 have HBS3 := Lib.hid (HBS2.out.kept hb3)
 obtain ⟨ao, cap, hv⟩ := own_form hown3
 subst hv
 have HO3 := Lib.hid hown3
 clear hown3 hb3 HS2 HB2 HBS2 PC
 have hmf : ∀ (fn : Fn) (first cap : Array Value) (w : World), (Instr.makeFunc fn first cap).run Tryz.prog w = .ok (.func fn first cap) w := fun _ _ _ _ => rfl
 gi_wp2_with fail
 obtain ⟨ga, gb, gc, gd⟩ := news2 w3 (.cells #[.func (.func 175) #[] #[.pointer (some ⟨w.heap.size, 0, none⟩)]] 308) (.cells #[.slice none 0 0] 93)
 have HGA := Lib.hid ga
 have HGB := Lib.hid gb
 have HGC := Lib.hid gc
 have HGD := Lib.hid gd
 generalize ((w3.alloc (.cells #[.func (.func 175) #[] #[.pointer (some ⟨w.heap.size, 0, none⟩)]] 308)).alloc (.cells #[.slice none 0 0] 93)) = w5 at *
 clear ga gb gc gd hmf hfd
 refine ⟨trivial, ?_⟩
 with_reducible refine (callsIn_wide.2 (slvals ao PL.length cap w5)).mono ?_
 rintro e w6 ⟨rfl, hw6⟩
 obtain ⟨gv, hb6, hs6⟩ := news1 w5 (.cells #[.slice ao PL.length cap] 256)
 rw [← hw6] at gv hb6 hs6
 have HGV : Hid (Blk w6 w5.heap.size 256 #[.slice ao PL.length cap]) := Lib.hid gv
 have HPG : Hid (∃ g, ao = some ⟨g, 0, none⟩ ∧ PcAt w6 g PL ∧ g < w3.heap.size) := Lib.hid (by
  have ho := HO3.out
  rcases ho.2 with ⟨e, h0⟩ | ⟨g, cap', cur, e, hb, hgb, -⟩
  ·exact absurd h0 (by have := HPN.out; omega)
  ·simp only [Value.slice.injEq] at e
   obtain ⟨rfl, -, -⟩ := e
   exact ⟨g, rfl, ((pcAt_of_own ho).kept HGC.out).kept hb6, (pcAt_of_own ho).lt⟩)
 have hu := HS3.out.under
 have HT : Hid (w6.heap.size = w5.heap.size + 1 ∧ w5.heap.size = w3.heap.size + 2 ∧ w.heap.size < w3.heap.size) := Lib.hid ⟨hs6, HGD.out, HBS3.out.lt⟩
 have HI0 : Hid (SpI w w6 base S L w.heap.size w3.heap.size (w3.heap.size + 1) w6.heap.size (nb : Int) r d m s X A G C Z (.slice none 0 0) (ptsL (nb : Int) r d m s Z [])) := Lib.hid {
  top := Nat.le_refl _
  st := (HS3.out.kept HGC.out).kept hb6
  bs := (HBS3.out.kept HGC.out).kept hb6
  bp := (show Blk w5 w3.heap.size 308 #[.func (.func 175) #[] #[.pointer (some ⟨w.heap.size, 0, none⟩)]] from HGA.out).kept hb6
  bo := (show Blk w5 (w3.heap.size + 1) 93 #[.slice none 0 0] from HGB.out).kept hb6
  own := World.ownsRow_nil _ _ _ _
  bel := btr (btr HB3.out HGC.out) hb6
  lo := by have := HT.out; omega
  und := by have := HT.out; exact ⟨by omega, by omega, fun n hn => by have := hu.2.2 n hn; omega⟩ }
 obtain ⟨g, hao, hpg, hgl⟩ := HPG.out
 subst hao
 have HPGG := Lib.hid hpg
 have HGL := Lib.hid hgl
 clear hw6 gv hb6 hs6 hu hpg hgl HPG HO3 HGA HGB HGC HGD HS3 HBS3 HB3
 gi_wp2_with fail
 refine wpIn_rangeFunc_ownH rfl (by omega) (gf := 213) (lb := #[.pointer (some ⟨w5.heap.size, 0, none⟩)]) rfl trivial (enters_of Tryz.func213 (by kernel_rfl) rfl)
  (slv_stops (6 - 1) (by omega) w5.heap.size g cap (fun y : { p : Nat × Nat // p ∈ PL } => y.1) PL.attach (by rw [List.length_attach]; have := HLEN.out; omega) w6 (by rw [List.length_attach]; exact HGV.out) (by rw [List.attach_map_subtype_val]; exact HPGG.out)) KpB.trans (KpB.put (by
   have h1 := HT.out; have h2 := HGL.out
   intro i hi
   simp at hi
   omega)) (Below.refl _ _) (fun _ => rfl)
  (fun (pre : List { p : Nat × Nat // p ∈ PL }) W => ∃ v, SpI w W base S L w.heap.size w3.heap.size (w3.heap.size + 1) w6.heap.size (nb : Int) r d m s X A G C Z v (ptsL (nb : Int) r d m s Z (pre.map (·.1))))
  (fun _ _ _ => False)
  (fun pre W W' row hs hg hr => by
   obtain ⟨v, hs⟩ := hs
   exact ⟨v, hs.walked hg (fun r e => ⟨by have h1 := (hr r e).1; have h2 := HI0.out.lo; omega, (hr r e).2⟩)⟩)
  (fun _ _ _ _ _ hs _ _ => hs)
  ⟨_, HI0.out⟩
  (fun y a' W => ∃ BV, a' = { tmps := #[.pointer (some ⟨S, 0, none⟩), .int .u64 (l0 : Int), .int .u64 (h0 : Int), .pointer (some ⟨w.heap.size, 0, none⟩), undef, undef, .slice none 0 0, .int .i64 0, .slice (some ⟨g, 0, none⟩) PL.length cap, .bool true, .pointer (some ⟨w3.heap.size, 0, none⟩), .pointer (some ⟨w3.heap.size + 1, 0, none⟩), .pointer (some ⟨BV, 0, none⟩), .int .u64 (l0 : Int), .int .u64 (h0 : Int), .bool false, .tuple #[.slice (some ⟨g, 0, none⟩) PL.length cap, .bool true], .pointer (some ⟨S, 0, none⟩), .agg #[.int .i64 (nb : Int), .int .i64 r, .int .i64 d, .int .i64 m, .int .u64 s], .int .i64 (nb : Int), .int .u64 (l0 : Int), .int .u64 (h0 : Int), .tuple #[.slice (some ⟨g, 0, none⟩) PL.length cap, .bool true], .slice (some ⟨g, 0, none⟩) PL.length cap, .bool true, .bool true, .bool false, .func (.func 175) #[] #[.pointer (some ⟨w.heap.size, 0, none⟩)], .slice (some ⟨g, 0, none⟩) PL.length cap, .func (.func 213) #[] #[.pointer (some ⟨w5.heap.size, 0, none⟩)], .agg #[.int .i64 (y.1.1 : Int), .int .u64 (y.1.2 : Int)], undef, undef, undef, undef, undef, undef, undef], defers := [] } ∧ Blk W BV 155 #[.int .i64 (y.1.1 : Int), .int .u64 (y.1.2 : Int)])
  (fun y a' _ W W' row hs hg hr => by
   obtain ⟨BV, e, hb⟩ := hs
   exact ⟨BV, e, hb.walked hg (fun r e => (hr r e).2)⟩) ?assign ?body ?done ?stop
 case assign =>
  intro l pre y W K hI hK
  unfold pcV
  gi_wp2
  obtain ⟨v, hs⟩ := hI
  have hal : Below W.heap.size W (W.alloc (.cells #[.int .i64 (y.1.1 : Int), .int .u64 (y.1.2 : Int)] 155)) := (Below.refl _ _).alloc (Nat.le_refl _) _
  exact hK _ _ ((kept_others (below_gr (row := none) hal) (fun g e => by cases e)).from _) (KpB.of_below hal (fun i hi => by have := hs.top; have := HT.out; have := HGL.out; simp at hi; omega)) ⟨v, hs.kept hal⟩ ⟨_, rfl, Blk.new W _ _⟩
 case body =>
  intro l pre y a' W hl hlp hI hA hlen
  obtain ⟨v, hs⟩ := hI
  obtain ⟨BV, rfl, hbv⟩ := hA
  refine wpIn_mono ?_ ownPostG_of_ownPostK
  obtain ⟨⟨n, k⟩, hy⟩ := y
  dsimp only at hbv ⊢
  have hyk := HKS.out _ hy
  obtain ⟨x, hx⟩ : ∃ x, x = lvPt (nb : Int) r d m s (n : Int) (Z n) k := ⟨_, rfl⟩
  obtain ⟨xs, hxs⟩ : ∃ xs, xs = ptsL (nb : Int) r d m s Z (pre.map (·.1)) := ⟨_, rfl⟩
  have HNX : Hid (ptsL (nb : Int) r d m s Z ((pre ++ [(⟨(n, k), hy⟩ : { p : Nat × Nat // p ∈ PL })]).map (fun q => q.1)) = xs ++ [x]) := Lib.hid (by rw [List.map_append, ptsL, List.map_append, hxs, hx]; rfl)
  have HXL : Hid (xs.length ≤ 180) := Lib.hid (by
   have h1 := HLEN.out
   rw [List.length_attach] at hlen
   rw [hxs, ptsL, List.length_map, List.length_map]
   omega)
  rw [← hxs] at hs
  obtain ⟨vo, vc, hv⟩ := own_form hs.own
  subst hv
  have hs1 := hs.kept (below_drewN (Below.refl _ _) 1)
  have hbv1 := hbv.kept (below_drewN (Below.refl _ _) 1)
  have PCk := spt1 W.drew base S L w.heap.size (nb : Int) r d m s X A G C Z hs1.st s0 s1 hs1.bs n (by simpa using hyk.1) k hyk.2.1 hyk.2.2
  rw [← hx] at PCk
  unfold pcV at PCk
  have PCk := Lib.hid PCk
  have HI1 : Hid (SpI w W.drew base S L w.heap.size w3.heap.size (w3.heap.size + 1) w6.heap.size (nb : Int) r d m s X A G C Z (.slice vo xs.length vc) xs) := Lib.hid hs1
  have HBV1 : Hid (Blk W.drew BV 155 #[.int .i64 (n : Int), .int .u64 (k : Int)]) := Lib.hid hbv1
  have HBW : Hid (Below W.heap.size W W.drew) := Lib.hid (below_drewN (Below.refl _ _) 1)
  have hmx : xs.length + 1 ≤ maxLen := by have := HXL.out; unfold maxLen; omega
  have hby : (xs.length + 1) * 8 ≤ 140737488355328 := by have := HXL.out; omega
  have HEND : Hid (∀ (wc we : World) (v' : Value), Below W.heap.size W wc → (wc.alloc (.cells #[.int .i64 x] 2)).grownBy we (Value.slice vo xs.length vc).ownBlock → we.ownsRow w6.heap.size 2 1 v' (xs.length + 1) (numsV xs ++ [.int .i64 x]) → KeepsOthers W (we.setCell ⟨w3.heap.size + 1, 0, none⟩ v') ∧ KpB [w5.heap.size, g] W (we.setCell ⟨w3.heap.size + 1, 0, none⟩ v') ∧ SpI w (we.setCell ⟨w3.heap.size + 1, 0, none⟩ v') base S L w.heap.size w3.heap.size (w3.heap.size + 1) w6.heap.size (nb : Int) r d m s X A G C Z v' (xs ++ [x])) := Lib.hid (fun wc we v' hb hg ho =>
   hs.round (btr hb ((Below.refl _ _).alloc (Nat.le_refl _) _)) x ho hg [w5.heap.size, g] (fun i hi => by have := HT.out; have := HGL.out; simp at hi; omega))
  clear hs hbv hs1 hbv1 hx hyk hxs hlen hlp hl
  gi_wp2_with fail
  refine wpIn_round_any (by kernel_rfl) (by kernel_rfl) (by rintro ⟨_, _, h⟩; exact h) ?_; generalize W.drew = Wd at *; have q0 := HI1.out.bo.cell 0; have q1 := HI1.out.bp.cell 0; have q2 := HBV1.out.cell 0; have q3 := HBV1.out.cell 1; simp at q0 q1 q2 q3
  refine wpAny_ready (rs := [0, 1, 2]) (by kernel_rfl) (by simp) ?_
  refine AllReady.cons rfl (fun Kc hKc => ?_) (AllReady.cons rfl (fun Kc hKc => ?_) (AllReady.cons rfl (fun Kc hKc => ?_) AllReady.nil))
  ·have HKc := Lib.hid hKc
   clear hKc
   go_simp
   refine HKc.out _ _ ?_
   clear HKc Kc
   refine wpAny_ready (rs := [1, 2]) (by kernel_rfl) (by simp) ?_
   refine AllReady.cons rfl (fun Kc hKc => ?_) (AllReady.cons rfl (fun Kc hKc => ?_) AllReady.nil)
   ·have HKc := Lib.hid hKc
    clear hKc
    go_simp
    refine HKc.out _ _ ?_
    clear HKc Kc
    refine wpAny_ready (rs := [2]) (by kernel_rfl) (by simp) ?_
    refine AllReady.cons rfl (fun Kc hKc => ?_) AllReady.nil
    have HKc := Lib.hid hKc
    clear hKc
    go_simp
    refine HKc.out _ _ ?_
    clear HKc Kc
    refine wpAny_ready (rs := [3]) (by kernel_rfl) (by simp) ?_
    refine AllReady.cons rfl (fun Kc hKc => ?_) AllReady.nil
    have HKc := Lib.hid hKc
    clear hKc
    go_simp
    go_wp2_with (with_reducible refine PCk.out.mono ?_; rintro e wc ⟨rfl, hbc⟩; have HIc := Lib.hid (HI1.out.kept hbc); have HBc := Lib.hid (btr HBW.out hbc); have HIa := Lib.hid (HIc.out.kept (below_alloc1 wc (.cells #[.int .i64 x] 2))); have q0 := HIc.out.bo.cell 0; have q4 := HIa.out.bo.cell 0; simp at q0 q4; clear hbc)
    refine HKc.out _ _ ?_
    clear HKc Kc
    refine wpAny_ready (rs := [4]) (by kernel_rfl) (by simp) ?_
    refine AllReady.cons rfl (fun Kc hKc => ?_) AllReady.nil
    have HKc := Lib.hid hKc
    clear hKc
    go_simp
    refine HKc.out _ _ ?_
    clear HKc Kc
    refine wpAny_ready (rs := [5]) (by kernel_rfl) (by simp) ?_
    refine AllReady.cons rfl (fun Kc hKc => ?_) AllReady.nil
    have HKc := Lib.hid hKc
    clear hKc
    refine wp_append_own_at _ _ 93 rfl w6.heap.size 2 iI (.int .i64 0) 1 8 Tryz.underlying93 hi hz0 hz1 hz2 rfl (by decide) _ xs.length _ rfl HIa.out.own ⟨wc.heap.size, 0, none⟩ 1 1 [.int .i64 x] rfl rfl (cell_one_new _ _ _) (by simp [Value.oneCell']) hmx hby HIa.out.top ?_; intro v' we hown hgrow hnil hq9; have hboe := HIa.out.bo.grown hgrow (fun e => by have := (HIa.out.own.lt _ e.symm).1; have := HIa.out.lo.2.1; omega); have q5 := hboe.cell 0; have q6 := hboe.frozen 0; simp at q5; have HR := Lib.hid (HEND.out wc we v' HBc.out hgrow hown); obtain ⟨vo', vc', hv'⟩ := own_form hown; subst hv'; clear hown hgrow hnil hq9 hboe
    refine HKc.out _ _ ?_
    clear HKc Kc
    refine wpAny_ready (rs := [6]) (by kernel_rfl) (by simp) ?_
    refine AllReady.cons rfl (fun Kc hKc => ?_) AllReady.nil
    have HKc := Lib.hid hKc
    clear hKc
    go_simp
    refine HKc.out _ _ ?_
    clear HKc Kc
    refine wpAny_done (by kernel_rfl) ?_ _
    gi_wp2_with fail
    refine ⟨HR.out.1, HR.out.2.1, .slice vo' (xs.length + 1) vc', ?_⟩
    rw [HNX.out]
    exact HR.out.2.2
   ·have HKc := Lib.hid hKc
    clear hKc
    go_simp
    refine HKc.out _ _ ?_
    clear HKc Kc
    refine wpAny_ready (rs := [1]) (by kernel_rfl) (by simp) ?_
    refine AllReady.cons rfl (fun Kc hKc => ?_) AllReady.nil
    have HKc := Lib.hid hKc
    clear hKc
    go_simp
    refine HKc.out _ _ ?_
    clear HKc Kc
    refine wpAny_ready (rs := [3]) (by kernel_rfl) (by simp) ?_
    refine AllReady.cons rfl (fun Kc hKc => ?_) AllReady.nil
    have HKc := Lib.hid hKc
    clear hKc
    go_simp
    go_wp2_with (with_reducible refine PCk.out.mono ?_; rintro e wc ⟨rfl, hbc⟩; have HIc := Lib.hid (HI1.out.kept hbc); have HBc := Lib.hid (btr HBW.out hbc); have HIa := Lib.hid (HIc.out.kept (below_alloc1 wc (.cells #[.int .i64 x] 2))); have q0 := HIc.out.bo.cell 0; have q4 := HIa.out.bo.cell 0; simp at q0 q4; clear hbc)
    refine HKc.out _ _ ?_
    clear HKc Kc
    refine wpAny_ready (rs := [4]) (by kernel_rfl) (by simp) ?_
    refine AllReady.cons rfl (fun Kc hKc => ?_) AllReady.nil
    have HKc := Lib.hid hKc
    clear hKc
    go_simp
    refine HKc.out _ _ ?_
    clear HKc Kc
    refine wpAny_ready (rs := [5]) (by kernel_rfl) (by simp) ?_
    refine AllReady.cons rfl (fun Kc hKc => ?_) AllReady.nil
    have HKc := Lib.hid hKc
    clear hKc
    refine wp_append_own_at _ _ 93 rfl w6.heap.size 2 iI (.int .i64 0) 1 8 Tryz.underlying93 hi hz0 hz1 hz2 rfl (by decide) _ xs.length _ rfl HIa.out.own ⟨wc.heap.size, 0, none⟩ 1 1 [.int .i64 x] rfl rfl (cell_one_new _ _ _) (by simp [Value.oneCell']) hmx hby HIa.out.top ?_; intro v' we hown hgrow hnil hq9; have hboe := HIa.out.bo.grown hgrow (fun e => by have := (HIa.out.own.lt _ e.symm).1; have := HIa.out.lo.2.1; omega); have q5 := hboe.cell 0; have q6 := hboe.frozen 0; simp at q5; have HR := Lib.hid (HEND.out wc we v' HBc.out hgrow hown); obtain ⟨vo', vc', hv'⟩ := own_form hown; subst hv'; clear hown hgrow hnil hq9 hboe
    refine HKc.out _ _ ?_
    clear HKc Kc
    refine wpAny_ready (rs := [6]) (by kernel_rfl) (by simp) ?_
    refine AllReady.cons rfl (fun Kc hKc => ?_) AllReady.nil
    have HKc := Lib.hid hKc
    clear hKc
    go_simp
    refine HKc.out _ _ ?_
    clear HKc Kc
    refine wpAny_done (by kernel_rfl) ?_ _
    gi_wp2_with fail
    refine ⟨HR.out.1, HR.out.2.1, .slice vo' (xs.length + 1) vc', ?_⟩
    rw [HNX.out]
    exact HR.out.2.2
  ·have HKc := Lib.hid hKc
   clear hKc
   go_simp
   refine HKc.out _ _ ?_
   clear HKc Kc
   refine wpAny_ready (rs := [0, 2]) (by kernel_rfl) (by simp) ?_
   refine AllReady.cons rfl (fun Kc hKc => ?_) (AllReady.cons rfl (fun Kc hKc => ?_) AllReady.nil)
   ·have HKc := Lib.hid hKc
    clear hKc
    go_simp
    refine HKc.out _ _ ?_
    clear HKc Kc
    refine wpAny_ready (rs := [2]) (by kernel_rfl) (by simp) ?_
    refine AllReady.cons rfl (fun Kc hKc => ?_) AllReady.nil
    have HKc := Lib.hid hKc
    clear hKc
    go_simp
    refine HKc.out _ _ ?_
    clear HKc Kc
    refine wpAny_ready (rs := [3]) (by kernel_rfl) (by simp) ?_
    refine AllReady.cons rfl (fun Kc hKc => ?_) AllReady.nil
    have HKc := Lib.hid hKc
    clear hKc
    go_simp
    go_wp2_with (with_reducible refine PCk.out.mono ?_; rintro e wc ⟨rfl, hbc⟩; have HIc := Lib.hid (HI1.out.kept hbc); have HBc := Lib.hid (btr HBW.out hbc); have HIa := Lib.hid (HIc.out.kept (below_alloc1 wc (.cells #[.int .i64 x] 2))); have q0 := HIc.out.bo.cell 0; have q4 := HIa.out.bo.cell 0; simp at q0 q4; clear hbc)
    refine HKc.out _ _ ?_
    clear HKc Kc
    refine wpAny_ready (rs := [4]) (by kernel_rfl) (by simp) ?_
    refine AllReady.cons rfl (fun Kc hKc => ?_) AllReady.nil
    have HKc := Lib.hid hKc
    clear hKc
    go_simp
    refine HKc.out _ _ ?_
    clear HKc Kc
    refine wpAny_ready (rs := [5]) (by kernel_rfl) (by simp) ?_
    refine AllReady.cons rfl (fun Kc hKc => ?_) AllReady.nil
    have HKc := Lib.hid hKc
    clear hKc
    refine wp_append_own_at _ _ 93 rfl w6.heap.size 2 iI (.int .i64 0) 1 8 Tryz.underlying93 hi hz0 hz1 hz2 rfl (by decide) _ xs.length _ rfl HIa.out.own ⟨wc.heap.size, 0, none⟩ 1 1 [.int .i64 x] rfl rfl (cell_one_new _ _ _) (by simp [Value.oneCell']) hmx hby HIa.out.top ?_; intro v' we hown hgrow hnil hq9; have hboe := HIa.out.bo.grown hgrow (fun e => by have := (HIa.out.own.lt _ e.symm).1; have := HIa.out.lo.2.1; omega); have q5 := hboe.cell 0; have q6 := hboe.frozen 0; simp at q5; have HR := Lib.hid (HEND.out wc we v' HBc.out hgrow hown); obtain ⟨vo', vc', hv'⟩ := own_form hown; subst hv'; clear hown hgrow hnil hq9 hboe
    refine HKc.out _ _ ?_
    clear HKc Kc
    refine wpAny_ready (rs := [6]) (by kernel_rfl) (by simp) ?_
    refine AllReady.cons rfl (fun Kc hKc => ?_) AllReady.nil
    have HKc := Lib.hid hKc
    clear hKc
    go_simp
    refine HKc.out _ _ ?_
    clear HKc Kc
    refine wpAny_done (by kernel_rfl) ?_ _
    gi_wp2_with fail
    refine ⟨HR.out.1, HR.out.2.1, .slice vo' (xs.length + 1) vc', ?_⟩
    rw [HNX.out]
    exact HR.out.2.2
   ·have HKc := Lib.hid hKc
    clear hKc
    go_simp
    refine HKc.out _ _ ?_
    clear HKc Kc
    refine wpAny_ready (rs := [0, 3]) (by kernel_rfl) (by simp) ?_
    refine AllReady.cons rfl (fun Kc hKc => ?_) (AllReady.cons rfl (fun Kc hKc => ?_) AllReady.nil)
    ·have HKc := Lib.hid hKc
     clear hKc
     go_simp
     refine HKc.out _ _ ?_
     clear HKc Kc
     refine wpAny_ready (rs := [3]) (by kernel_rfl) (by simp) ?_
     refine AllReady.cons rfl (fun Kc hKc => ?_) AllReady.nil
     have HKc := Lib.hid hKc
     clear hKc
     go_simp
     go_wp2_with (with_reducible refine PCk.out.mono ?_; rintro e wc ⟨rfl, hbc⟩; have HIc := Lib.hid (HI1.out.kept hbc); have HBc := Lib.hid (btr HBW.out hbc); have HIa := Lib.hid (HIc.out.kept (below_alloc1 wc (.cells #[.int .i64 x] 2))); have q0 := HIc.out.bo.cell 0; have q4 := HIa.out.bo.cell 0; simp at q0 q4; clear hbc)
     refine HKc.out _ _ ?_
     clear HKc Kc
     refine wpAny_ready (rs := [4]) (by kernel_rfl) (by simp) ?_
     refine AllReady.cons rfl (fun Kc hKc => ?_) AllReady.nil
     have HKc := Lib.hid hKc
     clear hKc
     go_simp
     refine HKc.out _ _ ?_
     clear HKc Kc
     refine wpAny_ready (rs := [5]) (by kernel_rfl) (by simp) ?_
     refine AllReady.cons rfl (fun Kc hKc => ?_) AllReady.nil
     have HKc := Lib.hid hKc
     clear hKc
     refine wp_append_own_at _ _ 93 rfl w6.heap.size 2 iI (.int .i64 0) 1 8 Tryz.underlying93 hi hz0 hz1 hz2 rfl (by decide) _ xs.length _ rfl HIa.out.own ⟨wc.heap.size, 0, none⟩ 1 1 [.int .i64 x] rfl rfl (cell_one_new _ _ _) (by simp [Value.oneCell']) hmx hby HIa.out.top ?_; intro v' we hown hgrow hnil hq9; have hboe := HIa.out.bo.grown hgrow (fun e => by have := (HIa.out.own.lt _ e.symm).1; have := HIa.out.lo.2.1; omega); have q5 := hboe.cell 0; have q6 := hboe.frozen 0; simp at q5; have HR := Lib.hid (HEND.out wc we v' HBc.out hgrow hown); obtain ⟨vo', vc', hv'⟩ := own_form hown; subst hv'; clear hown hgrow hnil hq9 hboe
     refine HKc.out _ _ ?_
     clear HKc Kc
     refine wpAny_ready (rs := [6]) (by kernel_rfl) (by simp) ?_
     refine AllReady.cons rfl (fun Kc hKc => ?_) AllReady.nil
     have HKc := Lib.hid hKc
     clear hKc
     go_simp
     refine HKc.out _ _ ?_
     clear HKc Kc
     refine wpAny_done (by kernel_rfl) ?_ _
     gi_wp2_with fail
     refine ⟨HR.out.1, HR.out.2.1, .slice vo' (xs.length + 1) vc', ?_⟩
     rw [HNX.out]
     exact HR.out.2.2
    ·have HKc := Lib.hid hKc
     clear hKc
     go_simp
     go_wp2_with (with_reducible refine PCk.out.mono ?_; rintro e wc ⟨rfl, hbc⟩; have HIc := Lib.hid (HI1.out.kept hbc); have HBc := Lib.hid (btr HBW.out hbc); have HIa := Lib.hid (HIc.out.kept (below_alloc1 wc (.cells #[.int .i64 x] 2))); have q0 := HIc.out.bo.cell 0; have q4 := HIa.out.bo.cell 0; simp at q0 q4; clear hbc)
     refine HKc.out _ _ ?_
     clear HKc Kc
     refine wpAny_ready (rs := [0, 4]) (by kernel_rfl) (by simp) ?_
     refine AllReady.cons rfl (fun Kc hKc => ?_) (AllReady.cons rfl (fun Kc hKc => ?_) AllReady.nil)
     ·have HKc := Lib.hid hKc
      clear hKc
      go_simp
      refine HKc.out _ _ ?_
      clear HKc Kc
      refine wpAny_ready (rs := [4]) (by kernel_rfl) (by simp) ?_
      refine AllReady.cons rfl (fun Kc hKc => ?_) AllReady.nil
      have HKc := Lib.hid hKc
      clear hKc
      go_simp
      refine HKc.out _ _ ?_
      clear HKc Kc
      refine wpAny_ready (rs := [5]) (by kernel_rfl) (by simp) ?_
      refine AllReady.cons rfl (fun Kc hKc => ?_) AllReady.nil
      have HKc := Lib.hid hKc
      clear hKc
      refine wp_append_own_at _ _ 93 rfl w6.heap.size 2 iI (.int .i64 0) 1 8 Tryz.underlying93 hi hz0 hz1 hz2 rfl (by decide) _ xs.length _ rfl HIa.out.own ⟨wc.heap.size, 0, none⟩ 1 1 [.int .i64 x] rfl rfl (cell_one_new _ _ _) (by simp [Value.oneCell']) hmx hby HIa.out.top ?_; intro v' we hown hgrow hnil hq9; have hboe := HIa.out.bo.grown hgrow (fun e => by have := (HIa.out.own.lt _ e.symm).1; have := HIa.out.lo.2.1; omega); have q5 := hboe.cell 0; have q6 := hboe.frozen 0; simp at q5; have HR := Lib.hid (HEND.out wc we v' HBc.out hgrow hown); obtain ⟨vo', vc', hv'⟩ := own_form hown; subst hv'; clear hown hgrow hnil hq9 hboe
      refine HKc.out _ _ ?_
      clear HKc Kc
      refine wpAny_ready (rs := [6]) (by kernel_rfl) (by simp) ?_
      refine AllReady.cons rfl (fun Kc hKc => ?_) AllReady.nil
      have HKc := Lib.hid hKc
      clear hKc
      go_simp
      refine HKc.out _ _ ?_
      clear HKc Kc
      refine wpAny_done (by kernel_rfl) ?_ _
      gi_wp2_with fail
      refine ⟨HR.out.1, HR.out.2.1, .slice vo' (xs.length + 1) vc', ?_⟩
      rw [HNX.out]
      exact HR.out.2.2
     ·have HKc := Lib.hid hKc
      clear hKc
      go_simp
      refine HKc.out _ _ ?_
      clear HKc Kc
      refine wpAny_ready (rs := [0]) (by kernel_rfl) (by simp) ?_
      refine AllReady.cons rfl (fun Kc hKc => ?_) AllReady.nil
      have HKc := Lib.hid hKc
      clear hKc
      go_simp
      refine HKc.out _ _ ?_
      clear HKc Kc
      refine wpAny_ready (rs := [5]) (by kernel_rfl) (by simp) ?_
      refine AllReady.cons rfl (fun Kc hKc => ?_) AllReady.nil
      have HKc := Lib.hid hKc
      clear hKc
      refine wp_append_own_at _ _ 93 rfl w6.heap.size 2 iI (.int .i64 0) 1 8 Tryz.underlying93 hi hz0 hz1 hz2 rfl (by decide) _ xs.length _ rfl HIa.out.own ⟨wc.heap.size, 0, none⟩ 1 1 [.int .i64 x] rfl rfl (cell_one_new _ _ _) (by simp [Value.oneCell']) hmx hby HIa.out.top ?_; intro v' we hown hgrow hnil hq9; have hboe := HIa.out.bo.grown hgrow (fun e => by have := (HIa.out.own.lt _ e.symm).1; have := HIa.out.lo.2.1; omega); have q5 := hboe.cell 0; have q6 := hboe.frozen 0; simp at q5; have HR := Lib.hid (HEND.out wc we v' HBc.out hgrow hown); obtain ⟨vo', vc', hv'⟩ := own_form hown; subst hv'; clear hown hgrow hnil hq9 hboe
      refine HKc.out _ _ ?_
      clear HKc Kc
      refine wpAny_ready (rs := [6]) (by kernel_rfl) (by simp) ?_
      refine AllReady.cons rfl (fun Kc hKc => ?_) AllReady.nil
      have HKc := Lib.hid hKc
      clear hKc
      go_simp
      refine HKc.out _ _ ?_
      clear HKc Kc
      refine wpAny_done (by kernel_rfl) ?_ _
      gi_wp2_with fail
      refine ⟨HR.out.1, HR.out.2.1, .slice vo' (xs.length + 1) vc', ?_⟩
      rw [HNX.out]
      exact HR.out.2.2
  ·have HKc := Lib.hid hKc
   clear hKc
   go_simp
   refine HKc.out _ _ ?_
   clear HKc Kc
   refine wpAny_ready (rs := [0, 1]) (by kernel_rfl) (by simp) ?_
   refine AllReady.cons rfl (fun Kc hKc => ?_) (AllReady.cons rfl (fun Kc hKc => ?_) AllReady.nil)
   ·have HKc := Lib.hid hKc
    clear hKc
    go_simp
    refine HKc.out _ _ ?_
    clear HKc Kc
    refine wpAny_ready (rs := [1]) (by kernel_rfl) (by simp) ?_
    refine AllReady.cons rfl (fun Kc hKc => ?_) AllReady.nil
    have HKc := Lib.hid hKc
    clear hKc
    go_simp
    refine HKc.out _ _ ?_
    clear HKc Kc
    refine wpAny_ready (rs := [3]) (by kernel_rfl) (by simp) ?_
    refine AllReady.cons rfl (fun Kc hKc => ?_) AllReady.nil
    have HKc := Lib.hid hKc
    clear hKc
    go_simp
    go_wp2_with (with_reducible refine PCk.out.mono ?_; rintro e wc ⟨rfl, hbc⟩; have HIc := Lib.hid (HI1.out.kept hbc); have HBc := Lib.hid (btr HBW.out hbc); have HIa := Lib.hid (HIc.out.kept (below_alloc1 wc (.cells #[.int .i64 x] 2))); have q0 := HIc.out.bo.cell 0; have q4 := HIa.out.bo.cell 0; simp at q0 q4; clear hbc)
    refine HKc.out _ _ ?_
    clear HKc Kc
    refine wpAny_ready (rs := [4]) (by kernel_rfl) (by simp) ?_
    refine AllReady.cons rfl (fun Kc hKc => ?_) AllReady.nil
    have HKc := Lib.hid hKc
    clear hKc
    go_simp
    refine HKc.out _ _ ?_
    clear HKc Kc
    refine wpAny_ready (rs := [5]) (by kernel_rfl) (by simp) ?_
    refine AllReady.cons rfl (fun Kc hKc => ?_) AllReady.nil
    have HKc := Lib.hid hKc
    clear hKc
    refine wp_append_own_at _ _ 93 rfl w6.heap.size 2 iI (.int .i64 0) 1 8 Tryz.underlying93 hi hz0 hz1 hz2 rfl (by decide) _ xs.length _ rfl HIa.out.own ⟨wc.heap.size, 0, none⟩ 1 1 [.int .i64 x] rfl rfl (cell_one_new _ _ _) (by simp [Value.oneCell']) hmx hby HIa.out.top ?_; intro v' we hown hgrow hnil hq9; have hboe := HIa.out.bo.grown hgrow (fun e => by have := (HIa.out.own.lt _ e.symm).1; have := HIa.out.lo.2.1; omega); have q5 := hboe.cell 0; have q6 := hboe.frozen 0; simp at q5; have HR := Lib.hid (HEND.out wc we v' HBc.out hgrow hown); obtain ⟨vo', vc', hv'⟩ := own_form hown; subst hv'; clear hown hgrow hnil hq9 hboe
    refine HKc.out _ _ ?_
    clear HKc Kc
    refine wpAny_ready (rs := [6]) (by kernel_rfl) (by simp) ?_
    refine AllReady.cons rfl (fun Kc hKc => ?_) AllReady.nil
    have HKc := Lib.hid hKc
    clear hKc
    go_simp
    refine HKc.out _ _ ?_
    clear HKc Kc
    refine wpAny_done (by kernel_rfl) ?_ _
    gi_wp2_with fail
    refine ⟨HR.out.1, HR.out.2.1, .slice vo' (xs.length + 1) vc', ?_⟩
    rw [HNX.out]
    exact HR.out.2.2
   ·have HKc := Lib.hid hKc
    clear hKc
    go_simp
    refine HKc.out _ _ ?_
    clear HKc Kc
    refine wpAny_ready (rs := [0, 3]) (by kernel_rfl) (by simp) ?_
    refine AllReady.cons rfl (fun Kc hKc => ?_) (AllReady.cons rfl (fun Kc hKc => ?_) AllReady.nil)
    ·have HKc := Lib.hid hKc
     clear hKc
     go_simp
     refine HKc.out _ _ ?_
     clear HKc Kc
     refine wpAny_ready (rs := [3]) (by kernel_rfl) (by simp) ?_
     refine AllReady.cons rfl (fun Kc hKc => ?_) AllReady.nil
     have HKc := Lib.hid hKc
     clear hKc
     go_simp
     go_wp2_with (with_reducible refine PCk.out.mono ?_; rintro e wc ⟨rfl, hbc⟩; have HIc := Lib.hid (HI1.out.kept hbc); have HBc := Lib.hid (btr HBW.out hbc); have HIa := Lib.hid (HIc.out.kept (below_alloc1 wc (.cells #[.int .i64 x] 2))); have q0 := HIc.out.bo.cell 0; have q4 := HIa.out.bo.cell 0; simp at q0 q4; clear hbc)
     refine HKc.out _ _ ?_
     clear HKc Kc
     refine wpAny_ready (rs := [4]) (by kernel_rfl) (by simp) ?_
     refine AllReady.cons rfl (fun Kc hKc => ?_) AllReady.nil
     have HKc := Lib.hid hKc
     clear hKc
     go_simp
     refine HKc.out _ _ ?_
     clear HKc Kc
     refine wpAny_ready (rs := [5]) (by kernel_rfl) (by simp) ?_
     refine AllReady.cons rfl (fun Kc hKc => ?_) AllReady.nil
     have HKc := Lib.hid hKc
     clear hKc
     refine wp_append_own_at _ _ 93 rfl w6.heap.size 2 iI (.int .i64 0) 1 8 Tryz.underlying93 hi hz0 hz1 hz2 rfl (by decide) _ xs.length _ rfl HIa.out.own ⟨wc.heap.size, 0, none⟩ 1 1 [.int .i64 x] rfl rfl (cell_one_new _ _ _) (by simp [Value.oneCell']) hmx hby HIa.out.top ?_; intro v' we hown hgrow hnil hq9; have hboe := HIa.out.bo.grown hgrow (fun e => by have := (HIa.out.own.lt _ e.symm).1; have := HIa.out.lo.2.1; omega); have q5 := hboe.cell 0; have q6 := hboe.frozen 0; simp at q5; have HR := Lib.hid (HEND.out wc we v' HBc.out hgrow hown); obtain ⟨vo', vc', hv'⟩ := own_form hown; subst hv'; clear hown hgrow hnil hq9 hboe
     refine HKc.out _ _ ?_
     clear HKc Kc
     refine wpAny_ready (rs := [6]) (by kernel_rfl) (by simp) ?_
     refine AllReady.cons rfl (fun Kc hKc => ?_) AllReady.nil
     have HKc := Lib.hid hKc
     clear hKc
     go_simp
     refine HKc.out _ _ ?_
     clear HKc Kc
     refine wpAny_done (by kernel_rfl) ?_ _
     gi_wp2_with fail
     refine ⟨HR.out.1, HR.out.2.1, .slice vo' (xs.length + 1) vc', ?_⟩
     rw [HNX.out]
     exact HR.out.2.2
    ·have HKc := Lib.hid hKc
     clear hKc
     go_simp
     go_wp2_with (with_reducible refine PCk.out.mono ?_; rintro e wc ⟨rfl, hbc⟩; have HIc := Lib.hid (HI1.out.kept hbc); have HBc := Lib.hid (btr HBW.out hbc); have HIa := Lib.hid (HIc.out.kept (below_alloc1 wc (.cells #[.int .i64 x] 2))); have q0 := HIc.out.bo.cell 0; have q4 := HIa.out.bo.cell 0; simp at q0 q4; clear hbc)
     refine HKc.out _ _ ?_
     clear HKc Kc
     refine wpAny_ready (rs := [0, 4]) (by kernel_rfl) (by simp) ?_
     refine AllReady.cons rfl (fun Kc hKc => ?_) (AllReady.cons rfl (fun Kc hKc => ?_) AllReady.nil)
     ·have HKc := Lib.hid hKc
      clear hKc
      go_simp
      refine HKc.out _ _ ?_
      clear HKc Kc
      refine wpAny_ready (rs := [4]) (by kernel_rfl) (by simp) ?_
      refine AllReady.cons rfl (fun Kc hKc => ?_) AllReady.nil
      have HKc := Lib.hid hKc
      clear hKc
      go_simp
      refine HKc.out _ _ ?_
      clear HKc Kc
      refine wpAny_ready (rs := [5]) (by kernel_rfl) (by simp) ?_
      refine AllReady.cons rfl (fun Kc hKc => ?_) AllReady.nil
      have HKc := Lib.hid hKc
      clear hKc
      refine wp_append_own_at _ _ 93 rfl w6.heap.size 2 iI (.int .i64 0) 1 8 Tryz.underlying93 hi hz0 hz1 hz2 rfl (by decide) _ xs.length _ rfl HIa.out.own ⟨wc.heap.size, 0, none⟩ 1 1 [.int .i64 x] rfl rfl (cell_one_new _ _ _) (by simp [Value.oneCell']) hmx hby HIa.out.top ?_; intro v' we hown hgrow hnil hq9; have hboe := HIa.out.bo.grown hgrow (fun e => by have := (HIa.out.own.lt _ e.symm).1; have := HIa.out.lo.2.1; omega); have q5 := hboe.cell 0; have q6 := hboe.frozen 0; simp at q5; have HR := Lib.hid (HEND.out wc we v' HBc.out hgrow hown); obtain ⟨vo', vc', hv'⟩ := own_form hown; subst hv'; clear hown hgrow hnil hq9 hboe
      refine HKc.out _ _ ?_
      clear HKc Kc
      refine wpAny_ready (rs := [6]) (by kernel_rfl) (by simp) ?_
      refine AllReady.cons rfl (fun Kc hKc => ?_) AllReady.nil
      have HKc := Lib.hid hKc
      clear hKc
      go_simp
      refine HKc.out _ _ ?_
      clear HKc Kc
      refine wpAny_done (by kernel_rfl) ?_ _
      gi_wp2_with fail
      refine ⟨HR.out.1, HR.out.2.1, .slice vo' (xs.length + 1) vc', ?_⟩
      rw [HNX.out]
      exact HR.out.2.2
     ·have HKc := Lib.hid hKc
      clear hKc
      go_simp
      refine HKc.out _ _ ?_
      clear HKc Kc
      refine wpAny_ready (rs := [0]) (by kernel_rfl) (by simp) ?_
      refine AllReady.cons rfl (fun Kc hKc => ?_) AllReady.nil
      have HKc := Lib.hid hKc
      clear hKc
      go_simp
      refine HKc.out _ _ ?_
      clear HKc Kc
      refine wpAny_ready (rs := [5]) (by kernel_rfl) (by simp) ?_
      refine AllReady.cons rfl (fun Kc hKc => ?_) AllReady.nil
      have HKc := Lib.hid hKc
      clear hKc
      refine wp_append_own_at _ _ 93 rfl w6.heap.size 2 iI (.int .i64 0) 1 8 Tryz.underlying93 hi hz0 hz1 hz2 rfl (by decide) _ xs.length _ rfl HIa.out.own ⟨wc.heap.size, 0, none⟩ 1 1 [.int .i64 x] rfl rfl (cell_one_new _ _ _) (by simp [Value.oneCell']) hmx hby HIa.out.top ?_; intro v' we hown hgrow hnil hq9; have hboe := HIa.out.bo.grown hgrow (fun e => by have := (HIa.out.own.lt _ e.symm).1; have := HIa.out.lo.2.1; omega); have q5 := hboe.cell 0; have q6 := hboe.frozen 0; simp at q5; have HR := Lib.hid (HEND.out wc we v' HBc.out hgrow hown); obtain ⟨vo', vc', hv'⟩ := own_form hown; subst hv'; clear hown hgrow hnil hq9 hboe
      refine HKc.out _ _ ?_
      clear HKc Kc
      refine wpAny_ready (rs := [6]) (by kernel_rfl) (by simp) ?_
      refine AllReady.cons rfl (fun Kc hKc => ?_) AllReady.nil
      have HKc := Lib.hid hKc
      clear hKc
      go_simp
      refine HKc.out _ _ ?_
      clear HKc Kc
      refine wpAny_done (by kernel_rfl) ?_ _
      gi_wp2_with fail
      refine ⟨HR.out.1, HR.out.2.1, .slice vo' (xs.length + 1) vc', ?_⟩
      rw [HNX.out]
      exact HR.out.2.2
 case done =>
  intro D xs W hD hxs hI hK
  subst hxs
  obtain ⟨v, hs⟩ := hI
  rw [List.attach_map_subtype_val] at hs
  obtain ⟨vo, vc, hv⟩ := own_form hs.own
  subst hv
  have hlp : (ptsL (nb : Int) r d m s Z PL).length = PL.length := by simp [ptsL]
  have HEW : Hid (W.ownsRow w.heap.size 2 1 (.slice vo (ptsL (nb : Int) r d m s Z PL).length vc) PL.length (numsV (ptsL (nb : Int) r d m s Z PL))) := Lib.hid (by
   have := hs.own
   rw [hlp] at this ⊢
   exact ownBase this hs.lo.2.2.2.2)
  have HEB := Lib.hid hs.bel
  have q0 := hs.bo.cell 0
  simp at q0
  have HK := Lib.hid hK
  have hg4 := grownBy_putObj' W D (.deferred none)
  have HEW2 : Hid ((W.putObj D (.deferred none)).ownsRow w.heap.size 2 1 (.slice vo (ptsL (nb : Int) r d m s Z PL).length vc) PL.length (numsV (ptsL (nb : Int) r d m s Z PL))) := Lib.hid (ownKeep HEW.out hg4 (fun k hk e => by
   have e := Option.some.inj e
   obtain ⟨cs, hq⟩ := ownBlk HEW.out k hk
   rw [← e] at hq
   exact hq.not_other hK rfl rfl))
  have HEB2 : Hid (Below w.heap.size w (W.putObj D (.deferred none))) := Lib.hid (HEB.out.grown hg4 HEB.out.size (fun k e => by have e := Option.some.inj e; have := HI0.out.lo; omega))
  clear hs hlp hg4 hK
  gi_wp2_with fail
  refine ⟨by simp, .inl ⟨_, _, rfl, run_takeDeferred HK.out, ?_⟩⟩
  refine ⟨.tuple #[.slice vo (ptsL (nb : Int) r d m s Z PL).length vc, .int .i64 0], ?_, _, rfl, HEW2.out, HEB2.out⟩
  simp [results, Tryz.results135, go_sem]
 case stop =>
  intro D c pre W hD hpre hf
  exact hf.elim
end Go.Proofs.YtfeficdndjiijaaGreatDoor


namespace Go.Proofs.YtfeficdndjiijaaGreatDoor
open Go.RowKit
set_option linter.unusedVariables false
set_option linter.unusedSimpArgs false

def InB (m M x : Int) : Prop := -M ≤ x ∧ x ≤ M ∧ (m = 2 → 0 ≤ x)
def ZsB (m M : Int) (zs : List Int) : Prop := ∀ x ∈ zs, InB m M x
def BndZ (b m M : Int) (Z : Nat → List Int) : Prop := ∀ n : Nat, n ≤ b.toNat → ZsB m M (Z n)
theorem InB.zero {m M : Int} (h : 0 ≤ M) : InB m M 0 := ⟨by omega, by omega, fun _ => by omega⟩
theorem InB.mono {m M M' x : Int} (h : InB m M x) (hM : M ≤ M') : InB m M' x := ⟨by have := h.1; omega, by have := h.2.1; omega, h.2.2⟩
theorem ZsB.cellD {m M : Int} {zs : List Int} (h : ZsB m M zs) (hM : 0 ≤ M) (i : Nat) : InB m M (cellD zs i) := by
  unfold Go.Proofs.YtfeficdndjiijaaGreatDoor.cellD
  cases hx : zs[i]? with
  | none => exact InB.zero hM
  | some x => exact h x (List.mem_of_getElem? hx)
theorem kthL_in (l : List Int) (k : Nat) : kthL l k ∈ l ∨ kthL l k = 0 := by
  unfold kthL
  split
  · rename_i h
    exact .inl h.choose_spec.1
  · exact .inr rfl
theorem ZsB.readZ {m M : Int} {zs : List Int} (h : ZsB m M zs) (hM : 0 ≤ M) (W : Nat) (cs : List Int) : ZsB m M (readZ W zs cs) := fun x hx => by
  unfold Go.Proofs.YtfeficdndjiijaaGreatDoor.readZ at hx
  obtain ⟨r, -, rfl⟩ := List.mem_map.1 hx
  exact h.cellD hM _
theorem ZsB.kth {m M : Int} {l : List Int} (h : ZsB m M l) (hM : 0 ≤ M) (k : Nat) : InB m M (kthL l k) := by
  rcases kthL_in l k with h1 | h1
  · exact h _ h1
  · rw [h1]; exact InB.zero hM
theorem mem_setsZ {W : Nat} {zs : List Int} {cf : Nat → Nat} {vf : Nat → Int} : ∀ (k : Nat) (x : Int), x ∈ setsZ W zs cf vf k → x ∈ zs ∨ ∃ r, r < k ∧ x = vf r
  | 0, x, h => .inl h
  | k + 1, x, h => by
    rw [setsZ] at h
    rcases List.mem_or_eq_of_mem_set h with h1 | h1
    · rcases mem_setsZ k x h1 with h2 | ⟨r, h2, h3⟩
      · exact .inl h2
      · exact .inr ⟨r, by omega, h3⟩
    · exact .inr ⟨k, by omega, h1⟩
def absI (x : Int) : Int := if x < 0 then -x else x
theorem absI_bd (x : Int) : 0 ≤ absI x ∧ -(absI x) ≤ x ∧ x ≤ absI x := by unfold absI; split <;> omega
theorem InB.add {m M x y : Int} (h : InB m M x) (hy : m = 2 → 0 ≤ y) : InB m (M + absI y) (x + y) := by
  have := absI_bd y
  have := h.1
  have := h.2.1
  exact ⟨by omega, by omega, fun e => by have h1 := h.2.2 e; have h2 := hy e; omega⟩
theorem InB.in64 {m M x : Int} (h : InB m M x) (hM : M ≤ 9223372036854775807) : In64 x := by
  have := h.1
  have := h.2.1
  unfold In64
  omega
theorem lvErr_small {b r d m s l : Int} {zs : List Int} {k : Nat} {x M : Int} (hk : (k : Int) < keysI b r d m l) (h : ZsB m M zs) (hM : 0 ≤ M) (hx : m = 2 → 0 ≤ x) (hs : M + absI x ≤ 9223372036854775807) : lvErr b r d m s l zs k x = 0 := by
  have hn : ¬ (m = 2 ∧ x < 0) := fun e => by have := hx e.1; omega
  unfold lvErr
  split
  · unfold chkI
    rw [if_neg (by omega), if_neg hn, if_pos ((h.cellD hM k).add hx |>.in64 hs)]
  · unfold skErr
    rw [if_neg (by omega)]
    by_cases hm : m = 2
    · rw [if_pos hm, if_neg (by have := hx hm; omega), if_pos (((h.readZ hM _ _).kth hM 0).add hx |>.in64 hs)]
    · rw [if_neg hm, if_pos (show changeFits d.toNat zs (colsZ d s l (k : Int) r.toNat) x from fun r _ => (h.cellD hM _).add hx |>.in64 hs)]
theorem lvUpd_small {b r d m s l : Int} {zs : List Int} {k : Nat} {x M : Int} (h : ZsB m M zs) (hM : 0 ≤ M) (hx : m = 2 → 0 ≤ x) : ZsB m (M + absI x) (lvUpd b r d m s l zs k x) := by
  have hab := absI_bd x
  have h0 : ZsB m (M + absI x) zs := fun y hy => (h y hy).mono (by omega)
  unfold lvUpd
  split
  · unfold updZ
    split
    · intro y hy
      rcases List.mem_or_eq_of_mem_set hy with h1 | rfl
      · exact h0 y h1
      · exact (h.cellD hM k).add hx
    · exact h0
  · unfold skUpd
    split
    · split
      · intro y hy
        unfold raiseZ at hy
        rcases mem_setsZ _ y hy with h1 | ⟨r, -, rfl⟩
        · exact h0 y h1
        · unfold riseV
          split
          · exact ((h.readZ hM _ _).kth hM 0).add hx
          · exact (h.cellD hM _).mono (by omega)
      · intro y hy
        unfold changeZ at hy
        rcases mem_setsZ _ y hy with h1 | ⟨r, -, rfl⟩
        · exact h0 y h1
        · exact (h.cellD hM _).add hx
    · exact h0
theorem stErr_small {b r d m s : Int} {Z : Nat → List Int} {k : Nat} {x M : Int} (hr : rightB b r d m = true) (hk : (k : Int) < keysI b r d m 0) (h : BndZ b m M Z) (hM : 0 ≤ M) (hx : m = 2 → 0 ≤ x) (hs : M + absI x ≤ 9223372036854775807) : stErr b r d m s Z k x = 0 := by
  unfold stErr
  rw [if_neg (by omega), if_neg (fun e => by have := hx e.1; omega), if_pos (fun n hn => lvErr_small (key_down hr hk hn) (h n hn) hM hx hs)]
theorem stUpd_small {b r d m s : Int} {Z : Nat → List Int} {k : Nat} {x M : Int} (h : BndZ b m M Z) (hM : 0 ≤ M) (hx : m = 2 → 0 ≤ x) : BndZ b m (M + absI x) (stUpd b r d m s Z k x) := fun n hn => by
  have hab := absI_bd x
  unfold stUpd
  split
  · exact lvUpd_small (h n hn) hM hx
  · exact fun y hy => (h n hn y hy).mono (by omega)
theorem ZsB.fit {m M : Int} {zs : List Int} (h : ZsB m M zs) (hM : M ≤ 9223372036854775807) : Fit zs := fun x hx => (h x hx).in64 hM
theorem zero_small {b r d m : Int} : BndZ b m 0 (zeroZ b r d m) := fun n hn x hx => by
  unfold zeroZ at hx
  rw [List.eq_of_mem_replicate hx]
  exact InB.zero (Int.le_refl _)
end Go.Proofs.YtfeficdndjiijaaGreatDoor


namespace Go.Proofs.YtfeficdndjiijaaGreatDoor
open Go.RowKit
set_option linter.unusedVariables false
set_option linter.unusedSimpArgs false

def plusZ (xs ys : List Int) : List Int := List.zipWith (fun a b => a + b) xs ys
theorem plusZ_len {xs ys : List Int} (h : xs.length = ys.length) : (plusZ xs ys).length = xs.length := by unfold plusZ; rw [List.length_zipWith, ← h, Nat.min_self]
theorem plusZ_cell {xs ys : List Int} (h : xs.length = ys.length) (i : Nat) : cellD (plusZ xs ys) i = cellD xs i + cellD ys i := by
  unfold plusZ cellD
  rw [List.getElem?_zipWith]
  by_cases hi : i < xs.length
  · rw [List.getElem?_eq_getElem hi, List.getElem?_eq_getElem (by omega : i < ys.length)]
    rfl
  · rw [List.getElem?_eq_none (by omega), List.getElem?_eq_none (by omega : ys.length ≤ i)]
    rfl
theorem plusZ_set {xs ys : List Int} (h : xs.length = ys.length) (i : Nat) (v : Int) : plusZ (xs.set i v) ys = (plusZ xs ys).set i (v + cellD ys i) := by
  apply List.ext_getElem?
  intro j
  have hl : (plusZ xs ys).length = xs.length := plusZ_len h
  by_cases e : i = j
  · subst e
    by_cases hi : i < xs.length
    · rw [List.getElem?_set_self (by omega)]
      unfold plusZ
      rw [List.getElem?_zipWith, List.getElem?_set_self hi, List.getElem?_eq_getElem (by omega : i < ys.length)]
      simp [cellD, List.getElem?_eq_getElem (by omega : i < ys.length)]
    · rw [List.getElem?_eq_none (by rw [plusZ_len (by rw [List.length_set]; exact h), List.length_set]; omega), List.getElem?_eq_none (by rw [List.length_set]; omega)]
  · rw [List.getElem?_set_ne e]
    unfold plusZ
    rw [List.getElem?_zipWith, List.getElem?_zipWith, List.getElem?_set_ne e]
theorem plusZ_comm (xs ys : List Int) : plusZ xs ys = plusZ ys xs := by
  unfold plusZ
  rw [List.zipWith_comm]
  congr 1
  funext a b
  omega
theorem setsZ_zip {W : Nat} {xs ys : List Int} (h : xs.length = ys.length) (cf : Nat → Nat) (vf : Nat → Int) : ∀ k, plusZ (setsZ W xs cf vf k) ys = setsZ W (plusZ xs ys) cf (fun r => vf r + cellD ys (r * W + cf r)) k
  | 0 => rfl
  | k + 1 => by
    rw [setsZ, setsZ, plusZ_set (by rw [setsZ_len]; exact h), setsZ_zip h cf vf k]
theorem changeZ_zip {W : Nat} {xs ys : List Int} (h : xs.length = ys.length) (cs : List Int) (x : Int) : changeZ W (plusZ xs ys) cs x = plusZ (changeZ W xs cs x) ys := by
  unfold changeZ
  rw [setsZ_zip h]
  congr 1
  funext r
  rw [plusZ_cell h]
  omega
theorem lvUpd_zip {b r d m s l : Int} {xs ys : List Int} {k : Nat} {x : Int} (hm : m ≠ 2) (h : xs.length = ys.length) (h1 : lvErr b r d m s l xs k x = 0) (h2 : lvErr b r d m s l (plusZ xs ys) k x = 0) :
    lvUpd b r d m s l (plusZ xs ys) k x = plusZ (lvUpd b r d m s l xs k x) ys := by
  unfold lvErr at h1 h2
  unfold lvUpd
  split
  · rename_i e
    rw [if_pos e] at h1 h2
    unfold updZ
    rw [if_pos h1, if_pos h2, plusZ_set h, plusZ_cell h]
    congr 1
    omega
  · rename_i e
    rw [if_neg e] at h1 h2
    unfold skUpd
    rw [if_pos h1, if_pos h2, if_neg hm, if_neg hm, changeZ_zip h]
theorem lvUpd_len (b r d m s l : Int) (zs : List Int) (k : Nat) (x : Int) : (lvUpd b r d m s l zs k x).length = zs.length := by
  unfold lvUpd
  split
  · unfold updZ
    split
    · rw [List.length_set]
    · rfl
  · unfold skUpd
    split
    · split
      · unfold raiseZ; rw [setsZ_len]
      · unfold changeZ; rw [setsZ_len]
    · rfl
theorem stUpd_zip {b r d m s : Int} {Z Y : Nat → List Int} {k : Nat} {x : Int} (hm : m ≠ 2) (h : ∀ n, n ≤ b.toNat → (Z n).length = (Y n).length) (h1 : stErr b r d m s Z k x = 0) (V : Nat → List Int) (hV : ∀ n, n ≤ b.toNat → V n = plusZ (Z n) (Y n)) (h2 : stErr b r d m s V k x = 0) (n : Nat) (hn : n ≤ b.toNat) :
    stUpd b r d m s V k x n = plusZ (stUpd b r d m s Z k x n) (Y n) := by
  unfold stUpd
  rw [if_pos h1, if_pos h2, hV n hn]
  refine lvUpd_zip hm (h n hn) ((stErr_ok h1).2.2 n hn) ?_
  have := (stErr_ok h2).2.2 n hn
  rwa [hV n hn] at this
theorem stUpd_len (b r d m s : Int) (Z : Nat → List Int) (k : Nat) (x : Int) (n : Nat) : (stUpd b r d m s Z k x n).length = (Z n).length := by
  unfold stUpd
  split
  · exact lvUpd_len _ _ _ _ _ _ _ _ _
  · rfl
noncomputable def accZ (b r d m s : Int) (us : Nat → Option (Nat × Int)) (P : Nat → Bool) : Nat → Nat → List Int
  | 0 => zeroZ b r d m
  | i + 1 => match us i with
    | some (k, x) => if P i then stUpd b r d m s (accZ b r d m s us P i) k x else accZ b r d m s us P i
    | none => accZ b r d m s us P i
theorem accZ_no {b r d m s : Int} {us : Nat → Option (Nat × Int)} {P : Nat → Bool} {i : Nat} (h : us i = none ∨ P i = false) : accZ b r d m s us P (i + 1) = accZ b r d m s us P i := by
  rw [accZ]
  rcases h with h | h
  · rw [h]
  · cases hu : us i with
    | none => rfl
    | some kx => obtain ⟨k, x⟩ := kx; simp [h]
theorem accZ_yes {b r d m s : Int} {us : Nat → Option (Nat × Int)} {P : Nat → Bool} {i k : Nat} {x : Int} (hu : us i = some (k, x)) (h : P i = true) : accZ b r d m s us P (i + 1) = stUpd b r d m s (accZ b r d m s us P i) k x := by
  rw [accZ, hu]
  simp [h]
theorem accZ_congr {b r d m s : Int} {us : Nat → Option (Nat × Int)} {P Q : Nat → Bool} : ∀ (i : Nat), (∀ j, j < i → us j ≠ none → P j = Q j) → accZ b r d m s us P i = accZ b r d m s us Q i
  | 0, _ => rfl
  | i + 1, h => by
    have ih := accZ_congr (b := b) (r := r) (d := d) (m := m) (s := s) (P := P) (Q := Q) i (fun j hj hn => h j (by omega) hn)
    cases hu : us i with
    | none => rw [accZ_no (.inl hu), accZ_no (.inl hu), ih]
    | some kx =>
      obtain ⟨k, x⟩ := kx
      have hp := h i (by omega) (by rw [hu]; simp)
      cases hq : Q i with
      | false => rw [accZ_no (.inr (hp.trans hq)), accZ_no (.inr hq), ih]
      | true => rw [accZ_yes hu (hp.trans hq), accZ_yes hu hq, ih]
theorem accZ_zero {b r d m s : Int} {us : Nat → Option (Nat × Int)} {P : Nat → Bool} : ∀ (i : Nat), (∀ j, j < i → us j ≠ none → P j = false) → accZ b r d m s us P i = zeroZ b r d m
  | 0, _ => rfl
  | i + 1, h => by
    rw [← accZ_zero (P := P) i (fun j hj hn => h j (by omega) hn)]
    cases hu : us i with
    | none => exact accZ_no (.inl hu)
    | some kx => exact accZ_no (.inr (h i (by omega) (by rw [hu]; simp)))
theorem accZ_or_no (b r d m s : Int) (us : Nat → Option (Nat × Int)) (P : Nat → Bool) (i : Nat) : accZ b r d m s us P (i + 1) = accZ b r d m s us P i ∨ ∃ k x, us i = some (k, x) ∧ P i = true ∧ accZ b r d m s us P (i + 1) = stUpd b r d m s (accZ b r d m s us P i) k x := by
  cases hu : us i with
  | none => exact .inl (accZ_no (.inl hu))
  | some kx =>
    obtain ⟨k, x⟩ := kx
    cases hp : P i with
    | false => exact .inl (accZ_no (.inr hp))
    | true => exact .inr ⟨k, x, rfl, rfl, accZ_yes hu hp⟩
theorem accZ_len (b r d m s : Int) (us : Nat → Option (Nat × Int)) (P : Nat → Bool) : ∀ (i n : Nat), (accZ b r d m s us P i n).length = (zeroZ b r d m n).length
  | 0, _ => rfl
  | i + 1, n => by
    rcases accZ_or_no b r d m s us P i with h | ⟨k, x, -, -, h⟩
    · rw [h]; exact accZ_len b r d m s us P i n
    · rw [h, stUpd_len]; exact accZ_len b r d m s us P i n
def Small (b r d m : Int) (q : Int) (us : Nat → Option (Nat × Int)) : Prop := ∀ j k x, us j = some (k, x) → (k : Int) < keysI b r d m 0 ∧ absI x ≤ q ∧ (m = 2 → 0 ≤ x)
theorem accZ_bd {b r d m s q : Int} {us : Nat → Option (Nat × Int)} (hq : 0 ≤ q) (hs : Small b r d m q us) (P : Nat → Bool) : ∀ i : Nat, BndZ b m (q * (i : Int)) (accZ b r d m s us P i)
  | 0 => by
    show BndZ b m (q * ((0 : Nat) : Int)) (zeroZ b r d m)
    rw [show q * ((0 : Nat) : Int) = 0 by simp]
    exact zero_small
  | i + 1 => by
    have ih := accZ_bd (s := s) hq hs P i
    have e : q * ((i + 1 : Nat) : Int) = q * (i : Int) + q := by rw [Int.natCast_add, Int.mul_add]; simp
    have h0 : 0 ≤ q * (i : Int) := Int.mul_nonneg hq (by omega)
    rcases accZ_or_no b r d m s us P i with h | ⟨k, x, hu, -, h⟩
    · rw [h]; exact fun n hn x hx => (ih n hn x hx).mono (by omega)
    · rw [h]
      obtain ⟨h1, h2, h3⟩ := hs i k x hu
      exact fun n hn y hy => (stUpd_small ih h0 h3 n hn y hy).mono (by omega)
theorem accZ_ok {b r d m s q : Int} {us : Nat → Option (Nat × Int)} (hr : rightB b r d m = true) (hq : 0 ≤ q) (hs : Small b r d m q us) (P : Nat → Bool) (i : Nat) (hi : q * ((i + 1 : Nat) : Int) ≤ 9223372036854775807) {j k : Nat} {x : Int} (hu : us j = some (k, x)) : stErr b r d m s (accZ b r d m s us P i) k x = 0 := by
  obtain ⟨h1, h2, h3⟩ := hs j k x hu
  have e : q * ((i + 1 : Nat) : Int) = q * (i : Int) + q := by rw [Int.natCast_add, Int.mul_add]; simp
  exact stErr_small hr h1 (accZ_bd (s := s) hq hs P i) (Int.mul_nonneg hq (by omega)) h3 (by omega)
theorem accZ_or {b r d m s q : Int} {us : Nat → Option (Nat × Int)} (hm : m ≠ 2) (hr : rightB b r d m = true) (hq : 0 ≤ q) (hs : Small b r d m q us) (P Q : Nat → Bool) : ∀ (i : Nat), q * (i : Int) ≤ 9223372036854775807 → (∀ j, j < i → ¬ (P j = true ∧ Q j = true)) →
  ∀ n, n ≤ b.toNat → accZ b r d m s us (fun j => P j || Q j) i n = plusZ (accZ b r d m s us P i n) (accZ b r d m s us Q i n)
 | 0, _, _ => fun n hn => by
  show zeroZ b r d m n = plusZ (zeroZ b r d m n) (zeroZ b r d m n)
  unfold zeroZ plusZ
  rw [List.zipWith_replicate]
  simp
 | i + 1, hi, hd => fun n hn => by
  have e : q * ((i + 1 : Nat) : Int) = q * (i : Int) + q := by rw [Int.natCast_add, Int.mul_add]; simp
  have ih := accZ_or (s := s) hm hr hq hs P Q i (by omega) (fun j hj => hd j (by omega))
  have hlen : ∀ n, n ≤ b.toNat → (accZ b r d m s us P i n).length = (accZ b r d m s us Q i n).length := fun n _ => by rw [accZ_len, accZ_len]
  cases hu : us i with
  | none => rw [accZ_no (.inl hu), accZ_no (.inl hu), accZ_no (.inl hu)]; exact ih n hn
  | some kx =>
   obtain ⟨k, x⟩ := kx
   have ok := fun P => accZ_ok (s := s) hr hq hs P i hi hu
   cases hp : P i with
   | false =>
    rw [accZ_no (P := P) (.inr hp)]
    cases hq' : Q i with
    | false => rw [accZ_no (P := Q) (.inr hq'), accZ_no (.inr (by simp [hp, hq']))]; exact ih n hn
    | true =>
     rw [accZ_yes hu (P := Q) hq', accZ_yes hu (P := fun j => P j || Q j) (by simp [hq'])]
     rw [plusZ_comm]
     exact stUpd_zip hm (fun n hn => (hlen n hn).symm) (ok Q) _ (fun n hn => by rw [ih n hn, plusZ_comm]) (ok _) n hn
   | true =>
    have hq' : Q i = false := by
     cases h : Q i with
     | false => rfl
     | true => exact absurd ⟨hp, h⟩ (hd i (by omega))
    rw [accZ_no (P := Q) (.inr hq'), accZ_yes hu (P := P) hp, accZ_yes hu (P := fun j => P j || Q j) (by simp [hp])]
    exact stUpd_zip hm hlen (ok P) _ ih (ok _) n hn
end Go.Proofs.YtfeficdndjiijaaGreatDoor


namespace Go.Proofs
open Go.Shelf
def Tryz.keysA_ren : Go.Shelf.Ren := ⟨fun | 7 => 30 | 10 => 63 | n => n, fun | 23 => 75 | 26 => 3 | 3 => 84 | 28 => 80 | 0 => 0 | 27 => 79 | 33 => 166 | 4 => 4 | n => n, fun | n => n⟩
theorem Tryz.keysA : Go.Proofs.SlLaysZI.n7 Tryz.prog Tryz.keysA_ren := {
  mixed := by kernel_rfl
  f7 := ⟨Tryz.f30.name, by decide, Tryz.func30.trans (congrArg some (by kernel_rfl))⟩
  f10 := ⟨Tryz.f63.name, by decide, Tryz.func63.trans (congrArg some (by kernel_rfl))⟩
  t0 := Tryz.underlying0
  a0 := Tryz.isAgg0
  z0 := Tryz.sizeOf0
  v0 := Tryz.zeroValue0
  t4 := Tryz.underlying4
  a4 := Tryz.isAgg4
  z4 := Tryz.sizeOf4
  v4 := Tryz.zeroValue4
  t23 := Tryz.underlying75
  a23 := Tryz.isAgg75
  z23 := Tryz.sizeOf75
  v23 := Tryz.zeroValue75
  t26 := Tryz.underlying3
  a26 := Tryz.isAgg3
  z26 := Tryz.sizeOf3
  v26 := Tryz.zeroValue3
  t27 := Tryz.underlying79
  a27 := Tryz.isAgg79
  z27 := Tryz.sizeOf79
  v27 := Tryz.zeroValue79
  t28 := Tryz.underlying80
  a28 := Tryz.isAgg80
  z28 := Tryz.sizeOf80
  v28 := Tryz.zeroValue80
  t33 := Tryz.underlying166
  a33 := Tryz.isAgg166
  z33 := Tryz.sizeOf166
  v33 := Tryz.zeroValue166 }
def Tryz.sortedA_ren : Go.Shelf.Ren := ⟨fun | 6 => 29 | 8 => 61 | 9 => 62 | 11 => 108 | 13 => 110 | 12 => 109 | 23 => 158 | 24 => 116 | 14 => 149 | 15 => 150 | 16 => 151 | 17 => 152 | 18 => 153 | 19 => 154 | 20 => 155 | 21 => 156 | 22 => 157 | 25 => 194 | 26 => 195 | 27 => 196 | 28 => 197 | 29 => 198 | 30 => 199 | 31 => 228 | n => n, fun | 26 => 3 | 28 => 80 | 24 => 45 | 0 => 0 | 3 => 3 | 37 => 160 | 48 => 73 | 50 => 22 | 4 => 4 | 40 => 272 | 39 => 271 | 45 => 277 | 5 => 5 | 9 => 9 | 51 => 330 | 55 => 334 | 57 => 355 | 58 => 356 | 33 => 166 | n => n, fun | n => n⟩
theorem Tryz.sortedA : Go.Proofs.SlLaysZI.n6 Tryz.prog Tryz.sortedA_ren := {
  mixed := by kernel_rfl
  f6 := ⟨Tryz.f29.name, by decide, Tryz.func29.trans (congrArg some (by kernel_rfl))⟩
  f8 := ⟨Tryz.f61.name, by decide, Tryz.func61.trans (congrArg some (by kernel_rfl))⟩
  f11 := ⟨Tryz.f108.name, by decide, Tryz.func108.trans (congrArg some (by kernel_rfl))⟩
  t0 := Tryz.underlying0
  a0 := Tryz.isAgg0
  z0 := Tryz.sizeOf0
  v0 := Tryz.zeroValue0
  t24 := Tryz.underlying45
  a24 := Tryz.isAgg45
  z24 := Tryz.sizeOf45
  v24 := Tryz.zeroValue45
  t26 := Tryz.underlying3
  a26 := Tryz.isAgg3
  z26 := Tryz.sizeOf3
  v26 := Tryz.zeroValue3
  t28 := Tryz.underlying80
  a28 := Tryz.isAgg80
  z28 := Tryz.sizeOf80
  v28 := Tryz.zeroValue80
  i26 := by kernel_rfl }
def Tryz.sortA_ren : Go.Shelf.Ren := ⟨fun | 5 => 62 | 8 => 110 | 7 => 109 | 19 => 158 | 20 => 116 | 10 => 149 | 11 => 150 | 12 => 151 | 13 => 152 | 14 => 153 | 15 => 154 | 16 => 155 | 17 => 156 | 18 => 157 | 30 => 194 | 31 => 195 | 32 => 196 | 33 => 197 | 34 => 198 | 35 => 199 | 40 => 228 | n => n, fun | 23 => 45 | 25 => 3 | 3 => 3 | 32 => 160 | 22 => 45 | 0 => 0 | 44 => 73 | 46 => 22 | 4 => 4 | 36 => 272 | 35 => 271 | 41 => 277 | 5 => 5 | 9 => 9 | 53 => 330 | 57 => 334 | 63 => 355 | 64 => 356 | n => n, fun | n => n⟩
theorem Tryz.sortA : Go.Proofs.SlLaysM.n5 Tryz.prog Tryz.sortA_ren := {
 mixed := by kernel_rfl
 f5 := ⟨Tryz.f62.name, by decide, Tryz.func62.trans (congrArg some (by kernel_rfl))⟩
 f7 := ⟨Tryz.f109.name, by decide, Tryz.func109.trans (congrArg some (by kernel_rfl))⟩
 f8 := Tryz.func110.trans (congrArg some (by kernel_rfl))
 f10 := ⟨Tryz.f149.name, by decide, Tryz.func149.trans (congrArg some (by kernel_rfl))⟩
 f11 := ⟨Tryz.f150.name, by decide, Tryz.func150.trans (congrArg some (by kernel_rfl))⟩
 f12 := ⟨Tryz.f151.name, by decide, Tryz.func151.trans (congrArg some (by kernel_rfl))⟩
 f13 := ⟨Tryz.f152.name, by decide, Tryz.func152.trans (congrArg some (by kernel_rfl))⟩
 f14 := ⟨Tryz.f153.name, by decide, Tryz.func153.trans (congrArg some (by kernel_rfl))⟩
 f15 := ⟨Tryz.f154.name, by decide, Tryz.func154.trans (congrArg some (by kernel_rfl))⟩
 f16 := ⟨Tryz.f155.name, by decide, Tryz.func155.trans (congrArg some (by kernel_rfl))⟩
 f17 := ⟨Tryz.f156.name, by decide, Tryz.func156.trans (congrArg some (by kernel_rfl))⟩
 f18 := ⟨Tryz.f157.name, by decide, Tryz.func157.trans (congrArg some (by kernel_rfl))⟩
 f19 := Tryz.func158.trans (congrArg some (by kernel_rfl))
 f20 := Tryz.func116.trans (congrArg some (by kernel_rfl))
 f30 := ⟨Tryz.f194.name, by decide, Tryz.func194.trans (congrArg some (by kernel_rfl))⟩
 f31 := Tryz.func195.trans (congrArg some (by kernel_rfl))
 f32 := Tryz.func196.trans (congrArg some (by kernel_rfl))
 f33 := ⟨Tryz.f197.name, by decide, Tryz.func197.trans (congrArg some (by kernel_rfl))⟩
 f34 := ⟨Tryz.f198.name, by decide, Tryz.func198.trans (congrArg some (by kernel_rfl))⟩
 f35 := ⟨Tryz.f199.name, by decide, Tryz.func199.trans (congrArg some (by kernel_rfl))⟩
 f40 := ⟨Tryz.f228.name, by decide, Tryz.func228.trans (congrArg some (by kernel_rfl))⟩
 t0 := Tryz.underlying0
 a0 := Tryz.isAgg0
 z0 := Tryz.sizeOf0
 v0 := Tryz.zeroValue0
 t3 := Tryz.underlying3
 a3 := Tryz.isAgg3
 z3 := Tryz.sizeOf3
 v3 := Tryz.zeroValue3
 t4 := Tryz.underlying4
 a4 := Tryz.isAgg4
 z4 := Tryz.sizeOf4
 v4 := Tryz.zeroValue4
 t5 := Tryz.underlying5
 a5 := Tryz.isAgg5
 z5 := Tryz.sizeOf5
 v5 := Tryz.zeroValue5
 t9 := Tryz.underlying9
 a9 := Tryz.isAgg9
 z9 := Tryz.sizeOf9
 v9 := Tryz.zeroValue9
 t22 := Tryz.underlying45
 a22 := Tryz.isAgg45
 z22 := Tryz.sizeOf45
 v22 := Tryz.zeroValue45
 t23 := Tryz.underlying45
 a23 := Tryz.isAgg45
 z23 := Tryz.sizeOf45
 v23 := Tryz.zeroValue45
 t25 := Tryz.underlying3
 a25 := Tryz.isAgg3
 z25 := Tryz.sizeOf3
 v25 := Tryz.zeroValue3
 t32 := Tryz.underlying160
 a32 := Tryz.isAgg160
 z32 := Tryz.sizeOf160
 v32 := Tryz.zeroValue160
 t35 := Tryz.underlying271
 a35 := Tryz.isAgg271
 z35 := Tryz.sizeOf271
 v35 := Tryz.zeroValue271
 t36 := Tryz.underlying272
 a36 := Tryz.isAgg272
 z36 := Tryz.sizeOf272
 v36 := Tryz.zeroValue272
 t41 := Tryz.underlying277
 a41 := Tryz.isAgg277
 z41 := Tryz.sizeOf277
 v41 := Tryz.zeroValue277
 t44 := Tryz.underlying73
 a44 := Tryz.isAgg73
 z44 := Tryz.sizeOf73
 v44 := Tryz.zeroValue73
 t46 := Tryz.underlying22
 a46 := Tryz.isAgg22
 z46 := Tryz.sizeOf22
 v46 := Tryz.zeroValue22
 t53 := Tryz.underlying330
 a53 := Tryz.isAgg330
 z53 := Tryz.sizeOf330
 v53 := Tryz.zeroValue330
 t57 := Tryz.underlying334
 a57 := Tryz.isAgg334
 z57 := Tryz.sizeOf334
 v57 := Tryz.zeroValue334
 t63 := Tryz.underlying355
 a63 := Tryz.isAgg355
 z63 := Tryz.sizeOf355
 v63 := Tryz.zeroValue355
 t64 := Tryz.underlying356
 a64 := Tryz.isAgg356
 z64 := Tryz.sizeOf356
 v64 := Tryz.zeroValue356 }
end Go.Proofs


namespace Go.Proofs.YtfeficdndjiijaaGreatDoor
open Go.RowKit Go.Maps Go.Sort Go.Shelf
set_option linter.unusedVariables false
set_option linter.unusedSimpArgs false

theorem sortsA (m : Nat) : AnyZI.SortsIn Tryz.prog Tryz.sortedA_ren Fence.wide m :=
  ⟨fun blk off cap ss W hH hblk hsz => callsIn_wide.2 (AnyM.slices_Sort_int Tryz.sortA blk off cap ss W hH hblk hsz),
   fun p cap W => callsIn_wide.2 (AnyM.slices_Sort_int_none Tryz.sortA p cap W)⟩
theorem AggIs.keyIn {w : World} {b n : Nat} {D : DataW Unit} (ho : w.ownsMap Tryz.prog 3 thElem b n D) (hD : ∀ h : Int, In64 h → has D (.int .i64 h) = decide (1 ≤ h ∧ h ≤ (n : Int))) : ∀ x ∈ intKeys D, 1 ≤ x ∧ x ≤ (n : Int) := by
  obtain ⟨es, rfl, hko⟩ := ho.keysOf
  intro x hx
  obtain ⟨p, hp, rfl⟩ := List.mem_map.1 hx
  obtain ⟨v, hv⟩ := hko p hp
  obtain ⟨y, _, hy, hl⟩ := Maps.keyOf_i64 Tryz.underlying3 hv
  have hin : In64 y := by
    simp [Lit.wf, IntKind.min, IntKind.max, IntKind.signed, IntKind.bits] at hl
    unfold In64
    omega
  have h1 := hD y hin
  have h2 : has (.map es) (.int .i64 y) = true := by
    rw [has_eq, List.any_eq_true]
    exact ⟨p, hp, by rw [hy]; simp [Lit.sameKey]⟩
  rw [h2] at h1
  have h3 := of_decide_eq_true h1.symm
  rw [hy]
  exact h3
theorem len_keys {w : World} {b n : Nat} {D : DataW Unit} (ho : w.ownsMap Tryz.prog 3 thElem b n D) : (intKeys D).length = Maps.size D := by
  obtain ⟨es, rfl, hko⟩ := ho.keysOf
  simp [intKeys, Maps.size]
set_option maxRecDepth 100000 in
set_option maxHeartbeats 2000000 in
theorem handles_any (w : World) (A b n : Nat) (T : Nat → Option Nat × Option Nat) (h : AggIs w A b n T) (hn : n ≤ 100) :
  Calls Tryz.prog 14 #[.pointer (some ⟨A, 0, none⟩)] w fun e w' => ∃ (v : Value) (ss : List Int), e = .returned v ∧ ss.length = n ∧ (∀ x ∈ ss, 1 ≤ x ∧ x ≤ (n : Int)) ∧
   IntsAt w' v ss ∧ Below w.heap.size w w' := by
 obtain ⟨h1, D, hown, hsz, hD⟩ := h
 have HK := Lib.hid (AggIs.keyIn hown (fun h h0 => (hD h h0).1))
 have HL := Lib.hid (len_keys hown)
 have HS := Lib.hid hsz
 have c0 := h1.cell 0
 simp at c0
 refine (callsIn_wide (n := 6)).1 ?_
 have hbl := hown.lt
 have hmax : Maps.size D ≤ maxLen := by unfold maxLen; omega
 have hbytes : Maps.size D * 8 ≤ 140737488355328 := by omega
 have hseq : SeqGives Fence.wide 2 Tryz.prog 63 #[.pointer (some ⟨w.heap.size, 0, none⟩)] encZ (fun ss => ss.Perm (intKeys D)) (Maps.size D) (w.alloc (.cells #[.map (some b)] 75)) :=
  AnyZI.keys_gives (ρ := Tryz.keysA_ren) { Tryz.keysA with } Fence.wide _ trivial rfl (by omega) w.heap.size b n D _ (by simp) (by simp) (by
   obtain ⟨es, clock, hb, Ft, hs, hD⟩ := hown
   exact ⟨es, clock, (Below.heap_alloc _ _ b hbl).trans hb, Ft, hs, hD⟩)
 have cK : ∀ mb W, CallsIn Fence.wide 5 Tryz.prog 30 #[.map mb] W fun e w' => e = .returned (.func (.func 63) #[] #[.pointer (some ⟨W.heap.size, 0, none⟩)]) ∧ w' = W.alloc (.cells #[.map mb] 75) := fun mb W => AnyZI.keys_in Tryz.keysA Fence.wide 5 trivial rfl mb W
 have cS := AnyZI.sorted_in Tryz.sortedA Fence.wide 5 trivial trivial trivial trivial rfl (by omega) (sortsA _) (enters_of Tryz.func62 (by kernel_rfl) rfl) 63 #[.pointer (some ⟨w.heap.size, 0, none⟩)] trivial (enters_of Tryz.func63 (by kernel_rfl) rfl) _ _ hmax hbytes _ hseq
 change CallsIn _ _ Tryz.prog 29 _ _ _ at cS
 have hfK : Fence.wide.fn 30 := trivial
 have hfS : Fence.wide.fn 29 := trivial
 clear hseq hmax hbytes hsz hD hown h1
 refine callsIn_of_wp Tryz.func14 rfl trivial ?_ rfl
 simp only [Tryz.ntmps14, List.size_toArray, List.length_cons, List.length_nil, Nat.reduceAdd, Nat.reduceSub, Array.replicate_succ, Array.replicate_zero, List.push_toArray, List.append_toArray, List.nil_append, List.cons_append]
 gi_wp2_with (first
  | (gi_at_call 30; refine (cK _ _).mono ?_; rintro e w' ⟨rfl, rfl⟩)
  | (gi_at_call 29; refine cS.mono ?_; rintro e w' ⟨v, ss, rfl, hS, hrow, hnil, hb⟩))
 go_ret
 have hlen : ss.length = n := by rw [hS.length_eq, HL.out, HS.out]
 refine ⟨v, ss.mergeSort (fun x y => decide (x ≤ y)), rfl, ?_, fun x hx => ?_, ?_, ((Below.refl _ w).alloc (Nat.le_refl _) _).trans (hb.mono (by simp))⟩
 ·rw [List.length_mergeSort, hlen]
 ·exact HK.out x (hS.mem_iff.1 (List.mem_mergeSort.1 hx))
 ·refine IntsAt.of_own (n := ss.length) (ownsRow_base_a hrow (Nat.zero_le _)) (by rw [List.length_mergeSort])
end Go.Proofs.YtfeficdndjiijaaGreatDoor


namespace Go.Proofs.YtfeficdndjiijaaGreatDoor
open Go.RowKit
set_option linter.unusedVariables false
set_option linter.unusedSimpArgs false

def putN (u : Nat) : List Int := if h : u < 128 then [(u : Int)] else ((128 + u % 128 : Nat) : Int) :: putN (u / 128)
termination_by u
decreasing_by omega
theorem putN_lt {u : Nat} (h : u < 128) : putN u = [(u : Int)] := by rw [putN, dif_pos h]
theorem putN_ge {u : Nat} (h : ¬ u < 128) : putN u = ((128 + u % 128 : Nat) : Int) :: putN (u / 128) := by rw [putN, dif_neg h]
def valL : List Int → Nat
  | [] => 0
  | x :: l => x.toNat % 128 + 128 * valL l
def VL : List Int → Prop
  | [] => False
  | x :: l => if l = [] then 0 ≤ x ∧ x < 128 else 128 ≤ x ∧ x ≤ 255 ∧ VL l ∧ l ≠ [0]
theorem putN_ne (u : Nat) : putN u ≠ [] := by
  by_cases h : u < 128
  · rw [putN_lt h]; simp
  · rw [putN_ge h]; simp
theorem putN_val (u : Nat) : valL (putN u) = u := by
  induction u using Nat.strongRecOn with
  | ind u ih =>
    by_cases h : u < 128
    · rw [putN_lt h]; simp [valL]; omega
    · rw [putN_ge h, valL, ih _ (by omega)]; omega
theorem putN_inj {u v : Nat} (h : putN u = putN v) : u = v := by rw [← putN_val u, h, putN_val]
theorem putN_zero {u : Nat} (h : putN u = [0]) : u = 0 := by rw [← putN_val u, h]; rfl
theorem putN_VL (u : Nat) : VL (putN u) := by
  induction u using Nat.strongRecOn with
  | ind u ih =>
    by_cases h : u < 128
    · rw [putN_lt h]; simp [VL]; omega
    · rw [putN_ge h, VL, if_neg (putN_ne _)]
      exact ⟨by omega, by omega, ih _ (by omega), fun e => by have := putN_zero e; omega⟩
theorem VL_byts {l : List Int} (h : VL l) : Byts l := by
  induction l with
  | nil => exact Byts.nil
  | cons x l ih =>
    unfold VL at h
    intro u hu
    by_cases hl : l = []
    · rw [if_pos hl] at h
      subst hl
      simp at hu
      subst hu
      omega
    · rw [if_neg hl] at h
      rcases List.mem_cons.1 hu with rfl | hu
      · omega
      · exact ih h.2.2.1 u hu
theorem putN_byts (u : Nat) : Byts (putN u) := VL_byts (putN_VL u)
theorem VL_marks {l : List Int} (h : VL l) : ∀ k, (k + 1 < l.length → 128 ≤ cellD l k ∧ cellD l k ≤ 255) ∧ (k + 1 = l.length → 0 ≤ cellD l k ∧ cellD l k < 128) := by
  induction l with
  | nil => exact absurd h (by simp [VL])
  | cons x l ih =>
    unfold VL at h
    intro k
    by_cases hl : l = []
    · rw [if_pos hl] at h
      subst hl
      refine ⟨fun hk => by simp at hk, fun hk => ?_⟩
      have : k = 0 := by simpa using hk
      subst this
      simpa [cellD] using h
    · rw [if_neg hl] at h
      cases k with
      | zero => exact ⟨fun _ => by simpa [cellD] using ⟨h.1, h.2.1⟩, fun hk => by
          have : l.length = 0 := by simpa using hk.symm
          exact absurd (List.eq_nil_of_length_eq_zero this) hl⟩
      | succ k =>
        have := ih h.2.2.1 k
        refine ⟨fun hk => ?_, fun hk => ?_⟩
        · have := this.1 (by simpa using hk)
          simpa [cellD] using this
        · have := this.2 (by simpa using hk)
          simpa [cellD] using this
theorem VL_last {l : List Int} (h : VL l) (h1 : 1 < l.length) : cellD l (l.length - 1) ≠ 0 := by
  induction l with
  | nil => simp at h1
  | cons x l ih =>
    unfold VL at h
    have hl : l ≠ [] := fun e => by subst e; simp at h1
    rw [if_neg hl] at h
    obtain ⟨h2, h3, h4, h5⟩ := h
    obtain ⟨y, m, rfl⟩ : ∃ y m, l = y :: m := by
      cases l with
      | nil => exact absurd rfl hl
      | cons y m => exact ⟨y, m, rfl⟩
    cases m with
    | nil =>
      simp [cellD]
      intro e
      exact h5 (by rw [e])
    | cons z m =>
      have := ih h4 (by simp)
      simpa [cellD] using this
theorem VL_prefix {l m r s : List Int} (h1 : VL l) (h2 : VL m) (h : l ++ r = m ++ s) : l = m := by
  induction l generalizing m with
  | nil => exact absurd h1 (by simp [VL])
  | cons x l ih =>
    cases m with
    | nil => exact absurd h2 (by simp [VL])
    | cons y m =>
      simp only [List.cons_append, List.cons.injEq] at h
      obtain ⟨rfl, h⟩ := h
      unfold VL at h1 h2
      by_cases hl : l = []
      · rw [if_pos hl] at h1
        by_cases hm : m = []
        · rw [hl, hm]
        · rw [if_neg hm] at h2; omega
      · rw [if_neg hl] at h1
        by_cases hm : m = []
        · rw [if_pos hm] at h2; omega
        · rw [if_neg hm] at h2
          rw [ih h1.2.2.1 h2.2.2.1 h]
def TakeS (bs : List Int) (u n : Nat) : Prop := u < 18446744073709551616 ∧ n = (putN u).length ∧ ∃ r, bs = putN u ++ r
theorem TakeS.unique {bs : List Int} {u v n m : Nat} (h : TakeS bs u n) (k : TakeS bs v m) : u = v ∧ n = m := by
  obtain ⟨-, h2, r, h3⟩ := h
  obtain ⟨-, k2, s, k3⟩ := k
  have := VL_prefix (putN_VL u) (putN_VL v) (by rw [← h3, k3])
  have e := putN_inj this
  subst e
  exact ⟨rfl, by omega⟩
theorem putN_len {u : Nat} : ∀ {k : Nat}, u < 128 ^ (k + 1) → (putN u).length ≤ k + 1 := by
  induction u using Nat.strongRecOn with
  | ind u ih =>
    intro k hu
    by_cases h : u < 128
    · rw [putN_lt h]; simp
    · rw [putN_ge h]
      cases k with
      | zero => omega
      | succ k =>
        have := ih (u / 128) (by omega) (k := k) (by rw [Nat.pow_succ] at hu; exact Nat.div_lt_of_lt_mul (by rw [Nat.mul_comm]; exact hu))
        simp only [List.length_cons]
        omega
theorem putN_len10 {u : Nat} (h : u < 18446744073709551616) : (putN u).length ≤ 10 := putN_len (k := 9) (by omega)
theorem putN_pos (u : Nat) : 1 ≤ (putN u).length := by
  cases h : putN u with
  | nil => exact absurd h (putN_ne u)
  | cons x l => simp
end Go.Proofs.YtfeficdndjiijaaGreatDoor


namespace Go.Proofs.YtfeficdndjiijaaGreatDoor
open Go.RowKit
set_option linter.unusedVariables false
set_option linter.unusedSimpArgs false

theorem nw_ofInt (x : BitVec 32) : BitVec.ofInt 32 (nw x) = x := bw_nw x
theorem wrap_nw (x : BitVec 32) : IntKind.u32.wrap (nw x) = nw x := by rw [wrap_bw, bw_nw]
theorem xor_nw (x y : BitVec 32) : bits BinOp.xor IntKind.u32 (nw x) (nw y) = nw (x ^^^ y) := by
  show IntKind.u32.wrap ((BitVec.ofInt 32 (nw x) ^^^ BitVec.ofInt 32 (nw y)).toNat : Int) = _
  rw [nw_ofInt, nw_ofInt]
  exact wrap_nw (x ^^^ y)
theorem and_nw (x y : BitVec 32) : bits BinOp.and IntKind.u32 (nw x) (nw y) = nw (x &&& y) := by
  show IntKind.u32.wrap ((BitVec.ofInt 32 (nw x) &&& BitVec.ofInt 32 (nw y)).toNat : Int) = _
  rw [nw_ofInt, nw_ofInt]
  exact wrap_nw (x &&& y)
theorem shr_nw (x : BitVec 32) (k : Nat) : nw x / ((2 ^ k : Nat) : Int) = nw (x >>> k) := by
  unfold nw
  rw [BitVec.toNat_ushiftRight, Nat.shiftRight_eq_div_pow]
  exact (Int.natCast_ediv ..).symm
theorem ones_nw : (4294967295 : Int) = nw (~~~ 0#32) := by decide +kernel
theorem not_nw (x : BitVec 32) : bits BinOp.xor IntKind.u32 (nw x) 4294967295 = nw (~~~ x) := by
  rw [ones_nw, xor_nw]
  congr 1
  apply BitVec.eq_of_getLsbD_eq
  intro i hi
  have h : ∀ i, i < 32 → (~~~ 0#32).getLsbD i = true := by decide +kernel
  rw [BitVec.getLsbD_xor, h i hi, BitVec.getLsbD_not]
  simp [hi]
theorem crcL_take {bs : List Int} {r : BitVec 32} {j : Nat} (h : j < bs.length) : crcL r (bs.take (j + 1)) = stepN 8 (crcL r (bs.take j) ^^^ bw (cellD bs j)) := by
  have e : bs[j]? = some (cellD bs j) := by simp [cellD, h]
  rw [List.take_add_one, e, crcL_append]
  rfl
theorem BytesAt.cell {w : World} {ao : Option Addr} {n cap : Nat} {bs : List Int} (h : BytesAt w (.slice ao n cap) bs) {j : Nat} (hj : j < bs.length) : ∃ g off, ao = some ⟨g, off, none⟩ ∧ g < w.heap.size ∧ w.cell? ⟨g, off + j, none⟩ = some (.int .u8 (cellD bs j)) := by
  obtain ⟨ao2, cap2, e, h1, h2, h3⟩ := h
  simp only [Value.slice.injEq] at e
  obtain ⟨rfl, -, rfl⟩ := e
  rcases h3 with ⟨rfl, rfl⟩ | ⟨g, off, rfl, hg, hcc⟩
  · simp at hj
  · exact ⟨g, off, rfl, hg, hcc j _ (by simp [cellD, hj])⟩
theorem and1_nw (y : BitVec 32) : bits BinOp.and IntKind.u32 (nw y) 1 = if y.getLsbD 0 then 1 else 0 := by
  have h1 : (1 : Int) = nw 1#32 := by decide +kernel
  conv => lhs; rw [h1]
  rw [and_nw]
  have h2 : y &&& 1#32 = if y.getLsbD 0 then 1#32 else 0#32 := by
    apply BitVec.eq_of_getLsbD_eq
    intro i hi
    rw [BitVec.getLsbD_and]
    by_cases hi0 : i = 0
    · subst hi0
      cases h : y.getLsbD 0 <;> simp
    · have : (1#32).getLsbD i = false := by simp [hi0]
      rw [this, Bool.and_false]
      split <;> simp [hi0]
  rw [h2]
  split <;> decide +kernel
theorem step_mul (y : BitVec 32) : bits BinOp.xor IntKind.u32 (nw y / 2) (3988292384 * bits BinOp.and IntKind.u32 (nw y) 1 % 4294967296) = nw (step1 y) := by
  have h2 : nw y / (2 : Int) = nw (y >>> 1) := by have := shr_nw y 1; simpa using this
  rw [and1_nw, h2]
  unfold step1
  split
  · rw [show (3988292384 : Int) * 1 % 4294967296 = nw PO by decide +kernel, xor_nw]
  · rw [show (3988292384 : Int) * 0 % 4294967296 = nw 0#32 by decide +kernel, xor_nw]
def tabI (k : Nat) : Int := nw (stepN 8 (BitVec.ofNat 32 k))
def tabA : Array Value := ((List.range 256).map fun k => Value.int .u32 (tabI k)).toArray
theorem tabA_size : tabA.size = 256 := by simp [tabA]
theorem tabA_get (i : Nat) (h : i < 256) : tabA[i]? = some (.int .u32 (tabI i)) := by simp [tabA, h]
theorem tabA_one : tabA.all (·.oneCell') = true := by
  rw [Array.all_eq_true_iff_forall_mem]
  intro v hv
  simp [tabA] at hv
  obtain ⟨a, _, rfl⟩ := hv
  rfl
theorem tab_info : (Tryz.prog.info? 226).map (·.size) = some tabA.size := by rw [tabA_size]; kernel_rfl
theorem zero_row (w : World) : (w.alloc (.cells Tryz.zeroCells226 226)).rowIs w.heap.size 226 256 (fun _ => .int .u32 0) := by
  have h : Tryz.zeroCells226 = Array.replicate 256 (.int .u32 0) := by kernel_rfl
  refine ⟨_, Blk.new w _ _, Tryz.zeroCells226_size, fun i hi => ?_⟩
  rw [h]
  simp [hi]
set_option maxRecDepth 100000 in
set_option maxHeartbeats 4000000 in
theorem csteps_any (w : World) :
  Calls Tryz.prog 111 #[] w fun e w' => e = .returned (.agg tabA) ∧ Below w.heap.size w w' := by
 have hz := zero_row w
 have hb : Below w.heap.size w (w.alloc (.cells Tryz.zeroCells226 226)) := (Below.refl _ _).alloc (Nat.le_refl _) _
 go_enter Tryz.func111, Tryz.ntmps111
 go_wp2_with fail
 generalize (w.alloc (.cells Tryz.zeroCells226 226)) = wz at *
 generalize hA : w.heap.size = A at *
 have HA := Lib.hid hA
 have HZ := Lib.hid hz
 have HB := Lib.hid hb
 clear hA hz hb
 go_loopw [3] (fun i wr => ∃ j : Nat, j ≤ 256 ∧ i = .int .i64 (j : Int) ∧ wr.rowIs A 226 256 (fun k => .int .u32 (if k < j then tabI k else 0)) ∧ Below A w wr) (fun i _ => 256 - (intOf i).toNat)
 case atStart => exact ⟨0, by omega, rfl, HZ.out.congr (fun k _ => by simp), HB.out⟩
 case round =>
  obtain ⟨j, hj, rfl, hrow, hbel⟩ := hrel
  clear HZ HB
  have HR := Lib.hid hrow
  have HB := Lib.hid hbel
  clear hrow hbel
  by_cases hlt : j < 256
  ·have e1 : IntKind.u32.wrap (j : Int) = nw (BitVec.ofNat 32 j) := by rw [wrap_bw]; rfl
   have i0 : (0 : Int) ≤ (j : Int) := by omega
   have i1 : (j : Int) < 256 := by omega
   have ht : nw (stepN 8 (BitVec.ofNat 32 j)) = tabI j := rfl
   have HT := Lib.hid ht
   clear ht
   generalize BitVec.ofNat 32 j = x at *
   go_wp2_with fail
   go_loop [2, 8] (fun r i => ∃ k : Nat, k ≤ 8 ∧ i = .int .i64 (k : Int) ∧ r = .int .u32 (nw (stepN k x))) (fun _ i => 8 - (intOf i).toNat)
   case atStart => exact ⟨0, by omega, rfl, by first | rfl | (rw [e1]; rfl)⟩
   case round =>
    obtain ⟨k, hk, rfl, rfl⟩ := hrel
    by_cases hlk : k < 8
    ·have HS : Hid (stepN (k + 1) x = step1 (stepN k x)) := Lib.hid rfl
     have g1 := step_mul (stepN k x)
     generalize stepN k x = y at *
     go_wp2
     go_round
     case rel => exact ⟨k + 1, by omega, by go_num, by first | rw [HS.out] | rw [HS.out, g1]⟩
     case measure => simp [intOf]; omega
    ·obtain rfl : k = 8 := by omega
     have hfz := HR.out.frozen j
     have hcz := HR.out.cell hlt
     have HSET := Lib.hid (HR.out.set j (.int .u32 (nw (stepN 8 x))))
     generalize nw (stepN 8 x) = z at *
     clear e1
     go_wp2
     go_roundw
     case rel => exact ⟨j + 1, by omega, by go_num, HSET.out.congr (fun k hk => by
      by_cases e : k = j
      ·subst e; simp [HT.out]
      ·rw [if_neg e]; by_cases h : k < j
       ·rw [if_pos h, if_pos (by omega)]
       ·rw [if_neg h, if_neg (by omega)]), HB.out.setCell (Nat.le_refl _) _⟩
     case measure => simp [intOf]; omega
  ·obtain rfl : j = 256 := by omega
   have hblk : Blk wr A 226 tabA := Blk.of_row (by rw [tabA_size]; exact HR.out) (fun i hi => by rw [tabA_size] at hi; rw [tabA_get i hi, if_pos hi])
   have HBK := Lib.hid hblk
   have HIn := tab_info
   go_wp2_with (first | refine wpList_load_row rfl 226 _ rfl A rfl 226 tabA (0, 0) _ HBK.out Tryz.underlying226 rfl HIn ?_ | refine wpList_store_row rfl 226 _ _ rfl A tabA rfl rfl 226 _ HBK.out HIn (by rfl) tabA_one ?_)
   have HZ9 : (wr.setRow A tabA).heap[A]? = some (.cells tabA 226 (0, 0)) := setRow_heap wr A _ _ _ _ HBK.out
   have HB9 : Below A w (wr.setRow A tabA) := HB.out.trans ⟨rfl, rfl, rfl, by simp, fun k hk => setRow_other wr A k tabA (by omega)⟩
   generalize wr.setRow A tabA = w9 at *
   exact bodyPost_ret (results_cell_row rfl _ _ A 226 tabA (0, 0) _ rfl HZ9 Tryz.underlying226 rfl HIn) rfl ⟨rfl, by rw [HA.out]; exact HB9⟩
end Go.Proofs.YtfeficdndjiijaaGreatDoor


namespace Go.Proofs.YtfeficdndjiijaaGreatDoor
open Go.RowKit
set_option linter.unusedVariables false
set_option linter.unusedSimpArgs false

theorem not_form (x : BitVec 32) : bits BinOp.xor IntKind.u32 (if IntKind.u32.signed = true then -1 else IntKind.u32.max) (nw x) = nw (~~~ x) := by
  have h : (if IntKind.u32.signed = true then -1 else IntKind.u32.max) = (4294967295 : Int) := by decide +kernel
  rw [h, ← not_nw]
  show IntKind.u32.wrap ((BitVec.ofInt 32 4294967295 ^^^ BitVec.ofInt 32 (nw x)).toNat : Int) = IntKind.u32.wrap ((BitVec.ofInt 32 (nw x) ^^^ BitVec.ofInt 32 4294967295).toNat : Int)
  rw [BitVec.xor_comm]
def qI (r : BitVec 32) (x : Int) : Nat := ((r ^^^ bw x) &&& 255#32).toNat
theorem qI_lt (r : BitVec 32) (x : Int) : qI r x < 256 := by
  unfold qI
  rw [BitVec.toNat_and]
  exact Nat.lt_of_le_of_lt Nat.and_le_right (by decide)
theorem qI_val (r : BitVec 32) (x : Int) (hx : 0 ≤ x ∧ x ≤ 255) : bits BinOp.xor IntKind.u8 (IntKind.u8.wrap (nw r)) x = (qI r x : Int) := by
 obtain ⟨n, rfl⟩ := Int.eq_ofNat_of_zero_le hx.1
 have hn : n ≤ 255 := by omega
 have ha : IntKind.u8.wrap (nw r) = ((r.toNat % 256 : Nat) : Int) := by
  unfold nw
  simp [IntKind.wrap, IntKind.bits, IntKind.signed]
 have hr : r.toNat % 256 < 256 := Nat.mod_lt _ (by decide)
 have e1 : BitVec.ofInt 8 ((r.toNat % 256 : Nat) : Int) = BitVec.ofNat 8 (r.toNat % 256) := BitVec.ofInt_natCast ..
 have e2 : BitVec.ofInt 8 (n : Int) = BitVec.ofNat 8 n := BitVec.ofInt_natCast ..
 rw [ha]
 show IntKind.u8.wrap ((BitVec.ofInt 8 ((r.toNat % 256 : Nat) : Int) ^^^ BitVec.ofInt 8 (n : Int)).toNat : Int) = _
 rw [e1, e2, BitVec.toNat_xor, BitVec.toNat_ofNat, BitVec.toNat_ofNat]
 have h8 : (2 : Nat) ^ 8 = 256 := rfl
 rw [h8, Nat.mod_mod, Nat.mod_eq_of_lt (show n < 256 by omega)]
 have hq : qI r (n : Int) = (r.toNat % 256) ^^^ n := by
  unfold qI
  rw [BitVec.toNat_and, BitVec.toNat_xor]
  have : (bw (n : Int)).toNat = n := by
   unfold bw
   rw [BitVec.toNat_ofInt]
   omega
  rw [this, show (255#32).toNat = 2 ^ 8 - 1 from rfl, Nat.and_two_pow_sub_one_eq_mod, Nat.xor_mod_two_pow, h8, Nat.mod_eq_of_lt (show n < 256 by omega)]
 rw [hq]
 have hlt : (r.toNat % 256) ^^^ n < 256 := by rw [← h8]; exact Nat.xor_lt_two_pow (by omega) (by omega)
 simp [IntKind.wrap, IntKind.bits, IntKind.signed]
 omega
theorem crcB_q (r : BitVec 32) (x : Int) (hx : 0 ≤ x ∧ x ≤ 255) : bits BinOp.xor IntKind.u32 (nw (r >>> 8)) (tabI (qI r x)) = nw (crcB r (bw x)) := by
  have h := crcB_table r (bw x) (by have := nw_bw x hx.1 (by omega); unfold nw at this; omega)
  unfold tabI
  rw [xor_nw, h]
  congr 3
  unfold qI
  rw [BitVec.ofNat_toNat, BitVec.setWidth_eq]
set_option maxRecDepth 100000 in
set_option maxHeartbeats 4000000 in
theorem estep_any (w : World) (x : Int) (r : BitVec 32) (RB TB : Nat) (hx : 0 ≤ x ∧ x ≤ 255) (hR : Blk w RB 73 #[.int .u32 (nw r)]) (hT : Blk w TB 226 tabA) :
  Calls Tryz.prog 112 #[.int .u8 x, .pointer (some ⟨RB, 0, none⟩), .pointer (some ⟨TB, 0, none⟩)] w fun e w' => (∃ v, e = .returned v) ∧ w' = (w.drewN 1).setCell ⟨RB, 0, none⟩ (.int .u32 (nw (crcB r (bw x)))) := by
 have e1 := qI_val r x hx
 have e2 := crcB_q r x hx
 have hq := qI_lt r x
 have e3 : (0 : Int) ≤ (qI r x : Int) := by omega
 have e4 : (qI r x : Int) < 256 := by omega
 have e5 : nw r / (256 : Int) = nw (r >>> 8) := by have := shr_nw r 8; simpa using this
 have HR := Lib.hid hR
 have HT := Lib.hid hT
 have ct := (hT.cell (qI r x)).trans (tabA_get _ hq)
 have c0 := hR.cell 0
 have f0 := hR.frozen 0
 simp at c0
 clear hR hT hq
 generalize qI r x = q at *
 generalize crcB r (bw x) = z at *
 generalize tabI q = tq at *
 go_enter Tryz.func112, Tryz.ntmps112
 go_wp2_with fail
 refine wp_region_still_tail 9 (by kernel_rfl) (by kernel_rfl) ?_
 simp only [List.take_succ_cons, List.take_zero, List.drop_succ_cons, List.drop_zero]
 have HWD : Hid (({ heap := w.heap, tape := w.tape, drawn := w.drawn + 1, os := w.os, output := w.output } : World) = w.drewN 1) := Lib.hid rfl
 change World.cell? { heap := w.heap, tape := w.tape, drawn := w.drawn + 1, os := w.os, output := w.output } _ = _ at c0 ct
 change World.frozen? { heap := w.heap, tape := w.tape, drawn := w.drawn + 1, os := w.os, output := w.output } _ = _ at f0
 generalize ({ heap := w.heap, tape := w.tape, drawn := w.drawn + 1, os := w.os, output := w.output } : World) = wd at *
 repeat still_step
 refine wpStill_nil ?_
 go_wp2
 (try simp only [Exit.inBlock, Exit.then])
 refine bodyPost_end (results_none rfl _ _ _) rfl ?_
 exact ⟨⟨_, rfl⟩, by rw [HWD.out]⟩
set_option maxRecDepth 100000 in
set_option maxHeartbeats 4000000 in
theorem extend_any (s : Int) (v : Value) (bs : List Int) (w : World) (hv : BytesAt w v bs) (hb : Byts bs) (h0 : 0 ≤ s) (h1 : s ≤ 4294967295) (hlen : bs.length ≤ 100000) :
  Calls Tryz.prog 64 #[.int .u32 s, v] w fun e w' => e = .returned (.int .u32 (sumI s bs)) ∧ Below w.heap.size w w' := by
 have PS := Lib.hid csteps_any
 have HV := Lib.hid hv
 obtain ⟨ao, cap, rfl, hcap, hmx, hc⟩ := hv
 obtain ⟨n, hn⟩ : ∃ n, n = bs.length := ⟨_, rfl⟩
 have HN := Lib.hid hn
 rw [← hn] at hcap hlen ⊢
 clear hc hn
 have HB := Lib.hid hb
 have hmf : ∀ (fn : Fn) (first cap : Array Value) (w : World), (Instr.makeFunc fn first cap).run Tryz.prog w = .ok (.func fn first cap) w := fun _ _ _ _ => rfl
 go_enter Tryz.func64, Tryz.ntmps64
 go_wp2_with fail
 with_reducible refine (PS.out _).mono ?_
 rintro e w2 ⟨rfl, hb⟩
 have HB2 := Lib.hid hb
 have HIn := tab_info
 have HZS : Hid (tabA.size = Tryz.zeroCells226.size) := Lib.hid (tabA_size.trans Tryz.zeroCells226_size.symm)
 have HZB := Lib.hid (Blk.new w2 226 Tryz.zeroCells226)
 go_upto_region 2 with (refine wpList_store_row rfl 226 _ _ rfl w2.heap.size tabA rfl rfl 226 Tryz.zeroCells226 HZB.out HIn HZS.out tabA_one ?_)
 have HT3 : Hid (Blk ((w2.alloc (.cells Tryz.zeroCells226 226)).setRow w2.heap.size tabA) w2.heap.size 226 tabA) := Lib.hid (setRow_heap _ _ _ _ _ _ HZB.out)
 have HB3 : Hid (Below w.heap.size w ((w2.alloc (.cells Tryz.zeroCells226 226)).setRow w2.heap.size tabA)) := Lib.hid ((HB2.out.alloc HB2.out.size _).trans ⟨rfl, rfl, rfl, by simp, fun k hk => setRow_other _ w2.heap.size k tabA (by have := HB2.out.size; omega)⟩)
 have HS3 : Hid (((w2.alloc (.cells Tryz.zeroCells226 226)).setRow w2.heap.size tabA).heap.size = w2.heap.size + 1) := Lib.hid (by simp)
 generalize ((w2.alloc (.cells Tryz.zeroCells226 226)).setRow w2.heap.size tabA) = w3 at *
 have HTL : Hid (w.heap.size ≤ w2.heap.size) := Lib.hid HB2.out.size
 generalize w2.heap.size = TB at *
 clear hb HIn HZS HZB HB2
 have e0 : bits BinOp.xor IntKind.u32 (if IntKind.u32.signed = true then -1 else IntKind.u32.max) s = nw (~~~ (bw s)) := by
  conv => lhs; rw [← nw_bw s h0 h1]
  exact not_form _
 generalize hx0 : ~~~ (bw s) = x0 at *
 have HX0 := Lib.hid hx0
 clear hx0
 go_upto_region 4 with fail
 have hRB : Blk (w3.alloc (.cells #[.int .u32 (nw x0)] 73)) w3.heap.size 73 #[.int .u32 (nw x0)] := Blk.new _ _ _
 have HRB := Lib.hid hRB
 have HT4 := Lib.hid (HT3.out.alloc (.cells #[.int .u32 (nw x0)] 73))
 have HB4 := Lib.hid (HB3.out.alloc HB3.out.size (.cells #[.int .u32 (nw x0)] 73))
 have HNE : Hid (w3.heap.size ≠ TB ∧ w.heap.size ≤ w3.heap.size) := Lib.hid ⟨by have := HT3.out.lt; omega, HB3.out.size⟩
 clear hRB e0 HS3
 generalize (w3.alloc (.cells #[.int .u32 (nw x0)] 73)) = w4 at *
 generalize w3.heap.size = RB at *
 go_wp2_with fail
 go_loopw [16] (fun i wr => ∃ j : Nat, j ≤ n ∧ i = .int .i64 (j : Int) ∧ Blk wr RB 73 #[.int .u32 (nw (crcL x0 (bs.take j)))] ∧ Blk wr TB 226 tabA ∧ Below w.heap.size w wr) (fun i _ => n - (intOf i).toNat)
 case atStart => exact ⟨0, by omega, rfl, HRB.out, HT4.out, HB4.out⟩
 case round =>
  obtain ⟨j, hj, rfl, hr, ht, hbel⟩ := hrel
  clear HRB HT4 HB4 HB3 HT3
  have HR := Lib.hid hr
  have HT := Lib.hid ht
  have HBL := Lib.hid hbel
  clear hr ht
  by_cases hlt : j < n
  ·have hjl : j < bs.length := by have := HN.out; omega
   have HNX := Lib.hid (crcL_take (r := x0) hjl)
   obtain ⟨g, off, rfl, hg, cx0⟩ := HV.out.cell hjl
   have cx := (hbel.cell (p := ⟨g, off + j, none⟩) hg).trans cx0
   have hb8 := HB.out.cellD j
   have i0 : (0 : Int) ≤ (j : Int) := by omega
   have i1 : (j : Int) < (n : Int) := by omega
   have PE := estep_any wr (cellD bs j) (crcL x0 (bs.take j)) RB TB hb8 HR.out HT.out
   have PE := Lib.hid PE
   generalize cellD bs j = u at *
   clear hjl cx0 hb8
   go_wp2_with fail
   with_reducible refine PE.out.mono ?_
   rintro e w5 ⟨⟨v5, rfl⟩, hw5⟩
   have hcr : crcB (crcL x0 (bs.take j)) (bw u) = crcL x0 (bs.take (j + 1)) := HNX.out.symm
   rw [hcr] at hw5
   have HR5 : Hid (Blk w5 RB 73 #[.int .u32 (nw (crcL x0 (bs.take (j + 1))))]) := Lib.hid (by rw [hw5]; simpa using (HR.out.drewN 1).set_ 0 (.int .u32 (nw (crcL x0 (bs.take (j + 1))))))
   have HT5 : Hid (Blk w5 TB 226 tabA) := Lib.hid (by rw [hw5]; exact (HT.out.drewN 1).far (by have := HNE.out.1; simp; omega) _)
   have HB5 : Hid (Below w.heap.size w w5) := Lib.hid (by rw [hw5]; exact (below_drewN HBL.out 1).setCell HNE.out.2 _)
   clear hw5 hcr PE
   go_wp2
   go_roundw
   case rel => exact ⟨j + 1, by omega, by go_num, HR5.out, HT5.out, HB5.out⟩
   case measure => simp [intOf]; omega
  ·obtain rfl : j = n := by omega
   have ht : bs.take j = bs := List.take_of_length_le (by have := HN.out; omega)
   have HT2 := Lib.hid ht
   have c0 := HR.out.cell 0
   simp at c0
   rw [ht] at c0
   have HS : Hid (sumI s bs = nw (~~~ (crcL x0 bs))) := Lib.hid (by rw [← HX0.out]; rfl)
   have hnt := not_form (crcL x0 bs)
   generalize crcL x0 bs = x at *
   clear ht
   go_wp2
   go_ret
   exact ⟨congrArg (fun z => Ending.returned (.int .u32 z)) HS.out.symm, HBL.out⟩
theorem sum_any (v : Value) (bs : List Int) (w : World) (hv : BytesAt w v bs) (hb : Byts bs) (hlen : bs.length ≤ 100000) :
    Calls Tryz.prog 32 #[v] w fun e w' => e = .returned (.int .u32 (sumI 0 bs)) ∧ Below w.heap.size w w' := by
  have P := Lib.hid (extend_any 0 v bs w hv hb (by decide) (by decide) hlen)
  obtain ⟨ao, cap, rfl, hcap, hmx, hc⟩ := hv
  clear hc hlen
  generalize bs.length = n at *
  go_enter Tryz.func32, Tryz.ntmps32
  go_wp2_with fail
  with_reducible refine P.out.mono ?_
  rintro e w2 ⟨rfl, hb⟩
  have HB := Lib.hid hb
  clear hb
  go_wp2
  go_ret
  exact ⟨rfl, HB.out⟩
end Go.Proofs.YtfeficdndjiijaaGreatDoor

