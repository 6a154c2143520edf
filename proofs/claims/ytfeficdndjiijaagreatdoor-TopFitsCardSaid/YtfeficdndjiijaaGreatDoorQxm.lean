import Derived.Test.YtfeficdndjiijaaGreatDoorQxj
import Derived.Test.YtfeficdndjiijaaGreatDoorQxl
import Derived.Test.YtfeficdndjiijaaGreatDoorQxg
import Derived.Deep.Cut
import Derived.Test.YtfeficdndjiijaaGreatDoorQxd
import Derived.Test.YtfeficdndjiijaaGreatDoorQxi
import Derived.Test.YtfeficdndjiijaaGreatDoorQxb
import Derived.Test.YtfeficdndjiijaaGreatDoorQxk
import Derived.Test.YtfeficdndjiijaaGreatDoorQxe
/-
  Contracts of the functions that TopFits reaches, and the plain laws that it leans on. Conditions: none beyond those stated at each theorem.
-/
namespace Go.Proofs.YtfeficdndjiijaaGreatDoor
open Go.RowKit Go.Shelf
set_option linter.unusedVariables false
set_option linter.unusedSimpArgs false
attribute [local go_sem] Oper.semAt_some
theorem run_store_func {P : Program} {w : World} {a : Addr} {m : Mode} (fn : Fn) (f c : Array Value) : (store a (.func fn f c) m).run P w = stored P w a (.func fn f c) m := run_store P w a _ m rfl
attribute [local go_sem] run_store_func

section
variable {P : Program}
theorem wp_append_own_at {o : Oper} {a : Act} {w : World} {K : Act → World → Prop} {Q : Exit → Act → World → Prop} (s x : Operand) (t : TypeId)
  (ho : o.op = .call { callee := .builtin .append, args := #[s, x], argTypes := #[t, t] })
  (base : Nat) (e : TypeId) (i : TypeInfo) (z : Value) (size bytes : Nat) (ht : P.underlying t = some (.slice e)) (hi : P.info? e = some i) (hz : i.zero = some z)
  (hsize : i.size = size) (hby : i.bytes = bytes) (hzs : z.cells.size = size) (hsz : 0 < size)
  (v : Value) (n : Nat) (xs : List Value) (hs : a.eval s = v) (hown : w.ownsRow base e size v n xs)
  (ad : Addr) (m c : Nat) (news : List Value) (hx : a.eval x = .slice (some ad) m c) (hl : news.length = m * size) (hnews : ∀ j u, news[j]? = some u → w.cell? (ad.add j) = some u) (h1 : ∀ u ∈ news, u.oneCell' = true)
  (h63 : n + m ≤ maxLen) (hbytes : (n + m) * bytes ≤ 140737488355328) (hbase : base ≤ w.heap.size)
  (h : ∀ v' w', w'.ownsRow base e size v' (n + m) (xs ++ news) → w.grownBy w' v.ownBlock → (v' = .slice none 0 0 ↔ v = .slice none 0 0 ∧ m = 0) → (v'.ownBlock = v.ownBlock ∨ v'.ownBlock = some w.heap.size) → K (a.put o.dst v') w') :
  o.wp P a w K Q := by
 obtain ⟨v', w', hr, h2, h3, h4, h5⟩ := run_append_own_at (P := P) w base t o.type e i z size bytes ht hi hz hsize hby hzs hsz v n xs hown ad m c news hl hnews h1 h63 hbytes hbase
 unfold Oper.wp execOp
 simp only [ho, resolve, invoke, builtin, Sem.run_bind, Sem.run_pure, Result.andThen_ok, List.map_toArray, List.map_cons, List.map_nil, hs, hx, hr]
 exact h v' w' h2 h3 h4 h5
end
set_option maxRecDepth 100000 in
theorem spt1 (w : World) (base S L BS : Nat) (b r d m s : Int) (X : Nat → Value) (A G C : Nat → Nat) (Z : Nat → List Int) (h : StIs w base S L b r d m s X A G C Z) (s0 : 0 ≤ s) (s1 : s ≤ 18446744073709551615) (hB : Blk w BS 49 #[.pointer (some ⟨S, 0, none⟩)]) (n : Nat) (hn : n ≤ b.toNat) (k : Nat) (k1 : k < 18446744073709551616) (hk : (k : Int) < keysI b r d m (n : Int)) :
  Calls Tryz.prog 175 #[pcV (n, k), .pointer (some ⟨BS, 0, none⟩)] w fun e w' => e = .returned (.int .i64 (lvPt b r d m s (n : Int) (Z n) k)) ∧ Below w.heap.size w w' := by
 unfold pcV
 have hal : Below w.heap.size w (w.alloc (.cells #[.int .i64 (n : Int), .int .u64 (k : Int)] 155)) := (Below.refl _ _).alloc (Nat.le_refl _) _
 have HAL := Lib.hid hal
 have PP := Lib.hid (stpoint _ base S L b r d m s X A G C Z (h.kept hal) s0 s1 n hn k k1 hk)
 have c0 := (hB.kept hal).cell 0
 have hnb := Blk.new w 155 #[.int .i64 (n : Int), .int .u64 (k : Int)]
 have d0 := hnb.cell 0
 have d1 := hnb.cell 1
 simp at c0 d0 d1
 clear h hB hal hk hn hnb
 go_enter Tryz.func175, Tryz.ntmps175
 go_wp2_with fail
 with_reducible refine PP.out.mono ?_
 rintro e w2 ⟨rfl, hb2⟩
 have HB2 := Lib.hid (btr HAL.out hb2)
 clear hb2 c0 d0 d1 PP
 go_wp2
 go_ret
 exact ⟨rfl, HB2.out⟩

noncomputable def ptsL (b r d m s : Int) (Z : Nat → List Int) (l : List (Nat × Nat)) : List Int := l.map (fun p => lvPt b r d m s (p.1 : Int) (Z p.1) p.2)
def numsV (l : List Int) : List Value := l.map (fun x => .int .i64 x)
theorem ownBase {W : World} {base base' : Nat} {e : TypeId} {size : Nat} {v : Value} {k : Nat} {xs : List Value} (h : W.ownsRow base e size v k xs) (hb : base' ≤ base) : W.ownsRow base' e size v k xs := by
  refine ⟨h.1, ?_⟩
  rcases h.2 with hn | ⟨g, cap, cur, hv, hbg, rest⟩
  · exact .inl hn
  · exact .inr ⟨g, cap, cur, hv, Nat.le_trans hb hbg, rest⟩
structure SpI (w W : World) (base S L BS BP BO T : Nat) (b r d m s : Int) (X : Nat → Value) (A G C : Nat → Nat) (Z : Nat → List Int) (v : Value) (xs : List Int) : Prop where
  top : T ≤ W.heap.size
  st : StIs W base S L b r d m s X A G C Z
  bs : Blk W BS 49 #[.pointer (some ⟨S, 0, none⟩)]
  bp : Blk W BP 308 #[.func (.func 175) #[] #[.pointer (some ⟨BS, 0, none⟩)]]
  bo : Blk W BO 93 #[v]
  own : W.ownsRow T 2 1 v xs.length (numsV xs)
  bel : Below w.heap.size w W
  lo : w.heap.size ≤ BO ∧ BO < T ∧ BP < T ∧ BS < T ∧ w.heap.size ≤ T
  und : S < T ∧ L < T ∧ ∀ n, n ≤ b.toNat → A n < T ∧ G n < T ∧ C n < T
theorem SpI.kept {w W W' : World} {base S L BS BP BO T : Nat} {b r d m s : Int} {X : Nat → Value} {A G C : Nat → Nat} {Z : Nat → List Int} {v : Value} {xs : List Int} (h : SpI w W base S L BS BP BO T b r d m s X A G C Z v xs) (hb : Below W.heap.size W W') : SpI w W' base S L BS BP BO T b r d m s X A G C Z v xs :=
  ⟨Nat.le_trans h.top hb.size, h.st.kept hb, h.bs.kept hb, h.bp.kept hb, h.bo.kept hb, ownKeep h.own (below_gr (row := none) hb) (fun _ _ => by simp), btr h.bel hb, h.lo, h.und⟩
theorem SpI.walked {w W W' : World} {base S L BS BP BO T : Nat} {b r d m s : Int} {X : Nat → Value} {A G C : Nat → Nat} {Z : Nat → List Int} {v : Value} {xs : List Int} {row : Option Nat} (h : SpI w W base S L BS BP BO T b r d m s X A G C Z v xs) (hg : W.grownBy W' row) (hr : ∀ r, row = some r → w.heap.size ≤ r ∧ ∃ o : Obj, W.heap[r]? = some o ∧ o.isCells = false) : SpI w W' base S L BS BP BO T b r d m s X A G C Z v xs :=
  ⟨Nat.le_trans h.top hg.size, h.st.walked hg (fun r e => (hr r e).2), h.bs.walked hg (fun r e => (hr r e).2), h.bp.walked hg (fun r e => (hr r e).2), h.bo.walked hg (fun r e => (hr r e).2), ownKeep h.own hg (fun k hk e => by
    obtain ⟨cs, hc⟩ := ownBlk h.own k hk
    obtain ⟨-, o, ho, hn⟩ := hr k e
    exact hc.not_other ho hn rfl), h.bel.grown hg h.bel.size (fun k e => (hr k e).1), h.lo, h.und⟩
theorem SpI.round {w W Wc We : World} {base S L BS BP BO T : Nat} {b r d m s : Int} {X : Nat → Value} {A G C : Nat → Nat} {Z : Nat → List Int} {v v' : Value} {xs : List Int} (h : SpI w W base S L BS BP BO T b r d m s X A G C Z v xs) (hb : Below W.heap.size W Wc) (x : Int)
    (hown : We.ownsRow T 2 1 v' (xs.length + 1) (numsV xs ++ [.int .i64 x])) (hg : Wc.grownBy We v.ownBlock) (l : List Nat) (hl : ∀ i ∈ l, i < T ∧ i ≠ BO) :
    KeepsOthers W (We.setCell ⟨BO, 0, none⟩ v') ∧ KpB l W (We.setCell ⟨BO, 0, none⟩ v') ∧ SpI w (We.setCell ⟨BO, 0, none⟩ v') base S L BS BP BO T b r d m s X A G C Z v' (xs ++ [x]) := by
  have hc := h.kept hb
  have hvT : ∀ k, v.ownBlock = some k → T ≤ k := fun k e => (hc.own.lt k e).1
  have hne : ∀ i, i < T → some i ≠ v.ownBlock := fun i hi e => by have := hvT i e.symm; omega
  have hgs : We.grownBy (We.setCell ⟨BO, 0, none⟩ v') (some BO) := gr_setC (World.grownBy.refl _ _) 0 _
  have hbo := hc.bo.grown hg (hne BO h.lo.2.1)
  have hk1 : KeepsOthers W Wc := kept_others (below_gr (row := none) hb) (fun g e => by cases e)
  have hk2 : KeepsOthers Wc We := kept_others hg (fun g e => by
    obtain ⟨cs, q⟩ := ownBlk hc.own g e
    exact ⟨_, _, q⟩)
  have hk3 : KeepsOthers We (We.setCell ⟨BO, 0, none⟩ v') := kept_others hgs (fun g e => ⟨_, _, by cases e; exact hbo⟩)
  have hTc : T ≤ Wc.heap.size := hc.top
  have hblk : ∀ i, i < T → We.heap[i]? = Wc.heap[i]? := fun i hi => hg.block i (by omega) (hne i hi)
  have hst : StIs We base S L b r d m s X A G C Z := hc.st.frame (hblk _ h.und.1) (hblk _ h.und.2.1) (fun n hn => ⟨hblk _ (h.und.2.2 n hn).1, hblk _ (h.und.2.2 n hn).2.1, hblk _ (h.und.2.2 n hn).2.2⟩)
  refine ⟨(hk1.trans hk2).trans hk3, KpB.trans (KpB.trans (KpB.of_below hb (fun i hi => by have := (hl i hi).1; have := h.top; omega)) (KpB.of_grown hg (fun i hi => ⟨by have := (hl i hi).1; omega, hne i (hl i hi).1⟩))) (KpB.of_grown hgs (fun i hi => ⟨by have := (hl i hi).1; have := hg.size; omega, by simpa using (hl i hi).2⟩)), ?_⟩
  exact { top := by have := hg.size; simp; omega
          st := hst.far hbo (by decide) (by decide) hgs
          bs := (hc.bs.grown hg (hne BS h.lo.2.2.2.1)).grown hgs (by simpa using (hc.bs.ne_ hc.bo (by decide)))
          bp := (hc.bp.grown hg (hne BP h.lo.2.2.1)).grown hgs (by simpa using (hc.bp.ne_ hc.bo (by decide)))
          bo := by simpa using hbo.set_ 0 v'
          own := by
            have e1 : numsV (xs ++ [x]) = numsV xs ++ [.int .i64 x] := by simp [numsV]
            rw [e1, List.length_append]
            refine ownKeep hown hgs (fun k hk e => ?_)
            have e := Option.some.inj e
            obtain ⟨cs, hq⟩ := ownBlk hown k hk
            rw [← e] at hq
            exact absurd rfl (hbo.ne_ hq (by decide))
          bel := (hc.bel.grown hg hc.bel.size (fun k e => by have := hvT k e; have := h.lo; omega)).setCell h.lo.1 _
          lo := h.lo
          und := h.und }
set_option maxRecDepth 100000 in
set_option maxHeartbeats 16000000 in
theorem parts_any (w : World) (base S L : Nat) (b r d m s : Int) (X : Nat → Value) (A G C : Nat → Nat) (Z : Nat → List Int) (h : StIs w base S L b r d m s X A G C Z) (s0 : 0 ≤ s) (s1 : s ≤ 18446744073709551615) (nb l0 h0 : Nat) (hbn : b = (nb : Int)) (hb1 : 1 ≤ nb) (hb : nb ≤ 59) (hlh : l0 ≤ h0) (hhi : h0 < 2 ^ nb) (hne : covR (nb + 1) 0 l0 h0 ≠ [])
  (hks : ∀ p ∈ covO (nb + 1) 0 l0 h0 ++ (covR (nb + 1) 0 l0 h0).reverse, p.1 ≤ nb ∧ p.2 < 18446744073709551616 ∧ (p.2 : Int) < keysI b r d m (p.1 : Int)) :
  Calls Tryz.prog 135 #[.pointer (some ⟨S, 0, none⟩), .int .u64 (l0 : Int), .int .u64 (h0 : Int)] w fun e w' => ∃ v, e = .returned (.tuple #[v, .int .i64 0]) ∧ w'.ownsRow w.heap.size 2 1 v (covO (nb + 1) 0 l0 h0 ++ (covR (nb + 1) 0 l0 h0).reverse).length (numsV (ptsL b r d m s Z (covO (nb + 1) 0 l0 h0 ++ (covR (nb + 1) 0 l0 h0).reverse))) ∧ Below w.heap.size w w' := by
 obtain ⟨iI, hi, hz0, hz1, hz2⟩ := info_parts (show (Tryz.prog.info? 2).map (fun i => (i.zero, i.size, i.bytes)) = some (some (.int .i64 0), 1, 8) by kernel_rfl)
 obtain ⟨PL, hPL⟩ : ∃ PL, PL = covO (nb + 1) 0 l0 h0 ++ (covR (nb + 1) 0 l0 h0).reverse := ⟨_, rfl⟩
 have PC := Lib.hid (fun w => cover_any nb l0 h0 hb1 hb hlh hhi hne w)
 have HPL := Lib.hid hPL
 rw [← hPL] at hks ⊢
 have HKS := Lib.hid hks
 have HPN : Hid (0 < PL.length) := Lib.hid (by rw [hPL]; have := List.length_pos_iff.2 hne; simp; omega)
 have HLEN : Hid (PL.length ≤ 180) := Lib.hid (by rw [hPL]; have := cov_len (nb + 1) 0 l0 h0; simp; omega)
 have PF := Lib.hid (fun w base S L b r d m s X A G C Z h => stconfig w base S L b r d m s X A G C Z h)
 have e3 : ¬ ((l0 : Int) > (h0 : Int)) := by omega
 have hal : Below w.heap.size w (w.alloc (.cells #[.pointer (some ⟨S, 0, none⟩)] 49)) := (Below.refl _ _).alloc (Nat.le_refl _) _
 have HS := Lib.hid (h.kept hal)
 have HB := Lib.hid hal
 have HBS := Lib.hid (Blk.new w 49 #[.pointer (some ⟨S, 0, none⟩)])
 have c0 := HBS.out.cell 0
 simp at c0
 clear h hks hal hPL hhi hne
 subst hbn
 refine (callsIn_wide (n := 6)).1 ?_
 refine callsIn_of_wp_marks Tryz.func135 rfl trivial ?_ rfl
 simp only [Tryz.ntmps135, List.size_toArray, List.length_cons, List.length_nil, Nat.reduceAdd, Nat.reduceSub, Array.replicate_succ, Array.replicate_zero, List.push_toArray, List.append_toArray, List.nil_append, List.cons_append]
 gi_wp2_with fail
 generalize (w.alloc (.cells #[.pointer (some ⟨S, 0, none⟩)] 49)) = w1 at *
 refine ⟨trivial, ?_⟩
 with_reducible refine (callsIn_wide.2 (PF.out _ _ _ _ _ _ _ _ _ _ _ _ _ _ HS.out)).mono ?_
 rintro e w2 ⟨rfl, hb2⟩
 have HS2 := Lib.hid (HS.out.kept hb2)
 have HB2 := Lib.hid (btr HB.out hb2)
 have HBS2 := Lib.hid (HBS.out.kept hb2)
 clear hb2 HS HB HBS PF
 have hfd : ∀ w : World, (Instr.field 24 (.agg #[.int .i64 (nb : Int), .int .i64 r, .int .i64 d, .int .i64 m, .int .u64 s]) 0).run Tryz.prog w = .ok (.int .i64 (nb : Int)) w := fun _ => by kernel_rfl
 gi_wp2_with fail
 refine ⟨trivial, ?_⟩
 with_reducible refine (callsIn_wide.2 (PC.out _)).mono ?_
 rintro e w3 ⟨v3, rfl, hown3, hb3⟩
 rw [← HPL.out] at hown3
 have HS3 := Lib.hid (HS2.out.kept hb3)
 have HB3 := Lib.hid (btr HB2.out hb3)
 have HBS3 := Lib.hid (HBS2.out.kept hb3)
 obtain ⟨ao, cap, hv⟩ := own_form hown3
 subst hv
 have HO3 := Lib.hid hown3
 clear hown3 hb3 HS2 HB2 HBS2 PC
 have hmf : ∀ (fn : Fn) (first cap : Array Value) (w : World), (Instr.makeFunc fn first cap).run Tryz.prog w = .ok (.func fn first cap) w := fun _ _ _ _ => rfl
 gi_wp2_with fail
 obtain ⟨ga, gb, gc, gd⟩ := news2 w3 (.cells #[.func (.func 175) #[] #[.pointer (some ⟨w.heap.size, 0, none⟩)]] 308) (.cells #[.slice none 0 0] 93)
 have HGA := Lib.hid ga
 have HGB := Lib.hid gb
 have HGC := Lib.hid gc
 have HGD := Lib.hid gd
 generalize ((w3.alloc (.cells #[.func (.func 175) #[] #[.pointer (some ⟨w.heap.size, 0, none⟩)]] 308)).alloc (.cells #[.slice none 0 0] 93)) = w5 at *
 clear ga gb gc gd hmf hfd
 refine ⟨trivial, ?_⟩
 with_reducible refine (callsIn_wide.2 (slvals ao PL.length cap w5)).mono ?_
 rintro e w6 ⟨rfl, hw6⟩
 obtain ⟨gv, hb6, hs6⟩ := news1 w5 (.cells #[.slice ao PL.length cap] 256)
 rw [← hw6] at gv hb6 hs6
 have HGV : Hid (Blk w6 w5.heap.size 256 #[.slice ao PL.length cap]) := Lib.hid gv
 have HPG : Hid (∃ g, ao = some ⟨g, 0, none⟩ ∧ PcAt w6 g PL ∧ g < w3.heap.size) := Lib.hid (by
  have ho := HO3.out
  rcases ho.2 with ⟨e, h0⟩ | ⟨g, cap', cur, e, hb, hgb, -⟩
  ·exact absurd h0 (by have := HPN.out; omega)
  ·simp only [Value.slice.injEq] at e
   obtain ⟨rfl, -, -⟩ := e
   exact ⟨g, rfl, ((pcAt_of_own ho).kept HGC.out).kept hb6, (pcAt_of_own ho).lt⟩)
 have hu := HS3.out.under
 have HT : Hid (w6.heap.size = w5.heap.size + 1 ∧ w5.heap.size = w3.heap.size + 2 ∧ w.heap.size < w3.heap.size) := Lib.hid ⟨hs6, HGD.out, HBS3.out.lt⟩
 have HI0 : Hid (SpI w w6 base S L w.heap.size w3.heap.size (w3.heap.size + 1) w6.heap.size (nb : Int) r d m s X A G C Z (.slice none 0 0) (ptsL (nb : Int) r d m s Z [])) := Lib.hid {
  top := Nat.le_refl _
  st := (HS3.out.kept HGC.out).kept hb6
  bs := (HBS3.out.kept HGC.out).kept hb6
  bp := (show Blk w5 w3.heap.size 308 #[.func (.func 175) #[] #[.pointer (some ⟨w.heap.size, 0, none⟩)]] from HGA.out).kept hb6
  bo := (show Blk w5 (w3.heap.size + 1) 93 #[.slice none 0 0] from HGB.out).kept hb6
  own := World.ownsRow_nil _ _ _ _
  bel := btr (btr HB3.out HGC.out) hb6
  lo := by have := HT.out; omega
  und := by have := HT.out; exact ⟨by omega, by omega, fun n hn => by have := hu.2.2 n hn; omega⟩ }
 obtain ⟨g, hao, hpg, hgl⟩ := HPG.out
 subst hao
 have HPGG := Lib.hid hpg
 have HGL := Lib.hid hgl
 clear hw6 gv hb6 hs6 hu hpg hgl HPG HO3 HGA HGB HGC HGD HS3 HBS3 HB3
 gi_wp2_with fail
 refine wpIn_rangeFunc_ownH rfl (by omega) (gf := 213) (lb := #[.pointer (some ⟨w5.heap.size, 0, none⟩)]) rfl trivial (enters_of Tryz.func213 (by kernel_rfl) rfl)
  (slv_stops (6 - 1) (by omega) w5.heap.size g cap (fun y : { p : Nat × Nat // p ∈ PL } => y.1) PL.attach (by rw [List.length_attach]; have := HLEN.out; omega) w6 (by rw [List.length_attach]; exact HGV.out) (by rw [List.attach_map_subtype_val]; exact HPGG.out)) KpB.trans (KpB.put (by
   have h1 := HT.out; have h2 := HGL.out
   intro i hi
   simp at hi
   omega)) (Below.refl _ _) (fun _ => rfl)
  (fun (pre : List { p : Nat × Nat // p ∈ PL }) W => ∃ v, SpI w W base S L w.heap.size w3.heap.size (w3.heap.size + 1) w6.heap.size (nb : Int) r d m s X A G C Z v (ptsL (nb : Int) r d m s Z (pre.map (·.1))))
  (fun _ _ _ => False)
  (fun pre W W' row hs hg hr => by
   obtain ⟨v, hs⟩ := hs
   exact ⟨v, hs.walked hg (fun r e => ⟨by have h1 := (hr r e).1; have h2 := HI0.out.lo; omega, (hr r e).2⟩)⟩)
  (fun _ _ _ _ _ hs _ _ => hs)
  ⟨_, HI0.out⟩
  (fun y a' W => ∃ BV, a' = { tmps := #[.pointer (some ⟨S, 0, none⟩), .int .u64 (l0 : Int), .int .u64 (h0 : Int), .pointer (some ⟨w.heap.size, 0, none⟩), undef, undef, .slice none 0 0, .int .i64 0, .slice (some ⟨g, 0, none⟩) PL.length cap, .bool true, .pointer (some ⟨w3.heap.size, 0, none⟩), .pointer (some ⟨w3.heap.size + 1, 0, none⟩), .pointer (some ⟨BV, 0, none⟩), .int .u64 (l0 : Int), .int .u64 (h0 : Int), .bool false, .tuple #[.slice (some ⟨g, 0, none⟩) PL.length cap, .bool true], .pointer (some ⟨S, 0, none⟩), .agg #[.int .i64 (nb : Int), .int .i64 r, .int .i64 d, .int .i64 m, .int .u64 s], .int .i64 (nb : Int), .int .u64 (l0 : Int), .int .u64 (h0 : Int), .tuple #[.slice (some ⟨g, 0, none⟩) PL.length cap, .bool true], .slice (some ⟨g, 0, none⟩) PL.length cap, .bool true, .bool true, .bool false, .func (.func 175) #[] #[.pointer (some ⟨w.heap.size, 0, none⟩)], .slice (some ⟨g, 0, none⟩) PL.length cap, .func (.func 213) #[] #[.pointer (some ⟨w5.heap.size, 0, none⟩)], .agg #[.int .i64 (y.1.1 : Int), .int .u64 (y.1.2 : Int)], undef, undef, undef, undef, undef, undef, undef], defers := [] } ∧ Blk W BV 155 #[.int .i64 (y.1.1 : Int), .int .u64 (y.1.2 : Int)])
  (fun y a' _ W W' row hs hg hr => by
   obtain ⟨BV, e, hb⟩ := hs
   exact ⟨BV, e, hb.walked hg (fun r e => (hr r e).2)⟩) ?assign ?body ?done ?stop
 case assign =>
  intro l pre y W K hI hK
  unfold pcV
  gi_wp2
  obtain ⟨v, hs⟩ := hI
  have hal : Below W.heap.size W (W.alloc (.cells #[.int .i64 (y.1.1 : Int), .int .u64 (y.1.2 : Int)] 155)) := (Below.refl _ _).alloc (Nat.le_refl _) _
  exact hK _ _ ((kept_others (below_gr (row := none) hal) (fun g e => by cases e)).from _) (KpB.of_below hal (fun i hi => by have := hs.top; have := HT.out; have := HGL.out; simp at hi; omega)) ⟨v, hs.kept hal⟩ ⟨_, rfl, Blk.new W _ _⟩
 case body =>
  intro l pre y a' W hl hlp hI hA hlen
  obtain ⟨v, hs⟩ := hI
  obtain ⟨BV, rfl, hbv⟩ := hA
  refine wpIn_mono ?_ ownPostG_of_ownPostK
  obtain ⟨⟨n, k⟩, hy⟩ := y
  dsimp only at hbv ⊢
  have hyk := HKS.out _ hy
  obtain ⟨x, hx⟩ : ∃ x, x = lvPt (nb : Int) r d m s (n : Int) (Z n) k := ⟨_, rfl⟩
  obtain ⟨xs, hxs⟩ : ∃ xs, xs = ptsL (nb : Int) r d m s Z (pre.map (·.1)) := ⟨_, rfl⟩
  have HNX : Hid (ptsL (nb : Int) r d m s Z ((pre ++ [(⟨(n, k), hy⟩ : { p : Nat × Nat // p ∈ PL })]).map (fun q => q.1)) = xs ++ [x]) := Lib.hid (by rw [List.map_append, ptsL, List.map_append, hxs, hx]; rfl)
  have HXL : Hid (xs.length ≤ 180) := Lib.hid (by
   have h1 := HLEN.out
   rw [List.length_attach] at hlen
   rw [hxs, ptsL, List.length_map, List.length_map]
   omega)
  rw [← hxs] at hs
  obtain ⟨vo, vc, hv⟩ := own_form hs.own
  subst hv
  have hs1 := hs.kept (below_drewN (Below.refl _ _) 1)
  have hbv1 := hbv.kept (below_drewN (Below.refl _ _) 1)
  have PCk := spt1 W.drew base S L w.heap.size (nb : Int) r d m s X A G C Z hs1.st s0 s1 hs1.bs n (by simpa using hyk.1) k hyk.2.1 hyk.2.2
  rw [← hx] at PCk
  unfold pcV at PCk
  have PCk := Lib.hid PCk
  have HI1 : Hid (SpI w W.drew base S L w.heap.size w3.heap.size (w3.heap.size + 1) w6.heap.size (nb : Int) r d m s X A G C Z (.slice vo xs.length vc) xs) := Lib.hid hs1
  have HBV1 : Hid (Blk W.drew BV 155 #[.int .i64 (n : Int), .int .u64 (k : Int)]) := Lib.hid hbv1
  have HBW : Hid (Below W.heap.size W W.drew) := Lib.hid (below_drewN (Below.refl _ _) 1)
  have hmx : xs.length + 1 ≤ maxLen := by have := HXL.out; unfold maxLen; omega
  have hby : (xs.length + 1) * 8 ≤ 140737488355328 := by have := HXL.out; omega
  have HEND : Hid (∀ (wc we : World) (v' : Value), Below W.heap.size W wc → (wc.alloc (.cells #[.int .i64 x] 2)).grownBy we (Value.slice vo xs.length vc).ownBlock → we.ownsRow w6.heap.size 2 1 v' (xs.length + 1) (numsV xs ++ [.int .i64 x]) → KeepsOthers W (we.setCell ⟨w3.heap.size + 1, 0, none⟩ v') ∧ KpB [w5.heap.size, g] W (we.setCell ⟨w3.heap.size + 1, 0, none⟩ v') ∧ SpI w (we.setCell ⟨w3.heap.size + 1, 0, none⟩ v') base S L w.heap.size w3.heap.size (w3.heap.size + 1) w6.heap.size (nb : Int) r d m s X A G C Z v' (xs ++ [x])) := Lib.hid (fun wc we v' hb hg ho =>
   hs.round (btr hb ((Below.refl _ _).alloc (Nat.le_refl _) _)) x ho hg [w5.heap.size, g] (fun i hi => by have := HT.out; have := HGL.out; simp at hi; omega))
  clear hs hbv hs1 hbv1 hx hyk hxs hlen hlp hl
  gi_wp2_with fail
  refine wpIn_round_any (by kernel_rfl) (by kernel_rfl) (by rintro ⟨_, _, h⟩; exact h) ?_; generalize W.drew = Wd at *; have q0 := HI1.out.bo.cell 0; have q1 := HI1.out.bp.cell 0; have q2 := HBV1.out.cell 0; have q3 := HBV1.out.cell 1; simp at q0 q1 q2 q3
  refine wpAny_ready (rs := [0, 1, 2]) (by kernel_rfl) (by simp) ?_
  refine AllReady.cons rfl (fun Kc hKc => ?_) (AllReady.cons rfl (fun Kc hKc => ?_) (AllReady.cons rfl (fun Kc hKc => ?_) AllReady.nil))
  ·have HKc := Lib.hid hKc
   clear hKc
   go_simp
   refine HKc.out _ _ ?_
   clear HKc Kc
   refine wpAny_ready (rs := [1, 2]) (by kernel_rfl) (by simp) ?_
   refine AllReady.cons rfl (fun Kc hKc => ?_) (AllReady.cons rfl (fun Kc hKc => ?_) AllReady.nil)
   ·have HKc := Lib.hid hKc
    clear hKc
    go_simp
    refine HKc.out _ _ ?_
    clear HKc Kc
    refine wpAny_ready (rs := [2]) (by kernel_rfl) (by simp) ?_
    refine AllReady.cons rfl (fun Kc hKc => ?_) AllReady.nil
    have HKc := Lib.hid hKc
    clear hKc
    go_simp
    refine HKc.out _ _ ?_
    clear HKc Kc
    refine wpAny_ready (rs := [3]) (by kernel_rfl) (by simp) ?_
    refine AllReady.cons rfl (fun Kc hKc => ?_) AllReady.nil
    have HKc := Lib.hid hKc
    clear hKc
    go_simp
    go_wp2_with (with_reducible refine PCk.out.mono ?_; rintro e wc ⟨rfl, hbc⟩; have HIc := Lib.hid (HI1.out.kept hbc); have HBc := Lib.hid (btr HBW.out hbc); have HIa := Lib.hid (HIc.out.kept (below_alloc1 wc (.cells #[.int .i64 x] 2))); have q0 := HIc.out.bo.cell 0; have q4 := HIa.out.bo.cell 0; simp at q0 q4; clear hbc)
    refine HKc.out _ _ ?_
    clear HKc Kc
    refine wpAny_ready (rs := [4]) (by kernel_rfl) (by simp) ?_
    refine AllReady.cons rfl (fun Kc hKc => ?_) AllReady.nil
    have HKc := Lib.hid hKc
    clear hKc
    go_simp
    refine HKc.out _ _ ?_
    clear HKc Kc
    refine wpAny_ready (rs := [5]) (by kernel_rfl) (by simp) ?_
    refine AllReady.cons rfl (fun Kc hKc => ?_) AllReady.nil
    have HKc := Lib.hid hKc
    clear hKc
    refine wp_append_own_at _ _ 93 rfl w6.heap.size 2 iI (.int .i64 0) 1 8 Tryz.underlying93 hi hz0 hz1 hz2 rfl (by decide) _ xs.length _ rfl HIa.out.own ⟨wc.heap.size, 0, none⟩ 1 1 [.int .i64 x] rfl rfl (cell_one_new _ _ _) (by simp [Value.oneCell']) hmx hby HIa.out.top ?_; intro v' we hown hgrow hnil hq9; have hboe := HIa.out.bo.grown hgrow (fun e => by have := (HIa.out.own.lt _ e.symm).1; have := HIa.out.lo.2.1; omega); have q5 := hboe.cell 0; have q6 := hboe.frozen 0; simp at q5; have HR := Lib.hid (HEND.out wc we v' HBc.out hgrow hown); obtain ⟨vo', vc', hv'⟩ := own_form hown; subst hv'; clear hown hgrow hnil hq9 hboe
    refine HKc.out _ _ ?_
    clear HKc Kc
    refine wpAny_ready (rs := [6]) (by kernel_rfl) (by simp) ?_
    refine AllReady.cons rfl (fun Kc hKc => ?_) AllReady.nil
    have HKc := Lib.hid hKc
    clear hKc
    go_simp
    refine HKc.out _ _ ?_
    clear HKc Kc
    refine wpAny_done (by kernel_rfl) ?_ _
    gi_wp2_with fail
    refine ⟨HR.out.1, HR.out.2.1, .slice vo' (xs.length + 1) vc', ?_⟩
    rw [HNX.out]
    exact HR.out.2.2
   ·have HKc := Lib.hid hKc
    clear hKc
    go_simp
    refine HKc.out _ _ ?_
    clear HKc Kc
    refine wpAny_ready (rs := [1]) (by kernel_rfl) (by simp) ?_
    refine AllReady.cons rfl (fun Kc hKc => ?_) AllReady.nil
    have HKc := Lib.hid hKc
    clear hKc
    go_simp
    refine HKc.out _ _ ?_
    clear HKc Kc
    refine wpAny_ready (rs := [3]) (by kernel_rfl) (by simp) ?_
    refine AllReady.cons rfl (fun Kc hKc => ?_) AllReady.nil
    have HKc := Lib.hid hKc
    clear hKc
    go_simp
    go_wp2_with (with_reducible refine PCk.out.mono ?_; rintro e wc ⟨rfl, hbc⟩; have HIc := Lib.hid (HI1.out.kept hbc); have HBc := Lib.hid (btr HBW.out hbc); have HIa := Lib.hid (HIc.out.kept (below_alloc1 wc (.cells #[.int .i64 x] 2))); have q0 := HIc.out.bo.cell 0; have q4 := HIa.out.bo.cell 0; simp at q0 q4; clear hbc)
    refine HKc.out _ _ ?_
    clear HKc Kc
    refine wpAny_ready (rs := [4]) (by kernel_rfl) (by simp) ?_
    refine AllReady.cons rfl (fun Kc hKc => ?_) AllReady.nil
    have HKc := Lib.hid hKc
    clear hKc
    go_simp
    refine HKc.out _ _ ?_
    clear HKc Kc
    refine wpAny_ready (rs := [5]) (by kernel_rfl) (by simp) ?_
    refine AllReady.cons rfl (fun Kc hKc => ?_) AllReady.nil
    have HKc := Lib.hid hKc
    clear hKc
    refine wp_append_own_at _ _ 93 rfl w6.heap.size 2 iI (.int .i64 0) 1 8 Tryz.underlying93 hi hz0 hz1 hz2 rfl (by decide) _ xs.length _ rfl HIa.out.own ⟨wc.heap.size, 0, none⟩ 1 1 [.int .i64 x] rfl rfl (cell_one_new _ _ _) (by simp [Value.oneCell']) hmx hby HIa.out.top ?_; intro v' we hown hgrow hnil hq9; have hboe := HIa.out.bo.grown hgrow (fun e => by have := (HIa.out.own.lt _ e.symm).1; have := HIa.out.lo.2.1; omega); have q5 := hboe.cell 0; have q6 := hboe.frozen 0; simp at q5; have HR := Lib.hid (HEND.out wc we v' HBc.out hgrow hown); obtain ⟨vo', vc', hv'⟩ := own_form hown; subst hv'; clear hown hgrow hnil hq9 hboe
    refine HKc.out _ _ ?_
    clear HKc Kc
    refine wpAny_ready (rs := [6]) (by kernel_rfl) (by simp) ?_
    refine AllReady.cons rfl (fun Kc hKc => ?_) AllReady.nil
    have HKc := Lib.hid hKc
    clear hKc
    go_simp
    refine HKc.out _ _ ?_
    clear HKc Kc
    refine wpAny_done (by kernel_rfl) ?_ _
    gi_wp2_with fail
    refine ⟨HR.out.1, HR.out.2.1, .slice vo' (xs.length + 1) vc', ?_⟩
    rw [HNX.out]
    exact HR.out.2.2
  ·have HKc := Lib.hid hKc
   clear hKc
   go_simp
   refine HKc.out _ _ ?_
   clear HKc Kc
   refine wpAny_ready (rs := [0, 2]) (by kernel_rfl) (by simp) ?_
   refine AllReady.cons rfl (fun Kc hKc => ?_) (AllReady.cons rfl (fun Kc hKc => ?_) AllReady.nil)
   ·have HKc := Lib.hid hKc
    clear hKc
    go_simp
    refine HKc.out _ _ ?_
    clear HKc Kc
    refine wpAny_ready (rs := [2]) (by kernel_rfl) (by simp) ?_
    refine AllReady.cons rfl (fun Kc hKc => ?_) AllReady.nil
    have HKc := Lib.hid hKc
    clear hKc
    go_simp
    refine HKc.out _ _ ?_
    clear HKc Kc
    refine wpAny_ready (rs := [3]) (by kernel_rfl) (by simp) ?_
    refine AllReady.cons rfl (fun Kc hKc => ?_) AllReady.nil
    have HKc := Lib.hid hKc
    clear hKc
    go_simp
    go_wp2_with (with_reducible refine PCk.out.mono ?_; rintro e wc ⟨rfl, hbc⟩; have HIc := Lib.hid (HI1.out.kept hbc); have HBc := Lib.hid (btr HBW.out hbc); have HIa := Lib.hid (HIc.out.kept (below_alloc1 wc (.cells #[.int .i64 x] 2))); have q0 := HIc.out.bo.cell 0; have q4 := HIa.out.bo.cell 0; simp at q0 q4; clear hbc)
    refine HKc.out _ _ ?_
    clear HKc Kc
    refine wpAny_ready (rs := [4]) (by kernel_rfl) (by simp) ?_
    refine AllReady.cons rfl (fun Kc hKc => ?_) AllReady.nil
    have HKc := Lib.hid hKc
    clear hKc
    go_simp
    refine HKc.out _ _ ?_
    clear HKc Kc
    refine wpAny_ready (rs := [5]) (by kernel_rfl) (by simp) ?_
    refine AllReady.cons rfl (fun Kc hKc => ?_) AllReady.nil
    have HKc := Lib.hid hKc
    clear hKc
    refine wp_append_own_at _ _ 93 rfl w6.heap.size 2 iI (.int .i64 0) 1 8 Tryz.underlying93 hi hz0 hz1 hz2 rfl (by decide) _ xs.length _ rfl HIa.out.own ⟨wc.heap.size, 0, none⟩ 1 1 [.int .i64 x] rfl rfl (cell_one_new _ _ _) (by simp [Value.oneCell']) hmx hby HIa.out.top ?_; intro v' we hown hgrow hnil hq9; have hboe := HIa.out.bo.grown hgrow (fun e => by have := (HIa.out.own.lt _ e.symm).1; have := HIa.out.lo.2.1; omega); have q5 := hboe.cell 0; have q6 := hboe.frozen 0; simp at q5; have HR := Lib.hid (HEND.out wc we v' HBc.out hgrow hown); obtain ⟨vo', vc', hv'⟩ := own_form hown; subst hv'; clear hown hgrow hnil hq9 hboe
    refine HKc.out _ _ ?_
    clear HKc Kc
    refine wpAny_ready (rs := [6]) (by kernel_rfl) (by simp) ?_
    refine AllReady.cons rfl (fun Kc hKc => ?_) AllReady.nil
    have HKc := Lib.hid hKc
    clear hKc
    go_simp
    refine HKc.out _ _ ?_
    clear HKc Kc
    refine wpAny_done (by kernel_rfl) ?_ _
    gi_wp2_with fail
    refine ⟨HR.out.1, HR.out.2.1, .slice vo' (xs.length + 1) vc', ?_⟩
    rw [HNX.out]
    exact HR.out.2.2
   ·have HKc := Lib.hid hKc
    clear hKc
    go_simp
    refine HKc.out _ _ ?_
    clear HKc Kc
    refine wpAny_ready (rs := [0, 3]) (by kernel_rfl) (by simp) ?_
    refine AllReady.cons rfl (fun Kc hKc => ?_) (AllReady.cons rfl (fun Kc hKc => ?_) AllReady.nil)
    ·have HKc := Lib.hid hKc
     clear hKc
     go_simp
     refine HKc.out _ _ ?_
     clear HKc Kc
     refine wpAny_ready (rs := [3]) (by kernel_rfl) (by simp) ?_
     refine AllReady.cons rfl (fun Kc hKc => ?_) AllReady.nil
     have HKc := Lib.hid hKc
     clear hKc
     go_simp
     go_wp2_with (with_reducible refine PCk.out.mono ?_; rintro e wc ⟨rfl, hbc⟩; have HIc := Lib.hid (HI1.out.kept hbc); have HBc := Lib.hid (btr HBW.out hbc); have HIa := Lib.hid (HIc.out.kept (below_alloc1 wc (.cells #[.int .i64 x] 2))); have q0 := HIc.out.bo.cell 0; have q4 := HIa.out.bo.cell 0; simp at q0 q4; clear hbc)
     refine HKc.out _ _ ?_
     clear HKc Kc
     refine wpAny_ready (rs := [4]) (by kernel_rfl) (by simp) ?_
     refine AllReady.cons rfl (fun Kc hKc => ?_) AllReady.nil
     have HKc := Lib.hid hKc
     clear hKc
     go_simp
     refine HKc.out _ _ ?_
     clear HKc Kc
     refine wpAny_ready (rs := [5]) (by kernel_rfl) (by simp) ?_
     refine AllReady.cons rfl (fun Kc hKc => ?_) AllReady.nil
     have HKc := Lib.hid hKc
     clear hKc
     refine wp_append_own_at _ _ 93 rfl w6.heap.size 2 iI (.int .i64 0) 1 8 Tryz.underlying93 hi hz0 hz1 hz2 rfl (by decide) _ xs.length _ rfl HIa.out.own ⟨wc.heap.size, 0, none⟩ 1 1 [.int .i64 x] rfl rfl (cell_one_new _ _ _) (by simp [Value.oneCell']) hmx hby HIa.out.top ?_; intro v' we hown hgrow hnil hq9; have hboe := HIa.out.bo.grown hgrow (fun e => by have := (HIa.out.own.lt _ e.symm).1; have := HIa.out.lo.2.1; omega); have q5 := hboe.cell 0; have q6 := hboe.frozen 0; simp at q5; have HR := Lib.hid (HEND.out wc we v' HBc.out hgrow hown); obtain ⟨vo', vc', hv'⟩ := own_form hown; subst hv'; clear hown hgrow hnil hq9 hboe
     refine HKc.out _ _ ?_
     clear HKc Kc
     refine wpAny_ready (rs := [6]) (by kernel_rfl) (by simp) ?_
     refine AllReady.cons rfl (fun Kc hKc => ?_) AllReady.nil
     have HKc := Lib.hid hKc
     clear hKc
     go_simp
     refine HKc.out _ _ ?_
     clear HKc Kc
     refine wpAny_done (by kernel_rfl) ?_ _
     gi_wp2_with fail
     refine ⟨HR.out.1, HR.out.2.1, .slice vo' (xs.length + 1) vc', ?_⟩
     rw [HNX.out]
     exact HR.out.2.2
    ·have HKc := Lib.hid hKc
     clear hKc
     go_simp
     go_wp2_with (with_reducible refine PCk.out.mono ?_; rintro e wc ⟨rfl, hbc⟩; have HIc := Lib.hid (HI1.out.kept hbc); have HBc := Lib.hid (btr HBW.out hbc); have HIa := Lib.hid (HIc.out.kept (below_alloc1 wc (.cells #[.int .i64 x] 2))); have q0 := HIc.out.bo.cell 0; have q4 := HIa.out.bo.cell 0; simp at q0 q4; clear hbc)
     refine HKc.out _ _ ?_
     clear HKc Kc
     refine wpAny_ready (rs := [0, 4]) (by kernel_rfl) (by simp) ?_
     refine AllReady.cons rfl (fun Kc hKc => ?_) (AllReady.cons rfl (fun Kc hKc => ?_) AllReady.nil)
     ·have HKc := Lib.hid hKc
      clear hKc
      go_simp
      refine HKc.out _ _ ?_
      clear HKc Kc
      refine wpAny_ready (rs := [4]) (by kernel_rfl) (by simp) ?_
      refine AllReady.cons rfl (fun Kc hKc => ?_) AllReady.nil
      have HKc := Lib.hid hKc
      clear hKc
      go_simp
      refine HKc.out _ _ ?_
      clear HKc Kc
      refine wpAny_ready (rs := [5]) (by kernel_rfl) (by simp) ?_
      refine AllReady.cons rfl (fun Kc hKc => ?_) AllReady.nil
      have HKc := Lib.hid hKc
      clear hKc
      refine wp_append_own_at _ _ 93 rfl w6.heap.size 2 iI (.int .i64 0) 1 8 Tryz.underlying93 hi hz0 hz1 hz2 rfl (by decide) _ xs.length _ rfl HIa.out.own ⟨wc.heap.size, 0, none⟩ 1 1 [.int .i64 x] rfl rfl (cell_one_new _ _ _) (by simp [Value.oneCell']) hmx hby HIa.out.top ?_; intro v' we hown hgrow hnil hq9; have hboe := HIa.out.bo.grown hgrow (fun e => by have := (HIa.out.own.lt _ e.symm).1; have := HIa.out.lo.2.1; omega); have q5 := hboe.cell 0; have q6 := hboe.frozen 0; simp at q5; have HR := Lib.hid (HEND.out wc we v' HBc.out hgrow hown); obtain ⟨vo', vc', hv'⟩ := own_form hown; subst hv'; clear hown hgrow hnil hq9 hboe
      refine HKc.out _ _ ?_
      clear HKc Kc
      refine wpAny_ready (rs := [6]) (by kernel_rfl) (by simp) ?_
      refine AllReady.cons rfl (fun Kc hKc => ?_) AllReady.nil
      have HKc := Lib.hid hKc
      clear hKc
      go_simp
      refine HKc.out _ _ ?_
      clear HKc Kc
      refine wpAny_done (by kernel_rfl) ?_ _
      gi_wp2_with fail
      refine ⟨HR.out.1, HR.out.2.1, .slice vo' (xs.length + 1) vc', ?_⟩
      rw [HNX.out]
      exact HR.out.2.2
     ·have HKc := Lib.hid hKc
      clear hKc
      go_simp
      refine HKc.out _ _ ?_
      clear HKc Kc
      refine wpAny_ready (rs := [0]) (by kernel_rfl) (by simp) ?_
      refine AllReady.cons rfl (fun Kc hKc => ?_) AllReady.nil
      have HKc := Lib.hid hKc
      clear hKc
      go_simp
      refine HKc.out _ _ ?_
      clear HKc Kc
      refine wpAny_ready (rs := [5]) (by kernel_rfl) (by simp) ?_
      refine AllReady.cons rfl (fun Kc hKc => ?_) AllReady.nil
      have HKc := Lib.hid hKc
      clear hKc
      refine wp_append_own_at _ _ 93 rfl w6.heap.size 2 iI (.int .i64 0) 1 8 Tryz.underlying93 hi hz0 hz1 hz2 rfl (by decide) _ xs.length _ rfl HIa.out.own ⟨wc.heap.size, 0, none⟩ 1 1 [.int .i64 x] rfl rfl (cell_one_new _ _ _) (by simp [Value.oneCell']) hmx hby HIa.out.top ?_; intro v' we hown hgrow hnil hq9; have hboe := HIa.out.bo.grown hgrow (fun e => by have := (HIa.out.own.lt _ e.symm).1; have := HIa.out.lo.2.1; omega); have q5 := hboe.cell 0; have q6 := hboe.frozen 0; simp at q5; have HR := Lib.hid (HEND.out wc we v' HBc.out hgrow hown); obtain ⟨vo', vc', hv'⟩ := own_form hown; subst hv'; clear hown hgrow hnil hq9 hboe
      refine HKc.out _ _ ?_
      clear HKc Kc
      refine wpAny_ready (rs := [6]) (by kernel_rfl) (by simp) ?_
      refine AllReady.cons rfl (fun Kc hKc => ?_) AllReady.nil
      have HKc := Lib.hid hKc
      clear hKc
      go_simp
      refine HKc.out _ _ ?_
      clear HKc Kc
      refine wpAny_done (by kernel_rfl) ?_ _
      gi_wp2_with fail
      refine ⟨HR.out.1, HR.out.2.1, .slice vo' (xs.length + 1) vc', ?_⟩
      rw [HNX.out]
      exact HR.out.2.2
  ·have HKc := Lib.hid hKc
   clear hKc
   go_simp
   refine HKc.out _ _ ?_
   clear HKc Kc
   refine wpAny_ready (rs := [0, 1]) (by kernel_rfl) (by simp) ?_
   refine AllReady.cons rfl (fun Kc hKc => ?_) (AllReady.cons rfl (fun Kc hKc => ?_) AllReady.nil)
   ·have HKc := Lib.hid hKc
    clear hKc
    go_simp
    refine HKc.out _ _ ?_
    clear HKc Kc
    refine wpAny_ready (rs := [1]) (by kernel_rfl) (by simp) ?_
    refine AllReady.cons rfl (fun Kc hKc => ?_) AllReady.nil
    have HKc := Lib.hid hKc
    clear hKc
    go_simp
    refine HKc.out _ _ ?_
    clear HKc Kc
    refine wpAny_ready (rs := [3]) (by kernel_rfl) (by simp) ?_
    refine AllReady.cons rfl (fun Kc hKc => ?_) AllReady.nil
    have HKc := Lib.hid hKc
    clear hKc
    go_simp
    go_wp2_with (with_reducible refine PCk.out.mono ?_; rintro e wc ⟨rfl, hbc⟩; have HIc := Lib.hid (HI1.out.kept hbc); have HBc := Lib.hid (btr HBW.out hbc); have HIa := Lib.hid (HIc.out.kept (below_alloc1 wc (.cells #[.int .i64 x] 2))); have q0 := HIc.out.bo.cell 0; have q4 := HIa.out.bo.cell 0; simp at q0 q4; clear hbc)
    refine HKc.out _ _ ?_
    clear HKc Kc
    refine wpAny_ready (rs := [4]) (by kernel_rfl) (by simp) ?_
    refine AllReady.cons rfl (fun Kc hKc => ?_) AllReady.nil
    have HKc := Lib.hid hKc
    clear hKc
    go_simp
    refine HKc.out _ _ ?_
    clear HKc Kc
    refine wpAny_ready (rs := [5]) (by kernel_rfl) (by simp) ?_
    refine AllReady.cons rfl (fun Kc hKc => ?_) AllReady.nil
    have HKc := Lib.hid hKc
    clear hKc
    refine wp_append_own_at _ _ 93 rfl w6.heap.size 2 iI (.int .i64 0) 1 8 Tryz.underlying93 hi hz0 hz1 hz2 rfl (by decide) _ xs.length _ rfl HIa.out.own ⟨wc.heap.size, 0, none⟩ 1 1 [.int .i64 x] rfl rfl (cell_one_new _ _ _) (by simp [Value.oneCell']) hmx hby HIa.out.top ?_; intro v' we hown hgrow hnil hq9; have hboe := HIa.out.bo.grown hgrow (fun e => by have := (HIa.out.own.lt _ e.symm).1; have := HIa.out.lo.2.1; omega); have q5 := hboe.cell 0; have q6 := hboe.frozen 0; simp at q5; have HR := Lib.hid (HEND.out wc we v' HBc.out hgrow hown); obtain ⟨vo', vc', hv'⟩ := own_form hown; subst hv'; clear hown hgrow hnil hq9 hboe
    refine HKc.out _ _ ?_
    clear HKc Kc
    refine wpAny_ready (rs := [6]) (by kernel_rfl) (by simp) ?_
    refine AllReady.cons rfl (fun Kc hKc => ?_) AllReady.nil
    have HKc := Lib.hid hKc
    clear hKc
    go_simp
    refine HKc.out _ _ ?_
    clear HKc Kc
    refine wpAny_done (by kernel_rfl) ?_ _
    gi_wp2_with fail
    refine ⟨HR.out.1, HR.out.2.1, .slice vo' (xs.length + 1) vc', ?_⟩
    rw [HNX.out]
    exact HR.out.2.2
   ·have HKc := Lib.hid hKc
    clear hKc
    go_simp
    refine HKc.out _ _ ?_
    clear HKc Kc
    refine wpAny_ready (rs := [0, 3]) (by kernel_rfl) (by simp) ?_
    refine AllReady.cons rfl (fun Kc hKc => ?_) (AllReady.cons rfl (fun Kc hKc => ?_) AllReady.nil)
    ·have HKc := Lib.hid hKc
     clear hKc
     go_simp
     refine HKc.out _ _ ?_
     clear HKc Kc
     refine wpAny_ready (rs := [3]) (by kernel_rfl) (by simp) ?_
     refine AllReady.cons rfl (fun Kc hKc => ?_) AllReady.nil
     have HKc := Lib.hid hKc
     clear hKc
     go_simp
     go_wp2_with (with_reducible refine PCk.out.mono ?_; rintro e wc ⟨rfl, hbc⟩; have HIc := Lib.hid (HI1.out.kept hbc); have HBc := Lib.hid (btr HBW.out hbc); have HIa := Lib.hid (HIc.out.kept (below_alloc1 wc (.cells #[.int .i64 x] 2))); have q0 := HIc.out.bo.cell 0; have q4 := HIa.out.bo.cell 0; simp at q0 q4; clear hbc)
     refine HKc.out _ _ ?_
     clear HKc Kc
     refine wpAny_ready (rs := [4]) (by kernel_rfl) (by simp) ?_
     refine AllReady.cons rfl (fun Kc hKc => ?_) AllReady.nil
     have HKc := Lib.hid hKc
     clear hKc
     go_simp
     refine HKc.out _ _ ?_
     clear HKc Kc
     refine wpAny_ready (rs := [5]) (by kernel_rfl) (by simp) ?_
     refine AllReady.cons rfl (fun Kc hKc => ?_) AllReady.nil
     have HKc := Lib.hid hKc
     clear hKc
     refine wp_append_own_at _ _ 93 rfl w6.heap.size 2 iI (.int .i64 0) 1 8 Tryz.underlying93 hi hz0 hz1 hz2 rfl (by decide) _ xs.length _ rfl HIa.out.own ⟨wc.heap.size, 0, none⟩ 1 1 [.int .i64 x] rfl rfl (cell_one_new _ _ _) (by simp [Value.oneCell']) hmx hby HIa.out.top ?_; intro v' we hown hgrow hnil hq9; have hboe := HIa.out.bo.grown hgrow (fun e => by have := (HIa.out.own.lt _ e.symm).1; have := HIa.out.lo.2.1; omega); have q5 := hboe.cell 0; have q6 := hboe.frozen 0; simp at q5; have HR := Lib.hid (HEND.out wc we v' HBc.out hgrow hown); obtain ⟨vo', vc', hv'⟩ := own_form hown; subst hv'; clear hown hgrow hnil hq9 hboe
     refine HKc.out _ _ ?_
     clear HKc Kc
     refine wpAny_ready (rs := [6]) (by kernel_rfl) (by simp) ?_
     refine AllReady.cons rfl (fun Kc hKc => ?_) AllReady.nil
     have HKc := Lib.hid hKc
     clear hKc
     go_simp
     refine HKc.out _ _ ?_
     clear HKc Kc
     refine wpAny_done (by kernel_rfl) ?_ _
     gi_wp2_with fail
     refine ⟨HR.out.1, HR.out.2.1, .slice vo' (xs.length + 1) vc', ?_⟩
     rw [HNX.out]
     exact HR.out.2.2
    ·have HKc := Lib.hid hKc
     clear hKc
     go_simp
     go_wp2_with (with_reducible refine PCk.out.mono ?_; rintro e wc ⟨rfl, hbc⟩; have HIc := Lib.hid (HI1.out.kept hbc); have HBc := Lib.hid (btr HBW.out hbc); have HIa := Lib.hid (HIc.out.kept (below_alloc1 wc (.cells #[.int .i64 x] 2))); have q0 := HIc.out.bo.cell 0; have q4 := HIa.out.bo.cell 0; simp at q0 q4; clear hbc)
     refine HKc.out _ _ ?_
     clear HKc Kc
     refine wpAny_ready (rs := [0, 4]) (by kernel_rfl) (by simp) ?_
     refine AllReady.cons rfl (fun Kc hKc => ?_) (AllReady.cons rfl (fun Kc hKc => ?_) AllReady.nil)
     ·have HKc := Lib.hid hKc
      clear hKc
      go_simp
      refine HKc.out _ _ ?_
      clear HKc Kc
      refine wpAny_ready (rs := [4]) (by kernel_rfl) (by simp) ?_
      refine AllReady.cons rfl (fun Kc hKc => ?_) AllReady.nil
      have HKc := Lib.hid hKc
      clear hKc
      go_simp
      refine HKc.out _ _ ?_
      clear HKc Kc
      refine wpAny_ready (rs := [5]) (by kernel_rfl) (by simp) ?_
      refine AllReady.cons rfl (fun Kc hKc => ?_) AllReady.nil
      have HKc := Lib.hid hKc
      clear hKc
      refine wp_append_own_at _ _ 93 rfl w6.heap.size 2 iI (.int .i64 0) 1 8 Tryz.underlying93 hi hz0 hz1 hz2 rfl (by decide) _ xs.length _ rfl HIa.out.own ⟨wc.heap.size, 0, none⟩ 1 1 [.int .i64 x] rfl rfl (cell_one_new _ _ _) (by simp [Value.oneCell']) hmx hby HIa.out.top ?_; intro v' we hown hgrow hnil hq9; have hboe := HIa.out.bo.grown hgrow (fun e => by have := (HIa.out.own.lt _ e.symm).1; have := HIa.out.lo.2.1; omega); have q5 := hboe.cell 0; have q6 := hboe.frozen 0; simp at q5; have HR := Lib.hid (HEND.out wc we v' HBc.out hgrow hown); obtain ⟨vo', vc', hv'⟩ := own_form hown; subst hv'; clear hown hgrow hnil hq9 hboe
      refine HKc.out _ _ ?_
      clear HKc Kc
      refine wpAny_ready (rs := [6]) (by kernel_rfl) (by simp) ?_
      refine AllReady.cons rfl (fun Kc hKc => ?_) AllReady.nil
      have HKc := Lib.hid hKc
      clear hKc
      go_simp
      refine HKc.out _ _ ?_
      clear HKc Kc
      refine wpAny_done (by kernel_rfl) ?_ _
      gi_wp2_with fail
      refine ⟨HR.out.1, HR.out.2.1, .slice vo' (xs.length + 1) vc', ?_⟩
      rw [HNX.out]
      exact HR.out.2.2
     ·have HKc := Lib.hid hKc
      clear hKc
      go_simp
      refine HKc.out _ _ ?_
      clear HKc Kc
      refine wpAny_ready (rs := [0]) (by kernel_rfl) (by simp) ?_
      refine AllReady.cons rfl (fun Kc hKc => ?_) AllReady.nil
      have HKc := Lib.hid hKc
      clear hKc
      go_simp
      refine HKc.out _ _ ?_
      clear HKc Kc
      refine wpAny_ready (rs := [5]) (by kernel_rfl) (by simp) ?_
      refine AllReady.cons rfl (fun Kc hKc => ?_) AllReady.nil
      have HKc := Lib.hid hKc
      clear hKc
      refine wp_append_own_at _ _ 93 rfl w6.heap.size 2 iI (.int .i64 0) 1 8 Tryz.underlying93 hi hz0 hz1 hz2 rfl (by decide) _ xs.length _ rfl HIa.out.own ⟨wc.heap.size, 0, none⟩ 1 1 [.int .i64 x] rfl rfl (cell_one_new _ _ _) (by simp [Value.oneCell']) hmx hby HIa.out.top ?_; intro v' we hown hgrow hnil hq9; have hboe := HIa.out.bo.grown hgrow (fun e => by have := (HIa.out.own.lt _ e.symm).1; have := HIa.out.lo.2.1; omega); have q5 := hboe.cell 0; have q6 := hboe.frozen 0; simp at q5; have HR := Lib.hid (HEND.out wc we v' HBc.out hgrow hown); obtain ⟨vo', vc', hv'⟩ := own_form hown; subst hv'; clear hown hgrow hnil hq9 hboe
      refine HKc.out _ _ ?_
      clear HKc Kc
      refine wpAny_ready (rs := [6]) (by kernel_rfl) (by simp) ?_
      refine AllReady.cons rfl (fun Kc hKc => ?_) AllReady.nil
      have HKc := Lib.hid hKc
      clear hKc
      go_simp
      refine HKc.out _ _ ?_
      clear HKc Kc
      refine wpAny_done (by kernel_rfl) ?_ _
      gi_wp2_with fail
      refine ⟨HR.out.1, HR.out.2.1, .slice vo' (xs.length + 1) vc', ?_⟩
      rw [HNX.out]
      exact HR.out.2.2
 case done =>
  intro D xs W hD hxs hI hK
  subst hxs
  obtain ⟨v, hs⟩ := hI
  rw [List.attach_map_subtype_val] at hs
  obtain ⟨vo, vc, hv⟩ := own_form hs.own
  subst hv
  have hlp : (ptsL (nb : Int) r d m s Z PL).length = PL.length := by simp [ptsL]
  have HEW : Hid (W.ownsRow w.heap.size 2 1 (.slice vo (ptsL (nb : Int) r d m s Z PL).length vc) PL.length (numsV (ptsL (nb : Int) r d m s Z PL))) := Lib.hid (by
   have := hs.own
   rw [hlp] at this ⊢
   exact ownBase this hs.lo.2.2.2.2)
  have HEB := Lib.hid hs.bel
  have q0 := hs.bo.cell 0
  simp at q0
  have HK := Lib.hid hK
  have hg4 := grownBy_putObj' W D (.deferred none)
  have HEW2 : Hid ((W.putObj D (.deferred none)).ownsRow w.heap.size 2 1 (.slice vo (ptsL (nb : Int) r d m s Z PL).length vc) PL.length (numsV (ptsL (nb : Int) r d m s Z PL))) := Lib.hid (ownKeep HEW.out hg4 (fun k hk e => by
   have e := Option.some.inj e
   obtain ⟨cs, hq⟩ := ownBlk HEW.out k hk
   rw [← e] at hq
   exact hq.not_other hK rfl rfl))
  have HEB2 : Hid (Below w.heap.size w (W.putObj D (.deferred none))) := Lib.hid (HEB.out.grown hg4 HEB.out.size (fun k e => by have e := Option.some.inj e; have := HI0.out.lo; omega))
  clear hs hlp hg4 hK
  gi_wp2_with fail
  refine ⟨by simp, .inl ⟨_, _, rfl, run_takeDeferred HK.out, ?_⟩⟩
  refine ⟨.tuple #[.slice vo (ptsL (nb : Int) r d m s Z PL).length vc, .int .i64 0], ?_, _, rfl, HEW2.out, HEB2.out⟩
  simp [results, Tryz.results135, go_sem]
 case stop =>
  intro D c pre W hD hpre hf
  exact hf.elim
end Go.Proofs.YtfeficdndjiijaaGreatDoor


namespace Go.Proofs.YtfeficdndjiijaaGreatDoor
open Go.RowKit
set_option linter.unusedVariables false
set_option linter.unusedSimpArgs false

theorem BytesAt.cell {w : World} {ao : Option Addr} {n cap : Nat} {bs : List Int} (h : BytesAt w (.slice ao n cap) bs) {j : Nat} (hj : j < bs.length) : ∃ g off, ao = some ⟨g, off, none⟩ ∧ g < w.heap.size ∧ w.cell? ⟨g, off + j, none⟩ = some (.int .u8 (cellD bs j)) := by
  obtain ⟨ao2, cap2, e, h1, h2, h3⟩ := h
  simp only [Value.slice.injEq] at e
  obtain ⟨rfl, -, rfl⟩ := e
  rcases h3 with ⟨rfl, rfl⟩ | ⟨g, off, rfl, hg, hcc⟩
  · simp at hj
  · exact ⟨g, off, rfl, hg, hcc j _ (by simp [cellD, hj])⟩
end Go.Proofs.YtfeficdndjiijaaGreatDoor


namespace Go.Proofs.YtfeficdndjiijaaGreatDoor
open Go.RowKit
set_option linter.unusedVariables false
set_option linter.unusedSimpArgs false

end Go.Proofs.YtfeficdndjiijaaGreatDoor


namespace Go.Proofs.YtfeficdndjiijaaGreatDoor
open Go.RowKit
set_option linter.unusedVariables false
set_option linter.unusedSimpArgs false

def OwnB (w : World) (base : Nat) (v : Value) (bs : List Int) : Prop := w.ownsRow base 5 1 v bs.length (bs.map (Value.int .u8))
theorem OwnB.at {w : World} {base : Nat} {v : Value} {bs : List Int} (h : OwnB w base v bs) : BytesAt w v bs := BytesAt.of_own h
def Owned (w : World) (o o' : Option Nat) : Prop := o' = o ∨ ∃ g, o' = some g ∧ w.heap.size ≤ g
theorem Owned.refl (w : World) (o : Option Nat) : Owned w o o := .inl rfl
theorem Owned.next {w : World} {ob o1 o2 : Option Nat} {n : Nat} (h : Owned w ob o1) (k : o2 = o1 ∨ o2 = some n) (hs : w.heap.size ≤ n) : Owned w ob o2 := by
  rcases k with rfl | rfl
  · exact h
  · exact .inr ⟨_, rfl, hs⟩
theorem Owned.trans {w w1 : World} {o0 o1 o2 : Option Nat} (h : Owned w o0 o1) (k : Owned w1 o1 o2) (hs : w.heap.size ≤ w1.heap.size) : Owned w o0 o2 := by
  rcases k with rfl | ⟨g, rfl, hg⟩
  · exact h
  · exact .inr ⟨g, rfl, Nat.le_trans hs hg⟩
theorem OwnB.kept {w w' : World} {base : Nat} {v : Value} {bs : List Int} (h : OwnB w base v bs) (hb : Below w.heap.size w w') : OwnB w' base v bs := World.ownsRow.kept h (below_gr (row := none) hb) (by cases v.ownBlock <;> simp)
theorem OwnB.lt {w : World} {base : Nat} {v : Value} {bs : List Int} (h : OwnB w base v bs) : ∀ k, v.ownBlock = some k → base ≤ k ∧ k < w.heap.size := World.ownsRow.lt h
theorem OwnB.open_ {w : World} {base : Nat} {v : Value} {bs : List Int} (h : OwnB w base v bs) : ∃ ao cap, v = .slice ao bs.length cap ∧ bs.length ≤ cap ∧ cap ≤ maxLen := by
  obtain ⟨ao, cap, e, h1, h2, -⟩ := h.at
  exact ⟨ao, cap, e, h1, h2⟩
theorem BytesAt.news {w : World} {ao : Option Addr} {n cap : Nat} {bs : List Int} (h : BytesAt w (.slice ao n cap) bs) (hn : n = bs.length) (w' : World) (hb : Below w.heap.size w w') :
    0 < n → ∃ ad, ao = some ad ∧ ∀ j u, (bs.map (Value.int .u8))[j]? = some u → w'.cell? (ad.add j) = some u := by
  intro h0
  obtain ⟨ao2, cap2, e, h1, h2, h3⟩ := h
  simp only [Value.slice.injEq] at e
  obtain ⟨rfl, -, rfl⟩ := e
  rcases h3 with ⟨rfl, rfl⟩ | ⟨g, off, rfl, hg, hcc⟩
  · simp at hn; omega
  · refine ⟨_, rfl, fun j u hu => ?_⟩
    rw [List.getElem?_map] at hu
    cases hz : bs[j]? with
    | none => rw [hz] at hu; simp at hu
    | some z =>
      rw [hz] at hu
      simp at hu
      subst hu
      rw [addr_add]
      exact (hb.cell (p := ⟨g, off + j, none⟩) hg).trans (hcc j z hz)
section
variable {P : Program}
end
end Go.Proofs.YtfeficdndjiijaaGreatDoor


namespace Go.Proofs.YtfeficdndjiijaaGreatDoor
open Go.RowKit
set_option linter.unusedVariables false
set_option linter.unusedSimpArgs false

structure BtAt (w : World) (g : Nat) (l : List Int) : Prop where
  lt : g < w.heap.size
  nofr : ∀ o, w.frozen? ⟨g, o, none⟩ = false
  at_ : ∀ i u, l[i]? = some u → w.cell? ⟨g, i, none⟩ = some (.int .u8 u)
theorem BtAt.of_block {w w' : World} {g : Nat} {l : List Int} (h : BtAt w g l) (e : w'.heap[g]? = w.heap[g]?) : BtAt w' g l := by
  refine ⟨?_, fun o => ?_, fun t p hp => ?_⟩
  · have h1 := h.lt
    rcases Nat.lt_or_ge g w'.heap.size with h2 | h2
    · exact h2
    · rw [Array.getElem?_eq_none h2, Array.getElem?_eq_getElem h1] at e
      cases e
  · rw [World.frozen?_of_block (by exact e)]
    exact h.nofr o
  · rw [World.cell?_of_block (by exact e)]
    exact h.at_ t p hp
theorem BtAt.set {w : World} {g : Nat} {l : List Int} (h : BtAt w g l) {i : Nat} (hi : i < l.length) (x : Int) : BtAt (w.setCell ⟨g, i, none⟩ (.int .u8 x)) g (l.set i x) := by
  refine ⟨by simpa [World.setCell] using h.lt, fun o => ?_, fun t p hp => ?_⟩
  · rw [World.frozen?_setCell]; exact h.nofr o
  · rw [List.getElem?_set] at hp
    by_cases e : i = t
    · subst e
      rw [if_pos rfl, if_pos hi] at hp
      cases hp
      exact World.cell?_setCell_same _ _ _ (h.at_ i _ (List.getElem?_eq_getElem hi))
    · rw [if_neg e] at hp
      rw [World.cell?_setCell_other _ _ _ _ (fun e2 => by simp_all)]
      exact h.at_ t p hp
theorem BtAt.drew {w1 : World} {g : Nat} {l : List Int} (h : BtAt w1 g l) : BtAt { heap := w1.heap, tape := w1.tape, drawn := w1.drawn + 1, os := w1.os, output := w1.output } g l := h.of_block rfl
set_option maxRecDepth 100000 in
set_option maxHeartbeats 8000000 in
theorem btrev (g cap : Nat) (l : List Int) (hlen : l.length ≤ 100000) (w : World) (h : BtAt w g l) :
  Calls Tryz.prog 146 #[.slice (some ⟨g, 0, none⟩) l.length cap] w fun e w' => e = .returned (.tuple #[]) ∧ BtAt w' g l.reverse ∧ w.grownBy w' (some g) := by
 obtain ⟨L, hL⟩ : ∃ L, L = l.length := ⟨_, rfl⟩
 have HL := Lib.hid hL
 rw [← hL] at hlen ⊢
 have HF := Lib.hid h
 clear h hL
 have hL1 : IntKind.i64.wrap ((L : Int) - 1) = (L : Int) - 1 := wrapI_of _ (by omega) (by omega)
 go_enter Tryz.func146, Tryz.ntmps146
 go_wp2_with fail
 go_loopw [2, 3] (fun i j wr => ∃ (k : Nat) (jv : Int) (y : List Int), i = .int .i64 (k : Int) ∧ j = .int .i64 jv ∧ jv = (L : Int) - 1 - (k : Int) ∧ 2 * k ≤ L + 1 ∧ BtAt wr g y ∧ w.grownBy wr (some g) ∧ IsRv l y k) (fun i _ _ => L + 1 - (intOf i).toNat)
 case atStart => exact ⟨0, (L : Int) - 1, l, rfl, rfl, by omega, by omega, HF.out, grRefl _ _, IsRv.zero _⟩
 case round =>
  obtain ⟨k, jv, y, rfl, rfl, hjv, hk, hf, hg, hs⟩ := hrel
  have HFY := Lib.hid hf
  have HG := Lib.hid hg
  have HS := Lib.hid hs
  clear hf hg hs
  by_cases hkn : (k : Int) < jv
  ·obtain ⟨q, hq⟩ : ∃ q : Nat, jv = (q : Int) := ⟨jv.toNat, by omega⟩
   subst hq
   have hkL : (k : Int) < (L : Int) := by omega
   have hqL : (q : Int) < (L : Int) := by omega
   have hk0 : (0 : Int) ≤ (k : Int) := by omega
   have hq0 : (0 : Int) ≤ (q : Int) := by omega
   have hyl : y.length = L := by rw [HS.out.1, HL.out]
   obtain ⟨u, hu⟩ : ∃ u, y[k]? = some u := ⟨_, List.getElem?_eq_getElem (by omega)⟩
   obtain ⟨v, hv⟩ : ∃ v, y[q]? = some v := ⟨_, List.getElem?_eq_getElem (by omega)⟩
   have HPQ : Hid (q = L - 1 - k ∧ k < q ∧ y.length = L ∧ y[k]? = some u ∧ y[q]? = some v) := Lib.hid ⟨by omega, by omega, hyl, hu, hv⟩
   have HJ := Lib.hid hjv
   clear hyl hu hv hjv
   go_wp2_with fail
   have HFD := Lib.hid HFY.out.drew
   have HGD := Lib.hid (grDrew HG.out)
   refine wp_region_any (by kernel_rfl) ?_
   generalize ({ heap := wr.heap, tape := wr.tape, drawn := wr.drawn + 1, os := wr.os, output := wr.output } : World) = wd at *
   have hlp := HFD.out.at_ k u HPQ.out.2.2.2.1
   have hlq := HFD.out.at_ q v HPQ.out.2.2.2.2
   have f0 := HFD.out.nofr k
   have f1 := HFD.out.nofr q
   refine tkA (i := 2) (v := ?_) rfl (by kernel_rfl) (fun _ _ _ h => h) (Or.inl ⟨by rfl, ?_⟩) ?_
   rotate_left
   ·intro w
    go_simp
    try with_reducible rfl
   simp only [Act.put, z1, z2, z3, z4, z5, z6]
   refine tkA (i := 3) (v := ?_) rfl (by kernel_rfl) (fun _ _ _ h => h) (Or.inl ⟨by rfl, ?_⟩) ?_
   rotate_left
   ·intro w
    go_simp
    try with_reducible rfl
   simp only [Act.put, z1, z2, z3, z4, z5, z6]
   refine wpAny_still_tail [true, true, false, false, true, true, true, true, true, true, true, true, true] [2, 3] _ (by kernel_rfl) (by kernel_rfl) ?_
   simp only [dropAt, List.length_cons, List.length_nil, List.drop_succ_cons, List.drop_zero]
   repeat (first | still_step)
   refine wpStill_nil ?_
   try simp only [Act.put, z1, z2, z3, z4, z5, z6]
   have hf2 := HFD.out.set (i := k) (by have := HPQ.out.2.2.1; omega) v
   have hc2 := hf2.at_ q v (by have := HPQ.out; rw [List.getElem?_set, if_neg (by omega)]; exact this.2.2.2.2)
   have ff2 := hf2.nofr q
   have HF3 := Lib.hid (hf2.set (i := q) (by have := HPQ.out.2.2.1; simp; omega) u)
   have HG3 := Lib.hid (gr_setC (gr_setC HGD.out k (.int .u8 v)) q (.int .u8 u))
   have HS3 : Hid (IsRv l ((y.set k v).set q u) (k + 1)) := Lib.hid (HS.out.next (by rw [← HL.out]; exact HPQ.out.1) HPQ.out.2.1 HPQ.out.2.2.2.1 HPQ.out.2.2.2.2)
   clear hf2
   go_wp2_with fail
   go_roundw
   case rel => exact ⟨k + 1, (q : Int) - 1, _, by go_num, by go_num, by have := HJ.out; omega, by have := HJ.out; have := HPQ.out.2.1; omega, HF3.out, HG3.out, HS3.out⟩
   case measure => simp [intOf]; omega
  ·have HR : Hid (BtAt wr g l.reverse) := Lib.hid (by rw [← HS.out.done (by rw [← HL.out]; omega)]; exact HFY.out)
   go_wp2_with fail
   go_end0
   exact ⟨rfl, HR.out, HG.out⟩
theorem div10 (lo : Nat) (h : lo < 18446744073709551616) (w : World) : Calls Tryz.prog 103 #[.int .u64 0, .int .u64 (lo : Int), .int .u64 10] w fun e w' => e = .returned (.tuple #[.int .u64 ((lo / 10 : Nat) : Int), .int .u64 ((lo % 10 : Nat) : Int)]) ∧ Below w.heap.size w w' := by
  have h1 : (0 : Int) ≤ (lo : Int) := by omega
  have h2 : (lo : Int) ≤ 18446744073709551615 := by omega
  have e1 : ((lo / 10 : Nat) : Int) = (lo : Int) / 10 := by omega
  have e2 : ((lo % 10 : Nat) : Int) = (lo : Int) % 10 := by omega
  rw [e1, e2]
  clear e1 e2 h
  go_enter Tryz.func103, Tryz.ntmps103
  go_wp2_with fail
  go_quiet (fail)
  go_wp2_with fail
  go_ret2
  exact ⟨rfl, below_drewN (Below.refl _ _) nq⟩
theorem wsize (lo : Int) (h0 : 0 ≤ lo) (h1 : lo ≤ 18446744073709551615) (w : World) : Calls Tryz.prog 102 #[.agg #[.int .i64 0, .int .u64 lo]] w fun e w' => e = .returned (.tuple #[.int .u64 0, .int .u64 lo]) ∧ Below w.heap.size w w' := by
 have hx := Blk.new w 143 #[.int .i64 0, .int .u64 lo]
 have HX := Lib.hid hx
 have HB1 : Hid (Below w.heap.size w (w.alloc (.cells #[.int .i64 0, .int .u64 lo] 143))) := Lib.hid ((Below.refl _ w).alloc (Nat.le_refl _) _)
 clear hx
 go_enter Tryz.func102, Tryz.ntmps102
 go_wp2_with fail
 generalize (w.alloc (.cells #[.int .i64 0, .int .u64 lo] 143)) = w1 at *
 refine wp_region_held_drew (S := fun w' => Blk w' w.heap.size 143 #[.int .i64 0, .int .u64 lo] ∧ Below w.heap.size w w') (by kernel_rfl) (by exact ⟨HX.out.kept (below_drewN (Below.refl _ _) 1), below_drewN HB1.out 1⟩) (fun hHeld => ?_)
 refine tkH (i := 0) (v := ?_) rfl (by kernel_rfl) (fun _ _ _ h => h) (Or.inl ⟨by rfl, ?_⟩) (by assumption) ?_
 rotate_left
 ·intro w hSw
  try dsimp only at hSw
  go_simp
  try with_reducible rfl
 simp only [Act.put, z1, z2, z3, z4, z5, z6]
 refine tkH (i := 1) (v := ?_) rfl (by kernel_rfl) (fun _ _ _ h => h) (Or.inl ⟨by rfl, ?_⟩) (by assumption) ?_
 rotate_left
 ·intro w hSw
  have q0 := hSw.1.cell 0
  have q1 := hSw.1.cell 1
  simp at q0 q1
  go_simp
  try with_reducible rfl
 simp only [Act.put, z1, z2, z3, z4, z5, z6]
 refine tkH (i := 2) (v := ?_) rfl (by kernel_rfl) (fun _ _ _ h => h) (Or.inl ⟨by rfl, ?_⟩) (by assumption) ?_
 rotate_left
 ·intro w hSw
  try dsimp only at hSw
  go_simp
  try with_reducible rfl
 simp only [Act.put, z1, z2, z3, z4, z5, z6]
 refine tkH (i := 3) (v := ?_) rfl (by kernel_rfl) (fun _ _ _ h => h) (Or.inl ⟨by rfl, ?_⟩) (by assumption) ?_
 rotate_left
 ·intro w hSw
  try dsimp only at hSw
  go_simp
  try with_reducible rfl
 simp only [Act.put, z1, z2, z3, z4, z5, z6]
 refine tkH (i := 4) (v := ?_) rfl (by kernel_rfl) (fun _ _ _ h => h) (Or.inl ⟨by rfl, ?_⟩) (by assumption) ?_
 rotate_left
 ·intro w hSw
  have q0 := hSw.1.cell 0
  have q1 := hSw.1.cell 1
  simp at q0 q1
  go_simp
  try with_reducible rfl
 simp only [Act.put, z1, z2, z3, z4, z5, z6]
 refine tkH (i := 5) (v := ?_) rfl (by kernel_rfl) (fun _ _ _ h => h) (Or.inl ⟨by rfl, ?_⟩) (by assumption) ?_
 rotate_left
 ·intro w hSw
  try dsimp only at hSw
  go_simp
  try with_reducible rfl
 simp only [Act.put, z1, z2, z3, z4, z5, z6]
 refine tkH (i := 6) (v := ?_) rfl (by kernel_rfl) (fun _ _ _ h => h) (Or.inl ⟨by rfl, ?_⟩) (by assumption) ?_
 rotate_left
 ·intro w hSw
  try dsimp only at hSw
  go_simp
  try with_reducible rfl
 simp only [Act.put, z1, z2, z3, z4, z5, z6]
 refine wpAnyH_done (by kernel_rfl) ?_ _
 have q0 := hHeld.1.cell 0
 simp at q0
 have HBZ := Lib.hid hHeld.2
 clear hHeld
 go_wp2_with fail
 go_ret2
 exact ⟨rfl, HBZ.out⟩
def u8s (bs : List Int) : List UInt8 := bs.map fun n => UInt8.ofNat n.toNat
theorem strB_u8s (bs : List Int) : strB bs = sB (u8s bs) := rfl
theorem BtAt.of_own {w : World} {base : Nat} {ao : Option Addr} {cap : Nat} {bs : List Int} (h : OwnB w base (.slice ao bs.length cap) bs) (hn : 0 < bs.length) : ∃ g, ao = some ⟨g, 0, none⟩ ∧ base ≤ g ∧ BtAt w g bs ∧ bs.length ≤ cap ∧ cap ≤ maxLen := by
  rcases h.2 with ⟨e, h0⟩ | ⟨g, cap', cur, e, hg, hblk, hcap, hm, hsz, htk⟩
  · omega
  · simp only [Value.slice.injEq] at e
    obtain ⟨rfl, -, rfl⟩ := e
    have hb : Blk w g 5 cur := hblk
    refine ⟨g, rfl, hg, ⟨hb.lt, fun o => hb.frozen o, fun i u hu => ?_⟩, hcap, hm⟩
    rw [hb.cell i]
    have h1 : (bs.map (Value.int .u8))[i]? = some (.int .u8 u) := by rw [List.getElem?_map, hu]; rfl
    rw [← htk, List.getElem?_take] at h1
    split at h1
    · simpa using h1
    · cases h1
theorem BtAt.bytes {w : World} {g cap : Nat} {bs : List Int} (h : BtAt w g bs) (h1 : bs.length ≤ cap) (h2 : cap ≤ maxLen) : BytesAt w (.slice (some ⟨g, 0, none⟩) bs.length cap) bs :=
  ⟨_, cap, rfl, h1, h2, .inr ⟨g, 0, rfl, h.lt, fun i u hu => by rw [Nat.zero_add]; exact h.at_ i u hu⟩⟩
theorem reversed_any (w : World) (base : Nat) (v : Value) (bs : List Int) (h : OwnB w base v bs) (hn : 0 < bs.length) (hl : bs.length ≤ 1000) :
  Calls Tryz.prog 104 #[v] w fun e w' => e = .returned (.string (sB (u8s bs.reverse))) ∧ (∀ B, B ≤ base → B ≤ w.heap.size → Below B w w') := by
 obtain ⟨ao, cap, rfl, -, -⟩ := h.open_
 obtain ⟨g, rfl, hg, hb, hc1, hc2⟩ := BtAt.of_own h hn
 have PR := Lib.hid (btrev g cap bs (by omega) w hb)
 have HG := Lib.hid hg
 have hlr : bs.reverse.length = bs.length := List.length_reverse
 have HC : Hid (∀ w', BtAt w' g bs.reverse → (convert 41 9 (.slice (some ⟨g, 0, none⟩) bs.length cap)).run Tryz.prog w' = .ok (.string (sB (u8s bs.reverse))) w') := Lib.hid (fun w' hw => by
  have := strB_conv (P := Tryz.prog) (hw.bytes (cap := cap) (by rw [hlr]; exact hc1) hc2) 41 5 9 Tryz.underlying41 Tryz.underlying5 Tryz.underlying9
  rw [hlr, strB_u8s] at this
  exact this)
 generalize bs.length = n at *
 clear h hn hb hc1 hc2 hlr hg
 go_enter Tryz.func104, Tryz.ntmps104
 go_wp2_with fail
 with_reducible refine PR.out.mono ?_
 rintro e w1 ⟨rfl, hb, hgr⟩
 have hcv := HC.out _ hb
 have HGR := Lib.hid hgr
 clear hb hgr PR
 go_wp2_with fail
 go_ret
 refine ⟨rfl, fun B h1 h2 => ?_⟩
 exact (Below.refl B w).grown HGR.out h2 (fun k e => by have := HG.out; simp at e; omega)
end Go.Proofs.YtfeficdndjiijaaGreatDoor


namespace Go.Proofs.YtfeficdndjiijaaGreatDoor
open Go.RowKit
set_option linter.unusedVariables false
set_option linter.unusedSimpArgs false

def PlainW (a : List UInt8) : Prop := GoodW a ∧ Asc a ∧ a.length ≤ 5000
theorem num_plain (n : Int) (h0 : -9223372036854775808 ≤ n) (h1 : n ≤ 9223372036854775807) : PlainW (Lib.itoa n) := by
  refine ⟨⟨itoa_ne n, itoa_head n, fun x hx e => ?_⟩, fun x hx => ?_, ?_⟩
  · have := itoa_chars n x hx
    subst e
    revert this
    decide
  · rcases itoa_chars n x hx with h | h <;> omega
  · have := Lib.itoa_length_le n h0 h1
    omega
theorem asc_join : ∀ (ws : List (List UInt8)), (∀ a ∈ ws, Asc a) → Asc (joinW ws)
  | [], _ => fun x hx => by simp [joinW] at hx
  | a :: r, h => fun x hx => by
    rw [joinW_cons] at hx
    rcases List.mem_append.1 hx with h1 | h1
    · exact h a (by simp) x h1
    · split at h1
      · simp at h1
      · rcases List.mem_cons.1 h1 with h2 | h2
        · subst h2; decide
        · exact asc_join r (fun b hb => h b (by simp [hb])) x h2
theorem len_join (k : Nat) : ∀ (ws : List (List UInt8)), (∀ a ∈ ws, a.length ≤ k) → (joinW ws).length ≤ ws.length * (k + 1)
  | [], _ => by simp [joinW]
  | a :: r, h => by
    rw [joinW_cons, List.length_append]
    have h1 := h a (by simp)
    have h2 := len_join k r (fun b hb => h b (by simp [hb]))
    rw [List.length_cons, Nat.add_mul, Nat.one_mul]
    split
    · simp; omega
    · simp; omega
theorem parse_ws (PC : Value → World → Prop) (hPC : Stays PC) (ws : List (List UInt8)) (hg : ∀ a ∈ ws, PlainW a) (hlen : ws.length ≤ 12) (hws : ws ≠ []) (w : World) (ht : Tab w)
    (hcmd : ∀ (w1 : World) (R : Nat) (v : Value) (en : Int), w.heap.size ≤ w1.heap.size → Rd w1 R v 0 en → WdAt w1 v ws → Tab w1 →
      Calls Tryz.prog 44 #[.pointer (some ⟨R, 0, none⟩)] w1 fun e w' => ∃ c, e = .returned c ∧ PC c w' ∧ Rd w' R v (ws.length : Int) en ∧ w1.grownBy w' (some R)) :
    Calls Tryz.prog 21 #[.string (sB (joinW ws))] w fun e w' => ∃ c, e = .returned (.tuple #[c, .int .i64 0, .int .i64 0]) ∧ PC c w' ∧ Below w.heap.size w w' := by
  have hl := len_join 5000 ws (fun a ha => (hg a ha).2.2)
  have h12 : ws.length * 5001 ≤ 12 * 5001 := Nat.mul_le_mul_right _ hlen
  exact parse_of PC hPC _ ws rfl (fun a ha => (hg a ha).1) (asc_join ws (fun a ha => (hg a ha).2.1)) (by omega) (by omega) hws w ht hcmd
theorem stays_eq (c0 : Value) : Stays (fun c _ => c = c0) := fun c w w' h _ => h
theorem AggSt.zero {w : World} {A bm base : Nat} {b r d m s : Int} {S L : Nat → Nat} {X : Nat → Nat → Value} {Ar G C : Nat → Nat → Nat} {Z : Nat → Nat → List Int} {T : Nat → Option Nat × Option Nat} (h : AggIs w A bm 0 T) (h1 : base ≤ A) (h2 : base ≤ bm) (ht : Tab w) : AggSt w base A bm 0 b r d m s S L X Ar G C Z :=
  ⟨⟨T, h, fun i h3 h4 => by omega⟩, fun i h3 h4 => by omega, fun i j p q h3 h4 => by omega, ⟨h1, h2⟩, ht⟩
theorem Tab.onl {F : Nat → Prop} {w w' : World} (h : Tab w) (ho : Onl F w w') (hF : ∀ k, F k → k ≠ 4) : Tab w' := by
  unfold Tab Lib.TabIs World.var? at h ⊢
  rw [Tryz.tabNum] at h ⊢
  simp only [Option.bind_some] at h ⊢
  have hlt : 4 < w.heap.size := by
    cases hx : w.heap[4]? with
    | none => rw [hx] at h; simp at h
    | some o => exact (Array.getElem?_eq_some_iff.1 hx).1
  rw [ho.2.2.2.2 _ hlt (fun hf => hF _ hf rfl)]
  exact h
theorem Tab.lt {w : World} (h : Tab w) : 4 < w.heap.size := by
  unfold Tab Lib.TabIs World.var? at h
  rw [Tryz.tabNum] at h
  simp only [Option.bind_some] at h
  cases hx : w.heap[4]? with
  | none => rw [hx] at h; simp at h
  | some o => exact (Array.getElem?_eq_some_iff.1 hx).1
theorem AggSt.push {w1 w2 : World} {base A bm n : Nat} {b r d m s : Int} {S L : Nat → Nat} {X : Nat → Nat → Value} {Ar G C : Nat → Nat → Nat} {Z : Nat → Nat → List Int} {T : Nat → Option Nat × Option Nat} {S' L' lo : Nat} {X' : Nat → Value} {A' G' C' : Nat → Nat} {Z' : Nat → List Int} (h : AggSt w1 base A bm n b r d m s S L X Ar G C Z) (hT : ∀ i, 1 ≤ i → i ≤ n → T i = (some (S i), none)) (hbase : 4 < base) (hlo0 : base ≤ lo)
  (hlo : ∀ i p, 1 ≤ i → i ≤ n → p ≤ b.toNat → C i p < lo) (hst : StIs w1 lo S' L' b r d m s X' A' G' C' Z') (ha : AggIs w2 A bm (n + 1) (upT T (n + 1) (some S') none)) (hc : Chg [A, bm] w1 w2) (hns : NoSt w1 A ∧ NoSt w1 bm) :
  AggSt w2 base A bm (n + 1) b r d m s (upN S (n + 1) S') (upN L (n + 1) L') (upN X (n + 1) X') (upN Ar (n + 1) A') (upN G (n + 1) G') (upN C (n + 1) C') (upN Z (n + 1) Z') := by
 have ho := Onl.of_chg hc
 have hF : ∀ (CC : Nat → Nat), ∀ k, k ∈ [A, bm] → NoSt w1 k ∨ ((∃ cs, Blk w1 k 2 cs) ∧ ∀ n, n ≤ b.toNat → k ≠ CC n) := fun CC k hk => by
  simp at hk
  rcases hk with rfl | rfl
  ·exact .inl hns.1
  ·exact .inl hns.2
 refine ⟨⟨_, ha, fun i h1 h2 => ?_⟩, fun i h1 h2 => ?_, fun i j p q h1 h2 h3 h4 hne h5 h6 => ?_, h.lo, h.tab.onl ho (fun k hk => by simp at hk; have := h.lo; rcases hk with rfl | rfl <;> omega)⟩
 ·by_cases e : i = n + 1
  ·subst e; simp [upT, upN_same]
  ·rw [upN_other _ _ e]
   simp only [upT, if_neg e]
   exact hT i h1 (by omega)
 ·by_cases e : i = n + 1
  ·subst e
   simp only [upN_same]
   exact (hst.low_ hlo0).onl ho (hF _)
  ·simp only [upN_other _ _ e]
   exact (h.st i h1 (by omega)).onl ho (hF _)
 ·by_cases e1 : i = n + 1
  ·subst e1
   rw [upN_same, upN_other _ _ (Ne.symm hne)]
   have h7 := hst.low p h5
   have h8 := hlo j q h3 (by omega) h6
   omega
  ·rw [upN_other _ _ e1]
   by_cases e2 : j = n + 1
   ·subst e2
    rw [upN_same]
    have h7 := hst.low q h6
    have h8 := hlo i p h1 (by omega) h5
    omega
   ·rw [upN_other _ _ e2]
    exact h.apart i j p q h1 (by omega) h3 (by omega) hne h5 h6
end Go.Proofs.YtfeficdndjiijaaGreatDoor


namespace Go.Proofs.YtfeficdndjiijaaGreatDoor
open Go.RowKit
set_option linter.unusedVariables false
set_option linter.unusedSimpArgs false

def wCreate : List UInt8 := [99, 114, 101, 97, 116, 101]
def wAdd : List UInt8 := [97, 100, 100]
theorem plainLit (a : List UInt8) (h : (a != [] && a.head? != some 34 && a.all (fun x => x != 32 && decide (x.toNat < 128)) && decide (a.length ≤ 5000)) = true) : PlainW a := by
  simp only [Bool.and_eq_true, bne_iff_ne, ne_eq, List.all_eq_true, decide_eq_true_eq] at h
  obtain ⟨⟨⟨h1, h2⟩, h3⟩, h4⟩ := h
  exact ⟨⟨h1, h2, fun x hx => (h3 x hx).1⟩, fun x hx => (h3 x hx).2, h4⟩
theorem AggSt.base_le {w : World} {base A bm n : Nat} {b r d m s : Int} {S L : Nat → Nat} {X : Nat → Nat → Value} {Ar G C : Nat → Nat → Nat} {Z : Nat → Nat → List Int} (h : AggSt w base A bm n b r d m s S L X Ar G C Z) : base ≤ w.heap.size ∧ A < w.heap.size ∧ bm < w.heap.size := by
  obtain ⟨T, h1, h2⟩ := h.agg
  have := h1.lt
  have := h.lo
  omega
theorem AggSt.ltC {w : World} {base A bm n : Nat} {b r d m s : Int} {S L : Nat → Nat} {X : Nat → Nat → Value} {Ar G C : Nat → Nat → Nat} {Z : Nat → Nat → List Int} (h : AggSt w base A bm n b r d m s S L X Ar G C Z) (i p : Nat) (h1 : 1 ≤ i) (h2 : i ≤ n) (h3 : p ≤ b.toNat) : C i p < w.heap.size := ((h.st i h1 h2).under.2.2 p h3).2.2
theorem line_create (w : World) (base A bm n : Nat) (b r d m s x4 : Int) (S L : Nat → Nat) (X : Nat → Nat → Value) (Ar G C : Nat → Nat → Nat) (Z : Nat → Nat → List Int) (h : AggSt w base A bm n b r d m s S L X Ar G C Z) (hg : 4 < base) (hn : n < 32) (hr : rightB b r d m = true) (hx4 : In64 x4) (hs : IntKind.u64.wrap x4 = s) :
  Calls Tryz.prog 8 #[.pointer (some ⟨A, 0, none⟩), .string (sB (joinW [wCreate, Lib.itoa b, Lib.itoa r, Lib.itoa d, Lib.itoa m, Lib.itoa x4]))] w fun e w' => ∃ t, e = .returned (.tuple #[.string t, .bool true]) ∧ t = sB ([104, 97, 110, 100, 108, 101, 32] ++ Lib.itoa ((n : Int) + 1)) ∧
   ∃ S' L' X' A' G' C', AggSt w' base A bm (n + 1) b r d m s (upN S (n + 1) S') (upN L (n + 1) L') (upN X (n + 1) X') (upN Ar (n + 1) A') (upN G (n + 1) G') (upN C (n + 1) C') (upN Z (n + 1) (zeroZ b r d m)) ∧ AOnl base A bm w w' := by
 have hR := right_of hr
 have i64 : ∀ x : Int, 0 ≤ x → x ≤ 1000 → In64 x := fun x h0 h1 => by unfold In64; omega
 have hb := i64 b (by omega) (by omega)
 have hrr := i64 r (by omega) (by omega)
 have hd := i64 d (by omega) (by omega)
 have hm := i64 m (by omega) (by omega)
 obtain ⟨T, hT1, hT2⟩ := h.agg
 have hsz := h.base_le
 refine line_of A _ w (fun c _ => c = .iface 110 (.agg #[.int .i64 b, .int .i64 r, .int .i64 d, .int .i64 m, .int .u64 s]))
  (fun rr w2 => rr = .iface 135 (.agg #[.int .i64 ((n : Int) + 1)]) ∧ ∃ S' L' X' A' G' C', AggSt w2 base A bm (n + 1) b r d m s (upN S (n + 1) S') (upN L (n + 1) L') (upN X (n + 1) X') (upN Ar (n + 1) A') (upN G (n + 1) G') (upN C (n + 1) C') (upN Z (n + 1) (zeroZ b r d m)) ∧ AOnl base A bm w w2)
  _ (fun c _ hc => ⟨_, _, hc⟩) ?_ ?_ ?_
 ·refine parse_ws _ (stays_eq _) _ (fun a ha => ?_) (by simp) (by simp) w h.tab (fun w1 R v en hle hr1 hv ht1 => ?_)
  ·simp only [List.mem_cons, List.mem_nil_iff, or_false] at ha
   rcases ha with rfl | rfl | rfl | rfl | rfl | rfl
   ·exact plainLit _ (by decide)
   ·exact num_plain _ hb.1 hb.2
   ·exact num_plain _ hrr.1 hrr.2
   ·exact num_plain _ hd.1 hd.2
   ·exact num_plain _ hm.1 hm.2
   ·exact num_plain _ hx4.1 hx4.2
  ·refine (cmd_create w1 R v _ en b r d m x4 hr1 hv rfl (by simp) rfl rfl rfl rfl rfl hb hrr hd hm hx4 ht1 s hs).mono ?_
   rintro e w' ⟨rfl, h2, h3⟩
   exact ⟨_, rfl, rfl, h2, h3⟩
 ·rintro c w1 hb1 rfl
  refine do_create w1 A b r d m s _ (fun S' w2 => ∃ lo L' X' A' G' C', w.heap.size ≤ lo ∧ StIs w2 lo S' L' b r d m s X' A' G' C' (zeroZ b r d m) ∧ Below w.heap.size w w2) ?_ ?_
  ·intro w2 hb2
   refine (stnew_yes b r d m s hr w2).mono ?_
   rintro e w3 ⟨S', L', X', A', G', C', rfl, -, hst, hb3⟩
   have h12 := btr hb1 hb2
   exact ⟨S', rfl, _, L', X', A', G', C', h12.size, hst, btr h12 hb3⟩
  ·rintro S' w2 ⟨lo, L', X', A', G', C', hlo, hst, hb2⟩
   have hk := h.kept hb2
   have ha2 := hT1.kept hb2
   refine (aggmade w2 A bm n T (some S') none ha2 hn).mono ?_
   rintro e w3 ⟨rfl, ha3, hc⟩
   refine ⟨_, rfl, rfl, S', L', X', A', G', C', hk.push hT2 hg (by omega) (fun i p h1 h2 h3 => Nat.lt_of_lt_of_le (h.ltC i p h1 h2 h3) hlo) hst ha3 hc ha2.noSt, ?_⟩
   exact (AOnl.below hb2).trans (AOnl.of (Onl.of_chg hc) (fun k _ hk => by simp at hk; rcases hk with e | e; exact .inl e; exact .inr (.inl e)))
 ·rintro rr w2 ⟨rfl, S', L', X', A', G', C', hA, hB⟩
  refine (text_handle _ (by omega) (by omega) w2 hA.tab).mono ?_
  rintro e w3 ⟨rfl, hb3⟩
  exact ⟨_, rfl, rfl, S', L', X', A', G', C', hA.kept hb3, hB.trans (AOnl.below hb3)⟩
theorem AggIs.onl {F : Nat → Prop} {w w' : World} {A bm n : Nat} {T : Nat → Option Nat × Option Nat} (h : AggIs w A bm n T) (ho : Onl F w w') (hA : ¬ F A) (hB : ¬ F bm) : AggIs w' A bm n T := by
  have hlt := h.lt
  obtain ⟨h1, D, ⟨es, clock, h2, h4⟩, h3⟩ := h
  exact ⟨(ho.2.2.2.2 A hlt.1 hA).trans h1, D, ⟨es, clock, (ho.2.2.2.2 bm hlt.2 hB).trans h2, h4⟩, h3⟩
theorem AggSt.upd {w1 w2 : World} {base A bm n : Nat} {b r d m s : Int} {S L : Nat → Nat} {X : Nat → Nat → Value} {Ar G C : Nat → Nat → Nat} {Z : Nat → Nat → List Int} (h : AggSt w1 base A bm n b r d m s S L X Ar G C Z) (hbase : 4 < base) {i : Nat} (h1 : 1 ≤ i) (h2 : i ≤ n) {Z' : Nat → List Int}
  (hst : StIs w2 base (S i) (L i) b r d m s (X i) (Ar i) (G i) (C i) Z') (hg : RGr w1 w2 (C i) (b.toNat + 1)) : AggSt w2 base A bm n b r d m s S L X Ar G C (upN Z i Z') ∧ AOnl base A bm w1 w2 := by
 have ho := Onl.of_rgr hg
 have hsi := h.st i h1 h2
 have hblk : ∀ p, p ≤ b.toNat → ∃ cs, Blk w1 (C i p) 2 cs := fun p hp => (hsi.lev p hp).cells
 obtain ⟨T, hT1, hT2⟩ := h.agg
 refine ⟨⟨⟨T, hT1.onl ho ?_ ?_, hT2⟩, fun j h3 h4 => ?_, h.apart, h.lo, h.tab.onl ho ?_⟩, AOnl.of ho ?_⟩
 ·rintro ⟨p, hp, e⟩
  obtain ⟨cs, hc⟩ := hblk p (by omega)
  rw [← e] at hc
  exact (hT1.noSt.1 _ _ hc).1 rfl
 ·rintro ⟨p, hp, e⟩
  obtain ⟨cs, hc⟩ := hblk p (by omega)
  rw [← e] at hc
  exact (hT1.noSt.2 _ _ hc).1 rfl
 ·by_cases e : j = i
  ·subst e; rw [upN_same]; exact hst
  ·rw [upN_other _ _ e]
   refine (h.st j h3 h4).onl ho ?_
   rintro k ⟨p, hp, rfl⟩
   exact .inr ⟨hblk p (by omega), fun q hq => h.apart i j p q h1 h2 h3 h4 (Ne.symm e) (by omega) hq⟩
 ·rintro k ⟨p, hp, rfl⟩
  have := hsi.low p (by omega)
  omega
 ·rintro k - ⟨p, hp, rfl⟩
  exact .inr (.inr ⟨hsi.low p (by omega), hblk p (by omega)⟩)
theorem line_add (w : World) (base A bm n : Nat) (b r d m s : Int) (S L : Nat → Nat) (X : Nat → Nat → Value) (Ar G C : Nat → Nat → Nat) (Z : Nat → Nat → List Int) (h : AggSt w base A bm n b r d m s S L X Ar G C Z) (hg : 4 < base) (hn : n ≤ 32) (s0 : 0 ≤ s) (s1 : s ≤ 18446744073709551615)
  (i : Nat) (h1 : 1 ≤ i) (h2 : i ≤ n) (key : Nat) (hk : key ≤ 9223372036854775807) (x : Int) (hx : In64 x) (herr : stErr b r d m s (Z i) key x = 0) :
  Calls Tryz.prog 8 #[.pointer (some ⟨A, 0, none⟩), .string (sB (joinW [wAdd, Lib.itoa (i : Int), Lib.itoa (key : Int), Lib.itoa x]))] w fun e w' => ∃ t, e = .returned (.tuple #[.string t, .bool true]) ∧ t = sB [100, 111, 110, 101] ∧
   AggSt w' base A bm n b r d m s S L X Ar G C (upN Z i (stUpd b r d m s (Z i) key x)) ∧ AOnl base A bm w w' := by
 obtain ⟨T, hT1, hT2⟩ := h.agg
 have hsz := h.base_le
 have hi64 : In64 (i : Int) := by unfold In64; omega
 refine line_of A _ w (fun c _ => c = .iface 117 (.agg #[.int .i64 (i : Int), .bool false, .string ⟨#[]⟩, .int .u64 (key : Int), .int .i64 x]))
  (fun rr w2 => rr = .iface 133 (.agg #[]) ∧ AggSt w2 base A bm n b r d m s S L X Ar G C (upN Z i (stUpd b r d m s (Z i) key x)) ∧ AOnl base A bm w w2)
  _ (fun c _ hc => ⟨_, _, hc⟩) ?_ ?_ ?_
 ·refine parse_ws _ (stays_eq _) _ (fun a ha => ?_) (by simp) (by simp) w h.tab (fun w1 R v en hle hr1 hv ht1 => ?_)
  ·simp only [List.mem_cons, List.mem_nil_iff, or_false] at ha
   rcases ha with rfl | rfl | rfl | rfl
   ·exact plainLit _ (by decide)
   ·exact num_plain _ hi64.1 hi64.2
   ·exact num_plain _ (by omega) (by omega)
   ·exact num_plain _ hx.1 hx.2
  ·refine (cmd_add w1 R v _ en i key x hr1 hv rfl (by simp) rfl rfl rfl hi64 (by omega) (by omega) hx ht1).mono ?_
   rintro e w' ⟨rfl, h2, h3⟩
   exact ⟨_, rfl, rfl, h2, h3⟩
 ·rintro c w1 hb1 rfl
  refine do_add w1 A i key x _ (fun w2 hb2 => ?_)
  have hk2 := hT1.kept (btr hb1 hb2)
  refine (aggadd w2 A bm n T i key x (S i) hk2 (by omega) (by omega) (by omega) (by rw [Int.toNat_natCast]; exact hT2 i h1 h2) (fun w3 w4 => Below w2.heap.size w2 w3 → AggSt w4 base A bm n b r d m s S L X Ar G C (upN Z i (stUpd b r d m s (Z i) key x)) ∧ AOnl base A bm w w4) (fun w3 hb3 => ?_)).mono ?_
  ·have hb13 := btr (btr hb1 hb2) hb3
   have h3 := h.kept hb13
   refine (stupdate w3 base (S i) (L i) b r d m s (X i) (Ar i) (G i) (C i) (Z i) (h3.st i h1 h2) s0 s1 key (by omega) x hx).mono ?_
   rintro e w4 ⟨rfl, hst, hgr⟩
   rw [herr]
   refine ⟨rfl, fun _ => ?_⟩
   have hu := h3.upd hg h1 h2 hst hgr
   exact ⟨hu.1, (AOnl.below hb13).trans hu.2⟩
  ·rintro e w4 ⟨rfl, w3, hb3, hu⟩
   exact ⟨_, rfl, rfl, hu hb3⟩
 ·rintro rr w2 ⟨rfl, hA, hB⟩
  refine (text_done w2).mono ?_
  rintro e w3 ⟨rfl, hb3⟩
  exact ⟨_, rfl, rfl, hA.kept hb3, hB.trans (AOnl.below hb3)⟩
end Go.Proofs.YtfeficdndjiijaaGreatDoor


namespace Go.Proofs.YtfeficdndjiijaaGreatDoor
open Go.RowKit Go.Shelf
set_option linter.unusedVariables false
set_option linter.unusedSimpArgs false

theorem own_ints {w : World} {base g n cap : Nat} {xs : List Int} (h : w.ownsRow base 2 1 (.slice (some ⟨g, 0, none⟩) n cap) n (numsV xs)) (hn : n = xs.length) : g < w.heap.size ∧ ∀ i u, xs[i]? = some u → w.cell? ⟨g, i, none⟩ = some (.int .i64 u) := by
  rcases h.2 with ⟨e, h0⟩ | ⟨g', cap', cur, e, hb, hg, hnc, hcm, hsz, htake⟩
  · cases e
  · simp only [Value.slice.injEq, Option.some.injEq, Addr.mk.injEq] at e
    obtain ⟨⟨rfl, -⟩, -, rfl⟩ := e
    have hg' : Blk w g 2 cur := hg
    refine ⟨hg'.lt, fun i u hu => ?_⟩
    rw [hg'.cell i]
    have hlt := (List.getElem?_eq_some_iff.1 hu).1
    have h1 : (numsV xs)[i]? = some (.int .i64 u) := by rw [numsV, List.getElem?_map, hu]; rfl
    rw [← htake, List.getElem?_take, if_pos (by omega)] at h1
    simpa using h1
set_option maxRecDepth 100000 in
set_option maxHeartbeats 8000000 in
theorem range_any (w : World) (base S L : Nat) (b r d m s : Int) (X : Nat → Value) (A G C : Nat → Nat) (Z : Nat → List Int) (h : StIs w base S L b r d m s X A G C Z) (s0 : 0 ≤ s) (s1 : s ≤ 18446744073709551615) (nb l0 h0 : Nat) (hbn : b = (nb : Int)) (hb1 : 1 ≤ nb) (hb : nb ≤ 59) (hlh : l0 ≤ h0) (hhi : h0 < 2 ^ nb) (hne : covR (nb + 1) 0 l0 h0 ≠ [])
  (hks : ∀ p ∈ covO (nb + 1) 0 l0 h0 ++ (covR (nb + 1) 0 l0 h0).reverse, p.1 ≤ nb ∧ p.2 < 18446744073709551616 ∧ (p.2 : Int) < keysI b r d m (p.1 : Int))
  (hz : ∀ x ∈ ptsL b r d m s Z (covO (nb + 1) 0 l0 h0 ++ (covR (nb + 1) 0 l0 h0).reverse), -9223372036854775808 ≤ x ∧ x ≤ 9223372036854775807) (x : Int) (hx : x = sumL (ptsL b r d m s Z (covO (nb + 1) 0 l0 h0 ++ (covR (nb + 1) 0 l0 h0).reverse))) (x0 : -9223372036854775808 ≤ x) (x1 : x ≤ 9223372036854775807) :
  Calls Tryz.prog 95 #[.pointer (some ⟨S, 0, none⟩), .int .u64 (l0 : Int), .int .u64 (h0 : Int)] w fun e w' => e = .returned (.tuple #[.int .i64 x, .int .i64 0]) ∧ Below w.heap.size w w' := by
 have PP := Lib.hid (parts_any w base S L b r d m s X A G C Z h s0 s1 nb l0 h0 hbn hb1 hb hlh hhi hne hks)
 have hln : (covO (nb + 1) 0 l0 h0 ++ (covR (nb + 1) 0 l0 h0).reverse).length ≤ 180 := by have := cov_len (nb + 1) 0 l0 h0; simp; omega
 have hpn : 0 < (covO (nb + 1) 0 l0 h0 ++ (covR (nb + 1) 0 l0 h0).reverse).length := by have := List.length_pos_iff.2 hne; simp; omega
 obtain ⟨PL, hPL⟩ : ∃ PL, PL = covO (nb + 1) 0 l0 h0 ++ (covR (nb + 1) 0 l0 h0).reverse := ⟨_, rfl⟩
 rw [← hPL] at PP hz hx hln hpn
 obtain ⟨zs, hzs⟩ : ∃ zs, zs = ptsL b r d m s Z PL := ⟨_, rfl⟩
 have hzl : zs.length = PL.length := by rw [hzs, ptsL, List.length_map]
 rw [← hzs] at PP hz hx
 rw [← hzl] at PP hln hpn
 have PS := Lib.hid (fun C cap w hC hCw => sum_yes zs C cap (by omega) hz w hC hCw x hx x0 x1)
 have HPN := Lib.hid hpn
 clear h hks hz hx hPL hzs hzl hln hpn hne
 go_enter Tryz.func95, Tryz.ntmps95
 go_wp2_with fail
 with_reducible refine PP.out.mono ?_
 rintro e w2 ⟨v, rfl, hown, hb2⟩
 obtain ⟨ao, cap, hv⟩ := own_form hown
 subst hv
 have HB2 := Lib.hid hb2
 have ⟨g, hao, hgl, hgc⟩ : ∃ g, ao = some ⟨g, 0, none⟩ ∧ g < w2.heap.size ∧ ∀ i u, zs[i]? = some u → w2.cell? ⟨g, i, none⟩ = some (.int .i64 u) := by
  rcases hown.2 with ⟨e, h0⟩ | ⟨g, cap', cur, e, -⟩
  ·exact absurd h0 (by have := HPN.out; omega)
  ·simp only [Value.slice.injEq] at e
   obtain ⟨rfl, -, -⟩ := e
   exact ⟨g, rfl, own_ints hown rfl⟩
 subst hao
 have PS := Lib.hid (PS.out g cap w2 hgc hgl)
 clear hown hb2 PP hgl hgc
 go_wp2_with fail
 with_reducible refine PS.out.mono ?_
 rintro e w3 ⟨rfl, hb3⟩
 have HB3 := Lib.hid (btr HB2.out hb3)
 clear hb3 PS
 go_wp2_with fail
 go_ret2
 exact ⟨rfl, HB3.out⟩
end Go.Proofs.YtfeficdndjiijaaGreatDoor


namespace Go.Proofs.YtfeficdndjiijaaGreatDoor
open Go.RowKit
set_option linter.unusedVariables false
set_option linter.unusedSimpArgs false

def wRange : List UInt8 := [114, 97, 110, 103, 101]
def QryIs (V : ByteArray) (x0 x1 x2 : Int) (lo : Nat) (c : Value) (w : World) : Prop :=
  ∃ g, lo ≤ g ∧ c = .iface 123 (.agg #[.string V, .int .i64 x0, .slice (some ⟨g, 1, none⟩) 2 2]) ∧ w.rowIs g 2 3 (fun j => .int .i64 (cellD [x0, x1, x2] j))
theorem qry_stays (V : ByteArray) (x0 x1 x2 : Int) (lo : Nat) : Stays (QryIs V x0 x1 x2 lo) := fun c w w' h hb => by
  obtain ⟨g, h0, h1, h2⟩ := h
  exact ⟨g, h0, h1, h2.of_block (hb.block g h2.lt)⟩
theorem line_range (w : World) (base A bm n : Nat) (nb : Nat) (r d m s : Int) (S L : Nat → Nat) (X : Nat → Nat → Value) (Ar G C : Nat → Nat → Nat) (Z : Nat → Nat → List Int) (h : AggSt w base A bm n (nb : Int) r d m s S L X Ar G C Z) (hn : n ≤ 32) (s0 : 0 ≤ s) (s1 : s ≤ 18446744073709551615)
  (i : Nat) (h1 : 1 ≤ i) (h2 : i ≤ n) (l0 h0 : Nat) (hb1 : 1 ≤ nb) (hb : nb ≤ 59) (hlh : l0 ≤ h0) (hhi : h0 < 2 ^ nb) (hne : covR (nb + 1) 0 l0 h0 ≠ [])
  (hks : ∀ p ∈ covO (nb + 1) 0 l0 h0 ++ (covR (nb + 1) 0 l0 h0).reverse, p.1 ≤ nb ∧ p.2 < 18446744073709551616 ∧ (p.2 : Int) < keysI (nb : Int) r d m (p.1 : Int))
  (hz : ∀ x ∈ ptsL (nb : Int) r d m s (Z i) (covO (nb + 1) 0 l0 h0 ++ (covR (nb + 1) 0 l0 h0).reverse), -9223372036854775808 ≤ x ∧ x ≤ 9223372036854775807) (x : Int) (hx : x = sumL (ptsL (nb : Int) r d m s (Z i) (covO (nb + 1) 0 l0 h0 ++ (covR (nb + 1) 0 l0 h0).reverse))) (x0 : -9223372036854775808 ≤ x) (x1 : x ≤ 9223372036854775807) :
  Calls Tryz.prog 8 #[.pointer (some ⟨A, 0, none⟩), .string (sB (joinW [wRange, Lib.itoa (i : Int), Lib.itoa (l0 : Int), Lib.itoa (h0 : Int)]))] w fun e w' => ∃ t, e = .returned (.tuple #[.string t, .bool true]) ∧ t = sB ([110, 117, 109, 98, 101, 114, 32] ++ Lib.itoa x) ∧
   AggSt w' base A bm n (nb : Int) r d m s S L X Ar G C Z ∧ Below w.heap.size w w' := by
 obtain ⟨T, hT1, hT2⟩ := h.agg
 have hsz := h.base_le
 have h60 : 2 ^ nb ≤ 2 ^ 59 := Nat.pow_le_pow_right (by decide) hb
 have h59 : (2 : Nat) ^ 59 = 576460752303423488 := by decide
 have hi64 : In64 (i : Int) := by unfold In64; omega
 have hl64 : In64 (l0 : Int) := by unfold In64; omega
 have hh64 : In64 (h0 : Int) := by unfold In64; omega
 refine line_of A _ w (QryIs (sB wRange) (i : Int) (l0 : Int) (h0 : Int) 0)
  (fun rr w2 => rr = .iface 137 (.agg #[.int .i64 x]) ∧ AggSt w2 base A bm n (nb : Int) r d m s S L X Ar G C Z ∧ Below w.heap.size w w2)
  _ (fun c _ hc => by obtain ⟨g, -, hc, -⟩ := hc; exact ⟨_, _, hc⟩) ?_ ?_ ?_
 ·refine parse_ws _ (qry_stays _ _ _ _ _) _ (fun a ha => ?_) (by simp) (by simp) w h.tab (fun w1 R v en hle hr1 hv ht1 => ?_)
  ·simp only [List.mem_cons, List.mem_nil_iff, or_false] at ha
   rcases ha with rfl | rfl | rfl | rfl
   ·exact plainLit _ (by decide)
   ·exact num_plain _ hi64.1 hi64.2
   ·exact num_plain _ hl64.1 hl64.2
   ·exact num_plain _ hh64.1 hh64.2
  ·refine (cmd_range w1 R v _ en i l0 h0 hr1 hv rfl (by simp) rfl rfl rfl hi64 hl64 hh64 ht1).mono ?_
   rintro e w' ⟨⟨g, rfl, hg, hrow⟩, h2, h3⟩
   exact ⟨_, rfl, ⟨g, Nat.zero_le _, rfl, hrow⟩, h2, h3⟩
 ·rintro c w1 hb1' ⟨g, -, rfl, hrow⟩
  refine do_query w1 A (sB wRange) (i : Int) (some ⟨g, 1, none⟩) 2 2 _ (fun w2 hb2 => ?_)
  have hb12 := btr hb1' hb2
  have hk2 := hT1.kept hb12
  refine (agg_range w2 A bm n T i l0 h0 (S i) g l0 h0 x (by rw [wrapU_mod]; omega) (by rw [wrapU_mod]; omega) hk2 (by omega) (by omega) (by omega) (by rw [Int.toNat_natCast]; exact hT2 i h1 h2) (hrow.of_block (hb2.block g hrow.lt)) (fun w3 hb3 => ?_)).mono ?_
  ·have h3 := h.kept (btr hb12 hb3)
   exact range_any w3 base (S i) (L i) (nb : Int) r d m s (X i) (Ar i) (G i) (C i) (Z i) (h3.st i h1 h2) s0 s1 nb l0 h0 rfl hb1 hb hlh hhi hne hks hz x hx x0 x1
  ·rintro e w4 ⟨rfl, hb4⟩
   exact ⟨_, rfl, rfl, h.kept (btr hb12 hb4), btr hb12 hb4⟩
 ·rintro rr w2 ⟨rfl, hA, hB⟩
  refine (text_number x x0 x1 w2 hA.tab).mono ?_
  rintro e w3 ⟨rfl, hb3⟩
  exact ⟨_, rfl, rfl, hA.kept hb3, btr hB hb3⟩
end Go.Proofs.YtfeficdndjiijaaGreatDoor


namespace Go.Proofs.YtfeficdndjiijaaGreatDoor
open Go.RowKit
set_option linter.unusedVariables false
set_option linter.unusedSimpArgs false

theorem keys_topQ {b r d m : Int} (hr : rightB b r d m = true) : keysI b r d m b = 1 := by
  have := right_of hr
  rw [keysI_yes hr (by omega) (by omega), show (b - b).toNat = 0 by omega]; rfl
theorem exact_topQ {b r d m : Int} (hr : rightB b r d m = true) : exactB b r d m b = true := by
  have := right_of hr
  exact decide_eq_true ⟨by rw [keys_topQ hr]; omega, by rw [keys_topQ hr]; omega⟩
set_option maxRecDepth 100000 in
set_option maxHeartbeats 8000000 in
theorem sttotal (w : World) (base S L : Nat) (nb : Nat) (r d m s : Int) (X : Nat → Value) (A G C : Nat → Nat) (Z : Nat → List Int) (h : StIs w base S L (nb : Int) r d m s X A G C Z) (s0 : 0 ≤ s) (s1 : s ≤ 18446744073709551615) :
  Calls Tryz.prog 91 #[.pointer (some ⟨S, 0, none⟩)] w fun e w' => e = .returned (.int .i64 (lvPt (nb : Int) r d m s (nb : Int) (Z nb) 0)) ∧ Below w.heap.size w w' := by
 have hl := h.lev nb (by simp)
 have hrt := h.right
 have hR := right_of hrt
 obtain ⟨cap, hbx, hcap⟩ := h.box
 obtain ⟨cur, hrow, hcur⟩ := h.row
 rw [Int.toNat_natCast] at hbx hcap hcur
 have cx := hcur nb (Nat.le_refl _)
 have hkt := keys_topQ hrt
 have i0 : (0 : Int) ≤ (nb : Int) := by omega
 have i1 : (nb : Int) < (nb : Int) + 1 := by omega
 have hnb : nb ≤ 59 := by omega
 clear h hcap hcur hR
 rcases hl with ⟨h1, h2, h3⟩ | ⟨h1, h2, h3⟩
 ·rw [h2] at cx
  have HV : Hid (lvPt (nb : Int) r d m s (nb : Int) (Z nb) 0 = cellD (Z nb) 0) := Lib.hid (by unfold lvPt; rw [if_pos h1])
  have PC := Lib.hid (fun wq hq => expoint_yes wq (A nb) (G nb) (C nb) (nb : Int) r d m s (nb : Int) (keysI (nb : Int) r d m (nb : Int)).toNat 0 (Z nb) hq (by rw [hkt]; decide))
  have hm := Tryz.mExPoint
  have H3 := Lib.hid h3
  clear h1 h2 h3 hkt hrt
  go_enter Tryz.func91, Tryz.ntmps91
  go_wp2_with fail
  refine wp_region_held_drew (S := fun w' => Blk w' S 172 #[.int .i64 (nb : Int), .int .i64 r, .int .i64 d, .int .i64 m, .int .u64 s, .slice (some ⟨L, 0, none⟩) (nb + 1) cap] ∧ Blk w' L 174 cur ∧ ArrIs w' (A nb) (G nb) (C nb) (nb : Int) r d m s (nb : Int) (keysI (nb : Int) r d m (nb : Int)).toNat (Z nb) ∧ Below w.heap.size w w') (by kernel_rfl) (by exact ⟨hbx.kept (below_drewN (Below.refl _ _) 1), hrow.kept (below_drewN (Below.refl _ _) 1), H3.out.kept (below_drewN (Below.refl _ _) 1), below_drewN (Below.refl _ _) 1⟩) (fun hHeld => ?_)
  refine tkH (i := 0) (v := ?_) rfl (by kernel_rfl) (fun _ _ _ h => h) (Or.inl ⟨by rfl, ?_⟩) (by assumption) ?_
  rotate_left
  ·intro w hSw
   try dsimp only at hSw
   go_simp
   try with_reducible rfl
  simp only [Act.put, z1, z2, z3, z4, z5, z6]
  refine tkH (i := 1) (v := ?_) rfl (by kernel_rfl) (fun _ _ _ h => h) (Or.inl ⟨by rfl, ?_⟩) (by assumption) ?_
  rotate_left
  ·intro w hSw
   try dsimp only at hSw
   go_simp
   try with_reducible rfl
  simp only [Act.put, z1, z2, z3, z4, z5, z6]
  refine tkH (i := 2) (v := ?_) rfl (by kernel_rfl) (fun _ _ _ h => h) (Or.inl ⟨by rfl, ?_⟩) (by assumption) ?_
  rotate_left
  ·intro w hSw
   try dsimp only at hSw
   go_simp
   try with_reducible rfl
  simp only [Act.put, z1, z2, z3, z4, z5, z6]
  refine tkH (i := 3) (v := ?_) rfl (by kernel_rfl) (fun _ _ _ h => h) (Or.inl ⟨by rfl, ?_⟩) (by assumption) ?_
  rotate_left
  ·intro w hSw
   have q0 := hSw.1.cell 0; have q5 := hSw.1.cell 5; have qx := (hSw.2.1.cell nb).trans cx; simp at q0 q5
   go_simp
   try with_reducible rfl
  simp only [Act.put, z1, z2, z3, z4, z5, z6]
  refine tkH (i := 4) (v := ?_) rfl (by kernel_rfl) (fun _ _ _ h => h) (Or.inl ⟨by rfl, ?_⟩) (by assumption) ?_
  rotate_left
  ·intro w hSw
   try dsimp only at hSw
   go_simp
   try with_reducible rfl
  simp only [Act.put, z1, z2, z3, z4, z5, z6]
  refine tkH (i := 5) (v := ?_) rfl (by kernel_rfl) (fun _ _ _ h => h) (Or.inl ⟨by rfl, ?_⟩) (by assumption) ?_
  rotate_left
  ·intro w hSw
   try dsimp only at hSw
   go_simp
   try with_reducible rfl
  simp only [Act.put, z1, z2, z3, z4, z5, z6]
  refine tkH (i := 6) (v := ?_) rfl (by kernel_rfl) (fun _ _ _ h => h) (Or.inl ⟨by rfl, ?_⟩) (by assumption) ?_
  rotate_left
  ·intro w hSw
   try dsimp only at hSw
   go_simp
   try with_reducible rfl
  simp only [Act.put, z1, z2, z3, z4, z5, z6]
  refine tkH (i := 7) (v := ?_) rfl (by kernel_rfl) (fun _ _ _ h => h) (Or.inl ⟨by rfl, ?_⟩) (by assumption) ?_
  rotate_left
  ·intro w hSw
   try dsimp only at hSw
   go_simp
   try with_reducible rfl
  simp only [Act.put, z1, z2, z3, z4, z5, z6]
  refine tkH (i := 8) (v := ?_) rfl (by kernel_rfl) (fun _ _ _ h => h) (Or.inl ⟨by rfl, ?_⟩) (by assumption) ?_
  rotate_left
  ·intro w hSw
   have q0 := hSw.1.cell 0; have q5 := hSw.1.cell 5; have qx := (hSw.2.1.cell nb).trans cx; simp at q0 q5
   go_simp
   try with_reducible rfl
  simp only [Act.put, z1, z2, z3, z4, z5, z6]
  refine tkH (i := 9) (v := ?_) rfl (by kernel_rfl) (fun _ _ _ h => h) (Or.inl ⟨by rfl, ?_⟩) (by assumption) ?_
  rotate_left
  ·intro w hSw
   try dsimp only at hSw
   go_simp
   try with_reducible rfl
  simp only [Act.put, z1, z2, z3, z4, z5, z6]
  refine tkH (i := 10) (v := ?_) rfl (by kernel_rfl) (fun _ _ _ h => h) (Or.inl ⟨by rfl, ?_⟩) (by assumption) ?_
  rotate_left
  ·intro w hSw
   have q0 := hSw.1.cell 0; have q5 := hSw.1.cell 5; have qx := (hSw.2.1.cell nb).trans cx; simp at q0 q5
   go_simp
   try with_reducible rfl
  simp only [Act.put, z1, z2, z3, z4, z5, z6]
  refine wpAnyH_ready (rs := [11]) (by kernel_rfl) (by simp) ?_
  refine AllReadyH.cons rfl (fun Kc hKc => ?_) AllReadyH.nil
  go_simp
  go_wp2_with ((have P0 := PC.out _ hHeld.2.2.1; rw [show ((0 : Nat) : Int) = 0 from rfl] at P0; with_reducible refine P0.mono ?_; rintro e w2 ⟨rfl, hw2⟩; subst hw2))
  refine hKc.out _ _ ?_ (fun hHeld => ?_)
  ·assumption
  clear hKc Kc
  refine tkH (i := 12) (v := ?_) rfl (by kernel_rfl) (fun _ _ _ h => h) (Or.inl ⟨by rfl, ?_⟩) (by assumption) ?_
  rotate_left
  ·intro w hSw
   try dsimp only at hSw
   go_simp
   try with_reducible rfl
  simp only [Act.put, z1, z2, z3, z4, z5, z6]
  refine tkH (i := 13) (v := ?_) rfl (by kernel_rfl) (fun _ _ _ h => h) (Or.inl ⟨by rfl, ?_⟩) (by assumption) ?_
  rotate_left
  ·intro w hSw
   try dsimp only at hSw
   go_simp
   try with_reducible rfl
  simp only [Act.put, z1, z2, z3, z4, z5, z6]
  refine tkH (i := 14) (v := ?_) rfl (by kernel_rfl) (fun _ _ _ h => h) (Or.inl ⟨by rfl, ?_⟩) (by assumption) ?_
  rotate_left
  ·intro w hSw
   try dsimp only at hSw
   go_simp
   try with_reducible rfl
  simp only [Act.put, z1, z2, z3, z4, z5, z6]
  refine tkH (i := 15) (v := ?_) rfl (by kernel_rfl) (fun _ _ _ h => h) (Or.inl ⟨by rfl, ?_⟩) (by assumption) ?_
  rotate_left
  ·intro w hSw
   try dsimp only at hSw
   go_simp
   try with_reducible rfl
  simp only [Act.put, z1, z2, z3, z4, z5, z6]
  refine tkH (i := 16) (v := ?_) rfl (by kernel_rfl) (fun _ _ _ h => h) (Or.inl ⟨by rfl, ?_⟩) (by assumption) ?_
  rotate_left
  ·intro w hSw
   try dsimp only at hSw
   go_simp
   try with_reducible rfl
  simp only [Act.put, z1, z2, z3, z4, z5, z6]
  refine wpAnyH_done (by kernel_rfl) ?_ _
  have HB2 := Lib.hid hHeld.2.2.2
  clear hHeld
  go_wp2
  go_ret
  exact ⟨by rw [HV.out]; rfl, HB2.out⟩
 ·exact absurd h1 (by rw [exact_topQ hrt]; decide)
end Go.Proofs.YtfeficdndjiijaaGreatDoor


namespace Go.Proofs.YtfeficdndjiijaaGreatDoor
open Go.RowKit
set_option linter.unusedVariables false
set_option linter.unusedSimpArgs false

def InB (m M x : Int) : Prop := -M ≤ x ∧ x ≤ M ∧ (m = 2 → 0 ≤ x)
def ZsB (m M : Int) (zs : List Int) : Prop := ∀ x ∈ zs, InB m M x
def BndZ (b m M : Int) (Z : Nat → List Int) : Prop := ∀ n : Nat, n ≤ b.toNat → ZsB m M (Z n)
theorem InB.zero {m M : Int} (h : 0 ≤ M) : InB m M 0 := ⟨by omega, by omega, fun _ => by omega⟩
theorem InB.mono {m M M' x : Int} (h : InB m M x) (hM : M ≤ M') : InB m M' x := ⟨by have := h.1; omega, by have := h.2.1; omega, h.2.2⟩
theorem ZsB.cellD {m M : Int} {zs : List Int} (h : ZsB m M zs) (hM : 0 ≤ M) (i : Nat) : InB m M (cellD zs i) := by
  unfold Go.Proofs.YtfeficdndjiijaaGreatDoor.cellD
  cases hx : zs[i]? with
  | none => exact InB.zero hM
  | some x => exact h x (List.mem_of_getElem? hx)
theorem kthL_in (l : List Int) (k : Nat) : kthL l k ∈ l ∨ kthL l k = 0 := by
  unfold kthL
  split
  · rename_i h
    exact .inl h.choose_spec.1
  · exact .inr rfl
theorem ZsB.readZ {m M : Int} {zs : List Int} (h : ZsB m M zs) (hM : 0 ≤ M) (W : Nat) (cs : List Int) : ZsB m M (readZ W zs cs) := fun x hx => by
  unfold Go.Proofs.YtfeficdndjiijaaGreatDoor.readZ at hx
  obtain ⟨r, -, rfl⟩ := List.mem_map.1 hx
  exact h.cellD hM _
theorem ZsB.kth {m M : Int} {l : List Int} (h : ZsB m M l) (hM : 0 ≤ M) (k : Nat) : InB m M (kthL l k) := by
  rcases kthL_in l k with h1 | h1
  · exact h _ h1
  · rw [h1]; exact InB.zero hM
theorem mem_setsZ {W : Nat} {zs : List Int} {cf : Nat → Nat} {vf : Nat → Int} : ∀ (k : Nat) (x : Int), x ∈ setsZ W zs cf vf k → x ∈ zs ∨ ∃ r, r < k ∧ x = vf r
  | 0, x, h => .inl h
  | k + 1, x, h => by
    rw [setsZ] at h
    rcases List.mem_or_eq_of_mem_set h with h1 | h1
    · rcases mem_setsZ k x h1 with h2 | ⟨r, h2, h3⟩
      · exact .inl h2
      · exact .inr ⟨r, by omega, h3⟩
    · exact .inr ⟨k, by omega, h1⟩
def absI (x : Int) : Int := if x < 0 then -x else x
theorem absI_bd (x : Int) : 0 ≤ absI x ∧ -(absI x) ≤ x ∧ x ≤ absI x := by unfold absI; split <;> omega
theorem InB.add {m M x y : Int} (h : InB m M x) (hy : m = 2 → 0 ≤ y) : InB m (M + absI y) (x + y) := by
  have := absI_bd y
  have := h.1
  have := h.2.1
  exact ⟨by omega, by omega, fun e => by have h1 := h.2.2 e; have h2 := hy e; omega⟩
theorem InB.in64 {m M x : Int} (h : InB m M x) (hM : M ≤ 9223372036854775807) : In64 x := by
  have := h.1
  have := h.2.1
  unfold In64
  omega
theorem lvErr_small {b r d m s l : Int} {zs : List Int} {k : Nat} {x M : Int} (hk : (k : Int) < keysI b r d m l) (h : ZsB m M zs) (hM : 0 ≤ M) (hx : m = 2 → 0 ≤ x) (hs : M + absI x ≤ 9223372036854775807) : lvErr b r d m s l zs k x = 0 := by
  have hn : ¬ (m = 2 ∧ x < 0) := fun e => by have := hx e.1; omega
  unfold lvErr
  split
  · unfold chkI
    rw [if_neg (by omega), if_neg hn, if_pos ((h.cellD hM k).add hx |>.in64 hs)]
  · unfold skErr
    rw [if_neg (by omega)]
    by_cases hm : m = 2
    · rw [if_pos hm, if_neg (by have := hx hm; omega), if_pos (((h.readZ hM _ _).kth hM 0).add hx |>.in64 hs)]
    · rw [if_neg hm, if_pos (show changeFits d.toNat zs (colsZ d s l (k : Int) r.toNat) x from fun r _ => (h.cellD hM _).add hx |>.in64 hs)]
theorem lvUpd_small {b r d m s l : Int} {zs : List Int} {k : Nat} {x M : Int} (h : ZsB m M zs) (hM : 0 ≤ M) (hx : m = 2 → 0 ≤ x) : ZsB m (M + absI x) (lvUpd b r d m s l zs k x) := by
  have hab := absI_bd x
  have h0 : ZsB m (M + absI x) zs := fun y hy => (h y hy).mono (by omega)
  unfold lvUpd
  split
  · unfold updZ
    split
    · intro y hy
      rcases List.mem_or_eq_of_mem_set hy with h1 | rfl
      · exact h0 y h1
      · exact (h.cellD hM k).add hx
    · exact h0
  · unfold skUpd
    split
    · split
      · intro y hy
        unfold raiseZ at hy
        rcases mem_setsZ _ y hy with h1 | ⟨r, -, rfl⟩
        · exact h0 y h1
        · unfold riseV
          split
          · exact ((h.readZ hM _ _).kth hM 0).add hx
          · exact (h.cellD hM _).mono (by omega)
      · intro y hy
        unfold changeZ at hy
        rcases mem_setsZ _ y hy with h1 | ⟨r, -, rfl⟩
        · exact h0 y h1
        · exact (h.cellD hM _).add hx
    · exact h0
theorem stErr_small {b r d m s : Int} {Z : Nat → List Int} {k : Nat} {x M : Int} (hr : rightB b r d m = true) (hk : (k : Int) < keysI b r d m 0) (h : BndZ b m M Z) (hM : 0 ≤ M) (hx : m = 2 → 0 ≤ x) (hs : M + absI x ≤ 9223372036854775807) : stErr b r d m s Z k x = 0 := by
  unfold stErr
  rw [if_neg (by omega), if_neg (fun e => by have := hx e.1; omega), if_pos (fun n hn => lvErr_small (key_down hr hk hn) (h n hn) hM hx hs)]
theorem stUpd_small {b r d m s : Int} {Z : Nat → List Int} {k : Nat} {x M : Int} (h : BndZ b m M Z) (hM : 0 ≤ M) (hx : m = 2 → 0 ≤ x) : BndZ b m (M + absI x) (stUpd b r d m s Z k x) := fun n hn => by
  have hab := absI_bd x
  unfold stUpd
  split
  · exact lvUpd_small (h n hn) hM hx
  · exact fun y hy => (h n hn y hy).mono (by omega)
theorem zip_small {m M N : Int} {f : Int → Int → Int} {xs ys : List Int} (hx : ZsB m M xs) (hy : ZsB m N ys) (hf : ∀ x y, InB m M x → InB m N y → InB m (M + N) (f x y)) : ZsB m (M + N) (List.zipWith f xs ys) := by
  induction xs generalizing ys with
  | nil => intro x h; simp at h
  | cons a xs ih =>
    cases ys with
    | nil => intro x h; simp at h
    | cons c ys =>
      intro x h
      rw [List.zipWith_cons_cons] at h
      rcases List.mem_cons.1 h with rfl | h1
      · exact hf a c (hx a (by simp)) (hy c (by simp))
      · exact ih (fun y h2 => hx y (by simp [h2])) (fun y h2 => hy y (by simp [h2])) x h1
theorem InB.plus {m M N x y : Int} (h : InB m M x) (k : InB m N y) : InB m (M + N) (x + y) := ⟨by have := h.1; have := k.1; omega, by have := h.2.1; have := k.2.1; omega, fun e => by have := h.2.2 e; have := k.2.2 e; omega⟩
theorem InB.minus {m M N x y : Int} (hm : m ≠ 2) (h : InB m M x) (k : InB m N y) : InB m (M + N) (x - y) := ⟨by have := h.1; have := k.2.1; omega, by have := h.2.1; have := k.1; omega, fun e => absurd e hm⟩
theorem ZsB.fit {m M : Int} {zs : List Int} (h : ZsB m M zs) (hM : M ≤ 9223372036854775807) : Fit zs := fun x hx => (h x hx).in64 hM
theorem lvPt_small {b r d m s l : Int} {zs : List Int} {k : Nat} {M : Int} (h : ZsB m M zs) (hM : 0 ≤ M) : InB m M (lvPt b r d m s l zs k) := by
  unfold lvPt
  split
  · exact h.cellD hM k
  · exact (h.readZ hM _ _).kth hM _
theorem zero_small {b r d m : Int} : BndZ b m 0 (zeroZ b r d m) := fun n hn x hx => by
  unfold zeroZ at hx
  rw [List.eq_of_mem_replicate hx]
  exact InB.zero (Int.le_refl _)
theorem sumL_small {m M : Int} (l : List Int) (h : ZsB m M l) : -(M * (l.length : Int)) ≤ sumL l ∧ sumL l ≤ M * (l.length : Int) := by
  induction l with
  | nil => simp [sumL]
  | cons a l ih =>
    have h1 := ih (fun x hx => h x (by simp [hx]))
    have h2 := h a (by simp)
    rw [sumL_cons, List.length_cons]
    have e : M * ((l.length + 1 : Nat) : Int) = M * (l.length : Int) + M := by rw [Int.natCast_add, Int.mul_add]; simp
    rw [e]
    have := h2.1
    have := h2.2.1
    omega
end Go.Proofs.YtfeficdndjiijaaGreatDoor

