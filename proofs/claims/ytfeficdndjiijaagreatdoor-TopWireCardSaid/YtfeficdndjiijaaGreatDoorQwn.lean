import Derived.Test.YtfeficdndjiijaaGreatDoorQwm
import Derived.Test.YtfeficdndjiijaaGreatDoorQwj
import Derived.Test.YtfeficdndjiijaaGreatDoorQwb
import Derived.Test.YtfeficdndjiijaaGreatDoorQwi
import Derived.Test.YtfeficdndjiijaaGreatDoorQwd
import Derived.Test.YtfeficdndjiijaaGreatDoorQwf
import Derived.Test.YtfeficdndjiijaaGreatDoorQwg
import Derived.Test.YtfeficdndjiijaaGreatDoorQwc
import Derived.Test.YtfeficdndjiijaaGreatDoorQwk
/-
  Contracts of the functions that TopWire reaches, and the plain laws that it leans on. Conditions: none beyond those stated at each theorem.
-/
namespace Go.Proofs.YtfeficdndjiijaaGreatDoor
open Go.RowKit Go.Shelf
set_option linter.unusedVariables false
set_option linter.unusedSimpArgs false
attribute [local go_sem] Oper.semAt_some
theorem run_store_func {P : Program} {w : World} {a : Addr} {m : Mode} (fn : Fn) (f c : Array Value) : (store a (.func fn f c) m).run P w = stored P w a (.func fn f c) m := run_store P w a _ m rfl
attribute [local go_sem] run_store_func

section
variable {P : Program}
theorem wp_append_own_at {o : Oper} {a : Act} {w : World} {K : Act → World → Prop} {Q : Exit → Act → World → Prop} (s x : Operand) (t : TypeId)
  (ho : o.op = .call { callee := .builtin .append, args := #[s, x], argTypes := #[t, t] })
  (base : Nat) (e : TypeId) (i : TypeInfo) (z : Value) (size bytes : Nat) (ht : P.underlying t = some (.slice e)) (hi : P.info? e = some i) (hz : i.zero = some z)
  (hsize : i.size = size) (hby : i.bytes = bytes) (hzs : z.cells.size = size) (hsz : 0 < size)
  (v : Value) (n : Nat) (xs : List Value) (hs : a.eval s = v) (hown : w.ownsRow base e size v n xs)
  (ad : Addr) (m c : Nat) (news : List Value) (hx : a.eval x = .slice (some ad) m c) (hl : news.length = m * size) (hnews : ∀ j u, news[j]? = some u → w.cell? (ad.add j) = some u) (h1 : ∀ u ∈ news, u.oneCell' = true)
  (h63 : n + m ≤ maxLen) (hbytes : (n + m) * bytes ≤ 140737488355328) (hbase : base ≤ w.heap.size)
  (h : ∀ v' w', w'.ownsRow base e size v' (n + m) (xs ++ news) → w.grownBy w' v.ownBlock → (v' = .slice none 0 0 ↔ v = .slice none 0 0 ∧ m = 0) → (v'.ownBlock = v.ownBlock ∨ v'.ownBlock = some w.heap.size) → K (a.put o.dst v') w') :
  o.wp P a w K Q := by
 obtain ⟨v', w', hr, h2, h3, h4, h5⟩ := run_append_own_at (P := P) w base t o.type e i z size bytes ht hi hz hsize hby hzs hsz v n xs hown ad m c news hl hnews h1 h63 hbytes hbase
 unfold Oper.wp execOp
 simp only [ho, resolve, invoke, builtin, Sem.run_bind, Sem.run_pure, Result.andThen_ok, List.map_toArray, List.map_cons, List.map_nil, hs, hx, hr]
 exact h v' w' h2 h3 h4 h5
end
set_option maxRecDepth 100000 in
theorem spt1 (w : World) (base S L BS : Nat) (b r d m s : Int) (X : Nat → Value) (A G C : Nat → Nat) (Z : Nat → List Int) (h : StIs w base S L b r d m s X A G C Z) (s0 : 0 ≤ s) (s1 : s ≤ 18446744073709551615) (hB : Blk w BS 49 #[.pointer (some ⟨S, 0, none⟩)]) (n : Nat) (hn : n ≤ b.toNat) (k : Nat) (k1 : k < 18446744073709551616) (hk : (k : Int) < keysI b r d m (n : Int)) :
  Calls Tryz.prog 175 #[pcV (n, k), .pointer (some ⟨BS, 0, none⟩)] w fun e w' => e = .returned (.int .i64 (lvPt b r d m s (n : Int) (Z n) k)) ∧ Below w.heap.size w w' := by
 unfold pcV
 have hal : Below w.heap.size w (w.alloc (.cells #[.int .i64 (n : Int), .int .u64 (k : Int)] 155)) := (Below.refl _ _).alloc (Nat.le_refl _) _
 have HAL := Lib.hid hal
 have PP := Lib.hid (stpoint _ base S L b r d m s X A G C Z (h.kept hal) s0 s1 n hn k k1 hk)
 have c0 := (hB.kept hal).cell 0
 have hnb := Blk.new w 155 #[.int .i64 (n : Int), .int .u64 (k : Int)]
 have d0 := hnb.cell 0
 have d1 := hnb.cell 1
 simp at c0 d0 d1
 clear h hB hal hk hn hnb
 go_enter Tryz.func175, Tryz.ntmps175
 go_wp2_with fail
 with_reducible refine PP.out.mono ?_
 rintro e w2 ⟨rfl, hb2⟩
 have HB2 := Lib.hid (btr HAL.out hb2)
 clear hb2 c0 d0 d1 PP
 go_wp2
 go_ret
 exact ⟨rfl, HB2.out⟩

noncomputable def ptsL (b r d m s : Int) (Z : Nat → List Int) (l : List (Nat × Nat)) : List Int := l.map (fun p => lvPt b r d m s (p.1 : Int) (Z p.1) p.2)
def numsV (l : List Int) : List Value := l.map (fun x => .int .i64 x)
theorem ownBase {W : World} {base base' : Nat} {e : TypeId} {size : Nat} {v : Value} {k : Nat} {xs : List Value} (h : W.ownsRow base e size v k xs) (hb : base' ≤ base) : W.ownsRow base' e size v k xs := by
  refine ⟨h.1, ?_⟩
  rcases h.2 with hn | ⟨g, cap, cur, hv, hbg, rest⟩
  · exact .inl hn
  · exact .inr ⟨g, cap, cur, hv, Nat.le_trans hb hbg, rest⟩
structure SpI (w W : World) (base S L BS BP BO T : Nat) (b r d m s : Int) (X : Nat → Value) (A G C : Nat → Nat) (Z : Nat → List Int) (v : Value) (xs : List Int) : Prop where
  top : T ≤ W.heap.size
  st : StIs W base S L b r d m s X A G C Z
  bs : Blk W BS 49 #[.pointer (some ⟨S, 0, none⟩)]
  bp : Blk W BP 308 #[.func (.func 175) #[] #[.pointer (some ⟨BS, 0, none⟩)]]
  bo : Blk W BO 93 #[v]
  own : W.ownsRow T 2 1 v xs.length (numsV xs)
  bel : Below w.heap.size w W
  lo : w.heap.size ≤ BO ∧ BO < T ∧ BP < T ∧ BS < T ∧ w.heap.size ≤ T
  und : S < T ∧ L < T ∧ ∀ n, n ≤ b.toNat → A n < T ∧ G n < T ∧ C n < T
theorem SpI.kept {w W W' : World} {base S L BS BP BO T : Nat} {b r d m s : Int} {X : Nat → Value} {A G C : Nat → Nat} {Z : Nat → List Int} {v : Value} {xs : List Int} (h : SpI w W base S L BS BP BO T b r d m s X A G C Z v xs) (hb : Below W.heap.size W W') : SpI w W' base S L BS BP BO T b r d m s X A G C Z v xs :=
  ⟨Nat.le_trans h.top hb.size, h.st.kept hb, h.bs.kept hb, h.bp.kept hb, h.bo.kept hb, ownKeep h.own (below_gr (row := none) hb) (fun _ _ => by simp), btr h.bel hb, h.lo, h.und⟩
theorem SpI.walked {w W W' : World} {base S L BS BP BO T : Nat} {b r d m s : Int} {X : Nat → Value} {A G C : Nat → Nat} {Z : Nat → List Int} {v : Value} {xs : List Int} {row : Option Nat} (h : SpI w W base S L BS BP BO T b r d m s X A G C Z v xs) (hg : W.grownBy W' row) (hr : ∀ r, row = some r → w.heap.size ≤ r ∧ ∃ o : Obj, W.heap[r]? = some o ∧ o.isCells = false) : SpI w W' base S L BS BP BO T b r d m s X A G C Z v xs :=
  ⟨Nat.le_trans h.top hg.size, h.st.walked hg (fun r e => (hr r e).2), h.bs.walked hg (fun r e => (hr r e).2), h.bp.walked hg (fun r e => (hr r e).2), h.bo.walked hg (fun r e => (hr r e).2), ownKeep h.own hg (fun k hk e => by
    obtain ⟨cs, hc⟩ := ownBlk h.own k hk
    obtain ⟨-, o, ho, hn⟩ := hr k e
    exact hc.not_other ho hn rfl), h.bel.grown hg h.bel.size (fun k e => (hr k e).1), h.lo, h.und⟩
theorem SpI.round {w W Wc We : World} {base S L BS BP BO T : Nat} {b r d m s : Int} {X : Nat → Value} {A G C : Nat → Nat} {Z : Nat → List Int} {v v' : Value} {xs : List Int} (h : SpI w W base S L BS BP BO T b r d m s X A G C Z v xs) (hb : Below W.heap.size W Wc) (x : Int)
    (hown : We.ownsRow T 2 1 v' (xs.length + 1) (numsV xs ++ [.int .i64 x])) (hg : Wc.grownBy We v.ownBlock) (l : List Nat) (hl : ∀ i ∈ l, i < T ∧ i ≠ BO) :
    KeepsOthers W (We.setCell ⟨BO, 0, none⟩ v') ∧ KpB l W (We.setCell ⟨BO, 0, none⟩ v') ∧ SpI w (We.setCell ⟨BO, 0, none⟩ v') base S L BS BP BO T b r d m s X A G C Z v' (xs ++ [x]) := by
  have hc := h.kept hb
  have hvT : ∀ k, v.ownBlock = some k → T ≤ k := fun k e => (hc.own.lt k e).1
  have hne : ∀ i, i < T → some i ≠ v.ownBlock := fun i hi e => by have := hvT i e.symm; omega
  have hgs : We.grownBy (We.setCell ⟨BO, 0, none⟩ v') (some BO) := gr_setC (World.grownBy.refl _ _) 0 _
  have hbo := hc.bo.grown hg (hne BO h.lo.2.1)
  have hk1 : KeepsOthers W Wc := kept_others (below_gr (row := none) hb) (fun g e => by cases e)
  have hk2 : KeepsOthers Wc We := kept_others hg (fun g e => by
    obtain ⟨cs, q⟩ := ownBlk hc.own g e
    exact ⟨_, _, q⟩)
  have hk3 : KeepsOthers We (We.setCell ⟨BO, 0, none⟩ v') := kept_others hgs (fun g e => ⟨_, _, by cases e; exact hbo⟩)
  have hTc : T ≤ Wc.heap.size := hc.top
  have hblk : ∀ i, i < T → We.heap[i]? = Wc.heap[i]? := fun i hi => hg.block i (by omega) (hne i hi)
  have hst : StIs We base S L b r d m s X A G C Z := hc.st.frame (hblk _ h.und.1) (hblk _ h.und.2.1) (fun n hn => ⟨hblk _ (h.und.2.2 n hn).1, hblk _ (h.und.2.2 n hn).2.1, hblk _ (h.und.2.2 n hn).2.2⟩)
  refine ⟨(hk1.trans hk2).trans hk3, KpB.trans (KpB.trans (KpB.of_below hb (fun i hi => by have := (hl i hi).1; have := h.top; omega)) (KpB.of_grown hg (fun i hi => ⟨by have := (hl i hi).1; omega, hne i (hl i hi).1⟩))) (KpB.of_grown hgs (fun i hi => ⟨by have := (hl i hi).1; have := hg.size; omega, by simpa using (hl i hi).2⟩)), ?_⟩
  exact { top := by have := hg.size; simp; omega
          st := hst.far hbo (by decide) (by decide) hgs
          bs := (hc.bs.grown hg (hne BS h.lo.2.2.2.1)).grown hgs (by simpa using (hc.bs.ne_ hc.bo (by decide)))
          bp := (hc.bp.grown hg (hne BP h.lo.2.2.1)).grown hgs (by simpa using (hc.bp.ne_ hc.bo (by decide)))
          bo := by simpa using hbo.set_ 0 v'
          own := by
            have e1 : numsV (xs ++ [x]) = numsV xs ++ [.int .i64 x] := by simp [numsV]
            rw [e1, List.length_append]
            refine ownKeep hown hgs (fun k hk e => ?_)
            have e := Option.some.inj e
            obtain ⟨cs, hq⟩ := ownBlk hown k hk
            rw [← e] at hq
            exact absurd rfl (hbo.ne_ hq (by decide))
          bel := (hc.bel.grown hg hc.bel.size (fun k e => by have := hvT k e; have := h.lo; omega)).setCell h.lo.1 _
          lo := h.lo
          und := h.und }
set_option maxRecDepth 100000 in
set_option maxHeartbeats 16000000 in
theorem parts_any (w : World) (base S L : Nat) (b r d m s : Int) (X : Nat → Value) (A G C : Nat → Nat) (Z : Nat → List Int) (h : StIs w base S L b r d m s X A G C Z) (s0 : 0 ≤ s) (s1 : s ≤ 18446744073709551615) (nb l0 h0 : Nat) (hbn : b = (nb : Int)) (hb1 : 1 ≤ nb) (hb : nb ≤ 59) (hlh : l0 ≤ h0) (hhi : h0 < 2 ^ nb) (hne : covR (nb + 1) 0 l0 h0 ≠ [])
  (hks : ∀ p ∈ covO (nb + 1) 0 l0 h0 ++ (covR (nb + 1) 0 l0 h0).reverse, p.1 ≤ nb ∧ p.2 < 18446744073709551616 ∧ (p.2 : Int) < keysI b r d m (p.1 : Int)) :
  Calls Tryz.prog 135 #[.pointer (some ⟨S, 0, none⟩), .int .u64 (l0 : Int), .int .u64 (h0 : Int)] w fun e w' => ∃ v, e = .returned (.tuple #[v, .int .i64 0]) ∧ w'.ownsRow w.heap.size 2 1 v (covO (nb + 1) 0 l0 h0 ++ (covR (nb + 1) 0 l0 h0).reverse).length (numsV (ptsL b r d m s Z (covO (nb + 1) 0 l0 h0 ++ (covR (nb + 1) 0 l0 h0).reverse))) ∧ Below w.heap.size w w' := by
 obtain ⟨iI, hi, hz0, hz1, hz2⟩ := info_parts (show (Tryz.prog.info? 2).map (fun i => (i.zero, i.size, i.bytes)) = some (some (.int .i64 0), 1, 8) by kernel_rfl)
 obtain ⟨PL, hPL⟩ : ∃ PL, PL = covO (nb + 1) 0 l0 h0 ++ (covR (nb + 1) 0 l0 h0).reverse := ⟨_, rfl⟩
 have PC := Lib.hid (fun w => cover_any nb l0 h0 hb1 hb hlh hhi hne w)
 have HPL := Lib.hid hPL
 rw [← hPL] at hks ⊢
 have HKS := Lib.hid hks
 have HPN : Hid (0 < PL.length) := Lib.hid (by rw [hPL]; have := List.length_pos_iff.2 hne; simp; omega)
 have HLEN : Hid (PL.length ≤ 180) := Lib.hid (by rw [hPL]; have := cov_len (nb + 1) 0 l0 h0; simp; omega)
 have PF := Lib.hid (fun w base S L b r d m s X A G C Z h => stconfig w base S L b r d m s X A G C Z h)
 have e3 : ¬ ((l0 : Int) > (h0 : Int)) := by omega
 have hal : Below w.heap.size w (w.alloc (.cells #[.pointer (some ⟨S, 0, none⟩)] 49)) := (Below.refl _ _).alloc (Nat.le_refl _) _
 have HS := Lib.hid (h.kept hal)
 have HB := Lib.hid hal
 have HBS := Lib.hid (Blk.new w 49 #[.pointer (some ⟨S, 0, none⟩)])
 have c0 := HBS.out.cell 0
 simp at c0
 clear h hks hal hPL hhi hne
 subst hbn
 refine (callsIn_wide (n := 6)).1 ?_
 refine callsIn_of_wp_marks Tryz.func135 rfl trivial ?_ rfl
 simp only [Tryz.ntmps135, List.size_toArray, List.length_cons, List.length_nil, Nat.reduceAdd, Nat.reduceSub, Array.replicate_succ, Array.replicate_zero, List.push_toArray, List.append_toArray, List.nil_append, List.cons_append]
 gi_wp2_with fail
 generalize (w.alloc (.cells #[.pointer (some ⟨S, 0, none⟩)] 49)) = w1 at *
 refine ⟨trivial, ?_⟩
 with_reducible refine (callsIn_wide.2 (PF.out _ _ _ _ _ _ _ _ _ _ _ _ _ _ HS.out)).mono ?_
 rintro e w2 ⟨rfl, hb2⟩
 have HS2 := Lib.hid (HS.out.kept hb2)
 have HB2 := Lib.hid (btr HB.out hb2)
 have HBS2 := Lib.hid (HBS.out.kept hb2)
 clear hb2 HS HB HBS PF
 have hfd : ∀ w : World, (Instr.field 24 (.agg #[.int .i64 (nb : Int), .int .i64 r, .int .i64 d, .int .i64 m, .int .u64 s]) 0).run Tryz.prog w = .ok (.int .i64 (nb : Int)) w := fun _ => by kernel_rfl
 gi_wp2_with fail
 refine ⟨trivial, ?_⟩
 with_reducible refine (callsIn_wide.2 (PC.out _)).mono ?_
 rintro e w3 ⟨v3, rfl, hown3, hb3⟩
 rw [← HPL.out] at hown3
 have HS3 := Lib.hid (HS2.out.kept hb3)
 have HB3 := Lib.hid (btr HB2.out hb3)
 have HBS3 := Lib.hid (HBS2.out.kept hb3)
 obtain ⟨ao, cap, hv⟩ := own_form hown3
 subst hv
 have HO3 := Lib.hid hown3
 clear hown3 hb3 HS2 HB2 HBS2 PC
 have hmf : ∀ (fn : Fn) (first cap : Array Value) (w : World), (Instr.makeFunc fn first cap).run Tryz.prog w = .ok (.func fn first cap) w := fun _ _ _ _ => rfl
 gi_wp2_with fail
 obtain ⟨ga, gb, gc, gd⟩ := news2 w3 (.cells #[.func (.func 175) #[] #[.pointer (some ⟨w.heap.size, 0, none⟩)]] 308) (.cells #[.slice none 0 0] 93)
 have HGA := Lib.hid ga
 have HGB := Lib.hid gb
 have HGC := Lib.hid gc
 have HGD := Lib.hid gd
 generalize ((w3.alloc (.cells #[.func (.func 175) #[] #[.pointer (some ⟨w.heap.size, 0, none⟩)]] 308)).alloc (.cells #[.slice none 0 0] 93)) = w5 at *
 clear ga gb gc gd hmf hfd
 refine ⟨trivial, ?_⟩
 with_reducible refine (callsIn_wide.2 (slvals ao PL.length cap w5)).mono ?_
 rintro e w6 ⟨rfl, hw6⟩
 obtain ⟨gv, hb6, hs6⟩ := news1 w5 (.cells #[.slice ao PL.length cap] 256)
 rw [← hw6] at gv hb6 hs6
 have HGV : Hid (Blk w6 w5.heap.size 256 #[.slice ao PL.length cap]) := Lib.hid gv
 have HPG : Hid (∃ g, ao = some ⟨g, 0, none⟩ ∧ PcAt w6 g PL ∧ g < w3.heap.size) := Lib.hid (by
  have ho := HO3.out
  rcases ho.2 with ⟨e, h0⟩ | ⟨g, cap', cur, e, hb, hgb, -⟩
  ·exact absurd h0 (by have := HPN.out; omega)
  ·simp only [Value.slice.injEq] at e
   obtain ⟨rfl, -, -⟩ := e
   exact ⟨g, rfl, ((pcAt_of_own ho).kept HGC.out).kept hb6, (pcAt_of_own ho).lt⟩)
 have hu := HS3.out.under
 have HT : Hid (w6.heap.size = w5.heap.size + 1 ∧ w5.heap.size = w3.heap.size + 2 ∧ w.heap.size < w3.heap.size) := Lib.hid ⟨hs6, HGD.out, HBS3.out.lt⟩
 have HI0 : Hid (SpI w w6 base S L w.heap.size w3.heap.size (w3.heap.size + 1) w6.heap.size (nb : Int) r d m s X A G C Z (.slice none 0 0) (ptsL (nb : Int) r d m s Z [])) := Lib.hid {
  top := Nat.le_refl _
  st := (HS3.out.kept HGC.out).kept hb6
  bs := (HBS3.out.kept HGC.out).kept hb6
  bp := (show Blk w5 w3.heap.size 308 #[.func (.func 175) #[] #[.pointer (some ⟨w.heap.size, 0, none⟩)]] from HGA.out).kept hb6
  bo := (show Blk w5 (w3.heap.size + 1) 93 #[.slice none 0 0] from HGB.out).kept hb6
  own := World.ownsRow_nil _ _ _ _
  bel := btr (btr HB3.out HGC.out) hb6
  lo := by have := HT.out; omega
  und := by have := HT.out; exact ⟨by omega, by omega, fun n hn => by have := hu.2.2 n hn; omega⟩ }
 obtain ⟨g, hao, hpg, hgl⟩ := HPG.out
 subst hao
 have HPGG := Lib.hid hpg
 have HGL := Lib.hid hgl
 clear hw6 gv hb6 hs6 hu hpg hgl HPG HO3 HGA HGB HGC HGD HS3 HBS3 HB3
 gi_wp2_with fail
 refine wpIn_rangeFunc_ownH rfl (by omega) (gf := 213) (lb := #[.pointer (some ⟨w5.heap.size, 0, none⟩)]) rfl trivial (enters_of Tryz.func213 (by kernel_rfl) rfl)
  (slv_stops (6 - 1) (by omega) w5.heap.size g cap (fun y : { p : Nat × Nat // p ∈ PL } => y.1) PL.attach (by rw [List.length_attach]; have := HLEN.out; omega) w6 (by rw [List.length_attach]; exact HGV.out) (by rw [List.attach_map_subtype_val]; exact HPGG.out)) KpB.trans (KpB.put (by
   have h1 := HT.out; have h2 := HGL.out
   intro i hi
   simp at hi
   omega)) (Below.refl _ _) (fun _ => rfl)
  (fun (pre : List { p : Nat × Nat // p ∈ PL }) W => ∃ v, SpI w W base S L w.heap.size w3.heap.size (w3.heap.size + 1) w6.heap.size (nb : Int) r d m s X A G C Z v (ptsL (nb : Int) r d m s Z (pre.map (·.1))))
  (fun _ _ _ => False)
  (fun pre W W' row hs hg hr => by
   obtain ⟨v, hs⟩ := hs
   exact ⟨v, hs.walked hg (fun r e => ⟨by have h1 := (hr r e).1; have h2 := HI0.out.lo; omega, (hr r e).2⟩)⟩)
  (fun _ _ _ _ _ hs _ _ => hs)
  ⟨_, HI0.out⟩
  (fun y a' W => ∃ BV, a' = { tmps := #[.pointer (some ⟨S, 0, none⟩), .int .u64 (l0 : Int), .int .u64 (h0 : Int), .pointer (some ⟨w.heap.size, 0, none⟩), undef, undef, .slice none 0 0, .int .i64 0, .slice (some ⟨g, 0, none⟩) PL.length cap, .bool true, .pointer (some ⟨w3.heap.size, 0, none⟩), .pointer (some ⟨w3.heap.size + 1, 0, none⟩), .pointer (some ⟨BV, 0, none⟩), .int .u64 (l0 : Int), .int .u64 (h0 : Int), .bool false, .tuple #[.slice (some ⟨g, 0, none⟩) PL.length cap, .bool true], .pointer (some ⟨S, 0, none⟩), .agg #[.int .i64 (nb : Int), .int .i64 r, .int .i64 d, .int .i64 m, .int .u64 s], .int .i64 (nb : Int), .int .u64 (l0 : Int), .int .u64 (h0 : Int), .tuple #[.slice (some ⟨g, 0, none⟩) PL.length cap, .bool true], .slice (some ⟨g, 0, none⟩) PL.length cap, .bool true, .bool true, .bool false, .func (.func 175) #[] #[.pointer (some ⟨w.heap.size, 0, none⟩)], .slice (some ⟨g, 0, none⟩) PL.length cap, .func (.func 213) #[] #[.pointer (some ⟨w5.heap.size, 0, none⟩)], .agg #[.int .i64 (y.1.1 : Int), .int .u64 (y.1.2 : Int)], undef, undef, undef, undef, undef, undef, undef], defers := [] } ∧ Blk W BV 155 #[.int .i64 (y.1.1 : Int), .int .u64 (y.1.2 : Int)])
  (fun y a' _ W W' row hs hg hr => by
   obtain ⟨BV, e, hb⟩ := hs
   exact ⟨BV, e, hb.walked hg (fun r e => (hr r e).2)⟩) ?assign ?body ?done ?stop
 case assign =>
  intro l pre y W K hI hK
  unfold pcV
  gi_wp2
  obtain ⟨v, hs⟩ := hI
  have hal : Below W.heap.size W (W.alloc (.cells #[.int .i64 (y.1.1 : Int), .int .u64 (y.1.2 : Int)] 155)) := (Below.refl _ _).alloc (Nat.le_refl _) _
  exact hK _ _ ((kept_others (below_gr (row := none) hal) (fun g e => by cases e)).from _) (KpB.of_below hal (fun i hi => by have := hs.top; have := HT.out; have := HGL.out; simp at hi; omega)) ⟨v, hs.kept hal⟩ ⟨_, rfl, Blk.new W _ _⟩
 case body =>
  intro l pre y a' W hl hlp hI hA hlen
  obtain ⟨v, hs⟩ := hI
  obtain ⟨BV, rfl, hbv⟩ := hA
  refine wpIn_mono ?_ ownPostG_of_ownPostK
  obtain ⟨⟨n, k⟩, hy⟩ := y
  dsimp only at hbv ⊢
  have hyk := HKS.out _ hy
  obtain ⟨x, hx⟩ : ∃ x, x = lvPt (nb : Int) r d m s (n : Int) (Z n) k := ⟨_, rfl⟩
  obtain ⟨xs, hxs⟩ : ∃ xs, xs = ptsL (nb : Int) r d m s Z (pre.map (·.1)) := ⟨_, rfl⟩
  have HNX : Hid (ptsL (nb : Int) r d m s Z ((pre ++ [(⟨(n, k), hy⟩ : { p : Nat × Nat // p ∈ PL })]).map (fun q => q.1)) = xs ++ [x]) := Lib.hid (by rw [List.map_append, ptsL, List.map_append, hxs, hx]; rfl)
  have HXL : Hid (xs.length ≤ 180) := Lib.hid (by
   have h1 := HLEN.out
   rw [List.length_attach] at hlen
   rw [hxs, ptsL, List.length_map, List.length_map]
   omega)
  rw [← hxs] at hs
  obtain ⟨vo, vc, hv⟩ := own_form hs.own
  subst hv
  have hs1 := hs.kept (below_drewN (Below.refl _ _) 1)
  have hbv1 := hbv.kept (below_drewN (Below.refl _ _) 1)
  have PCk := spt1 W.drew base S L w.heap.size (nb : Int) r d m s X A G C Z hs1.st s0 s1 hs1.bs n (by simpa using hyk.1) k hyk.2.1 hyk.2.2
  rw [← hx] at PCk
  unfold pcV at PCk
  have PCk := Lib.hid PCk
  have HI1 : Hid (SpI w W.drew base S L w.heap.size w3.heap.size (w3.heap.size + 1) w6.heap.size (nb : Int) r d m s X A G C Z (.slice vo xs.length vc) xs) := Lib.hid hs1
  have HBV1 : Hid (Blk W.drew BV 155 #[.int .i64 (n : Int), .int .u64 (k : Int)]) := Lib.hid hbv1
  have HBW : Hid (Below W.heap.size W W.drew) := Lib.hid (below_drewN (Below.refl _ _) 1)
  have hmx : xs.length + 1 ≤ maxLen := by have := HXL.out; unfold maxLen; omega
  have hby : (xs.length + 1) * 8 ≤ 140737488355328 := by have := HXL.out; omega
  have HEND : Hid (∀ (wc we : World) (v' : Value), Below W.heap.size W wc → (wc.alloc (.cells #[.int .i64 x] 2)).grownBy we (Value.slice vo xs.length vc).ownBlock → we.ownsRow w6.heap.size 2 1 v' (xs.length + 1) (numsV xs ++ [.int .i64 x]) → KeepsOthers W (we.setCell ⟨w3.heap.size + 1, 0, none⟩ v') ∧ KpB [w5.heap.size, g] W (we.setCell ⟨w3.heap.size + 1, 0, none⟩ v') ∧ SpI w (we.setCell ⟨w3.heap.size + 1, 0, none⟩ v') base S L w.heap.size w3.heap.size (w3.heap.size + 1) w6.heap.size (nb : Int) r d m s X A G C Z v' (xs ++ [x])) := Lib.hid (fun wc we v' hb hg ho =>
   hs.round (btr hb ((Below.refl _ _).alloc (Nat.le_refl _) _)) x ho hg [w5.heap.size, g] (fun i hi => by have := HT.out; have := HGL.out; simp at hi; omega))
  clear hs hbv hs1 hbv1 hx hyk hxs hlen hlp hl
  gi_wp2_with fail
  refine wpIn_round_any (by kernel_rfl) (by kernel_rfl) (by rintro ⟨_, _, h⟩; exact h) ?_; generalize W.drew = Wd at *; have q0 := HI1.out.bo.cell 0; have q1 := HI1.out.bp.cell 0; have q2 := HBV1.out.cell 0; have q3 := HBV1.out.cell 1; simp at q0 q1 q2 q3
  refine wpAny_ready (rs := [0, 1, 2]) (by kernel_rfl) (by simp) ?_
  refine AllReady.cons rfl (fun Kc hKc => ?_) (AllReady.cons rfl (fun Kc hKc => ?_) (AllReady.cons rfl (fun Kc hKc => ?_) AllReady.nil))
  ·have HKc := Lib.hid hKc
   clear hKc
   go_simp
   refine HKc.out _ _ ?_
   clear HKc Kc
   refine wpAny_ready (rs := [1, 2]) (by kernel_rfl) (by simp) ?_
   refine AllReady.cons rfl (fun Kc hKc => ?_) (AllReady.cons rfl (fun Kc hKc => ?_) AllReady.nil)
   ·have HKc := Lib.hid hKc
    clear hKc
    go_simp
    refine HKc.out _ _ ?_
    clear HKc Kc
    refine wpAny_ready (rs := [2]) (by kernel_rfl) (by simp) ?_
    refine AllReady.cons rfl (fun Kc hKc => ?_) AllReady.nil
    have HKc := Lib.hid hKc
    clear hKc
    go_simp
    refine HKc.out _ _ ?_
    clear HKc Kc
    refine wpAny_ready (rs := [3]) (by kernel_rfl) (by simp) ?_
    refine AllReady.cons rfl (fun Kc hKc => ?_) AllReady.nil
    have HKc := Lib.hid hKc
    clear hKc
    go_simp
    go_wp2_with (with_reducible refine PCk.out.mono ?_; rintro e wc ⟨rfl, hbc⟩; have HIc := Lib.hid (HI1.out.kept hbc); have HBc := Lib.hid (btr HBW.out hbc); have HIa := Lib.hid (HIc.out.kept (below_alloc1 wc (.cells #[.int .i64 x] 2))); have q0 := HIc.out.bo.cell 0; have q4 := HIa.out.bo.cell 0; simp at q0 q4; clear hbc)
    refine HKc.out _ _ ?_
    clear HKc Kc
    refine wpAny_ready (rs := [4]) (by kernel_rfl) (by simp) ?_
    refine AllReady.cons rfl (fun Kc hKc => ?_) AllReady.nil
    have HKc := Lib.hid hKc
    clear hKc
    go_simp
    refine HKc.out _ _ ?_
    clear HKc Kc
    refine wpAny_ready (rs := [5]) (by kernel_rfl) (by simp) ?_
    refine AllReady.cons rfl (fun Kc hKc => ?_) AllReady.nil
    have HKc := Lib.hid hKc
    clear hKc
    refine wp_append_own_at _ _ 93 rfl w6.heap.size 2 iI (.int .i64 0) 1 8 Tryz.underlying93 hi hz0 hz1 hz2 rfl (by decide) _ xs.length _ rfl HIa.out.own ⟨wc.heap.size, 0, none⟩ 1 1 [.int .i64 x] rfl rfl (cell_one_new _ _ _) (by simp [Value.oneCell']) hmx hby HIa.out.top ?_; intro v' we hown hgrow hnil hq9; have hboe := HIa.out.bo.grown hgrow (fun e => by have := (HIa.out.own.lt _ e.symm).1; have := HIa.out.lo.2.1; omega); have q5 := hboe.cell 0; have q6 := hboe.frozen 0; simp at q5; have HR := Lib.hid (HEND.out wc we v' HBc.out hgrow hown); obtain ⟨vo', vc', hv'⟩ := own_form hown; subst hv'; clear hown hgrow hnil hq9 hboe
    refine HKc.out _ _ ?_
    clear HKc Kc
    refine wpAny_ready (rs := [6]) (by kernel_rfl) (by simp) ?_
    refine AllReady.cons rfl (fun Kc hKc => ?_) AllReady.nil
    have HKc := Lib.hid hKc
    clear hKc
    go_simp
    refine HKc.out _ _ ?_
    clear HKc Kc
    refine wpAny_done (by kernel_rfl) ?_ _
    gi_wp2_with fail
    refine ⟨HR.out.1, HR.out.2.1, .slice vo' (xs.length + 1) vc', ?_⟩
    rw [HNX.out]
    exact HR.out.2.2
   ·have HKc := Lib.hid hKc
    clear hKc
    go_simp
    refine HKc.out _ _ ?_
    clear HKc Kc
    refine wpAny_ready (rs := [1]) (by kernel_rfl) (by simp) ?_
    refine AllReady.cons rfl (fun Kc hKc => ?_) AllReady.nil
    have HKc := Lib.hid hKc
    clear hKc
    go_simp
    refine HKc.out _ _ ?_
    clear HKc Kc
    refine wpAny_ready (rs := [3]) (by kernel_rfl) (by simp) ?_
    refine AllReady.cons rfl (fun Kc hKc => ?_) AllReady.nil
    have HKc := Lib.hid hKc
    clear hKc
    go_simp
    go_wp2_with (with_reducible refine PCk.out.mono ?_; rintro e wc ⟨rfl, hbc⟩; have HIc := Lib.hid (HI1.out.kept hbc); have HBc := Lib.hid (btr HBW.out hbc); have HIa := Lib.hid (HIc.out.kept (below_alloc1 wc (.cells #[.int .i64 x] 2))); have q0 := HIc.out.bo.cell 0; have q4 := HIa.out.bo.cell 0; simp at q0 q4; clear hbc)
    refine HKc.out _ _ ?_
    clear HKc Kc
    refine wpAny_ready (rs := [4]) (by kernel_rfl) (by simp) ?_
    refine AllReady.cons rfl (fun Kc hKc => ?_) AllReady.nil
    have HKc := Lib.hid hKc
    clear hKc
    go_simp
    refine HKc.out _ _ ?_
    clear HKc Kc
    refine wpAny_ready (rs := [5]) (by kernel_rfl) (by simp) ?_
    refine AllReady.cons rfl (fun Kc hKc => ?_) AllReady.nil
    have HKc := Lib.hid hKc
    clear hKc
    refine wp_append_own_at _ _ 93 rfl w6.heap.size 2 iI (.int .i64 0) 1 8 Tryz.underlying93 hi hz0 hz1 hz2 rfl (by decide) _ xs.length _ rfl HIa.out.own ⟨wc.heap.size, 0, none⟩ 1 1 [.int .i64 x] rfl rfl (cell_one_new _ _ _) (by simp [Value.oneCell']) hmx hby HIa.out.top ?_; intro v' we hown hgrow hnil hq9; have hboe := HIa.out.bo.grown hgrow (fun e => by have := (HIa.out.own.lt _ e.symm).1; have := HIa.out.lo.2.1; omega); have q5 := hboe.cell 0; have q6 := hboe.frozen 0; simp at q5; have HR := Lib.hid (HEND.out wc we v' HBc.out hgrow hown); obtain ⟨vo', vc', hv'⟩ := own_form hown; subst hv'; clear hown hgrow hnil hq9 hboe
    refine HKc.out _ _ ?_
    clear HKc Kc
    refine wpAny_ready (rs := [6]) (by kernel_rfl) (by simp) ?_
    refine AllReady.cons rfl (fun Kc hKc => ?_) AllReady.nil
    have HKc := Lib.hid hKc
    clear hKc
    go_simp
    refine HKc.out _ _ ?_
    clear HKc Kc
    refine wpAny_done (by kernel_rfl) ?_ _
    gi_wp2_with fail
    refine ⟨HR.out.1, HR.out.2.1, .slice vo' (xs.length + 1) vc', ?_⟩
    rw [HNX.out]
    exact HR.out.2.2
  ·have HKc := Lib.hid hKc
   clear hKc
   go_simp
   refine HKc.out _ _ ?_
   clear HKc Kc
   refine wpAny_ready (rs := [0, 2]) (by kernel_rfl) (by simp) ?_
   refine AllReady.cons rfl (fun Kc hKc => ?_) (AllReady.cons rfl (fun Kc hKc => ?_) AllReady.nil)
   ·have HKc := Lib.hid hKc
    clear hKc
    go_simp
    refine HKc.out _ _ ?_
    clear HKc Kc
    refine wpAny_ready (rs := [2]) (by kernel_rfl) (by simp) ?_
    refine AllReady.cons rfl (fun Kc hKc => ?_) AllReady.nil
    have HKc := Lib.hid hKc
    clear hKc
    go_simp
    refine HKc.out _ _ ?_
    clear HKc Kc
    refine wpAny_ready (rs := [3]) (by kernel_rfl) (by simp) ?_
    refine AllReady.cons rfl (fun Kc hKc => ?_) AllReady.nil
    have HKc := Lib.hid hKc
    clear hKc
    go_simp
    go_wp2_with (with_reducible refine PCk.out.mono ?_; rintro e wc ⟨rfl, hbc⟩; have HIc := Lib.hid (HI1.out.kept hbc); have HBc := Lib.hid (btr HBW.out hbc); have HIa := Lib.hid (HIc.out.kept (below_alloc1 wc (.cells #[.int .i64 x] 2))); have q0 := HIc.out.bo.cell 0; have q4 := HIa.out.bo.cell 0; simp at q0 q4; clear hbc)
    refine HKc.out _ _ ?_
    clear HKc Kc
    refine wpAny_ready (rs := [4]) (by kernel_rfl) (by simp) ?_
    refine AllReady.cons rfl (fun Kc hKc => ?_) AllReady.nil
    have HKc := Lib.hid hKc
    clear hKc
    go_simp
    refine HKc.out _ _ ?_
    clear HKc Kc
    refine wpAny_ready (rs := [5]) (by kernel_rfl) (by simp) ?_
    refine AllReady.cons rfl (fun Kc hKc => ?_) AllReady.nil
    have HKc := Lib.hid hKc
    clear hKc
    refine wp_append_own_at _ _ 93 rfl w6.heap.size 2 iI (.int .i64 0) 1 8 Tryz.underlying93 hi hz0 hz1 hz2 rfl (by decide) _ xs.length _ rfl HIa.out.own ⟨wc.heap.size, 0, none⟩ 1 1 [.int .i64 x] rfl rfl (cell_one_new _ _ _) (by simp [Value.oneCell']) hmx hby HIa.out.top ?_; intro v' we hown hgrow hnil hq9; have hboe := HIa.out.bo.grown hgrow (fun e => by have := (HIa.out.own.lt _ e.symm).1; have := HIa.out.lo.2.1; omega); have q5 := hboe.cell 0; have q6 := hboe.frozen 0; simp at q5; have HR := Lib.hid (HEND.out wc we v' HBc.out hgrow hown); obtain ⟨vo', vc', hv'⟩ := own_form hown; subst hv'; clear hown hgrow hnil hq9 hboe
    refine HKc.out _ _ ?_
    clear HKc Kc
    refine wpAny_ready (rs := [6]) (by kernel_rfl) (by simp) ?_
    refine AllReady.cons rfl (fun Kc hKc => ?_) AllReady.nil
    have HKc := Lib.hid hKc
    clear hKc
    go_simp
    refine HKc.out _ _ ?_
    clear HKc Kc
    refine wpAny_done (by kernel_rfl) ?_ _
    gi_wp2_with fail
    refine ⟨HR.out.1, HR.out.2.1, .slice vo' (xs.length + 1) vc', ?_⟩
    rw [HNX.out]
    exact HR.out.2.2
   ·have HKc := Lib.hid hKc
    clear hKc
    go_simp
    refine HKc.out _ _ ?_
    clear HKc Kc
    refine wpAny_ready (rs := [0, 3]) (by kernel_rfl) (by simp) ?_
    refine AllReady.cons rfl (fun Kc hKc => ?_) (AllReady.cons rfl (fun Kc hKc => ?_) AllReady.nil)
    ·have HKc := Lib.hid hKc
     clear hKc
     go_simp
     refine HKc.out _ _ ?_
     clear HKc Kc
     refine wpAny_ready (rs := [3]) (by kernel_rfl) (by simp) ?_
     refine AllReady.cons rfl (fun Kc hKc => ?_) AllReady.nil
     have HKc := Lib.hid hKc
     clear hKc
     go_simp
     go_wp2_with (with_reducible refine PCk.out.mono ?_; rintro e wc ⟨rfl, hbc⟩; have HIc := Lib.hid (HI1.out.kept hbc); have HBc := Lib.hid (btr HBW.out hbc); have HIa := Lib.hid (HIc.out.kept (below_alloc1 wc (.cells #[.int .i64 x] 2))); have q0 := HIc.out.bo.cell 0; have q4 := HIa.out.bo.cell 0; simp at q0 q4; clear hbc)
     refine HKc.out _ _ ?_
     clear HKc Kc
     refine wpAny_ready (rs := [4]) (by kernel_rfl) (by simp) ?_
     refine AllReady.cons rfl (fun Kc hKc => ?_) AllReady.nil
     have HKc := Lib.hid hKc
     clear hKc
     go_simp
     refine HKc.out _ _ ?_
     clear HKc Kc
     refine wpAny_ready (rs := [5]) (by kernel_rfl) (by simp) ?_
     refine AllReady.cons rfl (fun Kc hKc => ?_) AllReady.nil
     have HKc := Lib.hid hKc
     clear hKc
     refine wp_append_own_at _ _ 93 rfl w6.heap.size 2 iI (.int .i64 0) 1 8 Tryz.underlying93 hi hz0 hz1 hz2 rfl (by decide) _ xs.length _ rfl HIa.out.own ⟨wc.heap.size, 0, none⟩ 1 1 [.int .i64 x] rfl rfl (cell_one_new _ _ _) (by simp [Value.oneCell']) hmx hby HIa.out.top ?_; intro v' we hown hgrow hnil hq9; have hboe := HIa.out.bo.grown hgrow (fun e => by have := (HIa.out.own.lt _ e.symm).1; have := HIa.out.lo.2.1; omega); have q5 := hboe.cell 0; have q6 := hboe.frozen 0; simp at q5; have HR := Lib.hid (HEND.out wc we v' HBc.out hgrow hown); obtain ⟨vo', vc', hv'⟩ := own_form hown; subst hv'; clear hown hgrow hnil hq9 hboe
     refine HKc.out _ _ ?_
     clear HKc Kc
     refine wpAny_ready (rs := [6]) (by kernel_rfl) (by simp) ?_
     refine AllReady.cons rfl (fun Kc hKc => ?_) AllReady.nil
     have HKc := Lib.hid hKc
     clear hKc
     go_simp
     refine HKc.out _ _ ?_
     clear HKc Kc
     refine wpAny_done (by kernel_rfl) ?_ _
     gi_wp2_with fail
     refine ⟨HR.out.1, HR.out.2.1, .slice vo' (xs.length + 1) vc', ?_⟩
     rw [HNX.out]
     exact HR.out.2.2
    ·have HKc := Lib.hid hKc
     clear hKc
     go_simp
     go_wp2_with (with_reducible refine PCk.out.mono ?_; rintro e wc ⟨rfl, hbc⟩; have HIc := Lib.hid (HI1.out.kept hbc); have HBc := Lib.hid (btr HBW.out hbc); have HIa := Lib.hid (HIc.out.kept (below_alloc1 wc (.cells #[.int .i64 x] 2))); have q0 := HIc.out.bo.cell 0; have q4 := HIa.out.bo.cell 0; simp at q0 q4; clear hbc)
     refine HKc.out _ _ ?_
     clear HKc Kc
     refine wpAny_ready (rs := [0, 4]) (by kernel_rfl) (by simp) ?_
     refine AllReady.cons rfl (fun Kc hKc => ?_) (AllReady.cons rfl (fun Kc hKc => ?_) AllReady.nil)
     ·have HKc := Lib.hid hKc
      clear hKc
      go_simp
      refine HKc.out _ _ ?_
      clear HKc Kc
      refine wpAny_ready (rs := [4]) (by kernel_rfl) (by simp) ?_
      refine AllReady.cons rfl (fun Kc hKc => ?_) AllReady.nil
      have HKc := Lib.hid hKc
      clear hKc
      go_simp
      refine HKc.out _ _ ?_
      clear HKc Kc
      refine wpAny_ready (rs := [5]) (by kernel_rfl) (by simp) ?_
      refine AllReady.cons rfl (fun Kc hKc => ?_) AllReady.nil
      have HKc := Lib.hid hKc
      clear hKc
      refine wp_append_own_at _ _ 93 rfl w6.heap.size 2 iI (.int .i64 0) 1 8 Tryz.underlying93 hi hz0 hz1 hz2 rfl (by decide) _ xs.length _ rfl HIa.out.own ⟨wc.heap.size, 0, none⟩ 1 1 [.int .i64 x] rfl rfl (cell_one_new _ _ _) (by simp [Value.oneCell']) hmx hby HIa.out.top ?_; intro v' we hown hgrow hnil hq9; have hboe := HIa.out.bo.grown hgrow (fun e => by have := (HIa.out.own.lt _ e.symm).1; have := HIa.out.lo.2.1; omega); have q5 := hboe.cell 0; have q6 := hboe.frozen 0; simp at q5; have HR := Lib.hid (HEND.out wc we v' HBc.out hgrow hown); obtain ⟨vo', vc', hv'⟩ := own_form hown; subst hv'; clear hown hgrow hnil hq9 hboe
      refine HKc.out _ _ ?_
      clear HKc Kc
      refine wpAny_ready (rs := [6]) (by kernel_rfl) (by simp) ?_
      refine AllReady.cons rfl (fun Kc hKc => ?_) AllReady.nil
      have HKc := Lib.hid hKc
      clear hKc
      go_simp
      refine HKc.out _ _ ?_
      clear HKc Kc
      refine wpAny_done (by kernel_rfl) ?_ _
      gi_wp2_with fail
      refine ⟨HR.out.1, HR.out.2.1, .slice vo' (xs.length + 1) vc', ?_⟩
      rw [HNX.out]
      exact HR.out.2.2
     ·have HKc := Lib.hid hKc
      clear hKc
      go_simp
      refine HKc.out _ _ ?_
      clear HKc Kc
      refine wpAny_ready (rs := [0]) (by kernel_rfl) (by simp) ?_
      refine AllReady.cons rfl (fun Kc hKc => ?_) AllReady.nil
      have HKc := Lib.hid hKc
      clear hKc
      go_simp
      refine HKc.out _ _ ?_
      clear HKc Kc
      refine wpAny_ready (rs := [5]) (by kernel_rfl) (by simp) ?_
      refine AllReady.cons rfl (fun Kc hKc => ?_) AllReady.nil
      have HKc := Lib.hid hKc
      clear hKc
      refine wp_append_own_at _ _ 93 rfl w6.heap.size 2 iI (.int .i64 0) 1 8 Tryz.underlying93 hi hz0 hz1 hz2 rfl (by decide) _ xs.length _ rfl HIa.out.own ⟨wc.heap.size, 0, none⟩ 1 1 [.int .i64 x] rfl rfl (cell_one_new _ _ _) (by simp [Value.oneCell']) hmx hby HIa.out.top ?_; intro v' we hown hgrow hnil hq9; have hboe := HIa.out.bo.grown hgrow (fun e => by have := (HIa.out.own.lt _ e.symm).1; have := HIa.out.lo.2.1; omega); have q5 := hboe.cell 0; have q6 := hboe.frozen 0; simp at q5; have HR := Lib.hid (HEND.out wc we v' HBc.out hgrow hown); obtain ⟨vo', vc', hv'⟩ := own_form hown; subst hv'; clear hown hgrow hnil hq9 hboe
      refine HKc.out _ _ ?_
      clear HKc Kc
      refine wpAny_ready (rs := [6]) (by kernel_rfl) (by simp) ?_
      refine AllReady.cons rfl (fun Kc hKc => ?_) AllReady.nil
      have HKc := Lib.hid hKc
      clear hKc
      go_simp
      refine HKc.out _ _ ?_
      clear HKc Kc
      refine wpAny_done (by kernel_rfl) ?_ _
      gi_wp2_with fail
      refine ⟨HR.out.1, HR.out.2.1, .slice vo' (xs.length + 1) vc', ?_⟩
      rw [HNX.out]
      exact HR.out.2.2
  ·have HKc := Lib.hid hKc
   clear hKc
   go_simp
   refine HKc.out _ _ ?_
   clear HKc Kc
   refine wpAny_ready (rs := [0, 1]) (by kernel_rfl) (by simp) ?_
   refine AllReady.cons rfl (fun Kc hKc => ?_) (AllReady.cons rfl (fun Kc hKc => ?_) AllReady.nil)
   ·have HKc := Lib.hid hKc
    clear hKc
    go_simp
    refine HKc.out _ _ ?_
    clear HKc Kc
    refine wpAny_ready (rs := [1]) (by kernel_rfl) (by simp) ?_
    refine AllReady.cons rfl (fun Kc hKc => ?_) AllReady.nil
    have HKc := Lib.hid hKc
    clear hKc
    go_simp
    refine HKc.out _ _ ?_
    clear HKc Kc
    refine wpAny_ready (rs := [3]) (by kernel_rfl) (by simp) ?_
    refine AllReady.cons rfl (fun Kc hKc => ?_) AllReady.nil
    have HKc := Lib.hid hKc
    clear hKc
    go_simp
    go_wp2_with (with_reducible refine PCk.out.mono ?_; rintro e wc ⟨rfl, hbc⟩; have HIc := Lib.hid (HI1.out.kept hbc); have HBc := Lib.hid (btr HBW.out hbc); have HIa := Lib.hid (HIc.out.kept (below_alloc1 wc (.cells #[.int .i64 x] 2))); have q0 := HIc.out.bo.cell 0; have q4 := HIa.out.bo.cell 0; simp at q0 q4; clear hbc)
    refine HKc.out _ _ ?_
    clear HKc Kc
    refine wpAny_ready (rs := [4]) (by kernel_rfl) (by simp) ?_
    refine AllReady.cons rfl (fun Kc hKc => ?_) AllReady.nil
    have HKc := Lib.hid hKc
    clear hKc
    go_simp
    refine HKc.out _ _ ?_
    clear HKc Kc
    refine wpAny_ready (rs := [5]) (by kernel_rfl) (by simp) ?_
    refine AllReady.cons rfl (fun Kc hKc => ?_) AllReady.nil
    have HKc := Lib.hid hKc
    clear hKc
    refine wp_append_own_at _ _ 93 rfl w6.heap.size 2 iI (.int .i64 0) 1 8 Tryz.underlying93 hi hz0 hz1 hz2 rfl (by decide) _ xs.length _ rfl HIa.out.own ⟨wc.heap.size, 0, none⟩ 1 1 [.int .i64 x] rfl rfl (cell_one_new _ _ _) (by simp [Value.oneCell']) hmx hby HIa.out.top ?_; intro v' we hown hgrow hnil hq9; have hboe := HIa.out.bo.grown hgrow (fun e => by have := (HIa.out.own.lt _ e.symm).1; have := HIa.out.lo.2.1; omega); have q5 := hboe.cell 0; have q6 := hboe.frozen 0; simp at q5; have HR := Lib.hid (HEND.out wc we v' HBc.out hgrow hown); obtain ⟨vo', vc', hv'⟩ := own_form hown; subst hv'; clear hown hgrow hnil hq9 hboe
    refine HKc.out _ _ ?_
    clear HKc Kc
    refine wpAny_ready (rs := [6]) (by kernel_rfl) (by simp) ?_
    refine AllReady.cons rfl (fun Kc hKc => ?_) AllReady.nil
    have HKc := Lib.hid hKc
    clear hKc
    go_simp
    refine HKc.out _ _ ?_
    clear HKc Kc
    refine wpAny_done (by kernel_rfl) ?_ _
    gi_wp2_with fail
    refine ⟨HR.out.1, HR.out.2.1, .slice vo' (xs.length + 1) vc', ?_⟩
    rw [HNX.out]
    exact HR.out.2.2
   ·have HKc := Lib.hid hKc
    clear hKc
    go_simp
    refine HKc.out _ _ ?_
    clear HKc Kc
    refine wpAny_ready (rs := [0, 3]) (by kernel_rfl) (by simp) ?_
    refine AllReady.cons rfl (fun Kc hKc => ?_) (AllReady.cons rfl (fun Kc hKc => ?_) AllReady.nil)
    ·have HKc := Lib.hid hKc
     clear hKc
     go_simp
     refine HKc.out _ _ ?_
     clear HKc Kc
     refine wpAny_ready (rs := [3]) (by kernel_rfl) (by simp) ?_
     refine AllReady.cons rfl (fun Kc hKc => ?_) AllReady.nil
     have HKc := Lib.hid hKc
     clear hKc
     go_simp
     go_wp2_with (with_reducible refine PCk.out.mono ?_; rintro e wc ⟨rfl, hbc⟩; have HIc := Lib.hid (HI1.out.kept hbc); have HBc := Lib.hid (btr HBW.out hbc); have HIa := Lib.hid (HIc.out.kept (below_alloc1 wc (.cells #[.int .i64 x] 2))); have q0 := HIc.out.bo.cell 0; have q4 := HIa.out.bo.cell 0; simp at q0 q4; clear hbc)
     refine HKc.out _ _ ?_
     clear HKc Kc
     refine wpAny_ready (rs := [4]) (by kernel_rfl) (by simp) ?_
     refine AllReady.cons rfl (fun Kc hKc => ?_) AllReady.nil
     have HKc := Lib.hid hKc
     clear hKc
     go_simp
     refine HKc.out _ _ ?_
     clear HKc Kc
     refine wpAny_ready (rs := [5]) (by kernel_rfl) (by simp) ?_
     refine AllReady.cons rfl (fun Kc hKc => ?_) AllReady.nil
     have HKc := Lib.hid hKc
     clear hKc
     refine wp_append_own_at _ _ 93 rfl w6.heap.size 2 iI (.int .i64 0) 1 8 Tryz.underlying93 hi hz0 hz1 hz2 rfl (by decide) _ xs.length _ rfl HIa.out.own ⟨wc.heap.size, 0, none⟩ 1 1 [.int .i64 x] rfl rfl (cell_one_new _ _ _) (by simp [Value.oneCell']) hmx hby HIa.out.top ?_; intro v' we hown hgrow hnil hq9; have hboe := HIa.out.bo.grown hgrow (fun e => by have := (HIa.out.own.lt _ e.symm).1; have := HIa.out.lo.2.1; omega); have q5 := hboe.cell 0; have q6 := hboe.frozen 0; simp at q5; have HR := Lib.hid (HEND.out wc we v' HBc.out hgrow hown); obtain ⟨vo', vc', hv'⟩ := own_form hown; subst hv'; clear hown hgrow hnil hq9 hboe
     refine HKc.out _ _ ?_
     clear HKc Kc
     refine wpAny_ready (rs := [6]) (by kernel_rfl) (by simp) ?_
     refine AllReady.cons rfl (fun Kc hKc => ?_) AllReady.nil
     have HKc := Lib.hid hKc
     clear hKc
     go_simp
     refine HKc.out _ _ ?_
     clear HKc Kc
     refine wpAny_done (by kernel_rfl) ?_ _
     gi_wp2_with fail
     refine ⟨HR.out.1, HR.out.2.1, .slice vo' (xs.length + 1) vc', ?_⟩
     rw [HNX.out]
     exact HR.out.2.2
    ·have HKc := Lib.hid hKc
     clear hKc
     go_simp
     go_wp2_with (with_reducible refine PCk.out.mono ?_; rintro e wc ⟨rfl, hbc⟩; have HIc := Lib.hid (HI1.out.kept hbc); have HBc := Lib.hid (btr HBW.out hbc); have HIa := Lib.hid (HIc.out.kept (below_alloc1 wc (.cells #[.int .i64 x] 2))); have q0 := HIc.out.bo.cell 0; have q4 := HIa.out.bo.cell 0; simp at q0 q4; clear hbc)
     refine HKc.out _ _ ?_
     clear HKc Kc
     refine wpAny_ready (rs := [0, 4]) (by kernel_rfl) (by simp) ?_
     refine AllReady.cons rfl (fun Kc hKc => ?_) (AllReady.cons rfl (fun Kc hKc => ?_) AllReady.nil)
     ·have HKc := Lib.hid hKc
      clear hKc
      go_simp
      refine HKc.out _ _ ?_
      clear HKc Kc
      refine wpAny_ready (rs := [4]) (by kernel_rfl) (by simp) ?_
      refine AllReady.cons rfl (fun Kc hKc => ?_) AllReady.nil
      have HKc := Lib.hid hKc
      clear hKc
      go_simp
      refine HKc.out _ _ ?_
      clear HKc Kc
      refine wpAny_ready (rs := [5]) (by kernel_rfl) (by simp) ?_
      refine AllReady.cons rfl (fun Kc hKc => ?_) AllReady.nil
      have HKc := Lib.hid hKc
      clear hKc
      refine wp_append_own_at _ _ 93 rfl w6.heap.size 2 iI (.int .i64 0) 1 8 Tryz.underlying93 hi hz0 hz1 hz2 rfl (by decide) _ xs.length _ rfl HIa.out.own ⟨wc.heap.size, 0, none⟩ 1 1 [.int .i64 x] rfl rfl (cell_one_new _ _ _) (by simp [Value.oneCell']) hmx hby HIa.out.top ?_; intro v' we hown hgrow hnil hq9; have hboe := HIa.out.bo.grown hgrow (fun e => by have := (HIa.out.own.lt _ e.symm).1; have := HIa.out.lo.2.1; omega); have q5 := hboe.cell 0; have q6 := hboe.frozen 0; simp at q5; have HR := Lib.hid (HEND.out wc we v' HBc.out hgrow hown); obtain ⟨vo', vc', hv'⟩ := own_form hown; subst hv'; clear hown hgrow hnil hq9 hboe
      refine HKc.out _ _ ?_
      clear HKc Kc
      refine wpAny_ready (rs := [6]) (by kernel_rfl) (by simp) ?_
      refine AllReady.cons rfl (fun Kc hKc => ?_) AllReady.nil
      have HKc := Lib.hid hKc
      clear hKc
      go_simp
      refine HKc.out _ _ ?_
      clear HKc Kc
      refine wpAny_done (by kernel_rfl) ?_ _
      gi_wp2_with fail
      refine ⟨HR.out.1, HR.out.2.1, .slice vo' (xs.length + 1) vc', ?_⟩
      rw [HNX.out]
      exact HR.out.2.2
     ·have HKc := Lib.hid hKc
      clear hKc
      go_simp
      refine HKc.out _ _ ?_
      clear HKc Kc
      refine wpAny_ready (rs := [0]) (by kernel_rfl) (by simp) ?_
      refine AllReady.cons rfl (fun Kc hKc => ?_) AllReady.nil
      have HKc := Lib.hid hKc
      clear hKc
      go_simp
      refine HKc.out _ _ ?_
      clear HKc Kc
      refine wpAny_ready (rs := [5]) (by kernel_rfl) (by simp) ?_
      refine AllReady.cons rfl (fun Kc hKc => ?_) AllReady.nil
      have HKc := Lib.hid hKc
      clear hKc
      refine wp_append_own_at _ _ 93 rfl w6.heap.size 2 iI (.int .i64 0) 1 8 Tryz.underlying93 hi hz0 hz1 hz2 rfl (by decide) _ xs.length _ rfl HIa.out.own ⟨wc.heap.size, 0, none⟩ 1 1 [.int .i64 x] rfl rfl (cell_one_new _ _ _) (by simp [Value.oneCell']) hmx hby HIa.out.top ?_; intro v' we hown hgrow hnil hq9; have hboe := HIa.out.bo.grown hgrow (fun e => by have := (HIa.out.own.lt _ e.symm).1; have := HIa.out.lo.2.1; omega); have q5 := hboe.cell 0; have q6 := hboe.frozen 0; simp at q5; have HR := Lib.hid (HEND.out wc we v' HBc.out hgrow hown); obtain ⟨vo', vc', hv'⟩ := own_form hown; subst hv'; clear hown hgrow hnil hq9 hboe
      refine HKc.out _ _ ?_
      clear HKc Kc
      refine wpAny_ready (rs := [6]) (by kernel_rfl) (by simp) ?_
      refine AllReady.cons rfl (fun Kc hKc => ?_) AllReady.nil
      have HKc := Lib.hid hKc
      clear hKc
      go_simp
      refine HKc.out _ _ ?_
      clear HKc Kc
      refine wpAny_done (by kernel_rfl) ?_ _
      gi_wp2_with fail
      refine ⟨HR.out.1, HR.out.2.1, .slice vo' (xs.length + 1) vc', ?_⟩
      rw [HNX.out]
      exact HR.out.2.2
 case done =>
  intro D xs W hD hxs hI hK
  subst hxs
  obtain ⟨v, hs⟩ := hI
  rw [List.attach_map_subtype_val] at hs
  obtain ⟨vo, vc, hv⟩ := own_form hs.own
  subst hv
  have hlp : (ptsL (nb : Int) r d m s Z PL).length = PL.length := by simp [ptsL]
  have HEW : Hid (W.ownsRow w.heap.size 2 1 (.slice vo (ptsL (nb : Int) r d m s Z PL).length vc) PL.length (numsV (ptsL (nb : Int) r d m s Z PL))) := Lib.hid (by
   have := hs.own
   rw [hlp] at this ⊢
   exact ownBase this hs.lo.2.2.2.2)
  have HEB := Lib.hid hs.bel
  have q0 := hs.bo.cell 0
  simp at q0
  have HK := Lib.hid hK
  have hg4 := grownBy_putObj' W D (.deferred none)
  have HEW2 : Hid ((W.putObj D (.deferred none)).ownsRow w.heap.size 2 1 (.slice vo (ptsL (nb : Int) r d m s Z PL).length vc) PL.length (numsV (ptsL (nb : Int) r d m s Z PL))) := Lib.hid (ownKeep HEW.out hg4 (fun k hk e => by
   have e := Option.some.inj e
   obtain ⟨cs, hq⟩ := ownBlk HEW.out k hk
   rw [← e] at hq
   exact hq.not_other hK rfl rfl))
  have HEB2 : Hid (Below w.heap.size w (W.putObj D (.deferred none))) := Lib.hid (HEB.out.grown hg4 HEB.out.size (fun k e => by have e := Option.some.inj e; have := HI0.out.lo; omega))
  clear hs hlp hg4 hK
  gi_wp2_with fail
  refine ⟨by simp, .inl ⟨_, _, rfl, run_takeDeferred HK.out, ?_⟩⟩
  refine ⟨.tuple #[.slice vo (ptsL (nb : Int) r d m s Z PL).length vc, .int .i64 0], ?_, _, rfl, HEW2.out, HEB2.out⟩
  simp [results, Tryz.results135, go_sem]
 case stop =>
  intro D c pre W hD hpre hf
  exact hf.elim
end Go.Proofs.YtfeficdndjiijaaGreatDoor


namespace Go.Proofs.YtfeficdndjiijaaGreatDoor
open Go.RowKit Go.Shelf
set_option linter.unusedVariables false
set_option linter.unusedSimpArgs false

theorem own_ints {w : World} {base g n cap : Nat} {xs : List Int} (h : w.ownsRow base 2 1 (.slice (some ⟨g, 0, none⟩) n cap) n (numsV xs)) (hn : n = xs.length) : g < w.heap.size ∧ ∀ i u, xs[i]? = some u → w.cell? ⟨g, i, none⟩ = some (.int .i64 u) := by
  rcases h.2 with ⟨e, h0⟩ | ⟨g', cap', cur, e, hb, hg, hnc, hcm, hsz, htake⟩
  · cases e
  · simp only [Value.slice.injEq, Option.some.injEq, Addr.mk.injEq] at e
    obtain ⟨⟨rfl, -⟩, -, rfl⟩ := e
    have hg' : Blk w g 2 cur := hg
    refine ⟨hg'.lt, fun i u hu => ?_⟩
    rw [hg'.cell i]
    have hlt := (List.getElem?_eq_some_iff.1 hu).1
    have h1 : (numsV xs)[i]? = some (.int .i64 u) := by rw [numsV, List.getElem?_map, hu]; rfl
    rw [← htake, List.getElem?_take, if_pos (by omega)] at h1
    simpa using h1
set_option maxRecDepth 100000 in
set_option maxHeartbeats 8000000 in
theorem range_any (w : World) (base S L : Nat) (b r d m s : Int) (X : Nat → Value) (A G C : Nat → Nat) (Z : Nat → List Int) (h : StIs w base S L b r d m s X A G C Z) (s0 : 0 ≤ s) (s1 : s ≤ 18446744073709551615) (nb l0 h0 : Nat) (hbn : b = (nb : Int)) (hb1 : 1 ≤ nb) (hb : nb ≤ 59) (hlh : l0 ≤ h0) (hhi : h0 < 2 ^ nb) (hne : covR (nb + 1) 0 l0 h0 ≠ [])
  (hks : ∀ p ∈ covO (nb + 1) 0 l0 h0 ++ (covR (nb + 1) 0 l0 h0).reverse, p.1 ≤ nb ∧ p.2 < 18446744073709551616 ∧ (p.2 : Int) < keysI b r d m (p.1 : Int))
  (hz : ∀ x ∈ ptsL b r d m s Z (covO (nb + 1) 0 l0 h0 ++ (covR (nb + 1) 0 l0 h0).reverse), -9223372036854775808 ≤ x ∧ x ≤ 9223372036854775807) (x : Int) (hx : x = sumL (ptsL b r d m s Z (covO (nb + 1) 0 l0 h0 ++ (covR (nb + 1) 0 l0 h0).reverse))) (x0 : -9223372036854775808 ≤ x) (x1 : x ≤ 9223372036854775807) :
  Calls Tryz.prog 95 #[.pointer (some ⟨S, 0, none⟩), .int .u64 (l0 : Int), .int .u64 (h0 : Int)] w fun e w' => e = .returned (.tuple #[.int .i64 x, .int .i64 0]) ∧ Below w.heap.size w w' := by
 have PP := Lib.hid (parts_any w base S L b r d m s X A G C Z h s0 s1 nb l0 h0 hbn hb1 hb hlh hhi hne hks)
 have hln : (covO (nb + 1) 0 l0 h0 ++ (covR (nb + 1) 0 l0 h0).reverse).length ≤ 180 := by have := cov_len (nb + 1) 0 l0 h0; simp; omega
 have hpn : 0 < (covO (nb + 1) 0 l0 h0 ++ (covR (nb + 1) 0 l0 h0).reverse).length := by have := List.length_pos_iff.2 hne; simp; omega
 obtain ⟨PL, hPL⟩ : ∃ PL, PL = covO (nb + 1) 0 l0 h0 ++ (covR (nb + 1) 0 l0 h0).reverse := ⟨_, rfl⟩
 rw [← hPL] at PP hz hx hln hpn
 obtain ⟨zs, hzs⟩ : ∃ zs, zs = ptsL b r d m s Z PL := ⟨_, rfl⟩
 have hzl : zs.length = PL.length := by rw [hzs, ptsL, List.length_map]
 rw [← hzs] at PP hz hx
 rw [← hzl] at PP hln hpn
 have PS := Lib.hid (fun C cap w hC hCw => sum_yes zs C cap (by omega) hz w hC hCw x hx x0 x1)
 have HPN := Lib.hid hpn
 clear h hks hz hx hPL hzs hzl hln hpn hne
 go_enter Tryz.func95, Tryz.ntmps95
 go_wp2_with fail
 with_reducible refine PP.out.mono ?_
 rintro e w2 ⟨v, rfl, hown, hb2⟩
 obtain ⟨ao, cap, hv⟩ := own_form hown
 subst hv
 have HB2 := Lib.hid hb2
 have ⟨g, hao, hgl, hgc⟩ : ∃ g, ao = some ⟨g, 0, none⟩ ∧ g < w2.heap.size ∧ ∀ i u, zs[i]? = some u → w2.cell? ⟨g, i, none⟩ = some (.int .i64 u) := by
  rcases hown.2 with ⟨e, h0⟩ | ⟨g, cap', cur, e, -⟩
  ·exact absurd h0 (by have := HPN.out; omega)
  ·simp only [Value.slice.injEq] at e
   obtain ⟨rfl, -, -⟩ := e
   exact ⟨g, rfl, own_ints hown rfl⟩
 subst hao
 have PS := Lib.hid (PS.out g cap w2 hgc hgl)
 clear hown hb2 PP hgl hgc
 go_wp2_with fail
 with_reducible refine PS.out.mono ?_
 rintro e w3 ⟨rfl, hb3⟩
 have HB3 := Lib.hid (btr HB2.out hb3)
 clear hb3 PS
 go_wp2_with fail
 go_ret2
 exact ⟨rfl, HB3.out⟩
end Go.Proofs.YtfeficdndjiijaaGreatDoor


namespace Go.Proofs.YtfeficdndjiijaaGreatDoor
open Go.RowKit
set_option linter.unusedVariables false
set_option linter.unusedSimpArgs false

def wRange : List UInt8 := [114, 97, 110, 103, 101]
def QryIs (V : ByteArray) (x0 x1 x2 : Int) (lo : Nat) (c : Value) (w : World) : Prop :=
  ∃ g, lo ≤ g ∧ c = .iface 123 (.agg #[.string V, .int .i64 x0, .slice (some ⟨g, 1, none⟩) 2 2]) ∧ w.rowIs g 2 3 (fun j => .int .i64 (cellD [x0, x1, x2] j))
theorem qry_stays (V : ByteArray) (x0 x1 x2 : Int) (lo : Nat) : Stays (QryIs V x0 x1 x2 lo) := fun c w w' h hb => by
  obtain ⟨g, h0, h1, h2⟩ := h
  exact ⟨g, h0, h1, h2.of_block (hb.block g h2.lt)⟩
theorem line_range (w : World) (base A bm n : Nat) (nb : Nat) (r d m s : Int) (S L : Nat → Nat) (X : Nat → Nat → Value) (Ar G C : Nat → Nat → Nat) (Z : Nat → Nat → List Int) (h : AggSt w base A bm n (nb : Int) r d m s S L X Ar G C Z) (hn : n ≤ 32) (s0 : 0 ≤ s) (s1 : s ≤ 18446744073709551615)
  (i : Nat) (h1 : 1 ≤ i) (h2 : i ≤ n) (l0 h0 : Nat) (hb1 : 1 ≤ nb) (hb : nb ≤ 59) (hlh : l0 ≤ h0) (hhi : h0 < 2 ^ nb) (hne : covR (nb + 1) 0 l0 h0 ≠ [])
  (hks : ∀ p ∈ covO (nb + 1) 0 l0 h0 ++ (covR (nb + 1) 0 l0 h0).reverse, p.1 ≤ nb ∧ p.2 < 18446744073709551616 ∧ (p.2 : Int) < keysI (nb : Int) r d m (p.1 : Int))
  (hz : ∀ x ∈ ptsL (nb : Int) r d m s (Z i) (covO (nb + 1) 0 l0 h0 ++ (covR (nb + 1) 0 l0 h0).reverse), -9223372036854775808 ≤ x ∧ x ≤ 9223372036854775807) (x : Int) (hx : x = sumL (ptsL (nb : Int) r d m s (Z i) (covO (nb + 1) 0 l0 h0 ++ (covR (nb + 1) 0 l0 h0).reverse))) (x0 : -9223372036854775808 ≤ x) (x1 : x ≤ 9223372036854775807) :
  Calls Tryz.prog 8 #[.pointer (some ⟨A, 0, none⟩), .string (sB (joinW [wRange, Lib.itoa (i : Int), Lib.itoa (l0 : Int), Lib.itoa (h0 : Int)]))] w fun e w' => ∃ t, e = .returned (.tuple #[.string t, .bool true]) ∧ t = sB ([110, 117, 109, 98, 101, 114, 32] ++ Lib.itoa x) ∧
   AggSt w' base A bm n (nb : Int) r d m s S L X Ar G C Z ∧ Below w.heap.size w w' := by
 obtain ⟨T, hT1, hT2⟩ := h.agg
 have hsz := h.base_le
 have h60 : 2 ^ nb ≤ 2 ^ 59 := Nat.pow_le_pow_right (by decide) hb
 have h59 : (2 : Nat) ^ 59 = 576460752303423488 := by decide
 have hi64 : In64 (i : Int) := by unfold In64; omega
 have hl64 : In64 (l0 : Int) := by unfold In64; omega
 have hh64 : In64 (h0 : Int) := by unfold In64; omega
 refine line_of A _ w (QryIs (sB wRange) (i : Int) (l0 : Int) (h0 : Int) 0)
  (fun rr w2 => rr = .iface 137 (.agg #[.int .i64 x]) ∧ AggSt w2 base A bm n (nb : Int) r d m s S L X Ar G C Z ∧ Below w.heap.size w w2)
  _ (fun c _ hc => by obtain ⟨g, -, hc, -⟩ := hc; exact ⟨_, _, hc⟩) ?_ ?_ ?_
 ·refine parse_ws _ (qry_stays _ _ _ _ _) _ (fun a ha => ?_) (by simp) (by simp) w h.tab (fun w1 R v en hle hr1 hv ht1 => ?_)
  ·simp only [List.mem_cons, List.mem_nil_iff, or_false] at ha
   rcases ha with rfl | rfl | rfl | rfl
   ·exact plainLit _ (by decide)
   ·exact num_plain _ hi64.1 hi64.2
   ·exact num_plain _ hl64.1 hl64.2
   ·exact num_plain _ hh64.1 hh64.2
  ·refine (cmd_range w1 R v _ en i l0 h0 hr1 hv rfl (by simp) rfl rfl rfl hi64 hl64 hh64 ht1).mono ?_
   rintro e w' ⟨⟨g, rfl, hg, hrow⟩, h2, h3⟩
   exact ⟨_, rfl, ⟨g, Nat.zero_le _, rfl, hrow⟩, h2, h3⟩
 ·rintro c w1 hb1' ⟨g, -, rfl, hrow⟩
  refine do_query w1 A (sB wRange) (i : Int) (some ⟨g, 1, none⟩) 2 2 _ (fun w2 hb2 => ?_)
  have hb12 := btr hb1' hb2
  have hk2 := hT1.kept hb12
  refine (agg_range w2 A bm n T i l0 h0 (S i) g l0 h0 x (by rw [wrapU_mod]; omega) (by rw [wrapU_mod]; omega) hk2 (by omega) (by omega) (by omega) (by rw [Int.toNat_natCast]; exact hT2 i h1 h2) (hrow.of_block (hb2.block g hrow.lt)) (fun w3 hb3 => ?_)).mono ?_
  ·have h3 := h.kept (btr hb12 hb3)
   exact range_any w3 base (S i) (L i) (nb : Int) r d m s (X i) (Ar i) (G i) (C i) (Z i) (h3.st i h1 h2) s0 s1 nb l0 h0 rfl hb1 hb hlh hhi hne hks hz x hx x0 x1
  ·rintro e w4 ⟨rfl, hb4⟩
   exact ⟨_, rfl, rfl, h.kept (btr hb12 hb4), btr hb12 hb4⟩
 ·rintro rr w2 ⟨rfl, hA, hB⟩
  refine (text_number x x0 x1 w2 hA.tab).mono ?_
  rintro e w3 ⟨rfl, hb3⟩
  exact ⟨_, rfl, rfl, hA.kept hb3, btr hB hb3⟩
end Go.Proofs.YtfeficdndjiijaaGreatDoor


namespace Go.Proofs.YtfeficdndjiijaaGreatDoor
open Go.RowKit
set_option linter.unusedVariables false
set_option linter.unusedSimpArgs false

theorem keys_topQ {b r d m : Int} (hr : rightB b r d m = true) : keysI b r d m b = 1 := by
  have := right_of hr
  rw [keysI_yes hr (by omega) (by omega), show (b - b).toNat = 0 by omega]; rfl
theorem exact_topQ {b r d m : Int} (hr : rightB b r d m = true) : exactB b r d m b = true := by
  have := right_of hr
  exact decide_eq_true ⟨by rw [keys_topQ hr]; omega, by rw [keys_topQ hr]; omega⟩
set_option maxRecDepth 100000 in
set_option maxHeartbeats 8000000 in
theorem sttotal (w : World) (base S L : Nat) (nb : Nat) (r d m s : Int) (X : Nat → Value) (A G C : Nat → Nat) (Z : Nat → List Int) (h : StIs w base S L (nb : Int) r d m s X A G C Z) (s0 : 0 ≤ s) (s1 : s ≤ 18446744073709551615) :
  Calls Tryz.prog 91 #[.pointer (some ⟨S, 0, none⟩)] w fun e w' => e = .returned (.int .i64 (lvPt (nb : Int) r d m s (nb : Int) (Z nb) 0)) ∧ Below w.heap.size w w' := by
 have hl := h.lev nb (by simp)
 have hrt := h.right
 have hR := right_of hrt
 obtain ⟨cap, hbx, hcap⟩ := h.box
 obtain ⟨cur, hrow, hcur⟩ := h.row
 rw [Int.toNat_natCast] at hbx hcap hcur
 have cx := hcur nb (Nat.le_refl _)
 have hkt := keys_topQ hrt
 have i0 : (0 : Int) ≤ (nb : Int) := by omega
 have i1 : (nb : Int) < (nb : Int) + 1 := by omega
 have hnb : nb ≤ 59 := by omega
 clear h hcap hcur hR
 rcases hl with ⟨h1, h2, h3⟩ | ⟨h1, h2, h3⟩
 ·rw [h2] at cx
  have HV : Hid (lvPt (nb : Int) r d m s (nb : Int) (Z nb) 0 = cellD (Z nb) 0) := Lib.hid (by unfold lvPt; rw [if_pos h1])
  have PC := Lib.hid (fun wq hq => expoint_yes wq (A nb) (G nb) (C nb) (nb : Int) r d m s (nb : Int) (keysI (nb : Int) r d m (nb : Int)).toNat 0 (Z nb) hq (by rw [hkt]; decide))
  have hm := Tryz.mExPoint
  have H3 := Lib.hid h3
  clear h1 h2 h3 hkt hrt
  go_enter Tryz.func91, Tryz.ntmps91
  go_wp2_with fail
  refine wp_region_held_drew (S := fun w' => Blk w' S 172 #[.int .i64 (nb : Int), .int .i64 r, .int .i64 d, .int .i64 m, .int .u64 s, .slice (some ⟨L, 0, none⟩) (nb + 1) cap] ∧ Blk w' L 174 cur ∧ ArrIs w' (A nb) (G nb) (C nb) (nb : Int) r d m s (nb : Int) (keysI (nb : Int) r d m (nb : Int)).toNat (Z nb) ∧ Below w.heap.size w w') (by kernel_rfl) (by exact ⟨hbx.kept (below_drewN (Below.refl _ _) 1), hrow.kept (below_drewN (Below.refl _ _) 1), H3.out.kept (below_drewN (Below.refl _ _) 1), below_drewN (Below.refl _ _) 1⟩) (fun hHeld => ?_)
  refine tkH (i := 0) (v := ?_) rfl (by kernel_rfl) (fun _ _ _ h => h) (Or.inl ⟨by rfl, ?_⟩) (by assumption) ?_
  rotate_left
  ·intro w hSw
   try dsimp only at hSw
   go_simp
   try with_reducible rfl
  simp only [Act.put, z1, z2, z3, z4, z5, z6]
  refine tkH (i := 1) (v := ?_) rfl (by kernel_rfl) (fun _ _ _ h => h) (Or.inl ⟨by rfl, ?_⟩) (by assumption) ?_
  rotate_left
  ·intro w hSw
   try dsimp only at hSw
   go_simp
   try with_reducible rfl
  simp only [Act.put, z1, z2, z3, z4, z5, z6]
  refine tkH (i := 2) (v := ?_) rfl (by kernel_rfl) (fun _ _ _ h => h) (Or.inl ⟨by rfl, ?_⟩) (by assumption) ?_
  rotate_left
  ·intro w hSw
   try dsimp only at hSw
   go_simp
   try with_reducible rfl
  simp only [Act.put, z1, z2, z3, z4, z5, z6]
  refine tkH (i := 3) (v := ?_) rfl (by kernel_rfl) (fun _ _ _ h => h) (Or.inl ⟨by rfl, ?_⟩) (by assumption) ?_
  rotate_left
  ·intro w hSw
   have q0 := hSw.1.cell 0; have q5 := hSw.1.cell 5; have qx := (hSw.2.1.cell nb).trans cx; simp at q0 q5
   go_simp
   try with_reducible rfl
  simp only [Act.put, z1, z2, z3, z4, z5, z6]
  refine tkH (i := 4) (v := ?_) rfl (by kernel_rfl) (fun _ _ _ h => h) (Or.inl ⟨by rfl, ?_⟩) (by assumption) ?_
  rotate_left
  ·intro w hSw
   try dsimp only at hSw
   go_simp
   try with_reducible rfl
  simp only [Act.put, z1, z2, z3, z4, z5, z6]
  refine tkH (i := 5) (v := ?_) rfl (by kernel_rfl) (fun _ _ _ h => h) (Or.inl ⟨by rfl, ?_⟩) (by assumption) ?_
  rotate_left
  ·intro w hSw
   try dsimp only at hSw
   go_simp
   try with_reducible rfl
  simp only [Act.put, z1, z2, z3, z4, z5, z6]
  refine tkH (i := 6) (v := ?_) rfl (by kernel_rfl) (fun _ _ _ h => h) (Or.inl ⟨by rfl, ?_⟩) (by assumption) ?_
  rotate_left
  ·intro w hSw
   try dsimp only at hSw
   go_simp
   try with_reducible rfl
  simp only [Act.put, z1, z2, z3, z4, z5, z6]
  refine tkH (i := 7) (v := ?_) rfl (by kernel_rfl) (fun _ _ _ h => h) (Or.inl ⟨by rfl, ?_⟩) (by assumption) ?_
  rotate_left
  ·intro w hSw
   try dsimp only at hSw
   go_simp
   try with_reducible rfl
  simp only [Act.put, z1, z2, z3, z4, z5, z6]
  refine tkH (i := 8) (v := ?_) rfl (by kernel_rfl) (fun _ _ _ h => h) (Or.inl ⟨by rfl, ?_⟩) (by assumption) ?_
  rotate_left
  ·intro w hSw
   have q0 := hSw.1.cell 0; have q5 := hSw.1.cell 5; have qx := (hSw.2.1.cell nb).trans cx; simp at q0 q5
   go_simp
   try with_reducible rfl
  simp only [Act.put, z1, z2, z3, z4, z5, z6]
  refine tkH (i := 9) (v := ?_) rfl (by kernel_rfl) (fun _ _ _ h => h) (Or.inl ⟨by rfl, ?_⟩) (by assumption) ?_
  rotate_left
  ·intro w hSw
   try dsimp only at hSw
   go_simp
   try with_reducible rfl
  simp only [Act.put, z1, z2, z3, z4, z5, z6]
  refine tkH (i := 10) (v := ?_) rfl (by kernel_rfl) (fun _ _ _ h => h) (Or.inl ⟨by rfl, ?_⟩) (by assumption) ?_
  rotate_left
  ·intro w hSw
   have q0 := hSw.1.cell 0; have q5 := hSw.1.cell 5; have qx := (hSw.2.1.cell nb).trans cx; simp at q0 q5
   go_simp
   try with_reducible rfl
  simp only [Act.put, z1, z2, z3, z4, z5, z6]
  refine wpAnyH_ready (rs := [11]) (by kernel_rfl) (by simp) ?_
  refine AllReadyH.cons rfl (fun Kc hKc => ?_) AllReadyH.nil
  go_simp
  go_wp2_with ((have P0 := PC.out _ hHeld.2.2.1; rw [show ((0 : Nat) : Int) = 0 from rfl] at P0; with_reducible refine P0.mono ?_; rintro e w2 ⟨rfl, hw2⟩; subst hw2))
  refine hKc.out _ _ ?_ (fun hHeld => ?_)
  ·assumption
  clear hKc Kc
  refine tkH (i := 12) (v := ?_) rfl (by kernel_rfl) (fun _ _ _ h => h) (Or.inl ⟨by rfl, ?_⟩) (by assumption) ?_
  rotate_left
  ·intro w hSw
   try dsimp only at hSw
   go_simp
   try with_reducible rfl
  simp only [Act.put, z1, z2, z3, z4, z5, z6]
  refine tkH (i := 13) (v := ?_) rfl (by kernel_rfl) (fun _ _ _ h => h) (Or.inl ⟨by rfl, ?_⟩) (by assumption) ?_
  rotate_left
  ·intro w hSw
   try dsimp only at hSw
   go_simp
   try with_reducible rfl
  simp only [Act.put, z1, z2, z3, z4, z5, z6]
  refine tkH (i := 14) (v := ?_) rfl (by kernel_rfl) (fun _ _ _ h => h) (Or.inl ⟨by rfl, ?_⟩) (by assumption) ?_
  rotate_left
  ·intro w hSw
   try dsimp only at hSw
   go_simp
   try with_reducible rfl
  simp only [Act.put, z1, z2, z3, z4, z5, z6]
  refine tkH (i := 15) (v := ?_) rfl (by kernel_rfl) (fun _ _ _ h => h) (Or.inl ⟨by rfl, ?_⟩) (by assumption) ?_
  rotate_left
  ·intro w hSw
   try dsimp only at hSw
   go_simp
   try with_reducible rfl
  simp only [Act.put, z1, z2, z3, z4, z5, z6]
  refine tkH (i := 16) (v := ?_) rfl (by kernel_rfl) (fun _ _ _ h => h) (Or.inl ⟨by rfl, ?_⟩) (by assumption) ?_
  rotate_left
  ·intro w hSw
   try dsimp only at hSw
   go_simp
   try with_reducible rfl
  simp only [Act.put, z1, z2, z3, z4, z5, z6]
  refine wpAnyH_done (by kernel_rfl) ?_ _
  have HB2 := Lib.hid hHeld.2.2.2
  clear hHeld
  go_wp2
  go_ret
  exact ⟨by rw [HV.out]; rfl, HB2.out⟩
 ·exact absurd h1 (by rw [exact_topQ hrt]; decide)
end Go.Proofs.YtfeficdndjiijaaGreatDoor


namespace Go.Proofs.YtfeficdndjiijaaGreatDoor
open Go.RowKit
set_option linter.unusedVariables false
set_option linter.unusedSimpArgs false

section
variable {F : Fence} {n : Nat} {P : Program} {w : World}
def StrBox (W : World) (B : Nat) (t : TypeId) : Prop := ∃ s, W.heap[B]? = some (.cells #[.string s] t (0, 0))
def BoxFree (B : Nat) (t : TypeId) (J : Nat → World → Prop) : Prop := ∀ (j : Nat) (A : World) (s : ByteArray), J j A → StrBox A B t → J j (A.setCell ⟨B, 0, none⟩ (.string s))
def ordPost (B : Nat) (Kp : World → World → Prop) (I : Nat → World → Prop) (j : Nat) (W : World) : Exit → Act → World → Prop
  | .normal, _, W' => KeepsFrom B W W' ∧ Kp W W' ∧ I j W'
  | _, _, _ => False
theorem wpIn_rangeFunc_ord {g : Operand} {ps : Array Tmp} {assign body : Code} {Q : Exit → Act → World → Prop} {a : Act}
  (hro : F.round = none) (h1 : 1 ≤ n) {gf : Nat} {lb : Array Value} (hg : a.eval g = .func (.func gf) #[] lb) (hFg : F.fn gf) (eg : ∀ args w, (callFunc gf args).run P w = .ok (.enter gf args) w)
  (encs : Nat → Array Value) (N Bx : Nat) (tx : TypeId) (Kp : World → World → Prop) (hBx : Bx < w.heap.size)
  (hseq : ∀ (l : Nat) (J : Nat → World → Prop) (W : World), Below w.heap.size w W → BoxFree Bx tx J →
   (∀ j W1, j < N → J j W1 → YieldAt F (n - 1 - 1) P l (encs j) W1 fun e W' => e = .returned (.bool true) ∧ J (j + 1) W' ∧ Kp W1 W') → J 0 W →
   CallsIn F (n - 1) P gf (#[.func (.yield l) #[] #[]] ++ lb) W fun e W' => (∃ v, e = .returned v) ∧ J N W')
  (hKt : ∀ {A B C : World}, Kp A B → Kp B C → Kp A C) (hKb : ∀ (W : World) (l : Nat) (o o' : Obj), w.heap.size ≤ l → W.heap[l]? = some o → o.isCells = false → Kp W (W.putObj l o')) (hps : ∀ j, (encs j).size = ps.size)
  (I : Nat → World → Prop) (hI : OwnFrom w.heap.size I) (hIb : BoxFree Bx tx I) (h0 : I 0 w) (a₁ : Nat → Act)
  (hassign : ∀ (l j : Nat) (W : World) (K : Act → World → Prop), K (a₁ j) W → assign.wpIn (F.inRound l) (n - 1 - 1) P (Exit.then K (fun _ _ _ => False)) { tmps := (ps.zip (encs j)).foldl (fun t (p, v) => t.setIfInBounds p v) a.tmps, defers := [] } W)
  (hbody : ∀ (l j : Nat) (W : World), w.heap.size ≤ l → j < N → I j W → body.wpIn (F.inRound l) (n - 1 - 1) P (ordPost w.heap.size Kp I (j + 1) W) (a₁ j) W)
  (hdone : ∀ (D : Nat) (W : World), w.heap.size ≤ D → I N W → W.heap[D]? = some (.deferred (some [])) → Q .normal { a with defers := { target := .collected D, args := #[] } :: a.defers } W) :
  (Code.rangeFunc g ps assign body).wpIn F n P Q a w := by
 refine wpIn_rangeFunc ?_
 intro fn hfn
 rw [hro]
 obtain ⟨rec, hrec⟩ : ∃ rec : LoopState → Loop, rec = fun st => { state := st, pending := none, fn, tmps := a.tmps, params := ps, assign, body, defers := w.heap.size } := ⟨_, rfl⟩
 obtain ⟨W1, hW1⟩ : ∃ W1, (w.alloc (.deferred (some []))).alloc (.loop (rec .ready)) = W1 := ⟨_, rfl⟩
 have hL1 : W1.heap[w.heap.size + 1]? = some (.loop (rec .ready)) := by
  rw [← hW1]; have := World.alloc_heap_new (w.alloc (.deferred (some []))) (.loop (rec .ready)); rwa [World.size_alloc] at this
 have hK1 : W1.heap[w.heap.size]? = some (.deferred (some [])) := by
  rw [← hW1]; exact (Below.heap_alloc _ _ _ (by simp)).trans (World.alloc_heap_new w _)
 have hI1 : I 0 W1 := by rw [← hW1]; exact hI.alloc _ (hI.alloc _ h0)
 have hb1 : Below w.heap.size w W1 := by
  rw [← hW1]; exact ((Below.refl _ w).alloc (Nat.le_refl _) _).alloc (by simp) _
 refine ⟨w.heap.size + 1, [{ target := .collected w.heap.size, args := #[] }], W1, { target := .fn (.func gf) lb, args := #[.func (.yield (w.heap.size + 1)) #[] #[]] }, W1, gf,
  #[.func (.yield (w.heap.size + 1)) #[] #[]] ++ lb, W1, ?_, ?_, ?_, ?_, fun _ => h1, ?_⟩
 ·rw [← hW1, hrec]; exact run_enterLoop_outer _ _ _ _ _
 ·simp only [resolve, hg]
  simp [go_sem]
 ·intro f' hf'; simp [Target.leads] at hf'; subst hf'; exact hFg
 ·simp [invoke, go_sem, eg]
 ·refine (hseq (w.heap.size + 1) (fun j W => I j W ∧ W.heap[w.heap.size + 1]? = some (.loop (rec .ready)) ∧ W.heap[w.heap.size]? = some (.deferred (some []))) W1 hb1 ?_ ?_ ⟨hI1, hL1, hK1⟩).mono ?_
  ·rintro j A s ⟨k1, k2, k3⟩ hx
   exact ⟨hIb j A s k1 hx, (Below.heap_setCell _ _ _ _ (by intro e; simp at e; omega)).trans k2, (Below.heap_setCell _ _ _ _ (by intro e; simp at e; omega)).trans k3⟩
  ·rintro j W hj ⟨hi, hl, hk⟩
   have hlt : w.heap.size + 1 < W.heap.size := (Array.getElem?_eq_some_iff.1 hl).1
   have hy := run_yield (P := P) (args := encs j) hl (by rw [hrec]; exact hps j)
   rw [hrec] at hy
   refine ⟨fn, _, assign, body, hy, roundIn_of_wpIn hfn (hassign _ j W _ ?_)⟩
   clear hy
   refine ⟨_, run_beginRound hl (by rw [hrec]), ?_⟩
   have hl2 : (W.putObj (w.heap.size + 1) (.loop { rec .ready with state := .busy })).heap[w.heap.size + 1]? = some (.loop { rec .ready with state := .busy }) := World.putObj_heap_same hlt
   have hk2 : (W.putObj (w.heap.size + 1) (.loop { rec .ready with state := .busy })).heap[w.heap.size]? = some (.deferred (some [])) := (World.putObj_heap_other (by omega)).trans hk
   have hw2 : Kp W (W.putObj (w.heap.size + 1) (.loop { rec .ready with state := .busy })) := hKb _ _ _ _ (by omega) hl rfl
   refine wpIn_mono (hbody _ j _ (by omega) hj (hI.putObj _ hi (by omega) hl rfl)) ?_
   rintro e a3 W3 hp
   cases e with
   | normal =>
    obtain ⟨hk3, hkp3, hi3⟩ := hp
    have hl3 := hk3.same _ _ (by omega) hl2 rfl
    have hr := run_endRound (P := P) none hl3
    rw [hrec] at hr hl3 ⊢
    refine ⟨_, _, hr, rfl, ⟨hI.putObj _ hi3 (by omega) hl3 rfl, ?_, (World.putObj_heap_other (by omega)).trans (hk3.same _ _ (Nat.le_refl _) hk2 rfl)⟩, hKt (hKt hw2 hkp3) (hKb _ _ _ _ (by omega) hl3 rfl)⟩
    exact World.putObj_heap_same (Array.getElem?_eq_some_iff.1 hl3).1
   | ret => exact hp.elim
   | exit id => exact hp.elim
   | goto t => exact hp.elim
   | panic ch => exact hp.elim
   | outgrown => exact hp.elim
  ·rintro e W2 ⟨⟨v, rfl⟩, hi, hl, hk⟩
   exact ⟨none, _, by have := run_endLoop (P := P) hl (by rw [hrec]; simp); rw [hrec] at this; exact this, hdone _ _ (Nat.le_refl _) (hI.putObj _ hi (by omega) hl rfl) ((World.putObj_heap_other (by omega)).trans hk)⟩
end
end Go.Proofs.YtfeficdndjiijaaGreatDoor


namespace Go.Proofs.YtfeficdndjiijaaGreatDoor
open Go.RowKit Go.Shelf
set_option linter.unusedVariables false
set_option linter.unusedSimpArgs false
attribute [local go_sem] Oper.semAt_some

def joinN : List (List UInt8) → List UInt8
  | [] => []
  | [a] => a
  | a :: b :: r => a ++ 10 :: joinN (b :: r)
theorem idx_no : ∀ (a : List UInt8), (∀ x ∈ a, x ≠ 10) → Lib.indexByte a 10 = -1
  | [], _ => rfl
  | x :: r, h => by
    have h1 := h x (by simp)
    have h2 := idx_no r (fun y hy => h y (by simp [hy]))
    simp [Lib.indexByte, h1, h2]
theorem idx_at : ∀ (a r : List UInt8), (∀ x ∈ a, x ≠ 10) → Lib.indexByte (a ++ 10 :: r) 10 = (a.length : Int)
  | [], r, _ => by simp [Lib.indexByte]
  | x :: q, r, h => by
    have h1 := h x (by simp)
    have h2 := idx_at q r (fun y hy => h y (by simp [hy]))
    have h3 : ¬ ((q.length : Int) = -1) := by omega
    simp [Lib.indexByte, h1, h2, h3]
theorem splitseq (T S : ByteArray) (w : World) :
    Calls Tryz.prog 41 #[.string T, .string S] w fun e w' => e = .returned (.func (.func 117) #[] #[.pointer (some ⟨w.heap.size + 1, 0, none⟩), .pointer (some ⟨w.heap.size, 0, none⟩), .pointer (some ⟨w.heap.size + 1 + 1, 0, none⟩)]) ∧
      w' = ((w.alloc (.cells #[.string T] 9)).alloc (.cells #[.string S] 9)).alloc (.cells #[.int .i64 0] 3) := by
  have P : Hid (Calls Tryz.prog 74 #[.string T, .string S, .int .i64 0] w fun e w' => e = .returned (.func (.func 117) #[] #[.pointer (some ⟨w.heap.size + 1, 0, none⟩), .pointer (some ⟨w.heap.size, 0, none⟩), .pointer (some ⟨w.heap.size + 1 + 1, 0, none⟩)]) ∧
      w' = ((w.alloc (.cells #[.string T] 9)).alloc (.cells #[.string S] 9)).alloc (.cells #[.int .i64 0] 3)) := Lib.hid (by
    go_enter Tryz.func74, Tryz.ntmps74
    go_wp2
    go_ret
    exact ⟨rfl, rfl⟩)
  go_enter Tryz.func41, Tryz.ntmps41
  go_wp2_with fail
  with_reducible refine P.out.mono ?_
  rintro e w1 ⟨rfl, hw⟩
  subst hw
  go_wp2_with fail
  go_ret
  exact ⟨rfl, rfl⟩
def strN (W : World) (B : Nat) : Nat := match W.cell? ⟨B, 0, none⟩ with | some (.string s) => s.size | _ => 0
set_option maxRecDepth 100000 in
set_option maxHeartbeats 4000000 in
theorem split1 (n : Nat) (hn : 1 ≤ n) (l B0 B1 B2 : Nat) (L : List (List UInt8)) (hL : L ≠ []) (hno : ∀ a ∈ L, ∀ x ∈ a, x ≠ 10) (hlen : (joinN L).length ≤ 1000000) (J : Nat → World → Prop) (hJ : BoxFree B0 9 J)
  (hY : ∀ j W, j < L.length → J j W → YieldAt Fence.wide (n - 1) Tryz.prog l #[.string (sB (L.getD j []))] W fun e W' => e = .returned (.bool true) ∧ J (j + 1) W' ∧ KpB [B0, B1, B2] W W')
  (W : World) (h0 : Blk W B0 9 #[.string (sB (joinN L))]) (hne : B0 ≠ B1) (h1 : Blk W B1 9 #[.string ⟨#[10]⟩]) (h2 : Blk W B2 3 #[.int .i64 0]) (hJ0 : J 0 W) :
  CallsIn Fence.wide n Tryz.prog 117 #[.func (.yield l) #[] #[], .pointer (some ⟨B1, 0, none⟩), .pointer (some ⟨B0, 0, none⟩), .pointer (some ⟨B2, 0, none⟩)] W fun e W' => (∃ v, e = .returned v) ∧ J L.length W' := by
 have HY := Lib.hid hY
 have HJ := Lib.hid hJ
 have HNO := Lib.hid hno
 have HNE : Hid (B0 ≠ B1 ∧ B0 ≠ B2) := Lib.hid ⟨hne, h0.ne_ h2 (by decide)⟩
 have HB0 := Lib.hid h0
 have HB1 := Lib.hid h1
 have HB2 := Lib.hid h2
 have c0 := h0.cell 0
 have c1 := h1.cell 0
 have c2 := h2.cell 0
 simp at c0 c1 c2
 clear hY hJ hno h0 h1 h2 hne
 refine callsIn_of_wp Tryz.func117 rfl trivial ?_ rfl
 simp only [Tryz.ntmps117, List.size_toArray, List.length_cons, List.length_nil, Nat.reduceAdd, Nat.reduceSub, Array.replicate_succ, Array.replicate_zero, List.push_toArray, List.append_toArray, List.nil_append, List.cons_append]
 obtain ⟨N, hN⟩ : ∃ N, N = L.length := ⟨_, rfl⟩
 have HN := Lib.hid hN
 have hN0 : 0 < N := by rw [hN]; exact List.length_pos_iff.2 hL
 rw [← hN]
 gi_wp2
 gi_loopw [7] (fun _ wr => ∃ j : Nat, j < N ∧ Blk wr B0 9 #[.string (sB (joinN (L.drop j)))] ∧ Blk wr B1 9 #[.string ⟨#[10]⟩] ∧ Blk wr B2 3 #[.int .i64 0] ∧ J j wr) (fun _ wr => strN wr B0)
 case atStart => exact ⟨0, hN0, HB0.out, HB1.out, HB2.out, hJ0⟩
 case round =>
  obtain ⟨j, hj, b0, b1, b2, hJs⟩ := hrel
  have HB0 := Lib.hid b0
  have HB1 := Lib.hid b1
  have HB2 := Lib.hid b2
  have HJS := Lib.hid hJs
  have c0 := b0.cell 0
  have c1 := b1.cell 0
  have c2 := b2.cell 0
  simp at c0 c1 c2
  clear b0 b1 b2 hJs
  have hjl : j < L.length := by have := HN.out; omega
  obtain ⟨a, ha⟩ : ∃ a, L[j]? = some a := ⟨_, List.getElem?_eq_getElem hjl⟩
  have had : L.getD j [] = a := by rw [List.getD_eq_getElem?_getD, ha]; rfl
  have hdr : L.drop j = a :: L.drop (j + 1) := by
   rw [List.drop_eq_getElem_cons hjl]
   congr 1
   rw [List.getElem?_eq_getElem hjl] at ha
   exact Option.some.inj ha
  have hna := HNO.out a (List.mem_of_getElem? ha)
  obtain ⟨fn, tmps, assign, body, hy, hR⟩ := HY.out j wr (by have := HN.out; omega) HJS.out
  rw [had] at hy
  by_cases hlast : j + 1 < N
  ·have hjl1 : j + 1 < L.length := by have := HN.out; omega
   have hR' : joinN (L.drop j) = a ++ 10 :: joinN (L.drop (j + 1)) := by
    rw [hdr, List.drop_eq_getElem_cons hjl1]
    rfl
   obtain ⟨R, hRR⟩ : ∃ R, R = joinN (L.drop (j + 1)) := ⟨_, rfl⟩
   have HRR := Lib.hid hRR
   have hlenT : (joinN (L.drop j)).length ≤ 1000000 := by
    have : ∀ (M : List (List UInt8)) (i : Nat), (joinN (M.drop i)).length ≤ (joinN M).length := by
     intro M
     induction M with
     | nil => intro i; simp
     | cons x M ih =>
      intro i
      cases i with
      | zero => exact Nat.le_refl _
      | succ i =>
       refine Nat.le_trans (ih i) ?_
       cases M with
       | nil => simp [joinN]
       | cons y M => simp [joinN]; omega
    exact Nat.le_trans (this L j) hlen
   rw [hR', ← hRR] at hlenT
   rw [hR', ← hRR] at c0
   have HRX : Hid (sB (joinN (L.drop j)) = sB (a ++ 10 :: R)) := Lib.hid (by rw [hR', ← hRR])
   have PI := Tryz.strings_Index_one (sB (a ++ 10 :: R)) 10 wr
   rw [sB_data, idx_at a R hna] at PI
   have x1 := sB_extract (a ++ 10 :: R) 0 a.length
   have x2 := sB_extract (a ++ 10 :: R) (a.length + 1) R.length
   simp only [List.drop_zero, Nat.zero_add, List.take_left] at x1
   have e2 : ((a ++ 10 :: R).drop (a.length + 1)).take R.length = R := by
    rw [show a ++ 10 :: R = (a ++ [10]) ++ R by simp, List.drop_left' (by simp)]
    exact List.take_length
   rw [e2] at x2
   have hsz : (sB (a ++ 10 :: R)).size = a.length + 1 + R.length := by rw [sB_size]; simp; omega
   simp at hlenT
   clear hR' hRR hdr ha had hjl hjl1 e2 hna
   generalize sB (a ++ 10 :: R) = TT at *
   obtain ⟨k, hk⟩ : ∃ k, k = a.length := ⟨_, rfl⟩
   rw [← hk] at PI x1 x2 hsz hlenT
   obtain ⟨q, hq⟩ : ∃ q, q = R.length := ⟨_, rfl⟩
   rw [← hq] at x2 hsz hlenT
   have HQR : Hid ((sB R).size = q) := Lib.hid (by rw [sB_size, hq])
   clear hk hq
   have PI := Lib.hid (callsIn_wide (n := n - 1) |>.2 PI)
   have k0 : (0 : Int) ≤ (k : Int) := by omega
   have k1 : (k : Int) ≤ (TT.size : Int) := by omega
   have k2 : (k : Int) + 1 ≤ (TT.size : Int) := by omega
   gi_wp2_with fail
   refine ⟨trivial, ?_⟩
   with_reducible refine PI.out.mono ?_
   rintro e w2 ⟨rfl, hw⟩
   subst hw
   gi_wp2_with fail
   refine hR.mono ?_
   rintro e W3 ⟨rfl, hJ3, hk3⟩
   have b0 := hk3.blk (by simp) HB0.out
   have b1 := hk3.blk (by simp) HB1.out
   have b2 := hk3.blk (by simp) HB2.out
   have HJ3 := Lib.hid hJ3
   have C0 := Lib.hid b0
   have C1 := Lib.hid b1
   have C2 := Lib.hid b2
   have d0 := b0.cell 0
   have d1 := b1.cell 0
   have f0 := b0.frozen 0
   simp at d0 d1
   rw [HRX.out] at d0
   clear b0 b1 b2 hk3 hJ3 c0 c1 c2 hy hR PI
   rw [← hsz] at x2
   have HSZ := Lib.hid hsz
   clear hsz
   gi_wp2_with fail
   have HJ4 : Hid (J (j + 1) (W3.setCell ⟨B0, 0, none⟩ (.string (sB R)))) := Lib.hid (HJ.out _ _ _ HJ3.out ⟨_, C0.out⟩)
   have E0 : Hid (Blk (W3.setCell ⟨B0, 0, none⟩ (.string (sB R))) B0 9 #[.string (sB R)]) := Lib.hid (by simpa using C0.out.set_ 0 (.string (sB R)))
   have hgs : W3.grownBy (W3.setCell ⟨B0, 0, none⟩ (.string (sB R))) (some B0) := gr_setC (World.grownBy.refl _ _) 0 _
   have E1 := Lib.hid (C1.out.grown hgs (by simpa using HNE.out.1.symm))
   have E2 := Lib.hid (C2.out.grown hgs (by simpa using HNE.out.2.symm))
   have c9 := E0.out.cell 0
   simp at c9
   go_roundw
   case rel => exact ⟨j + 1, hlast, by rw [← HRR.out]; exact E0.out, E1.out, E2.out, HJ4.out⟩
   case measure =>
    have q0 := HB0.out.cell 0
    simp at q0
    simp only [strN, q0, c9]
    rw [HRX.out, HSZ.out, HQR.out]
    omega
  ·have hdr2 : L.drop (j + 1) = [] := List.drop_eq_nil_of_le (by have := HN.out; omega)
   have hT : joinN (L.drop j) = a := by rw [hdr, hdr2]; rfl
   rw [hT] at c0
   have PI := Tryz.strings_Index_one (sB a) 10 wr
   rw [sB_data, idx_no a hna] at PI
   have PI := Lib.hid (callsIn_wide (n := n - 1) |>.2 PI)
   have hjN : j + 1 = N := by omega
   clear hT hdr2 hdr had ha hna hjl
   gi_wp2_with fail
   refine ⟨trivial, ?_⟩
   with_reducible refine PI.out.mono ?_
   rintro e w2 ⟨rfl, hw⟩
   subst hw
   gi_wp2_with fail
   refine hR.mono ?_
   rintro e W3 ⟨rfl, hJ3, hk3⟩
   have HJ3 := Lib.hid hJ3
   clear hJ3 hk3 hR hy c0 c1 c2
   gi_wp2_with fail
   go_end0
   exact ⟨⟨_, rfl⟩, by rw [← hjN]; exact HJ3.out⟩
end Go.Proofs.YtfeficdndjiijaaGreatDoor


namespace Go.Proofs.YtfeficdndjiijaaGreatDoor
open Go.RowKit
set_option linter.unusedVariables false
set_option linter.unusedSimpArgs false

def InB (m M x : Int) : Prop := -M ≤ x ∧ x ≤ M ∧ (m = 2 → 0 ≤ x)
def ZsB (m M : Int) (zs : List Int) : Prop := ∀ x ∈ zs, InB m M x
theorem InB.zero {m M : Int} (h : 0 ≤ M) : InB m M 0 := ⟨by omega, by omega, fun _ => by omega⟩
theorem InB.mono {m M M' x : Int} (h : InB m M x) (hM : M ≤ M') : InB m M' x := ⟨by have := h.1; omega, by have := h.2.1; omega, h.2.2⟩
theorem ZsB.cellD {m M : Int} {zs : List Int} (h : ZsB m M zs) (hM : 0 ≤ M) (i : Nat) : InB m M (cellD zs i) := by
  unfold Go.Proofs.YtfeficdndjiijaaGreatDoor.cellD
  cases hx : zs[i]? with
  | none => exact InB.zero hM
  | some x => exact h x (List.mem_of_getElem? hx)
theorem kthL_in (l : List Int) (k : Nat) : kthL l k ∈ l ∨ kthL l k = 0 := by
  unfold kthL
  split
  · rename_i h
    exact .inl h.choose_spec.1
  · exact .inr rfl
theorem ZsB.readZ {m M : Int} {zs : List Int} (h : ZsB m M zs) (hM : 0 ≤ M) (W : Nat) (cs : List Int) : ZsB m M (readZ W zs cs) := fun x hx => by
  unfold Go.Proofs.YtfeficdndjiijaaGreatDoor.readZ at hx
  obtain ⟨r, -, rfl⟩ := List.mem_map.1 hx
  exact h.cellD hM _
def absI (x : Int) : Int := if x < 0 then -x else x
theorem absI_bd (x : Int) : 0 ≤ absI x ∧ -(absI x) ≤ x ∧ x ≤ absI x := by unfold absI; split <;> omega
theorem InB.add {m M x y : Int} (h : InB m M x) (hy : m = 2 → 0 ≤ y) : InB m (M + absI y) (x + y) := by
  have := absI_bd y
  have := h.1
  have := h.2.1
  exact ⟨by omega, by omega, fun e => by have h1 := h.2.2 e; have h2 := hy e; omega⟩
theorem InB.in64 {m M x : Int} (h : InB m M x) (hM : M ≤ 9223372036854775807) : In64 x := by
  have := h.1
  have := h.2.1
  unfold In64
  omega
theorem ZsB.fit {m M : Int} {zs : List Int} (h : ZsB m M zs) (hM : M ≤ 9223372036854775807) : Fit zs := fun x hx => (h x hx).in64 hM
end Go.Proofs.YtfeficdndjiijaaGreatDoor


namespace Go.Proofs.YtfeficdndjiijaaGreatDoor
open Go.RowKit
set_option linter.unusedVariables false
set_option linter.unusedSimpArgs false

theorem min_ofT : ∀ (l : List Int), l ≠ [] → ∃ v, v ∈ l ∧ ∀ x ∈ l, v ≤ x
  | [], h => absurd rfl h
  | [a], _ => ⟨a, by simp, by simp⟩
  | a :: c :: l, _ => by
    obtain ⟨v, h1, h2⟩ := min_ofT (c :: l) (by simp)
    by_cases e : a ≤ v
    · refine ⟨a, by simp, fun x hx => ?_⟩
      rw [List.mem_cons] at hx
      rcases hx with rfl | hx
      · exact Int.le_refl _
      · have := h2 x hx; omega
    · refine ⟨v, List.mem_cons_of_mem _ h1, fun x hx => ?_⟩
      rw [List.mem_cons] at hx
      rcases hx with rfl | hx
      · omega
      · exact h2 x hx
theorem kthL_minT {l : List Int} (h : l ≠ []) : ∀ x ∈ l, kthL l 0 ≤ x := by
  obtain ⟨v, h1, h2⟩ := min_ofT l h
  rw [kthL_of (kth_zero_of h1 h2)]
  exact h2
theorem set_own (zs : List Int) (i : Nat) : zs.set i (cellD zs i) = zs := by
  by_cases h : i < zs.length
  · apply List.ext_getElem (by simp)
    intro j h1 h2
    rw [List.getElem_set]
    split
    · rename_i e
      subst e
      simp [cellD, h]
    · rfl
  · exact List.set_eq_of_length_le (by omega)
theorem setsZ_own {W : Nat} {zs : List Int} {cf : Nat → Nat} {vf : Nat → Int} : ∀ (k : Nat), (∀ r, r < k → vf r = cellD zs (r * W + cf r)) → setsZ W zs cf vf k = zs
  | 0, _ => rfl
  | k + 1, h => by
    rw [setsZ, setsZ_own k (fun r hr => h r (by omega)), h k (by omega), set_own]
theorem cellD_fit {zs : List Int} (h : Fit zs) (i : Nat) : In64 (cellD zs i) := by
  unfold cellD
  cases hz : zs[i]? with
  | none => exact ⟨by simp, by simp⟩
  | some v => exact h v (List.mem_of_getElem? hz)
theorem lvErr_nought {b r d m s l : Int} {zs : List Int} {k : Nat} (hk : (k : Int) < keysI b r d m l) (h : Fit zs) : lvErr b r d m s l zs k 0 = 0 := by
  unfold lvErr
  split
  · unfold chkI
    rw [if_neg (by omega), if_neg (by omega), if_pos (by rw [Int.add_zero]; exact cellD_fit h k)]
  · unfold skErr
    rw [if_neg (by omega)]
    by_cases hm : m = 2
    · rw [if_pos hm, if_neg (by omega), if_pos]
      rw [Int.add_zero]
      rcases kthL_in (readZ d.toNat zs (colsZ d s l (k : Int) r.toNat)) 0 with e | e
      · unfold readZ at e
        obtain ⟨q, -, e⟩ := List.mem_map.1 e
        unfold readZ
        rw [← e]
        exact cellD_fit h _
      · rw [e]; exact ⟨by decide, by decide⟩
    · rw [if_neg hm, if_pos (show changeFits d.toNat zs (colsZ d s l (k : Int) r.toNat) 0 from fun q _ => by rw [Int.add_zero]; exact cellD_fit h _)]
theorem lvUpd_nought {b r d m s l : Int} {zs : List Int} {k : Nat} : lvUpd b r d m s l zs k 0 = zs := by
  unfold lvUpd
  split
  · unfold updZ
    split
    · rw [Int.add_zero, set_own]
    · rfl
  · unfold skUpd
    split
    · split
      · unfold raiseZ
        refine setsZ_own _ (fun q hq => ?_)
        unfold riseV
        rw [Int.add_zero]
        have hmem : cellD zs (q * d.toNat + colN (colsZ d s l (k : Int) r.toNat) q) ∈ readZ d.toNat zs (colsZ d s l (k : Int) r.toNat) := List.mem_map.2 ⟨q, List.mem_range.2 hq, rfl⟩
        have := kthL_minT (List.ne_nil_of_mem hmem) _ hmem
        rw [if_neg (by omega)]
      · unfold changeZ
        exact setsZ_own _ (fun q hq => by rw [Int.add_zero])
    · rfl
theorem stErr_nought {b r d m s : Int} {Z : Nat → List Int} {k : Nat} (hr : rightB b r d m = true) (hk : (k : Int) < keysI b r d m 0) (h : ∀ n : Nat, n ≤ b.toNat → Fit (Z n)) : stErr b r d m s Z k 0 = 0 := by
  unfold stErr
  rw [if_neg (by omega), if_neg (by omega), if_pos (fun n hn => lvErr_nought (key_down hr hk hn) (h n hn))]
theorem stUpd_nought {b r d m s : Int} {Z : Nat → List Int} {k : Nat} (n : Nat) : stUpd b r d m s Z k 0 n = Z n := by
  unfold stUpd
  split
  · exact lvUpd_nought
  · rfl
end Go.Proofs.YtfeficdndjiijaaGreatDoor

