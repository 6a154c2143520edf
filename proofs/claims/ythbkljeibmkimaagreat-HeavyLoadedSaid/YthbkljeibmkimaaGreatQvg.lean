import Derived.Test.YthbkljeibmkimaaGreatQvf
import Derived.Test.YthbkljeibmkimaaGreatQve
import Derived.Test.YthbkljeibmkimaaGreatQvb
/-
  Contracts of the functions that HeavyLoaded reaches, and the plain laws that it leans on. Conditions: none beyond those stated at each theorem.
-/
namespace Go.Proofs.YthbkljeibmkimaaGreat
open Go.RowKit
set_option linter.unusedVariables false
set_option linter.unusedSimpArgs false

theorem range_two {w : World} {g o : Nat} {a c : Value} {xs : List Value} (h : w.rangeAt g o (a :: c :: xs)) : w.rangeAt g o [a, c] := fun j u hu => by
  match j, hu with
  | 0, hu => exact h 0 u (by simpa using hu)
  | 1, hu => exact h 1 u (by simpa using hu)
  | j + 2, hu => simp at hu
def RrOwn (w : World) (base : Nat) (v : Value) (pt : Nat → Nat → Int) (l : List (Nat × Nat × Int)) : Prop := w.ownsRow base 106 4 v l.length (rsCells pt l)
theorem RrOwn.kept {w w' : World} {base : Nat} {v : Value} {pt : Nat → Nat → Int} {l : List (Nat × Nat × Int)} (h : RrOwn w base v pt l) (hb : Below w.heap.size w w') : RrOwn w' base v pt l := own_kept h hb
theorem RrOwn.push {w : World} {base : Nat} {v : Value} {pt : Nat → Nat → Int} {l : List (Nat × Nat × Int)} {n x N : Nat} {z : Int} (hN : N = l.length) (h : w.ownsRow base 106 4 v (N + 1) (rsCells pt l ++ [.int .i64 (n : Int), .int .u64 (x : Int), .int .i64 (pt n x), .int .i64 z])) : RrOwn w base v pt (l ++ [(n, x, z)]) := by
  subst hN
  unfold RrOwn
  rw [rsCells_append, List.length_append]
  exact h
theorem RrOwn.range {w : World} {base : Nat} {v : Value} {pt : Nat → Nat → Int} {l : List (Nat × Nat × Int)} (h : RrOwn w base v pt l) {t : Nat} {p : Nat × Nat × Int} (ht : l[t]? = some p) : ∃ g cap, v = .slice (some ⟨g, 0, none⟩) l.length cap ∧ base ≤ g ∧ g < w.heap.size ∧ l.length ≤ cap ∧ cap ≤ maxLen ∧ w.rangeAt g (t * 4) [.int .i64 (p.1 : Int), .int .u64 (p.2.1 : Int), .int .i64 (pt p.1 p.2.1), .int .i64 p.2.2] := by
  have hl : t < l.length := (List.getElem?_eq_some_iff.1 ht).1
  obtain ⟨g, cap, h1, h2, h3, h4, h5, h6⟩ := own_cells h (by omega)
  obtain ⟨g0, g1, g2, g3⟩ := rsCells_get (pt := pt) ht
  rw [Nat.mul_comm 4 t] at g0 g1 g2 g3
  refine ⟨g, cap, h1, h2, h3, h4, h5, fun j u hu => ?_⟩
  match j, hu with
  | 0, hu => simp at hu; subst hu; simpa using h6 _ _ g0
  | 1, hu => simp at hu; subst hu; exact h6 _ _ g1
  | 2, hu => simp at hu; subst hu; exact h6 _ _ g2
  | 3, hu => simp at hu; subst hu; exact h6 _ _ g3
  | j + 4, hu => simp at hu
theorem RrOwn.at_ {w : World} {base gh n cap : Nat} {pt : Nat → Nat → Int} {l : List (Nat × Nat × Int)} (h : RrOwn w base (.slice (some ⟨gh, 0, none⟩) n cap) pt l) {t : Nat} {p : Nat × Nat × Int} (ht : l[t]? = some p) : gh < w.heap.size ∧ w.rangeAt gh (t * 4) [.int .i64 (p.1 : Int), .int .u64 (p.2.1 : Int), .int .i64 (pt p.1 p.2.1), .int .i64 p.2.2] := by
  obtain ⟨g, c, he, -, h2, -, -, h5⟩ := h.range ht
  simp only [Value.slice.injEq, Option.some.injEq, Addr.mk.injEq] at he
  obtain ⟨⟨rfl, -⟩, -, -⟩ := he
  exact ⟨h2, h5⟩
theorem RfOwn.at_ {w : World} {base gh n cap : Nat} {pt : Nat → Nat → Int} {l : List (Nat × Nat)} (h : RfOwn w base (.slice (some ⟨gh, 0, none⟩) n cap) pt l) {t : Nat} {p : Nat × Nat} (ht : l[t]? = some p) : gh < w.heap.size ∧ w.rangeAt gh (t * 3) [.int .i64 (p.1 : Int), .int .u64 (p.2 : Int), .int .i64 (pt p.1 p.2)] := by
  obtain ⟨g, c, he, -, h2, -, -, h5⟩ := h.range ht
  simp only [Value.slice.injEq, Option.some.injEq, Addr.mk.injEq] at he
  obtain ⟨⟨rfl, -⟩, -, -⟩ := he
  exact ⟨h2, h5⟩
theorem own_apart {w : World} {b1 b2 : Nat} {e1 e2 : TypeId} {s1 s2 : Nat} {v1 v2 : Value} {n1 n2 : Nat} {x1 x2 : List Value} (h : w.ownsRow b1 e1 s1 v1 n1 x1) (k : w.ownsRow b2 e2 s2 v2 n2 x2) (hne : e1 ≠ e2) : ∀ g, v1.ownBlock = some g → v2.ownBlock ≠ some g := by
  intro g h1 h2
  rcases h.2 with ⟨rfl, _⟩ | ⟨g1, cap, cur, rfl, _, hg, _⟩
  · simp [Value.ownBlock] at h1
  · simp only [Value.ownBlock] at h1
    have e := Option.some.inj h1
    subst e
    have hb : Blk w g1 e1 cur := hg
    exact (own_far k hb hne) h2.symm
theorem Tryz.infoRr : (Tryz.prog.info? 106).map (fun i => (i.zero, i.size, i.bytes)) = some (some (.agg #[.int .i64 0, .int .u64 0, .int .i64 0, .int .i64 0]), 4, 32) := by kernel_rfl
def RHiPost (w : World) (pt : Nat → Nat → Int) (least budget : Int) (b : Nat) (e : Ending) (w' : World) : Prop :=
  ∃ v, e = .returned (.tuple #[v, .int .i64 (hiErr pt least budget b)]) ∧ (hiErr pt least budget b = 0 → ∃ o, hiKept pt least b = some o ∧ RrOwn w' w.heap.size v pt o) ∧ (hiErr pt least budget b ≠ 0 → v = .slice none 0 0) ∧ Below w.heap.size w w'
structure RiI (w wr : World) (pt : Nat → Nat → Int) (lo : List (Nat × Nat)) (v o : Value) (K : List (Nat × Nat × Int)) : Prop where
  told : RfOwn wr w.heap.size v pt lo
  kept : RrOwn wr w.heap.size o pt K
  bel : Below w.heap.size w wr
theorem RiI.keep {w w1 w2 : World} {pt : Nat → Nat → Int} {lo : List (Nat × Nat)} {v o : Value} {K : List (Nat × Nat × Int)} (h : RiI w w1 pt lo v o K) (hb : Below w1.heap.size w1 w2) : RiI w w2 pt lo v o K := ⟨h.told.kept hb, h.kept.kept hb, btr h.bel hb⟩
structure RkI (w1 wr : World) (RB : Nat) (x : Int) : Prop where
  box : Blk wr RB 103 (longA x)
  gr : w1.grownBy wr (some RB)
theorem RkI.keep {w1 w2 w3 : World} {RB : Nat} {x : Int} (h : RkI w1 w2 RB x) (hb : Below w2.heap.size w2 w3) : RkI w1 w3 RB x := ⟨h.box.kept hb, gr_below h.gr hb⟩
theorem RiI.gr {w w1 w2 : World} {pt : Nat → Nat → Int} {lo : List (Nat × Nat)} {v o : Value} {K : List (Nat × Nat × Int)} {RB : Nat} {cs : Array Value} (h : RiI w w1 pt lo v o K) (hb : Blk w1 RB 103 cs) (hR : w.heap.size ≤ RB) (hg : w1.grownBy w2 (some RB)) : RiI w w2 pt lo v o K :=
  ⟨own_gr h.told hg (fun k e => by rw [← e]; exact own_far h.told hb (by decide)), own_gr h.kept hg (fun k e => by rw [← e]; exact own_far h.kept hb (by decide)), h.bel.grown hg h.bel.size (fun k e => by have := Option.some.inj e; omega)⟩
set_option maxRecDepth 100000 in
set_option maxHeartbeats 8000000 in
theorem rhhier (w : World) (RS b : Nat) (pt : Nat → Nat → Int) (hp : RPtIs w RS b pt) (hp64 : ∀ n i, In64 (pt n i)) (hb1 : 1 ≤ b) (hb : b ≤ 59) (least budget : Int) (hl : In64 least) (hbu : In64 budget) :
  Calls Tryz.prog 14 #[.pointer (some ⟨RS, 0, none⟩), .int .i64 least, .int .i64 budget] w (RHiPost w pt least budget b) := by
 obtain ⟨iR, hR, hR0, hR1, hR2⟩ := info_parts Tryz.infoRr
 have PH := Lib.hid (rhheavy w RS b pt hp hb1 hb least budget hl hbu)
 have HCF := Lib.hid hp.1
 have HP64 := Lib.hid hp64
 clear hp hp64
 go_enter Tryz.func14, Tryz.ntmps14
 go_wp2_with fail
 with_reducible refine PH.out.mono ?_
 rintro e w1 ⟨v1, rfl, hv1, hn1, hb'⟩
 have HB1 := Lib.hid hb'
 by_cases hE : hvErr pt least budget b = 0
 ·have HV1 := Lib.hid (hv1 hE)
  have hask : askedUp pt least b (b + 1) ≤ 4096 ∧ 1 ≤ least := by
   unfold hvErr at hE
   split at hE
   ·cases hE
   ·split at hE
    ·cases hE
    ·omega
  have HIE : Hid (∀ o, hiKept pt least b = some o → hiErr pt least budget b = 0) := Lib.hid (fun o h => by unfold hiErr; rw [if_pos hE, h])
  have HIN : Hid (hiKept pt least b = none → hiErr pt least budget b = 4) := Lib.hid (fun h => by unfold hiErr; rw [if_pos hE, h])
  rw [hE]
  have HLV := Lib.hid (hiT_lvd pt least b)
  have HKD : Hid (hiKept pt least b = keptAt pt least (hiT pt least b) (hiT pt least b).length) := Lib.hid rfl
  have HTD : Hid (hiT pt least b = byKey lvK (b + 1) (hvOut pt least b (b + 1))) := Lib.hid rfl
  have HSML := Lib.hid (hvOut_small pt least b (by omega))
  have hlen := hvOut_len pt least b (b + 1)
  obtain ⟨lo, hlo⟩ : ∃ lo, lo = hvOut pt least b (b + 1) := ⟨_, rfl⟩
  have HBD : Hid (∀ p ∈ lo, p.1 ≤ b) := Lib.hid (fun p hp2 => by rw [hlo] at hp2; exact (hv_in (n := p.1) (i := p.2) hp2).1)
  rw [← hlo] at HV1 HSML HTD hlen
  obtain ⟨N, hN⟩ : ∃ N, N = lo.length := ⟨_, rfl⟩
  have HN := Lib.hid hN
  have hNs : N ≤ 4096 := by omega
  obtain ⟨Tl, hTl⟩ : ∃ Tl, Tl = hiT pt least b := ⟨_, rfl⟩
  rw [← hTl] at HLV HKD HTD
  have HTN : Hid (Tl.length ≤ N) := Lib.hid (by
   rw [hTl, hN, hlo]
   exact sub_len (lvd_nodup (hiT_lvd pt least b)) (fun p hp2 => hiT_mem.1 hp2))
  obtain ⟨ao, cap, h3, -, -⟩ := own_open HV1.out
  rw [← hN] at h3
  subst h3
  clear hE hv1 hn1 hb' hlo hN hTl hlen hask
  go_wp2_with fail
  go_loopw [10, 11] (fun o lv wr => ∃ (j : Nat) (K : List (Nat × Nat × Int)), lv = .int .i64 (j : Int) ∧ j ≤ b + 1 ∧ keptAt pt least Tl (posJ lo j 0) = some K ∧ RiI w wr pt lo (.slice ao N cap) o K) (fun _ lv _ => b + 1 - (intOf lv).toNat)
  case atStart =>
   refine ⟨0, [], rfl, Nat.zero_le _, by rw [posJ_zero]; rfl, ⟨HV1.out.kept (below_alloc1 _ _), ?_, btr HB1.out (below_alloc1 _ _)⟩⟩
   exact World.ownsRow_lit (base := w.heap.size) (e := 106) (size := 4) w1 #[] 0 HB1.out.size (by unfold maxLen; omega) (by simp)
  case round =>
   obtain ⟨j, K, rfl, hj, hK, hI⟩ := hrel
   have HI := Lib.hid hI
   have HK := Lib.hid hK
   clear hI hK
   generalize wr = w2 at *
   have c0 := HCF.out w2 HI.out.bel
   by_cases hjb : j ≤ b
   ·have hjz : (j : Int) ≤ (b : Int) := by omega
    go_wp2_with fail
    clear c0
    go_loopw [10, 12] (fun o i wr => ∃ (t : Nat) (K : List (Nat × Nat × Int)), i = .int .i64 (t : Int) ∧ t ≤ N ∧ keptAt pt least Tl (posJ lo j t) = some K ∧ RiI w wr pt lo (.slice ao N cap) o K) (fun _ i _ => N - (intOf i).toNat)
    case atStart => exact ⟨0, K, rfl, Nat.zero_le _, HK.out, HI.out⟩
    case round =>
     clear HI HK
     rename_i K0 _ _ _
     obtain ⟨t, K, rfl, ht, hK, hI⟩ := hrel
     have HI := Lib.hid hI
     have HK := Lib.hid hK
     clear hI hK
     generalize wr = w3 at *
     by_cases htN : t < N
     ·have htz : (t : Int) < (N : Int) := by omega
      obtain ⟨⟨n, i⟩, hp⟩ : ∃ p, lo[t]? = some p := ⟨_, List.getElem?_eq_getElem (by have := HN.out; omega)⟩
      obtain ⟨gl, c', he, -, hgl, -, -, HR⟩ := HI.out.told.range hp
      simp only [Value.slice.injEq] at he
      obtain ⟨rfl, -, rfl⟩ := he
      have HPP := Lib.hid hp
      have hc := HR 0 _ rfl
      have hc2 := HR 2 _ rfl
      simp only [Nat.add_zero] at hc
      have hnb : n ≤ 59 := (HSML.out _ (List.mem_of_getElem? hp)).1
      clear HR
      by_cases hnj : n = j
      ·subst hnj
       have HTT : Hid (Tl[posJ lo n t]? = some (n, i)) := Lib.hid (by rw [HTD.out]; exact posJ_at hp rfl (by omega))
       have HNXT := Lib.hid (keptAt_next HK.out HTT.out)
       have HPY : Hid (posJ lo n (t + 1) = posJ lo n t + 1) := Lib.hid (posJ_yes hp rfl)
       have hsub := keptAt_sub HK.out
       have HND : Hid ((posL K).Nodup) := Lib.hid (lvd_nodup (HLV.out.sublist (hsub.1.trans (List.take_sublist _ _))))
       obtain ⟨M, hM⟩ : ∃ M, M = K.length := ⟨_, rfl⟩
       have HM := Lib.hid hM
       have hMN : M ≤ 4096 := by
        have h1 := hsub.1.length_le
        rw [List.length_map, List.length_take] at h1
        have := HTN.out
        omega
       have HKS : Hid (∀ (k kn ki : Nat) (kx : Int), K[k]? = some (kn, ki, kx) → kn ≤ 59 ∧ ki < 18446744073709551616) := Lib.hid (fun k kn ki kx h => by
        have h1 : (kn, ki) ∈ Tl := (List.take_sublist _ _).subset (hsub.1.subset (List.mem_map.2 ⟨(kn, ki, kx), List.mem_of_getElem? h, rfl⟩))
        rw [HTD.out, byKey_mem] at h1
        exact HSML.out _ h1.1)
       obtain ⟨oo, oc, ho, -, -⟩ := own_open HI.out.kept
       rw [← hM] at ho
       subst ho
       have HOO := Lib.hid (own_apart HI.out.told HI.out.kept (by decide))
       have PO := Lib.hid (fun w => ofint_any (pt n i) (HP64.out n i).1 (HP64.out n i).2 w)
       have HNS : Hid (n ≤ 59 ∧ i < 18446744073709551616) := Lib.hid (HSML.out _ (List.mem_of_getElem? hp))
       clear hsub hM hp
       go_wp2_with fail
       with_reducible refine (PO.out _).mono ?_
       rintro e w4 ⟨rfl, hb⟩
       have HI4 := Lib.hid (HI.out.keep hb)
       clear hb hc hc2
       have HNB := Lib.hid (Blk.new w4 103 #[.int .i64 0, .int .i64 0, .int .i64 0, .int .i64 0, .int .i64 0, .int .i64 0, .int .i64 0, .int .i64 0, .int .i64 0, .int .i64 0])
       have hal := below_alloc1 w4 (.cells #[.int .i64 0, .int .i64 0, .int .i64 0, .int .i64 0, .int .i64 0, .int .i64 0, .int .i64 0, .int .i64 0, .int .i64 0, .int .i64 0] 103)
       have HI5 : Hid (RiI w _ pt lo _ _ K) := Lib.hid ((HI4.out.keep hal).gr HNB.out HI4.out.bel.size (grown_setRow _ _ (longA (pt n i))))
       have HR5 := Lib.hid (HNB.out.rowNew (cs' := longA (pt n i)))
       have HRB : Hid (w.heap.size ≤ w4.heap.size) := Lib.hid HI4.out.bel.size
       clear hal
       go_wp2_with (refine wpList_store_row rfl 103 _ _ rfl w4.heap.size (longA (pt n i)) rfl rfl 103 #[.int .i64 0, .int .i64 0, .int .i64 0, .int .i64 0, .int .i64 0, .int .i64 0, .int .i64 0, .int .i64 0, .int .i64 0, .int .i64 0] HNB.out (long_info _) (by rw [longA_size]; rfl) (longA_one _) ?_)
       generalize ((w4.alloc (.cells #[.int .i64 0, .int .i64 0, .int .i64 0, .int .i64 0, .int .i64 0, .int .i64 0, .int .i64 0, .int .i64 0, .int .i64 0, .int .i64 0] 103)).setRow w4.heap.size (longA (pt n i))) = w5 at *
       generalize w4.heap.size = RB at *
       have HRK0 : Hid (RkI w5 w5 RB (leftK pt (posL K) (n, i) 0)) := Lib.hid ⟨by unfold leftK; simpa using HR5.out, gr_refl _ _⟩
       clear HR5 HNB
       go_wp2_with fail
       go_loopw [14] (fun kv wr => ∃ k : Nat, kv = .int .i64 (k : Int) ∧ k ≤ M ∧ RkI w5 wr RB (leftK pt (posL K) (n, i) k)) (fun kv _ => M - (intOf kv).toNat)
       case atStart => exact ⟨0, rfl, Nat.zero_le _, HRK0.out⟩
       case round =>
        obtain ⟨k, rfl, hk, hrk⟩ := hrel
        have HRK := Lib.hid hrk
        have HI6 := Lib.hid (HI5.out.gr (RkI.box HRK0.out) HRB.out hrk.gr)
        clear hrk
        generalize wr = w6 at *
        by_cases hkM : k < M
        ·have hkz : (k : Int) < (M : Int) := by omega
         obtain ⟨⟨kn, ki, kx⟩, hkp⟩ : ∃ p, K[k]? = some p := ⟨_, List.getElem?_eq_getElem (by have := HM.out; omega)⟩
         obtain ⟨g, c3', he, -, hgK, -, -, hrgK⟩ := HI6.out.kept.range hkp
         simp only [Value.slice.injEq] at he
         obtain ⟨rfl, -, rfl⟩ := he
         have HKP := Lib.hid hkp
         have HKQ := Lib.hid (posL_get hkp)
         have HKB := Lib.hid (HKS.out k kn ki kx hkp)
         have HRGK := Lib.hid (range_two hrgK)
         have HGK := Lib.hid hgK
         have HRGL := Lib.hid (range_two (HI6.out.told.at_ HPP.out).2)
         have HGL := Lib.hid (HI6.out.told.at_ HPP.out).1
         have HLN := Lib.hid (leftK_next (pt := pt) (p := (n, i)) HND.out (posL_get hkp))
         have PIN := Lib.hid (fun w => in_any kn ki n i HKB.out.1 HKB.out.2 HNS.out.1 HNS.out.2 w)
         clear hkp hgK hrgK
         go_upto_region 16 with fail
         go_cut [76] (fun v wx => v = .bool (!liesB (kn, ki) (n, i)) ∧ Below w6.heap.size w6 wx)
         case first =>
          as_aux_lemma =>
           refine wp_region_held_drew (S := fun w' => Below w6.heap.size w6 w') (by kernel_rfl) (by exact below_drewN (Below.refl _ _) 1) (fun hHeld => ?_)
           refine tkH (i := 0) (v := ?_) rfl (by kernel_rfl) (fun _ _ _ h => h) (Or.inl ⟨by rfl, ?_⟩) (by assumption) ?_
           rotate_left
           ·intro w hSw
            try dsimp only at hSw
            go_simp
            try with_reducible rfl
           simp only [Act.put, z1, z2, z3, z4, z5, z6]
           refine tkH (i := 1) (v := ?_) rfl (by kernel_rfl) (fun _ _ _ h => h) (Or.inl ⟨by rfl, ?_⟩) (by assumption) ?_
           rotate_left
           ·intro w hSw
            try dsimp only at hSw
            go_simp
            try with_reducible rfl
           simp only [Act.put, z1, z2, z3, z4, z5, z6]
           refine tkH (i := 2) (v := ?_) rfl (by kernel_rfl) (fun _ _ _ h => h) (Or.inl ⟨by rfl, ?_⟩) (by assumption) ?_
           rotate_left
           ·intro w hSw
            try dsimp only at hSw
            go_simp
            try with_reducible rfl
           simp only [Act.put, z1, z2, z3, z4, z5, z6]
           refine tkH (i := 3) (v := ?_) rfl (by kernel_rfl) (fun _ _ _ h => h) (Or.inl ⟨by rfl, ?_⟩) (by assumption) ?_
           rotate_left
           ·intro w hSw
            try dsimp only at hSw
            go_simp
            try with_reducible rfl
           simp only [Act.put, z1, z2, z3, z4, z5, z6]
           refine tkH (i := 4) (v := ?_) rfl (by kernel_rfl) (fun _ _ _ h => h) (Or.inl ⟨by rfl, ?_⟩) (by assumption) ?_
           rotate_left
           ·intro w hSw
            have q1 := range_block HRGK.out (hSw.block _ HGK.out)
            have q2 := range_block HRGL.out (hSw.block _ HGL.out)
            try (first | refine (exec_load_mid 64 _ rfl g (k * 4) rfl [_, _] _ q1 Tryz.underlying64 rfl (by kernel_rfl)).trans ?_ | refine (exec_load_mid 64 _ rfl gl (t * 3) rfl [_, _] _ q2 Tryz.underlying64 rfl (by kernel_rfl)).trans ?_)
            go_simp
            try with_reducible rfl
           simp only [Act.put, z1, z2, z3, z4, z5, z6]
           refine tkH (i := 5) (v := ?_) rfl (by kernel_rfl) (fun _ _ _ h => h) (Or.inl ⟨by rfl, ?_⟩) (by assumption) ?_
           rotate_left
           ·intro w hSw
            try dsimp only at hSw
            go_simp
            try with_reducible rfl
           simp only [Act.put, z1, z2, z3, z4, z5, z6]
           refine tkH (i := 6) (v := ?_) rfl (by kernel_rfl) (fun _ _ _ h => h) (Or.inl ⟨by rfl, ?_⟩) (by assumption) ?_
           rotate_left
           ·intro w hSw
            try dsimp only at hSw
            go_simp
            try with_reducible rfl
           simp only [Act.put, z1, z2, z3, z4, z5, z6]
           refine tkH (i := 7) (v := ?_) rfl (by kernel_rfl) (fun _ _ _ h => h) (Or.inl ⟨by rfl, ?_⟩) (by assumption) ?_
           rotate_left
           ·intro w hSw
            try dsimp only at hSw
            go_simp
            try with_reducible rfl
           simp only [Act.put, z1, z2, z3, z4, z5, z6]
           refine tkH (i := 8) (v := ?_) rfl (by kernel_rfl) (fun _ _ _ h => h) (Or.inl ⟨by rfl, ?_⟩) (by assumption) ?_
           rotate_left
           ·intro w hSw
            try dsimp only at hSw
            go_simp
            try with_reducible rfl
           simp only [Act.put, z1, z2, z3, z4, z5, z6]
           refine tkH (i := 9) (v := ?_) rfl (by kernel_rfl) (fun _ _ _ h => h) (Or.inl ⟨by rfl, ?_⟩) (by assumption) ?_
           rotate_left
           ·intro w hSw
            have q1 := range_block HRGK.out (hSw.block _ HGK.out)
            have q2 := range_block HRGL.out (hSw.block _ HGL.out)
            try (first | refine (exec_load_mid 64 _ rfl g (k * 4) rfl [_, _] _ q1 Tryz.underlying64 rfl (by kernel_rfl)).trans ?_ | refine (exec_load_mid 64 _ rfl gl (t * 3) rfl [_, _] _ q2 Tryz.underlying64 rfl (by kernel_rfl)).trans ?_)
            go_simp
            try with_reducible rfl
           simp only [Act.put, z1, z2, z3, z4, z5, z6]
           refine wpAnyH_ready (rs := [10]) (by kernel_rfl) (by simp) ?_
           refine AllReadyH.cons rfl (fun Kc hKc => ?_) AllReadyH.nil
           go_simp
           go_wp2_with ((with_reducible refine (PIN.out _).mono ?_; rintro e wq ⟨rfl, hb'⟩))
           refine hKc.out _ _ ?_ (fun hHeld => ?_)
           ·first | assumption | exact hHeld | exact btr hHeld hb'
           clear hKc Kc
           refine tkH (i := 11) (v := ?_) rfl (by kernel_rfl) (fun _ _ _ h => h) (Or.inl ⟨by rfl, ?_⟩) (by assumption) ?_
           rotate_left
           ·intro w hSw
            try dsimp only at hSw
            go_simp
            try with_reducible rfl
           simp only [Act.put, z1, z2, z3, z4, z5, z6]
           refine wpAnyH_done (by kernel_rfl) ?_ _
           have HBD := Lib.hid hHeld
           clear hHeld
           go_wp2_with fail
           go_meet
           exact ⟨by first | rfl | simp, HBD.out⟩
         case rest =>
          obtain ⟨rfl, hb⟩ := hcut
          have HRK7 := Lib.hid (HRK.out.keep hb)
          have HI7 := Lib.hid (HI6.out.keep hb)
          clear HRGK HGK HRGL HGL PIN hb HI6 HRK
          generalize wc = w7 at *
          rcases hl1 : liesB (kn, ki) (n, i) with _ | _
          ·rw [hl1] at HLN
           have HLE : Hid (leftK pt (posL K) (n, i) (k + 1) = leftK pt (posL K) (n, i) k) := Lib.hid (by rw [HLN.out, if_neg (by simp)])
           clear hl1
           simp only [Bool.not_false]
           go_wp2_with fail
           go_roundw
           case rel => exact ⟨k + 1, by go_num, by omega, by rw [HLE.out]; exact HRK7.out⟩
           case measure => simp [intOf]; omega
          ·rw [hl1] at HLN
           clear hl1
           simp only [Bool.not_true]
           go_wp2_with fail
           go_loopw [15, 16] (fun al mv wr => ∃ mm : Nat, mv = .int .i64 (mm : Int) ∧ mm ≤ M ∧ al = .bool (aloneR (posL K) (n, i) k mm) ∧ Below w7.heap.size w7 wr) (fun _ mv _ => M - (intOf mv).toNat)
           case atStart => exact ⟨0, rfl, Nat.zero_le _, rfl, Below.refl _ _⟩
           case round =>
            obtain ⟨mm, rfl, hm, rfl, hbl⟩ := hrel
            have HBL := Lib.hid hbl
            clear hbl
            generalize wr = w8 at *
            have HI8 := Lib.hid (HI7.out.keep HBL.out)
            by_cases hmM : mm < M
            ·have hmz : (mm : Int) < (M : Int) := by omega
             obtain ⟨⟨mn, mi, mx⟩, hmp⟩ : ∃ p, K[mm]? = some p := ⟨_, List.getElem?_eq_getElem (by have := HM.out; omega)⟩
             have HMB := Lib.hid (HKS.out mm mn mi mx hmp)
             have HRGK := Lib.hid (range_two (HI8.out.kept.at_ HKP.out).2)
             have HGK := Lib.hid (HI8.out.kept.at_ HKP.out).1
             have HRGM := Lib.hid (range_two (HI8.out.kept.at_ hmp).2)
             have HRGL := Lib.hid (range_two (HI8.out.told.at_ HPP.out).2)
             have HGL := Lib.hid (HI8.out.told.at_ HPP.out).1
             have HAN : Hid (aloneR (posL K) (n, i) k (mm + 1) = (aloneR (posL K) (n, i) k mm && (decide (mm = k) || !(liesB (kn, ki) (mn, mi) && liesB (mn, mi) (n, i))))) := Lib.hid (by
              conv => lhs; unfold aloneR
              rw [HKQ.out, posL_get hmp])
             have PKM := Lib.hid (fun w => in_any kn ki mn mi HKB.out.1 HKB.out.2 HMB.out.1 HMB.out.2 w)
             have PMT := Lib.hid (fun w => in_any mn mi n i HMB.out.1 HMB.out.2 HNS.out.1 HNS.out.2 w)
             obtain ⟨A0, hA0⟩ : ∃ A0, A0 = aloneR (posL K) (n, i) k mm := ⟨_, rfl⟩
             rw [← hA0] at HAN ⊢
             clear hmp hA0
             by_cases hmk : mm = k
             ·have HAM : Hid (aloneR (posL K) (n, i) k (mm + 1) = A0) := Lib.hid (by rw [HAN.out]; simp [hmk])
              have hmk1 : ((mm : Int) != (k : Int)) = false := by simp [hmk]
              have hmk2 : (mm != k) = false := by simp [hmk]
              have hmk3 : ¬ (mm : Int) ≠ (k : Int) := by omega
              have hmk4 : (mm : Int) = (k : Int) := by omega
              clear hmk HAN
              go_wp2_with fail
              as_aux_lemma =>
               refine wp_region_held_drew (S := fun w' => Below w8.heap.size w8 w') (by kernel_rfl) (by exact below_drewN (Below.refl _ _) 1) (fun hHeld => ?_)
               refine tkH (i := 0) (v := ?_) rfl (by kernel_rfl) (fun _ _ _ h => h) (Or.inl ⟨by rfl, ?_⟩) (by assumption) ?_
               rotate_left
               ·intro w hSw
                try dsimp only at hSw
                go_simp
                try with_reducible rfl
               simp only [Act.put, z1, z2, z3, z4, z5, z6]
               refine tkH (i := 1) (v := ?_) rfl (by kernel_rfl) (fun _ _ _ h => h) (Or.inl ⟨by rfl, ?_⟩) (by assumption) ?_
               rotate_left
               ·intro w hSw
                try dsimp only at hSw
                go_simp
                try with_reducible rfl
               simp only [Act.put, z1, z2, z3, z4, z5, z6]
               refine tkH (i := 2) (v := ?_) rfl (by kernel_rfl) (fun _ _ _ h => h) (Or.inl ⟨by rfl, ?_⟩) (by assumption) ?_
               rotate_left
               ·intro w hSw
                try dsimp only at hSw
                go_simp
                try with_reducible rfl
               simp only [Act.put, z1, z2, z3, z4, z5, z6]
               refine tkH (i := 3) (v := ?_) rfl (by kernel_rfl) (fun _ _ _ h => h) (Or.inl ⟨by rfl, ?_⟩) (by assumption) ?_
               rotate_left
               ·intro w hSw
                try dsimp only at hSw
                go_simp
                try with_reducible rfl
               simp only [Act.put, z1, z2, z3, z4, z5, z6]
               refine tkH (i := 4) (v := undef) rfl (by kernel_rfl) (fun _ _ _ h => h) (Or.inr ⟨by rfl, rfl⟩) (by assumption) ?_
               simp only [Act.put, z1, z2, z3, z4, z5, z6]
               refine tkH (i := 5) (v := undef) rfl (by kernel_rfl) (fun _ _ _ h => h) (Or.inr ⟨by rfl, rfl⟩) (by assumption) ?_
               simp only [Act.put, z1, z2, z3, z4, z5, z6]
               refine tkH (i := 6) (v := undef) rfl (by kernel_rfl) (fun _ _ _ h => h) (Or.inr ⟨by rfl, rfl⟩) (by assumption) ?_
               simp only [Act.put, z1, z2, z3, z4, z5, z6]
               refine tkH (i := 7) (v := undef) rfl (by kernel_rfl) (fun _ _ _ h => h) (Or.inr ⟨by rfl, rfl⟩) (by assumption) ?_
               simp only [Act.put, z1, z2, z3, z4, z5, z6]
               refine tkH (i := 8) (v := undef) rfl (by kernel_rfl) (fun _ _ _ h => h) (Or.inr ⟨by rfl, rfl⟩) (by assumption) ?_
               simp only [Act.put, z1, z2, z3, z4, z5, z6]
               refine tkH (i := 9) (v := undef) rfl (by kernel_rfl) (fun _ _ _ h => h) (Or.inr ⟨by rfl, rfl⟩) (by assumption) ?_
               simp only [Act.put, z1, z2, z3, z4, z5, z6]
               refine tkH (i := 10) (v := undef) rfl (by kernel_rfl) (fun _ _ _ h => h) (Or.inr ⟨by rfl, rfl⟩) (by assumption) ?_
               simp only [Act.put, z1, z2, z3, z4, z5, z6]
               refine tkH (i := 11) (v := undef) rfl (by kernel_rfl) (fun _ _ _ h => h) (Or.inr ⟨by rfl, rfl⟩) (by assumption) ?_
               simp only [Act.put, z1, z2, z3, z4, z5, z6]
               refine tkH (i := 12) (v := undef) rfl (by kernel_rfl) (fun _ _ _ h => h) (Or.inr ⟨by rfl, rfl⟩) (by assumption) ?_
               simp only [Act.put, z1, z2, z3, z4, z5, z6]
               refine tkH (i := 13) (v := undef) rfl (by kernel_rfl) (fun _ _ _ h => h) (Or.inr ⟨by rfl, rfl⟩) (by assumption) ?_
               simp only [Act.put, z1, z2, z3, z4, z5, z6]
               refine wpAnyH_ready (rs := [14]) (by kernel_rfl) (by simp) ?_
               refine AllReadyH.cons rfl (fun Kc hKc => ?_) AllReadyH.nil
               go_simp
               refine hKc.out _ _ ?_ (fun hHeld => ?_)
               ·first | assumption | exact hHeld | exact btr hHeld hb'
               clear hKc Kc
               refine tkH (i := 15) (v := ?_) rfl (by kernel_rfl) (fun _ _ _ h => h) (Or.inl ⟨by rfl, ?_⟩) (by assumption) ?_
               rotate_left
               ·intro w hSw
                try dsimp only at hSw
                go_simp
                try with_reducible rfl
               simp only [Act.put, z1, z2, z3, z4, z5, z6]
               refine tkH (i := 16) (v := ?_) rfl (by kernel_rfl) (fun _ _ _ h => h) (Or.inl ⟨by rfl, ?_⟩) (by assumption) ?_
               rotate_left
               ·intro w hSw
                try dsimp only at hSw
                go_simp
                try with_reducible rfl
               simp only [Act.put, z1, z2, z3, z4, z5, z6]
               refine tkH (i := 17) (v := undef) rfl (by kernel_rfl) (fun _ _ _ h => h) (Or.inr ⟨by rfl, rfl⟩) (by assumption) ?_
               simp only [Act.put, z1, z2, z3, z4, z5, z6]
               refine tkH (i := 18) (v := undef) rfl (by kernel_rfl) (fun _ _ _ h => h) (Or.inr ⟨by rfl, rfl⟩) (by assumption) ?_
               simp only [Act.put, z1, z2, z3, z4, z5, z6]
               refine tkH (i := 19) (v := undef) rfl (by kernel_rfl) (fun _ _ _ h => h) (Or.inr ⟨by rfl, rfl⟩) (by assumption) ?_
               simp only [Act.put, z1, z2, z3, z4, z5, z6]
               refine tkH (i := 20) (v := undef) rfl (by kernel_rfl) (fun _ _ _ h => h) (Or.inr ⟨by rfl, rfl⟩) (by assumption) ?_
               simp only [Act.put, z1, z2, z3, z4, z5, z6]
               refine tkH (i := 21) (v := undef) rfl (by kernel_rfl) (fun _ _ _ h => h) (Or.inr ⟨by rfl, rfl⟩) (by assumption) ?_
               simp only [Act.put, z1, z2, z3, z4, z5, z6]
               refine tkH (i := 22) (v := undef) rfl (by kernel_rfl) (fun _ _ _ h => h) (Or.inr ⟨by rfl, rfl⟩) (by assumption) ?_
               simp only [Act.put, z1, z2, z3, z4, z5, z6]
               refine tkH (i := 23) (v := undef) rfl (by kernel_rfl) (fun _ _ _ h => h) (Or.inr ⟨by rfl, rfl⟩) (by assumption) ?_
               simp only [Act.put, z1, z2, z3, z4, z5, z6]
               refine tkH (i := 24) (v := undef) rfl (by kernel_rfl) (fun _ _ _ h => h) (Or.inr ⟨by rfl, rfl⟩) (by assumption) ?_
               simp only [Act.put, z1, z2, z3, z4, z5, z6]
               refine tkH (i := 25) (v := undef) rfl (by kernel_rfl) (fun _ _ _ h => h) (Or.inr ⟨by rfl, rfl⟩) (by assumption) ?_
               simp only [Act.put, z1, z2, z3, z4, z5, z6]
               refine tkH (i := 26) (v := undef) rfl (by kernel_rfl) (fun _ _ _ h => h) (Or.inr ⟨by rfl, rfl⟩) (by assumption) ?_
               simp only [Act.put, z1, z2, z3, z4, z5, z6]
               refine wpAnyH_ready (rs := [27]) (by kernel_rfl) (by simp) ?_
               refine AllReadyH.cons rfl (fun Kc hKc => ?_) AllReadyH.nil
               go_simp
               refine hKc.out _ _ ?_ (fun hHeld => ?_)
               ·first | assumption | exact hHeld | exact btr hHeld hb'
               clear hKc Kc
               refine tkH (i := 28) (v := ?_) rfl (by kernel_rfl) (fun _ _ _ h => h) (Or.inl ⟨by rfl, ?_⟩) (by assumption) ?_
               rotate_left
               ·intro w hSw
                try dsimp only at hSw
                go_simp
                try with_reducible rfl
               simp only [Act.put, z1, z2, z3, z4, z5, z6]
               refine wpAnyH_done (by kernel_rfl) ?_ _
               have HBD := Lib.hid hHeld
               clear hHeld
               go_wp2_with fail
               go_roundw
               case rel => exact ⟨mm + 1, by go_num, by omega, by rw [HAM.out], btr HBL.out HBD.out⟩
               case measure => simp [intOf]; omega
             ·rw [decide_eq_false hmk, Bool.false_or] at HAN
              have hmk1 : ((mm : Int) != (k : Int)) = true := by simp; omega
              have hmk2 : (mm != k) = true := by simp; omega
              have hmk3 : ¬ (mm : Int) = (k : Int) := by omega
              clear hmk
              rcases hl1 : liesB (kn, ki) (mn, mi) with _ | _
              ·rw [hl1] at PKM HAN
               have HAM : Hid (aloneR (posL K) (n, i) k (mm + 1) = A0) := Lib.hid (by rw [HAN.out]; simp)
               clear hl1 HAN
               go_wp2_with fail
               as_aux_lemma =>
                refine wp_region_held_drew (S := fun w' => Below w8.heap.size w8 w') (by kernel_rfl) (by exact below_drewN (Below.refl _ _) 1) (fun hHeld => ?_)
                refine tkH (i := 0) (v := ?_) rfl (by kernel_rfl) (fun _ _ _ h => h) (Or.inl ⟨by rfl, ?_⟩) (by assumption) ?_
                rotate_left
                ·intro w hSw
                 try dsimp only at hSw
                 go_simp
                 try with_reducible rfl
                simp only [Act.put, z1, z2, z3, z4, z5, z6]
                refine tkH (i := 1) (v := ?_) rfl (by kernel_rfl) (fun _ _ _ h => h) (Or.inl ⟨by rfl, ?_⟩) (by assumption) ?_
                rotate_left
                ·intro w hSw
                 try dsimp only at hSw
                 go_simp
                 try with_reducible rfl
                simp only [Act.put, z1, z2, z3, z4, z5, z6]
                refine tkH (i := 2) (v := ?_) rfl (by kernel_rfl) (fun _ _ _ h => h) (Or.inl ⟨by rfl, ?_⟩) (by assumption) ?_
                rotate_left
                ·intro w hSw
                 try dsimp only at hSw
                 go_simp
                 try with_reducible rfl
                simp only [Act.put, z1, z2, z3, z4, z5, z6]
                refine tkH (i := 3) (v := ?_) rfl (by kernel_rfl) (fun _ _ _ h => h) (Or.inl ⟨by rfl, ?_⟩) (by assumption) ?_
                rotate_left
                ·intro w hSw
                 try dsimp only at hSw
                 go_simp
                 try with_reducible rfl
                simp only [Act.put, z1, z2, z3, z4, z5, z6]
                refine tkH (i := 4) (v := ?_) rfl (by kernel_rfl) (fun _ _ _ h => h) (Or.inl ⟨by rfl, ?_⟩) (by assumption) ?_
                rotate_left
                ·intro w hSw
                 try dsimp only at hSw
                 go_simp
                 try with_reducible rfl
                simp only [Act.put, z1, z2, z3, z4, z5, z6]
                refine tkH (i := 5) (v := ?_) rfl (by kernel_rfl) (fun _ _ _ h => h) (Or.inl ⟨by rfl, ?_⟩) (by assumption) ?_
                rotate_left
                ·intro w hSw
                 try dsimp only at hSw
                 go_simp
                 try with_reducible rfl
                simp only [Act.put, z1, z2, z3, z4, z5, z6]
                refine tkH (i := 6) (v := ?_) rfl (by kernel_rfl) (fun _ _ _ h => h) (Or.inl ⟨by rfl, ?_⟩) (by assumption) ?_
                rotate_left
                ·intro w hSw
                 try dsimp only at hSw
                 go_simp
                 try with_reducible rfl
                simp only [Act.put, z1, z2, z3, z4, z5, z6]
                refine tkH (i := 7) (v := ?_) rfl (by kernel_rfl) (fun _ _ _ h => h) (Or.inl ⟨by rfl, ?_⟩) (by assumption) ?_
                rotate_left
                ·intro w hSw
                 try dsimp only at hSw
                 go_simp
                 try with_reducible rfl
                simp only [Act.put, z1, z2, z3, z4, z5, z6]
                refine tkH (i := 8) (v := ?_) rfl (by kernel_rfl) (fun _ _ _ h => h) (Or.inl ⟨by rfl, ?_⟩) (by assumption) ?_
                rotate_left
                ·intro w hSw
                 have q1 := range_block HRGK.out (hSw.block _ HGK.out)
                 have q2 := range_block HRGL.out (hSw.block _ HGL.out)
                 have q3 := range_block HRGM.out (hSw.block _ HGK.out)
                 try (first | refine (exec_load_mid 64 _ rfl g (k * 4) rfl [_, _] _ q1 Tryz.underlying64 rfl (by kernel_rfl)).trans ?_ | refine (exec_load_mid 64 _ rfl gl (t * 3) rfl [_, _] _ q2 Tryz.underlying64 rfl (by kernel_rfl)).trans ?_ | refine (exec_load_mid 64 _ rfl g (mm * 4) rfl [_, _] _ q3 Tryz.underlying64 rfl (by kernel_rfl)).trans ?_)
                 go_simp
                 try with_reducible rfl
                simp only [Act.put, z1, z2, z3, z4, z5, z6]
                refine tkH (i := 9) (v := ?_) rfl (by kernel_rfl) (fun _ _ _ h => h) (Or.inl ⟨by rfl, ?_⟩) (by assumption) ?_
                rotate_left
                ·intro w hSw
                 try dsimp only at hSw
                 go_simp
                 try with_reducible rfl
                simp only [Act.put, z1, z2, z3, z4, z5, z6]
                refine tkH (i := 10) (v := ?_) rfl (by kernel_rfl) (fun _ _ _ h => h) (Or.inl ⟨by rfl, ?_⟩) (by assumption) ?_
                rotate_left
                ·intro w hSw
                 try dsimp only at hSw
                 go_simp
                 try with_reducible rfl
                simp only [Act.put, z1, z2, z3, z4, z5, z6]
                refine tkH (i := 11) (v := ?_) rfl (by kernel_rfl) (fun _ _ _ h => h) (Or.inl ⟨by rfl, ?_⟩) (by assumption) ?_
                rotate_left
                ·intro w hSw
                 try dsimp only at hSw
                 go_simp
                 try with_reducible rfl
                simp only [Act.put, z1, z2, z3, z4, z5, z6]
                refine tkH (i := 12) (v := ?_) rfl (by kernel_rfl) (fun _ _ _ h => h) (Or.inl ⟨by rfl, ?_⟩) (by assumption) ?_
                rotate_left
                ·intro w hSw
                 try dsimp only at hSw
                 go_simp
                 try with_reducible rfl
                simp only [Act.put, z1, z2, z3, z4, z5, z6]
                refine tkH (i := 13) (v := ?_) rfl (by kernel_rfl) (fun _ _ _ h => h) (Or.inl ⟨by rfl, ?_⟩) (by assumption) ?_
                rotate_left
                ·intro w hSw
                 have q1 := range_block HRGK.out (hSw.block _ HGK.out)
                 have q2 := range_block HRGL.out (hSw.block _ HGL.out)
                 have q3 := range_block HRGM.out (hSw.block _ HGK.out)
                 try (first | refine (exec_load_mid 64 _ rfl g (k * 4) rfl [_, _] _ q1 Tryz.underlying64 rfl (by kernel_rfl)).trans ?_ | refine (exec_load_mid 64 _ rfl gl (t * 3) rfl [_, _] _ q2 Tryz.underlying64 rfl (by kernel_rfl)).trans ?_ | refine (exec_load_mid 64 _ rfl g (mm * 4) rfl [_, _] _ q3 Tryz.underlying64 rfl (by kernel_rfl)).trans ?_)
                 go_simp
                 try with_reducible rfl
                simp only [Act.put, z1, z2, z3, z4, z5, z6]
                refine wpAnyH_ready (rs := [14]) (by kernel_rfl) (by simp) ?_
                refine AllReadyH.cons rfl (fun Kc hKc => ?_) AllReadyH.nil
                go_simp
                go_wp2_with ((with_reducible refine (PKM.out _).mono ?_; rintro e wq ⟨rfl, hb'⟩))
                refine hKc.out _ _ ?_ (fun hHeld => ?_)
                ·first | assumption | exact hHeld | exact btr hHeld hb'
                clear hKc Kc
                refine tkH (i := 15) (v := ?_) rfl (by kernel_rfl) (fun _ _ _ h => h) (Or.inl ⟨by rfl, ?_⟩) (by assumption) ?_
                rotate_left
                ·intro w hSw
                 try dsimp only at hSw
                 go_simp
                 try with_reducible rfl
                simp only [Act.put, z1, z2, z3, z4, z5, z6]
                refine tkH (i := 16) (v := ?_) rfl (by kernel_rfl) (fun _ _ _ h => h) (Or.inl ⟨by rfl, ?_⟩) (by assumption) ?_
                rotate_left
                ·intro w hSw
                 try dsimp only at hSw
                 go_simp
                 try with_reducible rfl
                simp only [Act.put, z1, z2, z3, z4, z5, z6]
                refine tkH (i := 17) (v := undef) rfl (by kernel_rfl) (fun _ _ _ h => h) (Or.inr ⟨by rfl, rfl⟩) (by assumption) ?_
                simp only [Act.put, z1, z2, z3, z4, z5, z6]
                refine tkH (i := 18) (v := undef) rfl (by kernel_rfl) (fun _ _ _ h => h) (Or.inr ⟨by rfl, rfl⟩) (by assumption) ?_
                simp only [Act.put, z1, z2, z3, z4, z5, z6]
                refine tkH (i := 19) (v := undef) rfl (by kernel_rfl) (fun _ _ _ h => h) (Or.inr ⟨by rfl, rfl⟩) (by assumption) ?_
                simp only [Act.put, z1, z2, z3, z4, z5, z6]
                refine tkH (i := 20) (v := undef) rfl (by kernel_rfl) (fun _ _ _ h => h) (Or.inr ⟨by rfl, rfl⟩) (by assumption) ?_
                simp only [Act.put, z1, z2, z3, z4, z5, z6]
                refine tkH (i := 21) (v := undef) rfl (by kernel_rfl) (fun _ _ _ h => h) (Or.inr ⟨by rfl, rfl⟩) (by assumption) ?_
                simp only [Act.put, z1, z2, z3, z4, z5, z6]
                refine tkH (i := 22) (v := undef) rfl (by kernel_rfl) (fun _ _ _ h => h) (Or.inr ⟨by rfl, rfl⟩) (by assumption) ?_
                simp only [Act.put, z1, z2, z3, z4, z5, z6]
                refine tkH (i := 23) (v := undef) rfl (by kernel_rfl) (fun _ _ _ h => h) (Or.inr ⟨by rfl, rfl⟩) (by assumption) ?_
                simp only [Act.put, z1, z2, z3, z4, z5, z6]
                refine tkH (i := 24) (v := undef) rfl (by kernel_rfl) (fun _ _ _ h => h) (Or.inr ⟨by rfl, rfl⟩) (by assumption) ?_
                simp only [Act.put, z1, z2, z3, z4, z5, z6]
                refine tkH (i := 25) (v := undef) rfl (by kernel_rfl) (fun _ _ _ h => h) (Or.inr ⟨by rfl, rfl⟩) (by assumption) ?_
                simp only [Act.put, z1, z2, z3, z4, z5, z6]
                refine tkH (i := 26) (v := undef) rfl (by kernel_rfl) (fun _ _ _ h => h) (Or.inr ⟨by rfl, rfl⟩) (by assumption) ?_
                simp only [Act.put, z1, z2, z3, z4, z5, z6]
                refine wpAnyH_ready (rs := [27]) (by kernel_rfl) (by simp) ?_
                refine AllReadyH.cons rfl (fun Kc hKc => ?_) AllReadyH.nil
                go_simp
                refine hKc.out _ _ ?_ (fun hHeld => ?_)
                ·first | assumption | exact hHeld | exact btr hHeld hb'
                clear hKc Kc
                refine tkH (i := 28) (v := ?_) rfl (by kernel_rfl) (fun _ _ _ h => h) (Or.inl ⟨by rfl, ?_⟩) (by assumption) ?_
                rotate_left
                ·intro w hSw
                 try dsimp only at hSw
                 go_simp
                 try with_reducible rfl
                simp only [Act.put, z1, z2, z3, z4, z5, z6]
                refine wpAnyH_done (by kernel_rfl) ?_ _
                have HBD := Lib.hid hHeld
                clear hHeld
                go_wp2_with fail
                go_roundw
                case rel => exact ⟨mm + 1, by go_num, by omega, by rw [HAM.out], btr HBL.out HBD.out⟩
                case measure => simp [intOf]; omega
              ·rw [hl1] at PKM HAN
               clear hl1
               rcases hl2 : liesB (mn, mi) (n, i) with _ | _
               ·rw [hl2] at PMT HAN
                have HAM : Hid (aloneR (posL K) (n, i) k (mm + 1) = A0) := Lib.hid (by rw [HAN.out]; simp)
                clear hl2 HAN
                go_wp2_with fail
                as_aux_lemma =>
                 refine wp_region_held_drew (S := fun w' => Below w8.heap.size w8 w') (by kernel_rfl) (by exact below_drewN (Below.refl _ _) 1) (fun hHeld => ?_)
                 refine tkH (i := 0) (v := ?_) rfl (by kernel_rfl) (fun _ _ _ h => h) (Or.inl ⟨by rfl, ?_⟩) (by assumption) ?_
                 rotate_left
                 ·intro w hSw
                  try dsimp only at hSw
                  go_simp
                  try with_reducible rfl
                 simp only [Act.put, z1, z2, z3, z4, z5, z6]
                 refine tkH (i := 1) (v := ?_) rfl (by kernel_rfl) (fun _ _ _ h => h) (Or.inl ⟨by rfl, ?_⟩) (by assumption) ?_
                 rotate_left
                 ·intro w hSw
                  try dsimp only at hSw
                  go_simp
                  try with_reducible rfl
                 simp only [Act.put, z1, z2, z3, z4, z5, z6]
                 refine tkH (i := 2) (v := ?_) rfl (by kernel_rfl) (fun _ _ _ h => h) (Or.inl ⟨by rfl, ?_⟩) (by assumption) ?_
                 rotate_left
                 ·intro w hSw
                  try dsimp only at hSw
                  go_simp
                  try with_reducible rfl
                 simp only [Act.put, z1, z2, z3, z4, z5, z6]
                 refine tkH (i := 3) (v := ?_) rfl (by kernel_rfl) (fun _ _ _ h => h) (Or.inl ⟨by rfl, ?_⟩) (by assumption) ?_
                 rotate_left
                 ·intro w hSw
                  try dsimp only at hSw
                  go_simp
                  try with_reducible rfl
                 simp only [Act.put, z1, z2, z3, z4, z5, z6]
                 refine tkH (i := 4) (v := ?_) rfl (by kernel_rfl) (fun _ _ _ h => h) (Or.inl ⟨by rfl, ?_⟩) (by assumption) ?_
                 rotate_left
                 ·intro w hSw
                  try dsimp only at hSw
                  go_simp
                  try with_reducible rfl
                 simp only [Act.put, z1, z2, z3, z4, z5, z6]
                 refine tkH (i := 5) (v := ?_) rfl (by kernel_rfl) (fun _ _ _ h => h) (Or.inl ⟨by rfl, ?_⟩) (by assumption) ?_
                 rotate_left
                 ·intro w hSw
                  try dsimp only at hSw
                  go_simp
                  try with_reducible rfl
                 simp only [Act.put, z1, z2, z3, z4, z5, z6]
                 refine tkH (i := 6) (v := ?_) rfl (by kernel_rfl) (fun _ _ _ h => h) (Or.inl ⟨by rfl, ?_⟩) (by assumption) ?_
                 rotate_left
                 ·intro w hSw
                  try dsimp only at hSw
                  go_simp
                  try with_reducible rfl
                 simp only [Act.put, z1, z2, z3, z4, z5, z6]
                 refine tkH (i := 7) (v := ?_) rfl (by kernel_rfl) (fun _ _ _ h => h) (Or.inl ⟨by rfl, ?_⟩) (by assumption) ?_
                 rotate_left
                 ·intro w hSw
                  try dsimp only at hSw
                  go_simp
                  try with_reducible rfl
                 simp only [Act.put, z1, z2, z3, z4, z5, z6]
                 refine tkH (i := 8) (v := ?_) rfl (by kernel_rfl) (fun _ _ _ h => h) (Or.inl ⟨by rfl, ?_⟩) (by assumption) ?_
                 rotate_left
                 ·intro w hSw
                  have q1 := range_block HRGK.out (hSw.block _ HGK.out)
                  have q2 := range_block HRGL.out (hSw.block _ HGL.out)
                  have q3 := range_block HRGM.out (hSw.block _ HGK.out)
                  try (first | refine (exec_load_mid 64 _ rfl g (k * 4) rfl [_, _] _ q1 Tryz.underlying64 rfl (by kernel_rfl)).trans ?_ | refine (exec_load_mid 64 _ rfl gl (t * 3) rfl [_, _] _ q2 Tryz.underlying64 rfl (by kernel_rfl)).trans ?_ | refine (exec_load_mid 64 _ rfl g (mm * 4) rfl [_, _] _ q3 Tryz.underlying64 rfl (by kernel_rfl)).trans ?_)
                  go_simp
                  try with_reducible rfl
                 simp only [Act.put, z1, z2, z3, z4, z5, z6]
                 refine tkH (i := 9) (v := ?_) rfl (by kernel_rfl) (fun _ _ _ h => h) (Or.inl ⟨by rfl, ?_⟩) (by assumption) ?_
                 rotate_left
                 ·intro w hSw
                  try dsimp only at hSw
                  go_simp
                  try with_reducible rfl
                 simp only [Act.put, z1, z2, z3, z4, z5, z6]
                 refine tkH (i := 10) (v := ?_) rfl (by kernel_rfl) (fun _ _ _ h => h) (Or.inl ⟨by rfl, ?_⟩) (by assumption) ?_
                 rotate_left
                 ·intro w hSw
                  try dsimp only at hSw
                  go_simp
                  try with_reducible rfl
                 simp only [Act.put, z1, z2, z3, z4, z5, z6]
                 refine tkH (i := 11) (v := ?_) rfl (by kernel_rfl) (fun _ _ _ h => h) (Or.inl ⟨by rfl, ?_⟩) (by assumption) ?_
                 rotate_left
                 ·intro w hSw
                  try dsimp only at hSw
                  go_simp
                  try with_reducible rfl
                 simp only [Act.put, z1, z2, z3, z4, z5, z6]
                 refine tkH (i := 12) (v := ?_) rfl (by kernel_rfl) (fun _ _ _ h => h) (Or.inl ⟨by rfl, ?_⟩) (by assumption) ?_
                 rotate_left
                 ·intro w hSw
                  try dsimp only at hSw
                  go_simp
                  try with_reducible rfl
                 simp only [Act.put, z1, z2, z3, z4, z5, z6]
                 refine tkH (i := 13) (v := ?_) rfl (by kernel_rfl) (fun _ _ _ h => h) (Or.inl ⟨by rfl, ?_⟩) (by assumption) ?_
                 rotate_left
                 ·intro w hSw
                  have q1 := range_block HRGK.out (hSw.block _ HGK.out)
                  have q2 := range_block HRGL.out (hSw.block _ HGL.out)
                  have q3 := range_block HRGM.out (hSw.block _ HGK.out)
                  try (first | refine (exec_load_mid 64 _ rfl g (k * 4) rfl [_, _] _ q1 Tryz.underlying64 rfl (by kernel_rfl)).trans ?_ | refine (exec_load_mid 64 _ rfl gl (t * 3) rfl [_, _] _ q2 Tryz.underlying64 rfl (by kernel_rfl)).trans ?_ | refine (exec_load_mid 64 _ rfl g (mm * 4) rfl [_, _] _ q3 Tryz.underlying64 rfl (by kernel_rfl)).trans ?_)
                  go_simp
                  try with_reducible rfl
                 simp only [Act.put, z1, z2, z3, z4, z5, z6]
                 refine wpAnyH_ready (rs := [14]) (by kernel_rfl) (by simp) ?_
                 refine AllReadyH.cons rfl (fun Kc hKc => ?_) AllReadyH.nil
                 go_simp
                 go_wp2_with ((first | (with_reducible refine (PKM.out _).mono ?_; rintro e wq ⟨rfl, hb'⟩) | (with_reducible refine (PMT.out _).mono ?_; rintro e wq ⟨rfl, hb'⟩)))
                 refine hKc.out _ _ ?_ (fun hHeld => ?_)
                 ·first | assumption | exact hHeld | exact btr hHeld hb'
                 clear hKc Kc
                 refine tkH (i := 15) (v := ?_) rfl (by kernel_rfl) (fun _ _ _ h => h) (Or.inl ⟨by rfl, ?_⟩) (by assumption) ?_
                 rotate_left
                 ·intro w hSw
                  try dsimp only at hSw
                  go_simp
                  try with_reducible rfl
                 simp only [Act.put, z1, z2, z3, z4, z5, z6]
                 refine tkH (i := 16) (v := ?_) rfl (by kernel_rfl) (fun _ _ _ h => h) (Or.inl ⟨by rfl, ?_⟩) (by assumption) ?_
                 rotate_left
                 ·intro w hSw
                  try dsimp only at hSw
                  go_simp
                  try with_reducible rfl
                 simp only [Act.put, z1, z2, z3, z4, z5, z6]
                 refine tkH (i := 17) (v := ?_) rfl (by kernel_rfl) (fun _ _ _ h => h) (Or.inl ⟨by rfl, ?_⟩) (by assumption) ?_
                 rotate_left
                 ·intro w hSw
                  try dsimp only at hSw
                  go_simp
                  try with_reducible rfl
                 simp only [Act.put, z1, z2, z3, z4, z5, z6]
                 refine tkH (i := 18) (v := ?_) rfl (by kernel_rfl) (fun _ _ _ h => h) (Or.inl ⟨by rfl, ?_⟩) (by assumption) ?_
                 rotate_left
                 ·intro w hSw
                  try dsimp only at hSw
                  go_simp
                  try with_reducible rfl
                 simp only [Act.put, z1, z2, z3, z4, z5, z6]
                 refine tkH (i := 19) (v := ?_) rfl (by kernel_rfl) (fun _ _ _ h => h) (Or.inl ⟨by rfl, ?_⟩) (by assumption) ?_
                 rotate_left
                 ·intro w hSw
                  try dsimp only at hSw
                  go_simp
                  try with_reducible rfl
                 simp only [Act.put, z1, z2, z3, z4, z5, z6]
                 refine tkH (i := 20) (v := ?_) rfl (by kernel_rfl) (fun _ _ _ h => h) (Or.inl ⟨by rfl, ?_⟩) (by assumption) ?_
                 rotate_left
                 ·intro w hSw
                  try dsimp only at hSw
                  go_simp
                  try with_reducible rfl
                 simp only [Act.put, z1, z2, z3, z4, z5, z6]
                 refine tkH (i := 21) (v := ?_) rfl (by kernel_rfl) (fun _ _ _ h => h) (Or.inl ⟨by rfl, ?_⟩) (by assumption) ?_
                 rotate_left
                 ·intro w hSw
                  have q1 := range_block HRGK.out (hSw.block _ HGK.out)
                  have q2 := range_block HRGL.out (hSw.block _ HGL.out)
                  have q3 := range_block HRGM.out (hSw.block _ HGK.out)
                  try (first | refine (exec_load_mid 64 _ rfl g (k * 4) rfl [_, _] _ q1 Tryz.underlying64 rfl (by kernel_rfl)).trans ?_ | refine (exec_load_mid 64 _ rfl gl (t * 3) rfl [_, _] _ q2 Tryz.underlying64 rfl (by kernel_rfl)).trans ?_ | refine (exec_load_mid 64 _ rfl g (mm * 4) rfl [_, _] _ q3 Tryz.underlying64 rfl (by kernel_rfl)).trans ?_)
                  go_simp
                  try with_reducible rfl
                 simp only [Act.put, z1, z2, z3, z4, z5, z6]
                 refine tkH (i := 22) (v := ?_) rfl (by kernel_rfl) (fun _ _ _ h => h) (Or.inl ⟨by rfl, ?_⟩) (by assumption) ?_
                 rotate_left
                 ·intro w hSw
                  try dsimp only at hSw
                  go_simp
                  try with_reducible rfl
                 simp only [Act.put, z1, z2, z3, z4, z5, z6]
                 refine tkH (i := 23) (v := ?_) rfl (by kernel_rfl) (fun _ _ _ h => h) (Or.inl ⟨by rfl, ?_⟩) (by assumption) ?_
                 rotate_left
                 ·intro w hSw
                  try dsimp only at hSw
                  go_simp
                  try with_reducible rfl
                 simp only [Act.put, z1, z2, z3, z4, z5, z6]
                 refine tkH (i := 24) (v := ?_) rfl (by kernel_rfl) (fun _ _ _ h => h) (Or.inl ⟨by rfl, ?_⟩) (by assumption) ?_
                 rotate_left
                 ·intro w hSw
                  try dsimp only at hSw
                  go_simp
                  try with_reducible rfl
                 simp only [Act.put, z1, z2, z3, z4, z5, z6]
                 refine tkH (i := 25) (v := ?_) rfl (by kernel_rfl) (fun _ _ _ h => h) (Or.inl ⟨by rfl, ?_⟩) (by assumption) ?_
                 rotate_left
                 ·intro w hSw
                  try dsimp only at hSw
                  go_simp
                  try with_reducible rfl
                 simp only [Act.put, z1, z2, z3, z4, z5, z6]
                 refine tkH (i := 26) (v := ?_) rfl (by kernel_rfl) (fun _ _ _ h => h) (Or.inl ⟨by rfl, ?_⟩) (by assumption) ?_
                 rotate_left
                 ·intro w hSw
                  have q1 := range_block HRGK.out (hSw.block _ HGK.out)
                  have q2 := range_block HRGL.out (hSw.block _ HGL.out)
                  have q3 := range_block HRGM.out (hSw.block _ HGK.out)
                  try (first | refine (exec_load_mid 64 _ rfl g (k * 4) rfl [_, _] _ q1 Tryz.underlying64 rfl (by kernel_rfl)).trans ?_ | refine (exec_load_mid 64 _ rfl gl (t * 3) rfl [_, _] _ q2 Tryz.underlying64 rfl (by kernel_rfl)).trans ?_ | refine (exec_load_mid 64 _ rfl g (mm * 4) rfl [_, _] _ q3 Tryz.underlying64 rfl (by kernel_rfl)).trans ?_)
                  go_simp
                  try with_reducible rfl
                 simp only [Act.put, z1, z2, z3, z4, z5, z6]
                 refine wpAnyH_ready (rs := [27]) (by kernel_rfl) (by simp) ?_
                 refine AllReadyH.cons rfl (fun Kc hKc => ?_) AllReadyH.nil
                 go_simp
                 go_wp2_with ((first | (with_reducible refine (PKM.out _).mono ?_; rintro e wq ⟨rfl, hb'⟩) | (with_reducible refine (PMT.out _).mono ?_; rintro e wq ⟨rfl, hb'⟩)))
                 refine hKc.out _ _ ?_ (fun hHeld => ?_)
                 ·first | assumption | exact hHeld | exact btr hHeld hb'
                 clear hKc Kc
                 refine tkH (i := 28) (v := ?_) rfl (by kernel_rfl) (fun _ _ _ h => h) (Or.inl ⟨by rfl, ?_⟩) (by assumption) ?_
                 rotate_left
                 ·intro w hSw
                  try dsimp only at hSw
                  go_simp
                  try with_reducible rfl
                 simp only [Act.put, z1, z2, z3, z4, z5, z6]
                 refine wpAnyH_done (by kernel_rfl) ?_ _
                 have HBD := Lib.hid hHeld
                 clear hHeld
                 go_wp2_with fail
                 go_roundw
                 case rel => exact ⟨mm + 1, by go_num, by omega, by rw [HAM.out], btr HBL.out HBD.out⟩
                 case measure => simp [intOf]; omega
               ·rw [hl2] at PMT HAN
                have HAM : Hid (aloneR (posL K) (n, i) k (mm + 1) = false) := Lib.hid (by rw [HAN.out]; simp)
                clear hl2 HAN
                go_wp2_with fail
                as_aux_lemma =>
                 refine wp_region_held_drew (S := fun w' => Below w8.heap.size w8 w') (by kernel_rfl) (by exact below_drewN (Below.refl _ _) 1) (fun hHeld => ?_)
                 refine tkH (i := 0) (v := ?_) rfl (by kernel_rfl) (fun _ _ _ h => h) (Or.inl ⟨by rfl, ?_⟩) (by assumption) ?_
                 rotate_left
                 ·intro w hSw
                  try dsimp only at hSw
                  go_simp
                  try with_reducible rfl
                 simp only [Act.put, z1, z2, z3, z4, z5, z6]
                 refine tkH (i := 1) (v := ?_) rfl (by kernel_rfl) (fun _ _ _ h => h) (Or.inl ⟨by rfl, ?_⟩) (by assumption) ?_
                 rotate_left
                 ·intro w hSw
                  try dsimp only at hSw
                  go_simp
                  try with_reducible rfl
                 simp only [Act.put, z1, z2, z3, z4, z5, z6]
                 refine tkH (i := 2) (v := ?_) rfl (by kernel_rfl) (fun _ _ _ h => h) (Or.inl ⟨by rfl, ?_⟩) (by assumption) ?_
                 rotate_left
                 ·intro w hSw
                  try dsimp only at hSw
                  go_simp
                  try with_reducible rfl
                 simp only [Act.put, z1, z2, z3, z4, z5, z6]
                 refine tkH (i := 3) (v := ?_) rfl (by kernel_rfl) (fun _ _ _ h => h) (Or.inl ⟨by rfl, ?_⟩) (by assumption) ?_
                 rotate_left
                 ·intro w hSw
                  try dsimp only at hSw
                  go_simp
                  try with_reducible rfl
                 simp only [Act.put, z1, z2, z3, z4, z5, z6]
                 refine tkH (i := 4) (v := ?_) rfl (by kernel_rfl) (fun _ _ _ h => h) (Or.inl ⟨by rfl, ?_⟩) (by assumption) ?_
                 rotate_left
                 ·intro w hSw
                  try dsimp only at hSw
                  go_simp
                  try with_reducible rfl
                 simp only [Act.put, z1, z2, z3, z4, z5, z6]
                 refine tkH (i := 5) (v := ?_) rfl (by kernel_rfl) (fun _ _ _ h => h) (Or.inl ⟨by rfl, ?_⟩) (by assumption) ?_
                 rotate_left
                 ·intro w hSw
                  try dsimp only at hSw
                  go_simp
                  try with_reducible rfl
                 simp only [Act.put, z1, z2, z3, z4, z5, z6]
                 refine tkH (i := 6) (v := ?_) rfl (by kernel_rfl) (fun _ _ _ h => h) (Or.inl ⟨by rfl, ?_⟩) (by assumption) ?_
                 rotate_left
                 ·intro w hSw
                  try dsimp only at hSw
                  go_simp
                  try with_reducible rfl
                 simp only [Act.put, z1, z2, z3, z4, z5, z6]
                 refine tkH (i := 7) (v := ?_) rfl (by kernel_rfl) (fun _ _ _ h => h) (Or.inl ⟨by rfl, ?_⟩) (by assumption) ?_
                 rotate_left
                 ·intro w hSw
                  try dsimp only at hSw
                  go_simp
                  try with_reducible rfl
                 simp only [Act.put, z1, z2, z3, z4, z5, z6]
                 refine tkH (i := 8) (v := ?_) rfl (by kernel_rfl) (fun _ _ _ h => h) (Or.inl ⟨by rfl, ?_⟩) (by assumption) ?_
                 rotate_left
                 ·intro w hSw
                  have q1 := range_block HRGK.out (hSw.block _ HGK.out)
                  have q2 := range_block HRGL.out (hSw.block _ HGL.out)
                  have q3 := range_block HRGM.out (hSw.block _ HGK.out)
                  try (first | refine (exec_load_mid 64 _ rfl g (k * 4) rfl [_, _] _ q1 Tryz.underlying64 rfl (by kernel_rfl)).trans ?_ | refine (exec_load_mid 64 _ rfl gl (t * 3) rfl [_, _] _ q2 Tryz.underlying64 rfl (by kernel_rfl)).trans ?_ | refine (exec_load_mid 64 _ rfl g (mm * 4) rfl [_, _] _ q3 Tryz.underlying64 rfl (by kernel_rfl)).trans ?_)
                  go_simp
                  try with_reducible rfl
                 simp only [Act.put, z1, z2, z3, z4, z5, z6]
                 refine tkH (i := 9) (v := ?_) rfl (by kernel_rfl) (fun _ _ _ h => h) (Or.inl ⟨by rfl, ?_⟩) (by assumption) ?_
                 rotate_left
                 ·intro w hSw
                  try dsimp only at hSw
                  go_simp
                  try with_reducible rfl
                 simp only [Act.put, z1, z2, z3, z4, z5, z6]
                 refine tkH (i := 10) (v := ?_) rfl (by kernel_rfl) (fun _ _ _ h => h) (Or.inl ⟨by rfl, ?_⟩) (by assumption) ?_
                 rotate_left
                 ·intro w hSw
                  try dsimp only at hSw
                  go_simp
                  try with_reducible rfl
                 simp only [Act.put, z1, z2, z3, z4, z5, z6]
                 refine tkH (i := 11) (v := ?_) rfl (by kernel_rfl) (fun _ _ _ h => h) (Or.inl ⟨by rfl, ?_⟩) (by assumption) ?_
                 rotate_left
                 ·intro w hSw
                  try dsimp only at hSw
                  go_simp
                  try with_reducible rfl
                 simp only [Act.put, z1, z2, z3, z4, z5, z6]
                 refine tkH (i := 12) (v := ?_) rfl (by kernel_rfl) (fun _ _ _ h => h) (Or.inl ⟨by rfl, ?_⟩) (by assumption) ?_
                 rotate_left
                 ·intro w hSw
                  try dsimp only at hSw
                  go_simp
                  try with_reducible rfl
                 simp only [Act.put, z1, z2, z3, z4, z5, z6]
                 refine tkH (i := 13) (v := ?_) rfl (by kernel_rfl) (fun _ _ _ h => h) (Or.inl ⟨by rfl, ?_⟩) (by assumption) ?_
                 rotate_left
                 ·intro w hSw
                  have q1 := range_block HRGK.out (hSw.block _ HGK.out)
                  have q2 := range_block HRGL.out (hSw.block _ HGL.out)
                  have q3 := range_block HRGM.out (hSw.block _ HGK.out)
                  try (first | refine (exec_load_mid 64 _ rfl g (k * 4) rfl [_, _] _ q1 Tryz.underlying64 rfl (by kernel_rfl)).trans ?_ | refine (exec_load_mid 64 _ rfl gl (t * 3) rfl [_, _] _ q2 Tryz.underlying64 rfl (by kernel_rfl)).trans ?_ | refine (exec_load_mid 64 _ rfl g (mm * 4) rfl [_, _] _ q3 Tryz.underlying64 rfl (by kernel_rfl)).trans ?_)
                  go_simp
                  try with_reducible rfl
                 simp only [Act.put, z1, z2, z3, z4, z5, z6]
                 refine wpAnyH_ready (rs := [14]) (by kernel_rfl) (by simp) ?_
                 refine AllReadyH.cons rfl (fun Kc hKc => ?_) AllReadyH.nil
                 go_simp
                 go_wp2_with ((first | (with_reducible refine (PKM.out _).mono ?_; rintro e wq ⟨rfl, hb'⟩) | (with_reducible refine (PMT.out _).mono ?_; rintro e wq ⟨rfl, hb'⟩)))
                 refine hKc.out _ _ ?_ (fun hHeld => ?_)
                 ·first | assumption | exact hHeld | exact btr hHeld hb'
                 clear hKc Kc
                 refine tkH (i := 15) (v := ?_) rfl (by kernel_rfl) (fun _ _ _ h => h) (Or.inl ⟨by rfl, ?_⟩) (by assumption) ?_
                 rotate_left
                 ·intro w hSw
                  try dsimp only at hSw
                  go_simp
                  try with_reducible rfl
                 simp only [Act.put, z1, z2, z3, z4, z5, z6]
                 refine tkH (i := 16) (v := ?_) rfl (by kernel_rfl) (fun _ _ _ h => h) (Or.inl ⟨by rfl, ?_⟩) (by assumption) ?_
                 rotate_left
                 ·intro w hSw
                  try dsimp only at hSw
                  go_simp
                  try with_reducible rfl
                 simp only [Act.put, z1, z2, z3, z4, z5, z6]
                 refine tkH (i := 17) (v := ?_) rfl (by kernel_rfl) (fun _ _ _ h => h) (Or.inl ⟨by rfl, ?_⟩) (by assumption) ?_
                 rotate_left
                 ·intro w hSw
                  try dsimp only at hSw
                  go_simp
                  try with_reducible rfl
                 simp only [Act.put, z1, z2, z3, z4, z5, z6]
                 refine tkH (i := 18) (v := ?_) rfl (by kernel_rfl) (fun _ _ _ h => h) (Or.inl ⟨by rfl, ?_⟩) (by assumption) ?_
                 rotate_left
                 ·intro w hSw
                  try dsimp only at hSw
                  go_simp
                  try with_reducible rfl
                 simp only [Act.put, z1, z2, z3, z4, z5, z6]
                 refine tkH (i := 19) (v := ?_) rfl (by kernel_rfl) (fun _ _ _ h => h) (Or.inl ⟨by rfl, ?_⟩) (by assumption) ?_
                 rotate_left
                 ·intro w hSw
                  try dsimp only at hSw
                  go_simp
                  try with_reducible rfl
                 simp only [Act.put, z1, z2, z3, z4, z5, z6]
                 refine tkH (i := 20) (v := ?_) rfl (by kernel_rfl) (fun _ _ _ h => h) (Or.inl ⟨by rfl, ?_⟩) (by assumption) ?_
                 rotate_left
                 ·intro w hSw
                  try dsimp only at hSw
                  go_simp
                  try with_reducible rfl
                 simp only [Act.put, z1, z2, z3, z4, z5, z6]
                 refine tkH (i := 21) (v := ?_) rfl (by kernel_rfl) (fun _ _ _ h => h) (Or.inl ⟨by rfl, ?_⟩) (by assumption) ?_
                 rotate_left
                 ·intro w hSw
                  have q1 := range_block HRGK.out (hSw.block _ HGK.out)
                  have q2 := range_block HRGL.out (hSw.block _ HGL.out)
                  have q3 := range_block HRGM.out (hSw.block _ HGK.out)
                  try (first | refine (exec_load_mid 64 _ rfl g (k * 4) rfl [_, _] _ q1 Tryz.underlying64 rfl (by kernel_rfl)).trans ?_ | refine (exec_load_mid 64 _ rfl gl (t * 3) rfl [_, _] _ q2 Tryz.underlying64 rfl (by kernel_rfl)).trans ?_ | refine (exec_load_mid 64 _ rfl g (mm * 4) rfl [_, _] _ q3 Tryz.underlying64 rfl (by kernel_rfl)).trans ?_)
                  go_simp
                  try with_reducible rfl
                 simp only [Act.put, z1, z2, z3, z4, z5, z6]
                 refine tkH (i := 22) (v := ?_) rfl (by kernel_rfl) (fun _ _ _ h => h) (Or.inl ⟨by rfl, ?_⟩) (by assumption) ?_
                 rotate_left
                 ·intro w hSw
                  try dsimp only at hSw
                  go_simp
                  try with_reducible rfl
                 simp only [Act.put, z1, z2, z3, z4, z5, z6]
                 refine tkH (i := 23) (v := ?_) rfl (by kernel_rfl) (fun _ _ _ h => h) (Or.inl ⟨by rfl, ?_⟩) (by assumption) ?_
                 rotate_left
                 ·intro w hSw
                  try dsimp only at hSw
                  go_simp
                  try with_reducible rfl
                 simp only [Act.put, z1, z2, z3, z4, z5, z6]
                 refine tkH (i := 24) (v := ?_) rfl (by kernel_rfl) (fun _ _ _ h => h) (Or.inl ⟨by rfl, ?_⟩) (by assumption) ?_
                 rotate_left
                 ·intro w hSw
                  try dsimp only at hSw
                  go_simp
                  try with_reducible rfl
                 simp only [Act.put, z1, z2, z3, z4, z5, z6]
                 refine tkH (i := 25) (v := ?_) rfl (by kernel_rfl) (fun _ _ _ h => h) (Or.inl ⟨by rfl, ?_⟩) (by assumption) ?_
                 rotate_left
                 ·intro w hSw
                  try dsimp only at hSw
                  go_simp
                  try with_reducible rfl
                 simp only [Act.put, z1, z2, z3, z4, z5, z6]
                 refine tkH (i := 26) (v := ?_) rfl (by kernel_rfl) (fun _ _ _ h => h) (Or.inl ⟨by rfl, ?_⟩) (by assumption) ?_
                 rotate_left
                 ·intro w hSw
                  have q1 := range_block HRGK.out (hSw.block _ HGK.out)
                  have q2 := range_block HRGL.out (hSw.block _ HGL.out)
                  have q3 := range_block HRGM.out (hSw.block _ HGK.out)
                  try (first | refine (exec_load_mid 64 _ rfl g (k * 4) rfl [_, _] _ q1 Tryz.underlying64 rfl (by kernel_rfl)).trans ?_ | refine (exec_load_mid 64 _ rfl gl (t * 3) rfl [_, _] _ q2 Tryz.underlying64 rfl (by kernel_rfl)).trans ?_ | refine (exec_load_mid 64 _ rfl g (mm * 4) rfl [_, _] _ q3 Tryz.underlying64 rfl (by kernel_rfl)).trans ?_)
                  go_simp
                  try with_reducible rfl
                 simp only [Act.put, z1, z2, z3, z4, z5, z6]
                 refine wpAnyH_ready (rs := [27]) (by kernel_rfl) (by simp) ?_
                 refine AllReadyH.cons rfl (fun Kc hKc => ?_) AllReadyH.nil
                 go_simp
                 go_wp2_with ((first | (with_reducible refine (PKM.out _).mono ?_; rintro e wq ⟨rfl, hb'⟩) | (with_reducible refine (PMT.out _).mono ?_; rintro e wq ⟨rfl, hb'⟩)))
                 refine hKc.out _ _ ?_ (fun hHeld => ?_)
                 ·first | assumption | exact hHeld | exact btr hHeld hb'
                 clear hKc Kc
                 refine tkH (i := 28) (v := ?_) rfl (by kernel_rfl) (fun _ _ _ h => h) (Or.inl ⟨by rfl, ?_⟩) (by assumption) ?_
                 rotate_left
                 ·intro w hSw
                  try dsimp only at hSw
                  go_simp
                  try with_reducible rfl
                 simp only [Act.put, z1, z2, z3, z4, z5, z6]
                 refine wpAnyH_done (by kernel_rfl) ?_ _
                 have HBD := Lib.hid hHeld
                 clear hHeld
                 go_wp2_with fail
                 go_roundw
                 case rel => exact ⟨mm + 1, by go_num, by omega, by rw [HAM.out], btr HBL.out HBD.out⟩
                 case measure => simp [intOf]; omega
            ·have hmz : ¬ (mm : Int) < (M : Int) := by omega
             have hme : mm = (posL K).length := by unfold posL; rw [List.length_map, ← HM.out]; omega
             have HRK8 := Lib.hid (HRK7.out.keep HBL.out)
             rcases hab : aloneR (posL K) (n, i) k mm with _ | _
             ·have HLE : Hid (leftK pt (posL K) (n, i) (k + 1) = leftK pt (posL K) (n, i) k) := Lib.hid (by rw [HLN.out, ← hme, hab, if_neg (by simp)])
              clear hab hme
              go_wp2_with fail
              go_roundw
              case rel => exact ⟨k + 1, by go_num, by omega, by rw [HLE.out]; exact HRK8.out⟩
              case measure => simp [intOf]; omega
             ·have HLE : Hid (leftK pt (posL K) (n, i) (k + 1) = leftK pt (posL K) (n, i) k - pt kn ki) := Lib.hid (by rw [HLN.out, ← hme, hab, if_pos (by simp)])
              clear hab hme
              as_aux_lemma =>
               have PO := Lib.hid (fun w => ofint_any (pt kn ki) (HP64.out kn ki).1 (HP64.out kn ki).2 w)
               have PM := Lib.hid (fun w => lminus_any (pt kn ki) w)
               have PPL := Lib.hid (fun w => lplus_any (leftK pt (posL K) (n, i) k) (-(pt kn ki)) w)
               rw [show leftK pt (posL K) (n, i) k + -(pt kn ki) = leftK pt (posL K) (n, i) (k + 1) by rw [HLE.out]; omega] at PPL
               obtain ⟨y0, hy0⟩ : ∃ y0, y0 = leftK pt (posL K) (n, i) k := ⟨_, rfl⟩
               obtain ⟨y1, hy1⟩ : ∃ y1, y1 = leftK pt (posL K) (n, i) (k + 1) := ⟨_, rfl⟩
               rw [← hy0] at PPL HRK8
               rw [← hy1] at PPL
               have HY1 := Lib.hid hy1
               clear hy0 hy1 HLE
               go_wp2_with fail
               refine wp_region_any (by kernel_rfl) ?_
               have hbd : Below w8.heap.size w8 { heap := w8.heap, tape := w8.tape, drawn := w8.drawn + 1, os := w8.os, output := w8.output } := below_drewN (Below.refl _ _) 1
               have HRW := Lib.hid (HRK8.out.keep hbd)
               have HIW := Lib.hid (HI8.out.keep hbd)
               clear hbd HRK8 HI8
               generalize ({ heap := w8.heap, tape := w8.tape, drawn := w8.drawn + 1, os := w8.os, output := w8.output } : World) = w9 at *
               refine tkA (i := 1) (v := ?_) rfl (by kernel_rfl) (fun _ _ _ h => h) (Or.inl ⟨by rfl, ?_⟩) ?_
               rotate_left
               ·intro w
                go_simp
                try with_reducible rfl
               simp only [Act.put, z1, z2, z3, z4, z5, z6]
               refine tkA (i := 2) (v := ?_) rfl (by kernel_rfl) (fun _ _ _ h => h) (Or.inl ⟨by rfl, ?_⟩) ?_
               rotate_left
               ·intro w
                go_simp
                try with_reducible rfl
               simp only [Act.put, z1, z2, z3, z4, z5, z6]
               refine wpAny_ready (rs := [0, 3]) (by kernel_rfl) (by simp) ?_
               refine AllReady.cons rfl (fun Kc hKc => ?_) (AllReady.cons rfl (fun Kc hKc => ?_) AllReady.nil)
               ·have HKc := Lib.hid hKc
                clear hKc
                first | refine wp_load_row 103 _ rfl RB rfl 103 (longA y0) (0, 0) _ HRW.out.box Tryz.underlying103 rfl (long_info y0) ?_ | (have q2 := (HIW.out.kept.at_ HKP.out).2 2 _ rfl; go_simp; clear q2)
                refine HKc.out _ _ ?_
                clear HKc Kc
                refine wpAny_ready (rs := [3]) (by kernel_rfl) (by simp) ?_
                refine AllReady.cons rfl (fun Kc hKc => ?_) AllReady.nil
                have HKc := Lib.hid hKc
                clear hKc
                go_simp
                refine HKc.out _ _ ?_
                clear HKc Kc
                refine wpAny_ready (rs := [4]) (by kernel_rfl) (by simp) ?_
                refine AllReady.cons rfl (fun Kc hKc => ?_) AllReady.nil
                have HKc := Lib.hid hKc
                clear hKc
                go_simp
                refine HKc.out _ _ ?_
                clear HKc Kc
                refine wpAny_ready (rs := [5]) (by kernel_rfl) (by simp) ?_
                refine AllReady.cons rfl (fun Kc hKc => ?_) AllReady.nil
                have HKc := Lib.hid hKc
                clear hKc
                first | refine wp_load_row 103 _ rfl RB rfl 103 (longA y0) (0, 0) _ HRW.out.box Tryz.underlying103 rfl (long_info y0) ?_ | (have q2 := (HIW.out.kept.at_ HKP.out).2 2 _ rfl; go_simp; clear q2)
                refine HKc.out _ _ ?_
                clear HKc Kc
                refine wpAny_ready (rs := [6]) (by kernel_rfl) (by simp) ?_
                refine AllReady.cons rfl (fun Kc hKc => ?_) AllReady.nil
                have HKc := Lib.hid hKc
                clear hKc
                go_simp
                go_wp2_with ((first | (with_reducible refine (PO.out _).mono ?_; rintro e wq ⟨rfl, hb⟩; have HRW := Lib.hid (HRW.out.keep hb); have HIW := Lib.hid (HIW.out.keep hb); clear hb) | (with_reducible refine (PM.out _).mono ?_; rintro e wq ⟨rfl, hb⟩; have HRW := Lib.hid (HRW.out.keep hb); have HIW := Lib.hid (HIW.out.keep hb); clear hb) | (with_reducible refine (PPL.out _).mono ?_; rintro e wq ⟨rfl, hb⟩; have HRW := Lib.hid (HRW.out.keep hb); have HIW := Lib.hid (HIW.out.keep hb); clear hb)))
                refine HKc.out _ _ ?_
                clear HKc Kc
                refine wpAny_ready (rs := [7]) (by kernel_rfl) (by simp) ?_
                refine AllReady.cons rfl (fun Kc hKc => ?_) AllReady.nil
                have HKc := Lib.hid hKc
                clear hKc
                go_simp
                go_wp2_with ((first | (with_reducible refine (PO.out _).mono ?_; rintro e wq ⟨rfl, hb⟩; have HRW := Lib.hid (HRW.out.keep hb); have HIW := Lib.hid (HIW.out.keep hb); clear hb) | (with_reducible refine (PM.out _).mono ?_; rintro e wq ⟨rfl, hb⟩; have HRW := Lib.hid (HRW.out.keep hb); have HIW := Lib.hid (HIW.out.keep hb); clear hb) | (with_reducible refine (PPL.out _).mono ?_; rintro e wq ⟨rfl, hb⟩; have HRW := Lib.hid (HRW.out.keep hb); have HIW := Lib.hid (HIW.out.keep hb); clear hb)))
                refine HKc.out _ _ ?_
                clear HKc Kc
                refine wpAny_ready (rs := [8]) (by kernel_rfl) (by simp) ?_
                refine AllReady.cons rfl (fun Kc hKc => ?_) AllReady.nil
                have HKc := Lib.hid hKc
                clear hKc
                go_simp
                go_wp2_with ((first | (with_reducible refine (PO.out _).mono ?_; rintro e wq ⟨rfl, hb⟩; have HRW := Lib.hid (HRW.out.keep hb); have HIW := Lib.hid (HIW.out.keep hb); clear hb) | (with_reducible refine (PM.out _).mono ?_; rintro e wq ⟨rfl, hb⟩; have HRW := Lib.hid (HRW.out.keep hb); have HIW := Lib.hid (HIW.out.keep hb); clear hb) | (with_reducible refine (PPL.out _).mono ?_; rintro e wq ⟨rfl, hb⟩; have HRW := Lib.hid (HRW.out.keep hb); have HIW := Lib.hid (HIW.out.keep hb); clear hb)))
                refine HKc.out _ _ ?_
                clear HKc Kc
                refine wpAny_ready (rs := [9]) (by kernel_rfl) (by simp) ?_
                refine AllReady.cons rfl (fun Kc hKc => ?_) AllReady.nil
                have HKc := Lib.hid hKc
                clear hKc
                have HRK13 : Hid (RkI w5 _ RB y1) := Lib.hid ⟨HRW.out.box.rowNew, grown_trans HRW.out.gr (grown_setRow _ _ _)⟩; have hq12 := HRW.out.box; refine wp_store_row 103 _ _ rfl RB (longA y1) rfl rfl 103 (longA y0) hq12 (long_info _) (by rw [longA_size, longA_size]) (longA_one _) ?_
                refine HKc.out _ _ ?_
                clear HKc Kc
                refine wpAny_done (by kernel_rfl) ?_ _
                go_wp2_with fail
                go_roundw
                case rel => exact ⟨k + 1, by go_num, by omega, by rw [← HY1.out]; exact HRK13.out⟩
                case measure => simp [intOf]; omega
               ·have HKc := Lib.hid hKc
                clear hKc
                go_simp
                refine HKc.out _ _ ?_
                clear HKc Kc
                refine tkA (i := 4) (v := ?_) rfl (by kernel_rfl) (fun _ _ _ h => h) (Or.inl ⟨by rfl, ?_⟩) ?_
                rotate_left
                ·intro w
                 go_simp
                 try with_reducible rfl
                simp only [Act.put, z1, z2, z3, z4, z5, z6]
                refine wpAny_ready (rs := [0, 5]) (by kernel_rfl) (by simp) ?_
                refine AllReady.cons rfl (fun Kc hKc => ?_) (AllReady.cons rfl (fun Kc hKc => ?_) AllReady.nil)
                ·have HKc := Lib.hid hKc
                 clear hKc
                 first | refine wp_load_row 103 _ rfl RB rfl 103 (longA y0) (0, 0) _ HRW.out.box Tryz.underlying103 rfl (long_info y0) ?_ | (have q2 := (HIW.out.kept.at_ HKP.out).2 2 _ rfl; go_simp; clear q2)
                 refine HKc.out _ _ ?_
                 clear HKc Kc
                 refine wpAny_ready (rs := [5]) (by kernel_rfl) (by simp) ?_
                 refine AllReady.cons rfl (fun Kc hKc => ?_) AllReady.nil
                 have HKc := Lib.hid hKc
                 clear hKc
                 first | refine wp_load_row 103 _ rfl RB rfl 103 (longA y0) (0, 0) _ HRW.out.box Tryz.underlying103 rfl (long_info y0) ?_ | (have q2 := (HIW.out.kept.at_ HKP.out).2 2 _ rfl; go_simp; clear q2)
                 refine HKc.out _ _ ?_
                 clear HKc Kc
                 refine wpAny_ready (rs := [6]) (by kernel_rfl) (by simp) ?_
                 refine AllReady.cons rfl (fun Kc hKc => ?_) AllReady.nil
                 have HKc := Lib.hid hKc
                 clear hKc
                 go_simp
                 go_wp2_with ((first | (with_reducible refine (PO.out _).mono ?_; rintro e wq ⟨rfl, hb⟩; have HRW := Lib.hid (HRW.out.keep hb); have HIW := Lib.hid (HIW.out.keep hb); clear hb) | (with_reducible refine (PM.out _).mono ?_; rintro e wq ⟨rfl, hb⟩; have HRW := Lib.hid (HRW.out.keep hb); have HIW := Lib.hid (HIW.out.keep hb); clear hb) | (with_reducible refine (PPL.out _).mono ?_; rintro e wq ⟨rfl, hb⟩; have HRW := Lib.hid (HRW.out.keep hb); have HIW := Lib.hid (HIW.out.keep hb); clear hb)))
                 refine HKc.out _ _ ?_
                 clear HKc Kc
                 refine wpAny_ready (rs := [7]) (by kernel_rfl) (by simp) ?_
                 refine AllReady.cons rfl (fun Kc hKc => ?_) AllReady.nil
                 have HKc := Lib.hid hKc
                 clear hKc
                 go_simp
                 go_wp2_with ((first | (with_reducible refine (PO.out _).mono ?_; rintro e wq ⟨rfl, hb⟩; have HRW := Lib.hid (HRW.out.keep hb); have HIW := Lib.hid (HIW.out.keep hb); clear hb) | (with_reducible refine (PM.out _).mono ?_; rintro e wq ⟨rfl, hb⟩; have HRW := Lib.hid (HRW.out.keep hb); have HIW := Lib.hid (HIW.out.keep hb); clear hb) | (with_reducible refine (PPL.out _).mono ?_; rintro e wq ⟨rfl, hb⟩; have HRW := Lib.hid (HRW.out.keep hb); have HIW := Lib.hid (HIW.out.keep hb); clear hb)))
                 refine HKc.out _ _ ?_
                 clear HKc Kc
                 refine wpAny_ready (rs := [8]) (by kernel_rfl) (by simp) ?_
                 refine AllReady.cons rfl (fun Kc hKc => ?_) AllReady.nil
                 have HKc := Lib.hid hKc
                 clear hKc
                 go_simp
                 go_wp2_with ((first | (with_reducible refine (PO.out _).mono ?_; rintro e wq ⟨rfl, hb⟩; have HRW := Lib.hid (HRW.out.keep hb); have HIW := Lib.hid (HIW.out.keep hb); clear hb) | (with_reducible refine (PM.out _).mono ?_; rintro e wq ⟨rfl, hb⟩; have HRW := Lib.hid (HRW.out.keep hb); have HIW := Lib.hid (HIW.out.keep hb); clear hb) | (with_reducible refine (PPL.out _).mono ?_; rintro e wq ⟨rfl, hb⟩; have HRW := Lib.hid (HRW.out.keep hb); have HIW := Lib.hid (HIW.out.keep hb); clear hb)))
                 refine HKc.out _ _ ?_
                 clear HKc Kc
                 refine wpAny_ready (rs := [9]) (by kernel_rfl) (by simp) ?_
                 refine AllReady.cons rfl (fun Kc hKc => ?_) AllReady.nil
                 have HKc := Lib.hid hKc
                 clear hKc
                 have HRK13 : Hid (RkI w5 _ RB y1) := Lib.hid ⟨HRW.out.box.rowNew, grown_trans HRW.out.gr (grown_setRow _ _ _)⟩; have hq12 := HRW.out.box; refine wp_store_row 103 _ _ rfl RB (longA y1) rfl rfl 103 (longA y0) hq12 (long_info _) (by rw [longA_size, longA_size]) (longA_one _) ?_
                 refine HKc.out _ _ ?_
                 clear HKc Kc
                 refine wpAny_done (by kernel_rfl) ?_ _
                 go_wp2_with fail
                 go_roundw
                 case rel => exact ⟨k + 1, by go_num, by omega, by rw [← HY1.out]; exact HRK13.out⟩
                 case measure => simp [intOf]; omega
                ·have HKc := Lib.hid hKc
                 clear hKc
                 first | refine wp_load_row 103 _ rfl RB rfl 103 (longA y0) (0, 0) _ HRW.out.box Tryz.underlying103 rfl (long_info y0) ?_ | (have q2 := (HIW.out.kept.at_ HKP.out).2 2 _ rfl; go_simp; clear q2)
                 refine HKc.out _ _ ?_
                 clear HKc Kc
                 refine wpAny_ready (rs := [0, 6]) (by kernel_rfl) (by simp) ?_
                 refine AllReady.cons rfl (fun Kc hKc => ?_) (AllReady.cons rfl (fun Kc hKc => ?_) AllReady.nil)
                 ·have HKc := Lib.hid hKc
                  clear hKc
                  first | refine wp_load_row 103 _ rfl RB rfl 103 (longA y0) (0, 0) _ HRW.out.box Tryz.underlying103 rfl (long_info y0) ?_ | (have q2 := (HIW.out.kept.at_ HKP.out).2 2 _ rfl; go_simp; clear q2)
                  refine HKc.out _ _ ?_
                  clear HKc Kc
                  refine wpAny_ready (rs := [6]) (by kernel_rfl) (by simp) ?_
                  refine AllReady.cons rfl (fun Kc hKc => ?_) AllReady.nil
                  have HKc := Lib.hid hKc
                  clear hKc
                  go_simp
                  go_wp2_with ((first | (with_reducible refine (PO.out _).mono ?_; rintro e wq ⟨rfl, hb⟩; have HRW := Lib.hid (HRW.out.keep hb); have HIW := Lib.hid (HIW.out.keep hb); clear hb) | (with_reducible refine (PM.out _).mono ?_; rintro e wq ⟨rfl, hb⟩; have HRW := Lib.hid (HRW.out.keep hb); have HIW := Lib.hid (HIW.out.keep hb); clear hb) | (with_reducible refine (PPL.out _).mono ?_; rintro e wq ⟨rfl, hb⟩; have HRW := Lib.hid (HRW.out.keep hb); have HIW := Lib.hid (HIW.out.keep hb); clear hb)))
                  refine HKc.out _ _ ?_
                  clear HKc Kc
                  refine wpAny_ready (rs := [7]) (by kernel_rfl) (by simp) ?_
                  refine AllReady.cons rfl (fun Kc hKc => ?_) AllReady.nil
                  have HKc := Lib.hid hKc
                  clear hKc
                  go_simp
                  go_wp2_with ((first | (with_reducible refine (PO.out _).mono ?_; rintro e wq ⟨rfl, hb⟩; have HRW := Lib.hid (HRW.out.keep hb); have HIW := Lib.hid (HIW.out.keep hb); clear hb) | (with_reducible refine (PM.out _).mono ?_; rintro e wq ⟨rfl, hb⟩; have HRW := Lib.hid (HRW.out.keep hb); have HIW := Lib.hid (HIW.out.keep hb); clear hb) | (with_reducible refine (PPL.out _).mono ?_; rintro e wq ⟨rfl, hb⟩; have HRW := Lib.hid (HRW.out.keep hb); have HIW := Lib.hid (HIW.out.keep hb); clear hb)))
                  refine HKc.out _ _ ?_
                  clear HKc Kc
                  refine wpAny_ready (rs := [8]) (by kernel_rfl) (by simp) ?_
                  refine AllReady.cons rfl (fun Kc hKc => ?_) AllReady.nil
                  have HKc := Lib.hid hKc
                  clear hKc
                  go_simp
                  go_wp2_with ((first | (with_reducible refine (PO.out _).mono ?_; rintro e wq ⟨rfl, hb⟩; have HRW := Lib.hid (HRW.out.keep hb); have HIW := Lib.hid (HIW.out.keep hb); clear hb) | (with_reducible refine (PM.out _).mono ?_; rintro e wq ⟨rfl, hb⟩; have HRW := Lib.hid (HRW.out.keep hb); have HIW := Lib.hid (HIW.out.keep hb); clear hb) | (with_reducible refine (PPL.out _).mono ?_; rintro e wq ⟨rfl, hb⟩; have HRW := Lib.hid (HRW.out.keep hb); have HIW := Lib.hid (HIW.out.keep hb); clear hb)))
                  refine HKc.out _ _ ?_
                  clear HKc Kc
                  refine wpAny_ready (rs := [9]) (by kernel_rfl) (by simp) ?_
                  refine AllReady.cons rfl (fun Kc hKc => ?_) AllReady.nil
                  have HKc := Lib.hid hKc
                  clear hKc
                  have HRK13 : Hid (RkI w5 _ RB y1) := Lib.hid ⟨HRW.out.box.rowNew, grown_trans HRW.out.gr (grown_setRow _ _ _)⟩; have hq12 := HRW.out.box; refine wp_store_row 103 _ _ rfl RB (longA y1) rfl rfl 103 (longA y0) hq12 (long_info _) (by rw [longA_size, longA_size]) (longA_one _) ?_
                  refine HKc.out _ _ ?_
                  clear HKc Kc
                  refine wpAny_done (by kernel_rfl) ?_ _
                  go_wp2_with fail
                  go_roundw
                  case rel => exact ⟨k + 1, by go_num, by omega, by rw [← HY1.out]; exact HRK13.out⟩
                  case measure => simp [intOf]; omega
                 ·have HKc := Lib.hid hKc
                  clear hKc
                  go_simp
                  go_wp2_with ((first | (with_reducible refine (PO.out _).mono ?_; rintro e wq ⟨rfl, hb⟩; have HRW := Lib.hid (HRW.out.keep hb); have HIW := Lib.hid (HIW.out.keep hb); clear hb) | (with_reducible refine (PM.out _).mono ?_; rintro e wq ⟨rfl, hb⟩; have HRW := Lib.hid (HRW.out.keep hb); have HIW := Lib.hid (HIW.out.keep hb); clear hb) | (with_reducible refine (PPL.out _).mono ?_; rintro e wq ⟨rfl, hb⟩; have HRW := Lib.hid (HRW.out.keep hb); have HIW := Lib.hid (HIW.out.keep hb); clear hb)))
                  refine HKc.out _ _ ?_
                  clear HKc Kc
                  refine wpAny_ready (rs := [0, 7]) (by kernel_rfl) (by simp) ?_
                  refine AllReady.cons rfl (fun Kc hKc => ?_) (AllReady.cons rfl (fun Kc hKc => ?_) AllReady.nil)
                  ·have HKc := Lib.hid hKc
                   clear hKc
                   first | refine wp_load_row 103 _ rfl RB rfl 103 (longA y0) (0, 0) _ HRW.out.box Tryz.underlying103 rfl (long_info y0) ?_ | (have q2 := (HIW.out.kept.at_ HKP.out).2 2 _ rfl; go_simp; clear q2)
                   refine HKc.out _ _ ?_
                   clear HKc Kc
                   refine wpAny_ready (rs := [7]) (by kernel_rfl) (by simp) ?_
                   refine AllReady.cons rfl (fun Kc hKc => ?_) AllReady.nil
                   have HKc := Lib.hid hKc
                   clear hKc
                   go_simp
                   go_wp2_with ((first | (with_reducible refine (PO.out _).mono ?_; rintro e wq ⟨rfl, hb⟩; have HRW := Lib.hid (HRW.out.keep hb); have HIW := Lib.hid (HIW.out.keep hb); clear hb) | (with_reducible refine (PM.out _).mono ?_; rintro e wq ⟨rfl, hb⟩; have HRW := Lib.hid (HRW.out.keep hb); have HIW := Lib.hid (HIW.out.keep hb); clear hb) | (with_reducible refine (PPL.out _).mono ?_; rintro e wq ⟨rfl, hb⟩; have HRW := Lib.hid (HRW.out.keep hb); have HIW := Lib.hid (HIW.out.keep hb); clear hb)))
                   refine HKc.out _ _ ?_
                   clear HKc Kc
                   refine wpAny_ready (rs := [8]) (by kernel_rfl) (by simp) ?_
                   refine AllReady.cons rfl (fun Kc hKc => ?_) AllReady.nil
                   have HKc := Lib.hid hKc
                   clear hKc
                   go_simp
                   go_wp2_with ((first | (with_reducible refine (PO.out _).mono ?_; rintro e wq ⟨rfl, hb⟩; have HRW := Lib.hid (HRW.out.keep hb); have HIW := Lib.hid (HIW.out.keep hb); clear hb) | (with_reducible refine (PM.out _).mono ?_; rintro e wq ⟨rfl, hb⟩; have HRW := Lib.hid (HRW.out.keep hb); have HIW := Lib.hid (HIW.out.keep hb); clear hb) | (with_reducible refine (PPL.out _).mono ?_; rintro e wq ⟨rfl, hb⟩; have HRW := Lib.hid (HRW.out.keep hb); have HIW := Lib.hid (HIW.out.keep hb); clear hb)))
                   refine HKc.out _ _ ?_
                   clear HKc Kc
                   refine wpAny_ready (rs := [9]) (by kernel_rfl) (by simp) ?_
                   refine AllReady.cons rfl (fun Kc hKc => ?_) AllReady.nil
                   have HKc := Lib.hid hKc
                   clear hKc
                   have HRK13 : Hid (RkI w5 _ RB y1) := Lib.hid ⟨HRW.out.box.rowNew, grown_trans HRW.out.gr (grown_setRow _ _ _)⟩; have hq12 := HRW.out.box; refine wp_store_row 103 _ _ rfl RB (longA y1) rfl rfl 103 (longA y0) hq12 (long_info _) (by rw [longA_size, longA_size]) (longA_one _) ?_
                   refine HKc.out _ _ ?_
                   clear HKc Kc
                   refine wpAny_done (by kernel_rfl) ?_ _
                   go_wp2_with fail
                   go_roundw
                   case rel => exact ⟨k + 1, by go_num, by omega, by rw [← HY1.out]; exact HRK13.out⟩
                   case measure => simp [intOf]; omega
                  ·have HKc := Lib.hid hKc
                   clear hKc
                   go_simp
                   go_wp2_with ((first | (with_reducible refine (PO.out _).mono ?_; rintro e wq ⟨rfl, hb⟩; have HRW := Lib.hid (HRW.out.keep hb); have HIW := Lib.hid (HIW.out.keep hb); clear hb) | (with_reducible refine (PM.out _).mono ?_; rintro e wq ⟨rfl, hb⟩; have HRW := Lib.hid (HRW.out.keep hb); have HIW := Lib.hid (HIW.out.keep hb); clear hb) | (with_reducible refine (PPL.out _).mono ?_; rintro e wq ⟨rfl, hb⟩; have HRW := Lib.hid (HRW.out.keep hb); have HIW := Lib.hid (HIW.out.keep hb); clear hb)))
                   refine HKc.out _ _ ?_
                   clear HKc Kc
                   refine wpAny_ready (rs := [0]) (by kernel_rfl) (by simp) ?_
                   refine AllReady.cons rfl (fun Kc hKc => ?_) AllReady.nil
                   have HKc := Lib.hid hKc
                   clear hKc
                   first | refine wp_load_row 103 _ rfl RB rfl 103 (longA y0) (0, 0) _ HRW.out.box Tryz.underlying103 rfl (long_info y0) ?_ | (have q2 := (HIW.out.kept.at_ HKP.out).2 2 _ rfl; go_simp; clear q2)
                   refine HKc.out _ _ ?_
                   clear HKc Kc
                   refine wpAny_ready (rs := [8]) (by kernel_rfl) (by simp) ?_
                   refine AllReady.cons rfl (fun Kc hKc => ?_) AllReady.nil
                   have HKc := Lib.hid hKc
                   clear hKc
                   go_simp
                   go_wp2_with ((first | (with_reducible refine (PO.out _).mono ?_; rintro e wq ⟨rfl, hb⟩; have HRW := Lib.hid (HRW.out.keep hb); have HIW := Lib.hid (HIW.out.keep hb); clear hb) | (with_reducible refine (PM.out _).mono ?_; rintro e wq ⟨rfl, hb⟩; have HRW := Lib.hid (HRW.out.keep hb); have HIW := Lib.hid (HIW.out.keep hb); clear hb) | (with_reducible refine (PPL.out _).mono ?_; rintro e wq ⟨rfl, hb⟩; have HRW := Lib.hid (HRW.out.keep hb); have HIW := Lib.hid (HIW.out.keep hb); clear hb)))
                   refine HKc.out _ _ ?_
                   clear HKc Kc
                   refine wpAny_ready (rs := [9]) (by kernel_rfl) (by simp) ?_
                   refine AllReady.cons rfl (fun Kc hKc => ?_) AllReady.nil
                   have HKc := Lib.hid hKc
                   clear hKc
                   have HRK13 : Hid (RkI w5 _ RB y1) := Lib.hid ⟨HRW.out.box.rowNew, grown_trans HRW.out.gr (grown_setRow _ _ _)⟩; have hq12 := HRW.out.box; refine wp_store_row 103 _ _ rfl RB (longA y1) rfl rfl 103 (longA y0) hq12 (long_info _) (by rw [longA_size, longA_size]) (longA_one _) ?_
                   refine HKc.out _ _ ?_
                   clear HKc Kc
                   refine wpAny_done (by kernel_rfl) ?_ _
                   go_wp2_with fail
                   go_roundw
                   case rel => exact ⟨k + 1, by go_num, by omega, by rw [← HY1.out]; exact HRK13.out⟩
                   case measure => simp [intOf]; omega
        ·have hkz : ¬ (k : Int) < (M : Int) := by omega
         have HLE : Hid (leftK pt (posL K) (n, i) k = rest pt (posL K) (n, i)) := Lib.hid (by
          rw [← leftK_all HND.out, show k = (posL K).length by unfold posL; rw [List.length_map, ← HM.out]; omega])
         have hlb := leftK_bd (K := posL K) (p := (n, i)) (fun n i => HP64.out n i) k
         rw [HLE.out] at hlb
         have HRKE : Hid (RkI w5 w6 RB (rest pt (posL K) (n, i))) := Lib.hid (by rw [← HLE.out]; exact HRK.out)
         obtain ⟨x, hx⟩ : ∃ x, x = rest pt (posL K) (n, i) := ⟨_, rfl⟩
         rw [← hx] at hlb HRKE
         have HX := Lib.hid hx
         clear hx HRK
         have q0 := HRKE.out.box
         go_wp2_with (refine wpList_load_row rfl 103 _ rfl RB rfl 103 (longA x) (0, 0) _ q0 Tryz.underlying103 rfl (long_info x) ?_)
         clear q0
         have HFX : Hid (posJ lo n t + 1 ≤ Tl.length) := Lib.hid (List.getElem?_eq_some_iff.1 HTT.out).1
         rw [show (K.map fun q => (q.1, q.2.1)) = posL K from rfl, ← HX.out] at HNXT
         by_cases hfx : -9223372036854775808 ≤ x ∧ x ≤ 9223372036854775807
         ·have PI := Lib.hid (fun w => lint_yes x hfx.1 hfx.2 w)
          have HNX2 : Hid (keptAt pt least Tl (posJ lo n t + 1) = some (if least ≤ x then K ++ [(n, i, x)] else K)) := Lib.hid (by rw [HNXT.out, if_pos (fits_iff.2 hfx)])
          clear HNXT
          with_reducible refine (PI.out _).mono ?_
          rintro e w7 ⟨rfl, hb⟩
          have HI7 := Lib.hid (HI6.out.keep hb)
          clear hb
          by_cases hlx : least ≤ x
          ·have HNX3 : Hid (keptAt pt least Tl (posJ lo n (t + 1)) = some (K ++ [(n, i, x)])) := Lib.hid (by rw [HPY.out, HNX2.out, if_pos hlx])
           clear HNX2
           go_wp2_with fail
           refine wp_region_any (by kernel_rfl) ?_
           have hbd : Below w7.heap.size w7 { heap := w7.heap, tape := w7.tape, drawn := w7.drawn + 1, os := w7.os, output := w7.output } := below_drewN (Below.refl _ _) 1
           have HI8 := Lib.hid (HI7.out.keep hbd)
           clear hbd HI7
           generalize ({ heap := w7.heap, tape := w7.tape, drawn := w7.drawn + 1, os := w7.os, output := w7.output } : World) = w8 at *
           have q1 := range_two (HI8.out.told.at_ HPP.out).2
           have q2 := (HI8.out.told.at_ HPP.out).2 2 _ rfl
           refine tkA (i := 0) (v := ?_) rfl (by kernel_rfl) (fun _ _ _ h => h) (Or.inl ⟨by rfl, ?_⟩) ?_
           rotate_left
           ·intro w
            go_simp
            try with_reducible rfl
           simp only [Act.put, z1, z2, z3, z4, z5, z6]
           refine wpAny_still_tail [false, true, true, true, true, true, true, true, true, true, true, true, true] [0] _ (by kernel_rfl) (by kernel_rfl) ?_
           simp only [dropAt, List.length_cons, List.length_nil, List.drop_succ_cons, List.drop_zero]
           iterate 12 (first | refine wpStill_load_mid (by rfl) 64 _ rfl gl (t * 3) rfl [.int .i64 (n : Int), .int .u64 (i : Int)] _ q1 Tryz.underlying64 rfl (by kernel_rfl) ?_ | still_step)
           refine wpStill_nil ?_
           try simp only [Act.put, z1, z2, z3, z4, z5, z6]
           clear q1 q2
           have HPA : Hid (w8.ownsRow w.heap.size 106 4 (.slice oo M oc) M (rsCells pt K)) := Lib.hid (by
            have h1 := HI8.out.kept
            unfold RrOwn at h1
            rw [← HM.out] at h1
            exact h1)
           have hc1 : M + 1 ≤ maxLen := by unfold maxLen; omega
           have hc4 : (M + 1) * 32 ≤ 140737488355328 := by omega
           have HB9 := Lib.hid (HI8.out.bel.alloc HI8.out.bel.size (.cells #[.int .i64 (n : Int), .int .u64 (i : Int), .int .i64 (pt n i), .int .i64 x] 106))
           go_wp2_with (at_builtin; go_loud (refine wpList_append_own_at _ rfl _ _ 48 rfl w.heap.size 106 iR (.agg #[.int .i64 0, .int .u64 0, .int .i64 0, .int .i64 0]) 4 32 Tryz.underlying48 hR hR0 hR1 hR2 rfl (by decide) _ M _ rfl (World.ownsRow.alloc HPA.out _) ⟨w8.heap.size, 0, none⟩ 1 1 [.int .i64 (n : Int), .int .u64 (i : Int), .int .i64 (pt n i), .int .i64 x] rfl rfl (cells_new _ rfl) ?c2 hc1 hc4 ?c5 ?_))
           case c2 => simp [Value.oneCell']
           case c5 => exact HB9.out.size
           intro v5 w9 hown' hgrow hnil' hq5
           have HNW : Hid (RrOwn w9 w.heap.size v5 pt (K ++ [(n, i, x)])) := Lib.hid (RrOwn.push HM.out hown')
           have HTW : Hid (RfOwn w9 w.heap.size (.slice (some ⟨gl, 0, none⟩) N cap) pt lo) := Lib.hid (own_gr (World.ownsRow.alloc HI8.out.told _) hgrow (fun k e => by
            intro e2
            have hne := HOO.out k e
            exact hne e2))
           have HBW := Lib.hid (HB9.out.grown hgrow HB9.out.size (fun k e => (HPA.out.lt k e).1))
           clear hown' hgrow hnil' hq5 hc1 hc4
           go_wp2_with fail
           go_roundw
           case rel => exact ⟨t + 1, K ++ [(n, i, x)], by go_num, by omega, HNX3.out, ⟨HTW.out, HNW.out, HBW.out⟩⟩
           case measure => simp [intOf]; omega
          ·have HNX3 : Hid (keptAt pt least Tl (posJ lo n (t + 1)) = some K) := Lib.hid (by rw [HPY.out, HNX2.out, if_neg hlx])
           clear HNX2
           go_wp2_with fail
           go_roundw
           case rel => exact ⟨t + 1, K, by go_num, by omega, HNX3.out, HI7.out⟩
           case measure => simp [intOf]; omega
         ·have PI := Lib.hid (fun w => lint_no x (by omega) (by omega) hfx w)
          have HKF : Hid (hiKept pt least b = none) := Lib.hid (by
           rw [HKD.out]
           refine keptAt_none HFX.out ?_
           rw [HNXT.out, if_neg (by rw [fits_iff]; exact hfx)])
          have h4 := HIN.out HKF.out
          have HF : Hid (∀ w', Below w.heap.size w w' → RHiPost w pt least budget b (.returned (.tuple #[.slice none 0 0, .int .i64 4])) w') := Lib.hid (fun w' hb' => ⟨_, by rw [h4], fun h => absurd h (by rw [h4]; decide), fun _ => rfl, hb'⟩)
          clear HNXT h4
          with_reducible refine (PI.out _).mono ?_
          rintro e w7 ⟨rfl, hb⟩
          have HI7 := Lib.hid (HI6.out.keep hb)
          clear hb
          go_wp2_with fail
          go_ret2
          exact HF.out _ HI7.out.bel

      ·have hnz : ¬ (n : Int) = (j : Int) := by omega
       have HPY : Hid (posJ lo j (t + 1) = posJ lo j t) := Lib.hid (posJ_not hp hnj)
       clear hp hc2
       go_wp2_with fail
       go_roundw
       case rel => exact ⟨t + 1, K, by go_num, by omega, by rw [HPY.out]; exact HK.out, HI.out⟩
       case measure => simp [intOf]; omega
     ·have htz : ¬ (t : Int) < (N : Int) := by omega
      have hte : t = lo.length := by have := HN.out; omega
      have HK2 : Hid (keptAt pt least Tl (posJ lo (j + 1) 0) = some K) := Lib.hid (by rw [← posJ_row, ← hte]; exact HK.out)
      go_wp2_with fail
      go_roundw
      case rel => exact ⟨j + 1, K, by go_num, by omega, HK2.out, HI.out⟩
      case measure => simp [intOf]; omega
   ·have hjz : ¬ (j : Int) ≤ (b : Int) := by omega
    have HKF : Hid (hiKept pt least b = some K) := Lib.hid (by
     rw [HKD.out, ← HK.out, show j = b + 1 by omega, posJ_end, ← HTD.out])
    have HF : Hid (RHiPost w pt least budget b (.returned (.tuple #[u10, .int .i64 0])) w2) := Lib.hid ⟨_, by rw [HIE.out _ HKF.out], fun _ => ⟨K, HKF.out, HI.out.kept⟩, fun h => absurd (HIE.out _ HKF.out) h, HI.out.bel⟩
    go_wp2_with fail
    go_ret2
    exact HF.out
 ·have hv := hn1 hE
  subst hv
  have hE2 : hiErr pt least budget b = hvErr pt least budget b := by unfold hiErr; rw [if_neg hE]
  have HF : Hid (RHiPost w pt least budget b (.returned (.tuple #[.slice none 0 0, .int .i64 (hvErr pt least budget b)])) w1) := Lib.hid ⟨_, by rw [hE2], fun h => absurd (by rw [← hE2]; exact h) hE, fun _ => rfl, HB1.out⟩
  have HE : Hid (hvErr pt least budget b ≠ 0) := Lib.hid hE
  obtain ⟨er, her⟩ : ∃ er, er = hvErr pt least budget b := ⟨_, rfl⟩
  rw [← her] at HF HE ⊢
  have hne : ¬ er = 0 := HE.out
  clear hE hv1 hn1 hb' hE2 her
  go_wp2_with fail
  go_ret2
  exact HF.out
end Go.Proofs.YthbkljeibmkimaaGreat


namespace Go.Proofs.YthbkljeibmkimaaGreat
open Go.RowKit
set_option linter.unusedVariables false
set_option linter.unusedSimpArgs false

set_option maxRecDepth 100000 in
set_option maxHeartbeats 4000000 in
theorem same18_any (w : World) (b1 b2 : Nat) (v1 v2 : Value) (pt : Nat → Nat → Int) (lo : List (Nat × Nat)) (h1 : FdOwn w b1 v1 pt lo) (h2 : RfOwn w b2 v2 pt lo) (hlen : lo.length ≤ 100000) :
  Calls Tryz.prog 15 #[v1, v2] w fun e w' => e = .returned (.bool true) ∧ Below w.heap.size w w' := by
 have H1 := Lib.hid h1
 have H2 := Lib.hid h2
 obtain ⟨N, hN⟩ : ∃ N, N = lo.length := ⟨_, rfl⟩
 have HN := Lib.hid hN
 obtain ⟨a1, c1, e1, -, -⟩ := own_open h1
 obtain ⟨a2, c2, e2, -, -⟩ := own_open h2
 rw [← hN] at e1 e2 hlen
 subst e1 e2
 clear h1 h2 hN
 go_enter Tryz.func15, Tryz.ntmps15
 go_wp2_with fail
 go_loopw [5] (fun i wr => ∃ t : Nat, i = .int .i64 (t : Int) ∧ t ≤ N ∧ Below w.heap.size w wr) (fun i _ => N - (intOf i).toNat)
 case atStart => exact ⟨0, rfl, Nat.zero_le _, Below.refl _ _⟩
 case round =>
  obtain ⟨t, rfl, htN, hbw⟩ := hrel
  have HBW := Lib.hid hbw
  clear hbw
  by_cases hlt : t < N
  ·have hlz : (t : Int) < (N : Int) := by omega
   obtain ⟨p, hp⟩ : ∃ p, lo[t]? = some p := ⟨_, List.getElem?_eq_getElem (by rw [← HN.out]; exact hlt)⟩
   obtain ⟨x1, x2⟩ := p
   obtain ⟨g1, c1', he, -, hl1, -, -, r1⟩ := H1.out.range hp
   simp only [Value.slice.injEq] at he
   obtain ⟨rfl, -, rfl⟩ := he
   obtain ⟨g2, c2', he, -, hl2, -, -, r2⟩ := H2.out.range hp
   simp only [Value.slice.injEq] at he
   obtain ⟨rfl, -, rfl⟩ := he
   simp only at r1 r2
   generalize pt x1 x2 = y at *
   have HR1 := Lib.hid r1
   have HL1 := Lib.hid hl1
   have HR2 := Lib.hid r2
   have HL2 := Lib.hid hl2
   clear r1 r2 hl1 hl2 hp
   generalize wr = w8 at *
   go_wp2_with fail
   refine wp_region_held_drew (S := fun w' => Below w.heap.size w w') (by kernel_rfl) (by exact HBW.out.trans (below_drewN (Below.refl _ _) 1)) (fun hHeld => ?_)
   refine tkH (i := 0) (v := ?_) rfl (by kernel_rfl) (fun _ _ _ h => h) (Or.inl ⟨by rfl, ?_⟩) (by assumption) ?_
   rotate_left
   ·intro w hSw
    try dsimp only at hSw
    go_simp
    try with_reducible rfl
   simp only [Act.put, z1, z2, z3, z4, z5, z6]
   refine tkH (i := 1) (v := ?_) rfl (by kernel_rfl) (fun _ _ _ h => h) (Or.inl ⟨by rfl, ?_⟩) (by assumption) ?_
   rotate_left
   ·intro w hSw
    try dsimp only at hSw
    go_simp
    try with_reducible rfl
   simp only [Act.put, z1, z2, z3, z4, z5, z6]
   refine tkH (i := 2) (v := ?_) rfl (by kernel_rfl) (fun _ _ _ h => h) (Or.inl ⟨by rfl, ?_⟩) (by assumption) ?_
   rotate_left
   ·intro w hSw
    try dsimp only at hSw
    go_simp
    try with_reducible rfl
   simp only [Act.put, z1, z2, z3, z4, z5, z6]
   refine tkH (i := 3) (v := ?_) rfl (by kernel_rfl) (fun _ _ _ h => h) (Or.inl ⟨by rfl, ?_⟩) (by assumption) ?_
   rotate_left
   ·intro w hSw
    have q1 := range_block HR1.out (hSw.block _ HL1.out)
    have q2 := range_block HR2.out (hSw.block _ HL2.out)
    try (first | refine (exec_load_mid 66 _ rfl g1 (t * 3) rfl [.int .i64 (x1 : Int), .int .u64 (x2 : Int), .int .i64 y] _ q1 Tryz.underlying66 rfl (by kernel_rfl)).trans ?_ | refine (exec_load_mid 90 _ rfl g2 (t * 3) rfl [.int .i64 (x1 : Int), .int .u64 (x2 : Int), .int .i64 y] _ q2 Tryz.underlying90 rfl (by kernel_rfl)).trans ?_)
    go_simp
    try with_reducible rfl
   simp only [Act.put, z1, z2, z3, z4, z5, z6]
   refine tkH (i := 4) (v := ?_) rfl (by kernel_rfl) (fun _ _ _ h => h) (Or.inl ⟨by rfl, ?_⟩) (by assumption) ?_
   rotate_left
   ·intro w hSw
    try dsimp only at hSw
    go_simp
    try with_reducible rfl
   simp only [Act.put, z1, z2, z3, z4, z5, z6]
   refine tkH (i := 5) (v := ?_) rfl (by kernel_rfl) (fun _ _ _ h => h) (Or.inl ⟨by rfl, ?_⟩) (by assumption) ?_
   rotate_left
   ·intro w hSw
    try dsimp only at hSw
    go_simp
    try with_reducible rfl
   simp only [Act.put, z1, z2, z3, z4, z5, z6]
   refine tkH (i := 6) (v := ?_) rfl (by kernel_rfl) (fun _ _ _ h => h) (Or.inl ⟨by rfl, ?_⟩) (by assumption) ?_
   rotate_left
   ·intro w hSw
    try dsimp only at hSw
    go_simp
    try with_reducible rfl
   simp only [Act.put, z1, z2, z3, z4, z5, z6]
   refine tkH (i := 7) (v := ?_) rfl (by kernel_rfl) (fun _ _ _ h => h) (Or.inl ⟨by rfl, ?_⟩) (by assumption) ?_
   rotate_left
   ·intro w hSw
    have q1 := range_block HR1.out (hSw.block _ HL1.out)
    have q2 := range_block HR2.out (hSw.block _ HL2.out)
    try (first | refine (exec_load_mid 66 _ rfl g1 (t * 3) rfl [.int .i64 (x1 : Int), .int .u64 (x2 : Int), .int .i64 y] _ q1 Tryz.underlying66 rfl (by kernel_rfl)).trans ?_ | refine (exec_load_mid 90 _ rfl g2 (t * 3) rfl [.int .i64 (x1 : Int), .int .u64 (x2 : Int), .int .i64 y] _ q2 Tryz.underlying90 rfl (by kernel_rfl)).trans ?_)
    go_simp
    try with_reducible rfl
   simp only [Act.put, z1, z2, z3, z4, z5, z6]
   refine tkH (i := 8) (v := ?_) rfl (by kernel_rfl) (fun _ _ _ h => h) (Or.inl ⟨by rfl, ?_⟩) (by assumption) ?_
   rotate_left
   ·intro w hSw
    try dsimp only at hSw
    go_simp
    try with_reducible rfl
   simp only [Act.put, z1, z2, z3, z4, z5, z6]
   refine wpAnyH_done (by kernel_rfl) ?_ _
   have HBX := Lib.hid hHeld
   clear hHeld
   go_wp2_with fail
   go_roundw
   case rel => exact ⟨t + 1, by go_num, by omega, HBX.out⟩
   case measure => simp [intOf]; omega
  ·have hlz : ¬ (t : Int) < (N : Int) := by omega
   go_wp2_with fail
   go_ret
   exact ⟨rfl, HBW.out⟩
set_option maxRecDepth 100000 in
set_option maxHeartbeats 4000000 in
theorem rests18_any (w : World) (b1 b2 : Nat) (v1 v2 : Value) (pt : Nat → Nat → Int) (lo : List (Nat × Nat × Int)) (h1 : RsOwn w b1 v1 pt lo) (h2 : RrOwn w b2 v2 pt lo) (hlen : lo.length ≤ 100000) :
  Calls Tryz.prog 16 #[v1, v2] w fun e w' => e = .returned (.bool true) ∧ Below w.heap.size w w' := by
 have H1 := Lib.hid h1
 have H2 := Lib.hid h2
 obtain ⟨N, hN⟩ : ∃ N, N = lo.length := ⟨_, rfl⟩
 have HN := Lib.hid hN
 obtain ⟨a1, c1, e1, -, -⟩ := own_open h1
 obtain ⟨a2, c2, e2, -, -⟩ := own_open h2
 rw [← hN] at e1 e2 hlen
 subst e1 e2
 clear h1 h2 hN
 go_enter Tryz.func16, Tryz.ntmps16
 go_wp2_with fail
 go_loopw [5] (fun i wr => ∃ t : Nat, i = .int .i64 (t : Int) ∧ t ≤ N ∧ Below w.heap.size w wr) (fun i _ => N - (intOf i).toNat)
 case atStart => exact ⟨0, rfl, Nat.zero_le _, Below.refl _ _⟩
 case round =>
  obtain ⟨t, rfl, htN, hbw⟩ := hrel
  have HBW := Lib.hid hbw
  clear hbw
  by_cases hlt : t < N
  ·have hlz : (t : Int) < (N : Int) := by omega
   obtain ⟨p, hp⟩ : ∃ p, lo[t]? = some p := ⟨_, List.getElem?_eq_getElem (by rw [← HN.out]; exact hlt)⟩
   obtain ⟨x1, x2, z⟩ := p
   obtain ⟨g1, c1', he, -, hl1, -, -, r1⟩ := H1.out.range hp
   simp only [Value.slice.injEq] at he
   obtain ⟨rfl, -, rfl⟩ := he
   obtain ⟨g2, c2', he, -, hl2, -, -, r2⟩ := H2.out.range hp
   simp only [Value.slice.injEq] at he
   obtain ⟨rfl, -, rfl⟩ := he
   simp only at r1 r2
   generalize pt x1 x2 = y at *
   have HR1 := Lib.hid r1
   have HL1 := Lib.hid hl1
   have HR2 := Lib.hid r2
   have HL2 := Lib.hid hl2
   clear r1 r2 hl1 hl2 hp
   generalize wr = w8 at *
   go_wp2_with fail
   refine wp_region_held_drew (S := fun w' => Below w.heap.size w w') (by kernel_rfl) (by exact HBW.out.trans (below_drewN (Below.refl _ _) 1)) (fun hHeld => ?_)
   refine tkH (i := 0) (v := ?_) rfl (by kernel_rfl) (fun _ _ _ h => h) (Or.inl ⟨by rfl, ?_⟩) (by assumption) ?_
   rotate_left
   ·intro w hSw
    try dsimp only at hSw
    go_simp
    try with_reducible rfl
   simp only [Act.put, z1, z2, z3, z4, z5, z6]
   refine tkH (i := 1) (v := ?_) rfl (by kernel_rfl) (fun _ _ _ h => h) (Or.inl ⟨by rfl, ?_⟩) (by assumption) ?_
   rotate_left
   ·intro w hSw
    try dsimp only at hSw
    go_simp
    try with_reducible rfl
   simp only [Act.put, z1, z2, z3, z4, z5, z6]
   refine tkH (i := 2) (v := ?_) rfl (by kernel_rfl) (fun _ _ _ h => h) (Or.inl ⟨by rfl, ?_⟩) (by assumption) ?_
   rotate_left
   ·intro w hSw
    try dsimp only at hSw
    go_simp
    try with_reducible rfl
   simp only [Act.put, z1, z2, z3, z4, z5, z6]
   refine tkH (i := 3) (v := ?_) rfl (by kernel_rfl) (fun _ _ _ h => h) (Or.inl ⟨by rfl, ?_⟩) (by assumption) ?_
   rotate_left
   ·intro w hSw
    have q1 := range_block HR1.out (hSw.block _ HL1.out)
    have q2 := range_block HR2.out (hSw.block _ HL2.out)
    try (first | refine (exec_load_mid 68 _ rfl g1 (t * 4) rfl [.int .i64 (x1 : Int), .int .u64 (x2 : Int), .int .i64 y, .int .i64 z] _ q1 Tryz.underlying68 rfl (by kernel_rfl)).trans ?_ | refine (exec_load_mid 106 _ rfl g2 (t * 4) rfl [.int .i64 (x1 : Int), .int .u64 (x2 : Int), .int .i64 y, .int .i64 z] _ q2 Tryz.underlying106 rfl (by kernel_rfl)).trans ?_)
    go_simp
    try with_reducible rfl
   simp only [Act.put, z1, z2, z3, z4, z5, z6]
   refine tkH (i := 4) (v := ?_) rfl (by kernel_rfl) (fun _ _ _ h => h) (Or.inl ⟨by rfl, ?_⟩) (by assumption) ?_
   rotate_left
   ·intro w hSw
    try dsimp only at hSw
    go_simp
    try with_reducible rfl
   simp only [Act.put, z1, z2, z3, z4, z5, z6]
   refine tkH (i := 5) (v := ?_) rfl (by kernel_rfl) (fun _ _ _ h => h) (Or.inl ⟨by rfl, ?_⟩) (by assumption) ?_
   rotate_left
   ·intro w hSw
    try dsimp only at hSw
    go_simp
    try with_reducible rfl
   simp only [Act.put, z1, z2, z3, z4, z5, z6]
   refine tkH (i := 6) (v := ?_) rfl (by kernel_rfl) (fun _ _ _ h => h) (Or.inl ⟨by rfl, ?_⟩) (by assumption) ?_
   rotate_left
   ·intro w hSw
    try dsimp only at hSw
    go_simp
    try with_reducible rfl
   simp only [Act.put, z1, z2, z3, z4, z5, z6]
   refine tkH (i := 7) (v := ?_) rfl (by kernel_rfl) (fun _ _ _ h => h) (Or.inl ⟨by rfl, ?_⟩) (by assumption) ?_
   rotate_left
   ·intro w hSw
    have q1 := range_block HR1.out (hSw.block _ HL1.out)
    have q2 := range_block HR2.out (hSw.block _ HL2.out)
    try (first | refine (exec_load_mid 68 _ rfl g1 (t * 4) rfl [.int .i64 (x1 : Int), .int .u64 (x2 : Int), .int .i64 y, .int .i64 z] _ q1 Tryz.underlying68 rfl (by kernel_rfl)).trans ?_ | refine (exec_load_mid 106 _ rfl g2 (t * 4) rfl [.int .i64 (x1 : Int), .int .u64 (x2 : Int), .int .i64 y, .int .i64 z] _ q2 Tryz.underlying106 rfl (by kernel_rfl)).trans ?_)
    go_simp
    try with_reducible rfl
   simp only [Act.put, z1, z2, z3, z4, z5, z6]
   refine tkH (i := 8) (v := ?_) rfl (by kernel_rfl) (fun _ _ _ h => h) (Or.inl ⟨by rfl, ?_⟩) (by assumption) ?_
   rotate_left
   ·intro w hSw
    try dsimp only at hSw
    go_simp
    try with_reducible rfl
   simp only [Act.put, z1, z2, z3, z4, z5, z6]
   refine wpAnyH_done (by kernel_rfl) ?_ _
   have HBX := Lib.hid hHeld
   clear hHeld
   go_wp2_with fail
   go_roundw
   case rel => exact ⟨t + 1, by go_num, by omega, HBX.out⟩
   case measure => simp [intOf]; omega
  ·have hlz : ¬ (t : Int) < (N : Int) := by omega
   go_wp2_with fail
   go_ret
   exact ⟨rfl, HBW.out⟩
end Go.Proofs.YthbkljeibmkimaaGreat


namespace Go.Proofs.YthbkljeibmkimaaGreat
open Go.RowKit
set_option linter.unusedVariables false
set_option linter.unusedSimpArgs false

def Two (w : World) (n0 S RS : Nat) (b r d m s : Int) (Z : Nat → List Int) : Prop :=
  ∃ L X A G C RL P F h1, StIs w n0 S L b r d m s X A G C Z ∧ RStIs w h1 RS RL b r d m s P F Z ∧ (∀ n, n ≤ b.toNat → C n < h1) ∧ h1 ≤ w.heap.size ∧ n0 ≤ h1 ∧ n0 ≤ S ∧ n0 ≤ RS
theorem Two.kept {w w' : World} {n0 S RS : Nat} {b r d m s : Int} {Z : Nat → List Int} (h : Two w n0 S RS b r d m s Z) (hb : Below w.heap.size w w') : Two w' n0 S RS b r d m s Z := by
  obtain ⟨L, X, A, G, C, RL, P, F, h1, hs, hr, hc, ht, hn, hS, hR⟩ := h
  exact ⟨L, X, A, G, C, RL, P, F, h1, hs.kept hb, hr.kept hb, hc, Nat.le_trans ht hb.size, hn, hS, hR⟩
theorem Two.right {w : World} {n0 S RS : Nat} {b r d m s : Int} {Z : Nat → List Int} (h : Two w n0 S RS b r d m s Z) : rightB b r d m = true := by
  obtain ⟨L, X, A, G, C, RL, P, F, h1, hs, -⟩ := h
  exact hs.right
theorem Two.fit {w : World} {n0 S RS : Nat} {b r d m s : Int} {Z : Nat → List Int} (h : Two w n0 S RS b r d m s Z) : ∀ n, n ≤ b.toNat → Fit (Z n) ∧ (Z n).length = cellsN b r d m n := by
  obtain ⟨L, X, A, G, C, RL, P, F, h1, hs, -⟩ := h
  exact fun n hn => ⟨(hs.lev n hn).fit, (hs.lev n hn).len⟩
theorem RStIs.other {w w' : World} {h1 RS RL : Nat} {b r d m s : Int} {P : Nat → Nat} {F : Nat → Nat → Prop} {Z : Nat → List Int} {C : Nat → Nat} (hr : RStIs w h1 RS RL b r d m s P F Z) (hc : ∀ n, n ≤ b.toNat → C n < h1) (hC : ∀ n, n ≤ b.toNat → ∃ cur, Blk w (C n) 2 cur) (g : RGr w w' C (b.toNat + 1)) : RStIs w' h1 RS RL b r d m s P F Z := by
  obtain ⟨cap, h2, h3⟩ := hr.box
  obtain ⟨cur, h4, h5⟩ := hr.row
  have key : ∀ {q : Nat} {t : TypeId} {cs : Array Value}, Blk w q t cs → t ≠ 2 → Blk w' q t cs := fun {q t cs} hb ht => (g.block q hb.lt (fun n hn e => by
    obtain ⟨cu, hcu⟩ := hC n (by omega)
    rw [← e] at hcu
    exact hb.ne_ hcu ht rfl)).trans hb
  refine ⟨⟨cap, key h2 (by decide), h3⟩, hr.right, ⟨cur, key h4 (by decide), h5⟩, fun n hn => (hr.lev n hn).frame (fun k hk => g.block k (hr.fin n k hn hk).2 (fun j hj e => ?_)), fun n k hn hk => ?_, hr.apart, hr.out⟩
  · have := hc j (by omega)
    have := (hr.fin n k hn hk).1
    omega
  · have := hr.fin n k hn hk
    have := g.size
    omega
theorem StUpPost.below {w w' : World} {n0 S L : Nat} {b r d m s : Int} {X : Nat → Value} {A G C : Nat → Nat} {Z : Nat → List Int} {k : Nat} {x : Int} {e : Ending} (hs : StIs w n0 S L b r d m s X A G C Z) (hn : n0 ≤ w.heap.size) (p : StUpPost w n0 S L b r d m s X A G C Z k x e w') : Below n0 w w' :=
  ⟨p.2.2.os, p.2.2.tape, p.2.2.output, p.2.2.size, fun k hk => p.2.2.block k (by omega) (fun n hn e => by have := hs.low n (by omega); omega)⟩
theorem StUpPost.far {w w' : World} {n0 S L g : Nat} {t : TypeId} {cs : Array Value} {b r d m s : Int} {X : Nat → Value} {A G C : Nat → Nat} {Z : Nat → List Int} {k : Nat} {x : Int} {e : Ending} (hs : StIs w n0 S L b r d m s X A G C Z) (p : StUpPost w n0 S L b r d m s X A G C Z k x e w') (hb : Blk w g t cs) (ht : t ≠ 2) : Blk w' g t cs :=
  (p.2.2.block g hb.lt (fun n hn e => by
    obtain ⟨cu, hcu⟩ := (hs.lev n (by omega)).cells
    rw [← e] at hcu
    exact hb.ne_ hcu ht rfl)).trans hb
theorem Two.step {w w1 w1' w2 : World} {n0 S RS : Nat} {b r d m s : Int} {Z : Nat → List Int} {k : Nat} {x : Int} {L : Nat} {X : Nat → Value} {A G C : Nat → Nat} {RL : Nat} {P : Nat → Nat} {F : Nat → Nat → Prop} {h1 : Nat} {e1 e2 : Ending}
  (hr : RStIs w h1 RS RL b r d m s P F Z) (hs : StIs w n0 S L b r d m s X A G C Z) (hc : ∀ n, n ≤ b.toNat → C n < h1) (ht : h1 ≤ w.heap.size) (hn : n0 ≤ h1) (hS : n0 ≤ S) (hR : n0 ≤ RS)
  (p1 : StUpPost w n0 S L b r d m s X A G C Z k x e1 w1) (hb : Below w1.heap.size w1 w1') (p2 : RStUpPost w1' h1 RS b r d m s Z k x e2 w2) : Two w2 n0 S RS b r d m s (stUpd b r d m s Z k x) ∧ Below n0 w w2 := by
 have hbel := p1.below hs (by omega)
 obtain ⟨-, q1, q2⟩ := p1
 obtain ⟨RL2, P2, F2, -, r1, r2⟩ := p2
 have hrs1 := (hr.other hc (fun n hn => (hs.lev n hn).cells) q2).kept hb
 obtain ⟨cap, hx, -⟩ := hrs1.box
 refine ⟨⟨L, X, A, G, C, RL2, P2, F2, h1, (q1.kept hb).far hx (by decide) (by decide) r2, r1, hc, Nat.le_trans ht (Nat.le_trans q2.size (Nat.le_trans hb.size r2.size)), hn, hS, hR⟩, ?_⟩
 have h3 : Below n0 w w1' := hbel.trans (hb.mono (by have := q2.size; omega))
 exact h3.grown r2 (by have := h3.size; omega) (fun k e => by have := Option.some.inj e; omega)
end Go.Proofs.YthbkljeibmkimaaGreat


namespace Go.Proofs.YthbkljeibmkimaaGreat
open Go.RowKit
set_option linter.unusedVariables false
set_option linter.unusedSimpArgs false

theorem any_right5 (b r d m p : Int) (p0 : 1 ≤ p) (p1 : p ≤ 59) : rightB (anyI b p) (anyI r 4) (anyI d 9) (anyI m 3) = true := by
  have h1 := anyI_bd b p p0
  have h2 := anyI_bd r 4 (by decide)
  have h3 := anyI_bd d 9 (by decide)
  have h4 := anyI_bd m 3 (by decide)
  exact right_mk (by omega)
theorem rptis_of {w : World} {base RS RL b : Nat} {r d m s : Int} {P : Nat → Nat} {F : Nat → Nat → Prop} {Z : Nat → List Int} (h : RStIs w base RS RL (b : Int) r d m s P F Z) (s0 : 0 ≤ s) (s1 : s ≤ 18446744073709551615) : RPtIs w RS b (ptOf b r d m s Z) := by
  have hR := right_of h.right
  refine ⟨fun wq hq => ?_, fun wq hq n i hn hi => ?_⟩
  · obtain ⟨cap, hx, -⟩ := (h.kept hq).box
    have := hx.cell 0
    simpa using this
  · have h2 := two_lt (n := b - n) (by omega)
    have e : ((2 ^ (b - n) : Nat) : Int) = (2 : Int) ^ (b - n) := by simp
    rw [ptOf_in hn hi]
    exact rstpoint wq base RS RL _ r d m s P F Z (h.kept hq) s0 s1 n (by simpa using hn) i (by omega) (by rw [keysI_nat h.right hn]; omega)
theorem both_told {w : World} {b1 b2 : Nat} {v1 v2 : Value} {pt : Nat → Nat → Int} {least budget : Int} {b : Nat} (h1 : hvErr pt least budget b = 0 → FdOwn w b1 v1 pt (hvOut pt least b (b + 1))) (n1 : hvErr pt least budget b ≠ 0 → v1 = .slice none 0 0)
    (h2 : hvErr pt least budget b = 0 → RfOwn w b2 v2 pt (hvOut pt least b (b + 1))) (n2 : hvErr pt least budget b ≠ 0 → v2 = .slice none 0 0) : ∃ lo, FdOwn w b1 v1 pt lo ∧ RfOwn w b2 v2 pt lo ∧ lo.length ≤ 4096 := by
  by_cases h : hvErr pt least budget b = 0
  · refine ⟨_, h1 h, h2 h, ?_⟩
    have hl := hvOut_len pt least b (b + 1)
    unfold hvErr at h
    split at h
    · cases h
    · split at h
      · cases h
      · omega
  · rw [n1 h, n2 h]
    exact ⟨[], World.ownsRow_nil _ _ _ _, World.ownsRow_nil _ _ _ _, Nat.zero_le _⟩
theorem both_kept {w : World} {b1 b2 : Nat} {v1 v2 : Value} {pt : Nat → Nat → Int} {least budget : Int} {b : Nat} (h1 : hiErr pt least budget b = 0 → ∃ o, hiKept pt least b = some o ∧ RsOwn w b1 v1 pt o) (n1 : hiErr pt least budget b ≠ 0 → v1 = .slice none 0 0)
  (h2 : hiErr pt least budget b = 0 → ∃ o, hiKept pt least b = some o ∧ RrOwn w b2 v2 pt o) (n2 : hiErr pt least budget b ≠ 0 → v2 = .slice none 0 0) : ∃ o, RsOwn w b1 v1 pt o ∧ RrOwn w b2 v2 pt o ∧ o.length ≤ 4096 := by
 by_cases h : hiErr pt least budget b = 0
 ·obtain ⟨o, e1, k1⟩ := h1 h
  obtain ⟨o', e2, k2⟩ := h2 h
  rw [e1] at e2
  cases e2
  refine ⟨o, k1, k2, ?_⟩
  have hs := (keptAt_sub e1).1.length_le
  rw [List.length_map, List.take_length] at hs
  have ht : (hiT pt least b).length ≤ (hvOut pt least b (b + 1)).length := sub_len (lvd_nodup (hiT_lvd pt least b)) (fun p hp => hiT_mem.1 hp)
  have hl := hvOut_len pt least b (b + 1)
  unfold hiErr at h
  split at h
  ·rename_i he
   unfold hvErr at he
   split at he
   ·cases he
   ·split at he
    ·cases he
    ·omega
  ·rename_i he
   exact absurd h he
 ·rw [n1 h, n2 h]
  exact ⟨[], World.ownsRow_nil _ _ _ _, World.ownsRow_nil _ _ _ _, Nat.zero_le _⟩
structure TellI (w wr : World) (XB : Nat) (xs : Array Value) (S RS : Nat) (b r d m s : Int) (Z : Nat → List Int) : Prop where
  two : Two wr w.heap.size S RS b r d m s Z
  box : Blk wr XB 27 xs
  bel : Below w.heap.size w wr
end Go.Proofs.YthbkljeibmkimaaGreat


namespace Go.Proofs.YthbkljeibmkimaaGreat
open Go.RowKit
set_option linter.unusedVariables false
set_option linter.unusedSimpArgs false

theorem LevIs.frame {w w' : World} {x : Value} {A G C : Nat} {b r d m s l : Int} {zs : List Int} (h : LevIs w x A G C b r d m s l zs) (hA : w'.heap[A]? = w.heap[A]?) (hG : w'.heap[G]? = w.heap[G]?) (hC : w'.heap[C]? = w.heap[C]?) : LevIs w' x A G C b r d m s l zs := by
  have hg : ∀ {R W : Nat}, GridIs w G C R W zs → GridIs w' G C R W zs := fun g => by
    obtain ⟨cap, h1, h2⟩ := g.fields
    obtain ⟨cur, h3, h4⟩ := g.cells
    exact ⟨⟨cap, hG.trans h1, h2⟩, g.len, ⟨cur, hC.trans h3, h4⟩, g.rows, g.width, g.fit⟩
  rcases h with ⟨h1, h2, h3, h4⟩ | ⟨h1, h2, h3⟩
  · exact .inl ⟨h1, h2, hA.trans h3, hg h4⟩
  · exact .inr ⟨h1, h2, ⟨hA.trans h3.box, hg h3.grid⟩⟩
theorem StIs.frame {w w' : World} {base S L : Nat} {b r d m s : Int} {X : Nat → Value} {A G C : Nat → Nat} {Z : Nat → List Int} (h : StIs w base S L b r d m s X A G C Z) (hS : w'.heap[S]? = w.heap[S]?) (hL : w'.heap[L]? = w.heap[L]?)
    (hk : ∀ n, n ≤ b.toNat → w'.heap[A n]? = w.heap[A n]? ∧ w'.heap[G n]? = w.heap[G n]? ∧ w'.heap[C n]? = w.heap[C n]?) : StIs w' base S L b r d m s X A G C Z := by
  obtain ⟨cap, h1, h2⟩ := h.box
  obtain ⟨cur, h3, h4⟩ := h.row
  exact ⟨⟨cap, hS.trans h1, h2⟩, h.right, ⟨cur, hL.trans h3, h4⟩, fun n hn => (h.lev n hn).frame (hk n hn).1 (hk n hn).2.1 (hk n hn).2.2, h.apart, h.low⟩
structure LdI (w wr : World) (h1 S L RS RL : Nat) (b r d m s : Int) (X : Nat → Value) (A G C P : Nat → Nat) (F : Nat → Nat → Prop) (Z : Nat → List Int) : Prop where
  st : StIs wr w.heap.size S L b r d m s X A G C Z
  rs : RStIs wr h1 RS RL b r d m s P F Z
  hi : S < h1 ∧ L < h1 ∧ ∀ n, n ≤ b.toNat → A n < h1 ∧ G n < h1 ∧ C n < h1
  top : h1 ≤ wr.heap.size
  lo : w.heap.size ≤ h1
theorem LdI.kept {w w1 w2 : World} {h1 S L RS RL : Nat} {b r d m s : Int} {X : Nat → Value} {A G C P : Nat → Nat} {F : Nat → Nat → Prop} {Z : Nat → List Int} (h : LdI w w1 h1 S L RS RL b r d m s X A G C P F Z) (hb : Below w1.heap.size w1 w2) : LdI w w2 h1 S L RS RL b r d m s X A G C P F Z :=
  ⟨h.st.kept hb, h.rs.kept hb, h.hi, Nat.le_trans h.top hb.size, h.lo⟩
theorem StIs.under {w : World} {base S L : Nat} {b r d m s : Int} {X : Nat → Value} {A G C : Nat → Nat} {Z : Nat → List Int} (h : StIs w base S L b r d m s X A G C Z) : S < w.heap.size ∧ L < w.heap.size ∧ ∀ n, n ≤ b.toNat → A n < w.heap.size ∧ G n < w.heap.size ∧ C n < w.heap.size := by
  obtain ⟨cap, h1, h2⟩ := h.box
  obtain ⟨cur, h3, h4⟩ := h.row
  refine ⟨h1.lt, h3.lt, fun n hn => ?_⟩
  rcases h.lev n hn with ⟨-, -, k1, k2⟩ | ⟨-, -, k3⟩
  · exact ⟨k1.lt, k2.ltG, k2.ltC⟩
  · exact ⟨k3.box.lt, k3.grid.ltG, k3.grid.ltC⟩
theorem LdI.rload {w w1 w2 : World} {h1 S L RS RL : Nat} {b r d m s : Int} {X : Nat → Value} {A G C P : Nat → Nat} {F : Nat → Nat → Prop} {Z : Nat → List Int} {j : Nat} {cs : List Int} {e : Ending} (h : LdI w w1 h1 S L RS RL b r d m s X A G C P F Z) (hj : j ≤ b.toNat)
    (hp : RLoadPost w1 (F j) (P j) b r d m s j cs e w2) : ∃ F', StIs w2 w.heap.size S L b r d m s X A G C Z ∧ RStIs w2 h1 RS RL b r d m s P F' (upN Z j cs) ∧ Only (F j) w1 w2 := by
  obtain ⟨-, F', q1, q2, q3⟩ := hp
  have hfr : ∀ k, k < h1 → w2.heap[k]? = w1.heap[k]? := fun k hk => q3.2.2.2.2 k (Nat.lt_of_lt_of_le hk h.top) (fun hf => by have := (h.rs.fin j k hj hf).1; omega)
  exact ⟨upN F j F', h.st.frame (hfr _ h.hi.1) (hfr _ h.hi.2.1) (fun n hn => ⟨hfr _ (h.hi.2.2 n hn).1, hfr _ (h.hi.2.2 n hn).2.1, hfr _ (h.hi.2.2 n hn).2.2⟩), h.rs.load hj h.top q1 q2 q3, q3⟩
theorem RStIs.under {w w' : World} {h1 RS RL g : Nat} {b r d m s : Int} {P : Nat → Nat} {F : Nat → Nat → Prop} {Z : Nat → List Int} {t : TypeId} {cs : Array Value} (h : RStIs w h1 RS RL b r d m s P F Z) (hg : w.grownBy w' (some g)) (hlt : g < h1) (hb : Blk w g 2 cs) : RStIs w' h1 RS RL b r d m s P F Z := by
  obtain ⟨cap, h2, h3⟩ := h.box
  obtain ⟨cur, h4, h5⟩ := h.row
  refine ⟨⟨cap, h2.grown hg (by simpa using h2.ne_ hb (by decide)), h3⟩, h.right, ⟨cur, h4.grown hg (by simpa using h4.ne_ hb (by decide)), h5⟩, fun n hn => (h.lev n hn).frame (fun k hk => hg.block k (h.fin n k hn hk).2 (fun e => by have := Option.some.inj e; have := (h.fin n k hn hk).1; omega)), fun n k hn hk => ⟨(h.fin n k hn hk).1, Nat.lt_of_lt_of_le (h.fin n k hn hk).2 hg.size⟩, h.apart, h.out⟩
end Go.Proofs.YthbkljeibmkimaaGreat


namespace Go.Proofs.YthbkljeibmkimaaGreat
open Go.RowKit
set_option linter.unusedVariables false
set_option linter.unusedSimpArgs false

theorem any_right3 (b r d m : Int) : rightB (anyI b 3) (anyI r 4) (anyI d 9) (anyI m 3) = true := any_right5 b r d m 3 (by decide) (by decide)
theorem ints_fit3 {w : World} {v : Value} {cs : List Int} (h : (Sh.slice (.int .i64)).Val w v) (hc : ColsAt w v cs) : Fit cs := by
  obtain ⟨ao, len, cap, h1, hl, hm, hx⟩ := h
  obtain ⟨ao', cap', h1', -, -, hc⟩ := hc
  have h1 : v = .slice ao len cap := by simpa using h1
  rw [h1] at h1'
  simp only [Value.slice.injEq] at h1'
  obtain ⟨rfl, rfl, rfl⟩ := h1'
  intro u hu
  obtain ⟨i, hi⟩ := List.getElem?_of_mem hu
  have hlt : i < cs.length := (List.getElem?_eq_some_iff.1 hi).1
  obtain ⟨b, off, rfl, hb, hcell⟩ := hx (by omega)
  obtain ⟨b', off', e, hb', hcell'⟩ := hc (by omega)
  simp only [Option.some.injEq, Addr.mk.injEq] at e
  obtain ⟨rfl, rfl, -⟩ := e
  have h2 := hcell' i u hi
  obtain ⟨cs', hcl, hcc, hr⟩ := hcell i hlt
  obtain ⟨n, rfl, hn⟩ := hr
  have h3 := hcc 0 (by decide)
  simp [Sh.size] at h3
  rw [h3] at h2
  simp at h2
  subst h2
  simp [Lit.wf, IntKind.min, IntKind.max, IntKind.signed, IntKind.bits] at hn
  omega
structure LayI (w4 wr : World) (g cap : Nat) (zs : List Int) : Prop where
  row : ∃ cur, Blk wr g 2 cur ∧ ∀ (i : Nat) (u : Int), zs[i]? = some u → cur[i]? = some (.int .i64 u)
  far : w4.heap.size ≤ g
  fit : Fit zs
  cap : zs.length ≤ cap
  bel : Below w4.heap.size w4 wr
theorem LayI.set {w4 wr : World} {g cap : Nat} {zs : List Int} (h : LayI w4 wr g cap zs) {j : Nat} (hj : j < zs.length) {u : Int} (hu : In64 u) : LayI w4 (wr.setCell ⟨g, j, none⟩ (.int .i64 u)) g cap (zs.set j u) := by
  obtain ⟨cur, hb, hc⟩ := h.row
  refine ⟨⟨_, hb.set_ j _, fun i x hx => ?_⟩, h.far, fun x hx => ?_, by simpa using h.cap, h.bel.setCell h.far _⟩
  · have hlt : j < cur.size := by
      cases hz : zs[j]? with
      | none => rw [List.getElem?_eq_none_iff] at hz; omega
      | some z => exact (Array.getElem?_eq_some_iff.1 (hc j z hz)).1
    rw [List.getElem?_set] at hx
    by_cases e : j = i
    · subst e
      simp [hj] at hx
      subst hx
      simp [hlt]
    · rw [if_neg e] at hx
      simp [e, hc i x hx]
  · rcases List.mem_or_eq_of_mem_set hx with h1 | h1
    · exact h.fit x h1
    · subst h1; exact hu
theorem LayI.zat {w4 wr : World} {g cap : Nat} {zs : List Int} (h : LayI w4 wr g cap zs) : ZAt wr (.slice (some ⟨g, 0, none⟩) zs.length cap) zs := by
  obtain ⟨cur, hb, hc⟩ := h.row
  exact ⟨g, 0, cap, cur, rfl, h.cap, hb, fun i u hu => by rw [Nat.zero_add, hb.cell]; exact hc i u hu⟩
theorem LayI.ints {w4 wr : World} {g cap : Nat} {zs : List Int} (h : LayI w4 wr g cap zs) : IntsAt wr (.slice (some ⟨g, 0, none⟩) zs.length cap) zs := by
  obtain ⟨cur, hb, hc⟩ := h.row
  exact ⟨_, cap, rfl, h.cap, fun _ => ⟨g, rfl, hb.lt, fun i u hu => by rw [hb.cell]; exact hc i u hu⟩⟩
theorem LayI.of_new {w4 w5 : World} {g cap : Nat} {zs : List Int} (h1 : zs.length ≤ cap) (h2 : w4.heap.size ≤ g) (h3 : IntsAt w5 (.slice (some ⟨g, 0, none⟩) zs.length cap) zs) (h4 : Below w4.heap.size w4 w5) (h5 : ∃ cur, Blk w5 g 2 cur) (hf : Fit zs) : LayI w4 w5 g cap zs := by
  obtain ⟨cur, hb⟩ := h5
  refine ⟨⟨cur, hb, fun i u hu => ?_⟩, h2, hf, h1, h4⟩
  obtain ⟨ao, cp, e, -, hc⟩ := h3
  have hlt : i < zs.length := (List.getElem?_eq_some_iff.1 hu).1
  obtain ⟨g', e2, -, hc⟩ := hc (by omega)
  simp only [Value.slice.injEq] at e
  obtain ⟨e, -, -⟩ := e
  rw [e2] at e
  simp at e
  subst e
  rw [← hb.cell]
  exact hc i u hu
structure LoadI (w wr : World) (XB : Nat) (S L RS RL : Nat) (b r d m s : Int) (X : Nat → Value) (A G C P : Nat → Nat) : Prop where
  two : ∃ (h1 : Nat) (F : Nat → Nat → Prop) (Z : Nat → List Int), LdI w wr h1 S L RS RL b r d m s X A G C P F Z
  bel : Below w.heap.size w wr
set_option maxRecDepth 100000 in
set_option maxHeartbeats 8000000 in
theorem loaded_walk (xb xr xd xm s : Int) (v : Value) (cs : List Int) (s0 : 0 ≤ s) (s1 : s ≤ 18446744073709551615) (least : Int) (hl64 : In64 least) (hcf : Fit cs) (w : World) (hl : ColsAt w v cs) :
  Calls Tryz.prog 4 #[.agg #[.int .i64 xb, .int .i64 xr, .int .i64 xd, .int .i64 xm, .int .u64 s], v, .int .i64 least] w fun e w' => e = .returned (.bool true) ∧ Below w.heap.size w w' := by
 obtain ⟨ao, cap, rfl, hca, hmx, hcells⟩ := hl
 obtain ⟨n, hn⟩ : ∃ n, n = cs.length := ⟨_, rfl⟩
 have HCL : Hid (0 < n → ∃ b off, ao = some ⟨b, off, none⟩ ∧ ∀ i, i < n → ∃ u, In64 u ∧ ∀ w', Below w.heap.size w w' → w'.cell? ⟨b, off + i, none⟩ = some (.int .i64 u)) := Lib.hid (fun h0 => by
  obtain ⟨b, off, e, hb, hc⟩ := hcells (by omega)
  refine ⟨b, off, e, fun i hi => ?_⟩
  have hz : cs[i]? = some cs[i] := List.getElem?_eq_getElem (by omega)
  exact ⟨_, hcf _ (List.mem_of_getElem? hz), fun w' h' => (h'.cell (p := ⟨b, off + i, none⟩) hb).trans (hc i _ hz)⟩)
 rw [← hn] at hca ⊢
 clear hcells hn hcf
 have PSH := Lib.hid (fun w => shown18 w)
 have PA := Lib.hid (fun w => any_any xb xr xd xm s 3 9 (by decide) (by decide) (by decide) (by decide) w)
 have HR := Lib.hid (any_right3 xb xr xd xm)
 have hbb := anyI_bd xb 3 (by decide)
 obtain ⟨b, hb⟩ : ∃ b, b = anyI xb 3 := ⟨_, rfl⟩
 obtain ⟨r, hr⟩ : ∃ r, r = anyI xr 4 := ⟨_, rfl⟩
 obtain ⟨d, hd⟩ : ∃ d, d = anyI xd 9 := ⟨_, rfl⟩
 obtain ⟨m, hm⟩ : ∃ m, m = anyI xm 3 := ⟨_, rfl⟩
 rw [← hb, ← hr, ← hd, ← hm] at PA HR
 rw [← hb] at hbb
 have HBB := Lib.hid hbb
 clear hb hr hd hm hbb
 have PS := Lib.hid (fun w => stnew_yes b r d m s HR.out w)
 have PR := Lib.hid (fun w => rstnew b r d m s HR.out w)
 obtain ⟨g1, hb1, hsz1⟩ := news1 w (.cells #[.int .i64 xb, .int .i64 xr, .int .i64 xd, .int .i64 xm, .int .u64 s] 24)
 have hx1 : Blk _ w.heap.size 24 #[.int .i64 xb, .int .i64 xr, .int .i64 xd, .int .i64 xm, .int .u64 s] := g1
 have HX0 := Lib.hid hx1
 have HB0 := Lib.hid hb1
 clear g1 hx1 hb1 hsz1
 go_enter Tryz.func4, Tryz.ntmps4
 go_wp2_with fail
 generalize (w.alloc (.cells #[.int .i64 xb, .int .i64 xr, .int .i64 xd, .int .i64 xm, .int .u64 s] 24)) = w0 at *
 with_reducible refine (PSH.out _).mono ?_
 rintro e w1 ⟨rfl, hb⟩
 have hx1 := HX0.out.kept hb
 have HB1 := Lib.hid (btr HB0.out hb)
 clear hb HX0 HB0
 go_wp2_with (refine wpList_load_row rfl 24 _ rfl w.heap.size rfl 24 _ (0, 0) _ hx1 Tryz.underlying24 rfl (by kernel_rfl) ?_)
 clear hx1
 with_reducible refine (PA.out _).mono ?_
 rintro e w2 ⟨rfl, hb⟩
 have hc : Blk (w2.alloc (.cells #[.int .i64 b, .int .i64 r, .int .i64 d, .int .i64 m, .int .u64 s] 24)) w2.heap.size 24 #[.int .i64 b, .int .i64 r, .int .i64 d, .int .i64 m, .int .u64 s] := Blk.new w2 _ _
 have HB2 := Lib.hid ((btr HB1.out hb).alloc (btr HB1.out hb).size (.cells #[.int .i64 b, .int .i64 r, .int .i64 d, .int .i64 m, .int .u64 s] 24))
 clear hb
 go_wp2_with (refine wpList_load_row rfl 24 _ rfl w2.heap.size rfl 24 _ (0, 0) _ hc Tryz.underlying24 rfl (by kernel_rfl) ?_)
 generalize (w2.alloc (.cells #[.int .i64 b, .int .i64 r, .int .i64 d, .int .i64 m, .int .u64 s] 24)) = w2' at *
 generalize w2.heap.size = CB at *
 with_reducible refine (PS.out _).mono ?_
 rintro e w3 ⟨S, L, X, A, G, C, rfl, hS, hst, hb⟩
 have hc2 := hc.kept hb
 have HB3 := Lib.hid (btr HB2.out hb)
 have HST3 := Lib.hid (hst.low_ HB2.out.size)
 clear hb hc hst hS
 go_wp2_with (refine wpList_load_row rfl 24 _ rfl CB rfl 24 _ (0, 0) _ hc2 Tryz.underlying24 rfl (by kernel_rfl) ?_)
 with_reducible refine (PR.out _).mono ?_
 rintro e w4 ⟨RS, RL, P, F, rfl, hRS, hrst, hb⟩
 have HB4 := Lib.hid (btr HB3.out hb)
 have c0 := (hc2.kept hb).cell 0
 simp at c0
 have HI4 : Hid (LoadI w w4 w.heap.size S L RS RL b r d m s X A G C P) := Lib.hid ⟨⟨w3.heap.size, F, _, HST3.out.kept hb, hrst, HST3.out.under, hb.size, HB3.out.size⟩, HB4.out⟩
 clear hb hc2 hrst hRS HB2 HB3 HB4 HST3
 obtain ⟨q, hq⟩ : ∃ q : Nat, b = (q : Int) := ⟨b.toNat, by have := HBB.out; omega⟩
 subst hq
 have hq1 : 1 ≤ q ∧ q ≤ 3 := by have := HBB.out; omega
 clear HBB PS PR PA PSH
 go_wp2_with fail
 clear c0
 go_loopw [12, 13] (fun tv lv wr => ∃ (t : Nat) (lev : Int), -1 ≤ lev ∧ lev ≤ (q : Int) ∧ (t : Int) ≤ ((q : Int) - lev) * 1024 ∧ tv = .int .i64 (t : Int) ∧ lv = .int .i64 lev ∧ LoadI w wr w.heap.size S L RS RL (q : Int) r d m s X A G C P) (fun _ lv _ => (intOf lv + 1).toNat)
 case atStart => exact ⟨0, (q : Int), by omega, by omega, by omega, rfl, rfl, HI4.out⟩
 case round =>
  obtain ⟨t, lev, hl0, hl1, ht, rfl, rfl, hI⟩ := hrel
  have HI := Lib.hid hI
  clear hI HI4
  by_cases hlev : 0 ≤ lev
  ·obtain ⟨k, hk⟩ : ∃ k : Nat, lev = (k : Int) := ⟨lev.toNat, by omega⟩
   subst hk
   have hkq : k ≤ q := by omega
   clear hl0 hl1
   obtain ⟨h1, F, Z, hld⟩ := HI.out.two
   have HLD := Lib.hid hld
   obtain ⟨scap2, hbox, hscap⟩ := hld.rs.box
   obtain ⟨cur2, hcur, hrowp⟩ := hld.rs.row
   have hbox' : Blk wr RS 58 #[.int .i64 (q : Int), .int .i64 r, .int .i64 d, .int .i64 m, .int .u64 s, .slice (some ⟨RL, 0, none⟩) (q + 1) scap2] := hbox
   have s5 : wr.cell? ⟨RS, 5, none⟩ = some (.slice (some ⟨RL, 0, none⟩) (q + 1) scap2) := by
    have := hbox'.cell 5
    simpa using this
   have HBX := Lib.hid hbox'
   have HCU := Lib.hid hcur
   have cp : wr.cell? ⟨RL, k, none⟩ = some (.pointer (some ⟨P k, 0, none⟩)) := (hcur.cell k).trans (hrowp k (by simp; omega))
   have HRP := Lib.hid (hrowp k (by simp; omega))
   have hzl : (Z k).length = cellsN (q : Int) r d m (k : Int) := (hld.rs.lev k (by simp; omega)).len
   have hz1 : (Z k).length ≤ 1024 := by rw [hzl]; exact cellsN_le HR.out
   have hzf : Fit (Z k) := (hld.st.lev k (by simp; omega)).fit
   have HZ := Lib.hid (And.intro hzl (And.intro hz1 hzf))
   have PCE := Lib.hid (rlcells_blk wr (F k) (P k) (q : Int) r d m s (k : Int) (Z k) (hld.rs.lev k (by simp; omega)) hz1)
   have i0 : (0 : Int) ≤ (k : Int) := by omega
   have i1 : (k : Int) < (q : Int) + 1 := by omega
   obtain ⟨zl, hzl⟩ : ∃ zl, zl = (Z k).length := ⟨_, rfl⟩
   have HZL := Lib.hid hzl
   rw [← hzl] at PCE
   have hz1' : zl ≤ 1024 := by omega
   clear hld hbox hbox' hcur hrowp hzf hz1 hzl
   go_wp2_with fail
   with_reducible refine PCE.out.mono ?_
   rintro e w5 ⟨g, cp5, rfl, hcp, hg, hints, hb, hblk⟩
   have HL5 : Hid (LayI wr w5 g cp5 (Z k)) := Lib.hid (LayI.of_new (by rw [← HZL.out]; exact hcp) hg (by rw [← HZL.out]; exact hints) hb hblk HZ.out.2.2)
   have hcp' : zl ≤ cp5 := hcp
   clear hcp hg hints hb hblk PCE cp s5
   go_wp2_with fail
   generalize wr = wo at *
   go_loopw [12, 15] (fun tv iv wr => ∃ (u j : Nat) (zs : List Int), j ≤ zl ∧ (u : Int) ≤ (t : Int) + (j : Int) ∧ tv = .int .i64 (u : Int) ∧ iv = .int .i64 (j : Int) ∧ zs.length = zl ∧ LayI wo wr g cp5 zs) (fun _ iv _ => zl - (intOf iv).toNat)
   case atStart => exact ⟨t, 0, Z k, by omega, by omega, rfl, rfl, HZL.out.symm, HL5.out⟩
   case round =>
    obtain ⟨u, j, zs, hj, hu, rfl, rfl, hzs, hlay⟩ := hrel
    have HLAY := Lib.hid hlay
    have HZS := Lib.hid hzs
    clear hlay hzs HL5
    by_cases hjl : j < zl
    ·have j0 : (0 : Int) ≤ (j : Int) := by omega
     have j1 : (j : Int) < (zl : Int) := by omega
     by_cases hin : u < n ∧ u < 40
     ·obtain ⟨u1, u2⟩ := hin
      have e0 : (0 : Int) ≤ (u : Int) := by omega
      have e1 : (u : Int) < (n : Int) := by omega
      have e2 : (u : Int) < 40 := by omega
      obtain ⟨bb, off, rfl, hcc⟩ := HCL.out (by omega)
      obtain ⟨x, hx64, hx⟩ := hcc u u1
      have hxc : wr.cell? ⟨bb, off + u, none⟩ = some (.int .i64 x) := hx wr (btr HI.out.bel HLAY.out.bel)
      obtain ⟨cur, hbk, hcr⟩ := HLAY.out.row
      obtain ⟨ov, hov⟩ : ∃ ov, wr.cell? ⟨g, j, none⟩ = some ov := ⟨_, (hbk.cell j).trans (hcr j _ (List.getElem?_eq_getElem (by rw [HZS.out]; exact hjl)))⟩
      have hfr := hbk.frozen j
      have HN : Hid (LayI wo (wr.setCell ⟨g, j, none⟩ (.int .i64 x)) g cp5 (zs.set j x)) := Lib.hid (HLAY.out.set (by rw [HZS.out]; exact hjl) hx64)
      clear hcc hx hbk hcr hx64
      go_wp2_with fail
      go_roundw
      case rel => exact ⟨u + 1, j + 1, _, by omega, by omega, by go_num, by go_num, by rw [List.length_set]; exact HZS.out, HN.out⟩
      case measure => simp [intOf]; omega
     ·have hcases : (¬ (u : Int) < (n : Int)) ∨ ((u : Int) < (n : Int) ∧ ¬ (u : Int) < 40) := by
       by_cases h1 : u < n
       ·exact .inr ⟨by omega, by omega⟩
       ·exact .inl (by omega)
      rcases hcases with e1 | ⟨e1, e2⟩
      ·go_wp2_with fail
       go_roundw
       case rel => exact ⟨u + 1, j + 1, _, by omega, by omega, by go_num, by go_num, HZS.out, HLAY.out⟩
       case measure => simp [intOf]; omega
      ·go_wp2_with fail
       go_roundw
       case rel => exact ⟨u + 1, j + 1, _, by omega, by omega, by go_num, by go_num, HZS.out, HLAY.out⟩
       case measure => simp [intOf]; omega
    ·obtain rfl : j = zl := by omega
     have j1 : ¬ ((j : Int) < (j : Int)) := by omega
     have hbel := HLAY.out.bel
     have HLD5 := Lib.hid (HLD.out.kept hbel)
     have hbx := HBX.out.kept hbel
     have s5 : wr.cell? ⟨RS, 5, none⟩ = some (.slice (some ⟨RL, 0, none⟩) (q + 1) scap2) := by
      have := hbx.cell 5
      simpa using this
     have cp : wr.cell? ⟨RL, k, none⟩ = some (.pointer (some ⟨P k, 0, none⟩)) := ((HCU.out.kept hbel).cell k).trans HRP.out
     have hgf : ¬ F k g := fun hf => by
      have h3 := (HLD.out.rs.fin k g (by simp; omega) hf).2
      have h4 := HLAY.out.far
      omega
     have hcl : zs.length = cellsN (q : Int) r d m (k : Int) := by rw [HZS.out, HZL.out]; exact HZ.out.1
     have PL := Lib.hid (rlload wr (F k) (P k) (q : Int) r d m s (k : Int) (Z k) zs _ (HLD5.out.rs.lev k (by simp; omega)) HR.out HLAY.out.zat (fun g2 off c e => by
      simp only [Value.slice.injEq, Option.some.injEq, Addr.mk.injEq] at e
      rw [← e.1.1]; exact hgf) hcl)
     rw [HZS.out] at PL
     have HGF := Lib.hid hgf
     have HCLN := Lib.hid hcl
     clear hbx hbel hgf hcl
     go_wp2_with fail
     with_reducible refine PL.out.mono ?_
     rintro e w6 hp
     obtain ⟨rv, rfl⟩ := hp.1
     obtain ⟨F', k1, k2, k3⟩ := HLD5.out.rload (by simp; omega) hp
     have hg6 : w6.heap[g]? = wr.heap[g]? := k3.2.2.2.2 g (by obtain ⟨cur, hbk, -⟩ := HLAY.out.row; exact hbk.lt) HGF.out
     have hi6 : IntsAt w6 (.slice (some ⟨g, 0, none⟩) zs.length cp5) zs := by
      obtain ⟨cur, hbk, hcr⟩ := HLAY.out.row
      have hbk6 : Blk w6 g 2 cur := hg6.trans hbk
      exact ⟨_, cp5, rfl, HLAY.out.cap, fun _ => ⟨g, rfl, hbk6.lt, fun i u hu => by rw [hbk6.cell]; exact hcr i u hu⟩⟩
     have PSL := Lib.hid (stload w6 w.heap.size S L (q : Int) r d m s X A G C Z k1 k (by simp; omega) _ zs hi6 HCLN.out HLAY.out.fit (by
      intro e
      simp [Value.ownBlock] at e
      have h3 := HLD.out.hi.2.2 k (by simp; omega)
      have h4 := HLD.out.top
      have h5 := HLAY.out.far
      omega))
     rw [HZS.out] at PSL
     have HK2 := Lib.hid k2
     have HB6 : Hid (Below w.heap.size w w6) := Lib.hid ((HI.out.bel.trans (HLAY.out.bel.mono HI.out.bel.size)).trans (k3.below (fun x hx => by have h3 := (HLD.out.rs.fin k x (by simp; omega) hx).1; have h4 := HLD.out.lo; omega) (by have := HI.out.bel.size; have := HLAY.out.bel.size; omega)))
     have HST6 := Lib.hid k1
     have HSZ : Hid (wr.heap.size ≤ w6.heap.size) := Lib.hid k3.2.2.2.1
     clear hp k1 k2 k3 hg6 hi6 cp s5
     go_wp2_with fail
     with_reducible refine PSL.out.mono ?_
     rintro e w7 ⟨rfl, hst7, hgr⟩
     have HN : Hid (LoadI w w7 w.heap.size S L RS RL (q : Int) r d m s X A G C P) := Lib.hid (by
      obtain ⟨curC, hC⟩ := (HST6.out.lev k (by simp; omega)).cells
      have hlt := (HLD.out.hi.2.2 k (by simp; omega)).2.2
      have h6 := HLD.out.top
      have h7 := HLAY.out.bel.size
      have h8 := HSZ.out
      have h9 := hgr.size
      refine ⟨⟨h1, F', upN Z k zs, hst7, HK2.out.under (t := 2) hgr hlt hC, HLD.out.hi, by omega, HLD.out.lo⟩, HB6.out.grown hgr HB6.out.size (fun x e => ?_)⟩
      have e := Option.some.inj e
      have := HST6.out.low k (by simp; omega)
      omega)
     clear hst7 hgr
     go_wp2_with fail
     go_roundw
     case rel => exact ⟨u, (k : Int) - 1, by omega, by omega, by omega, rfl, by go_num, HN.out⟩
     case measure => simp [intOf]
  ·obtain rfl : lev = -1 := by omega
   obtain ⟨h1, F, Z, hld⟩ := HI.out.two
   have HBE := Lib.hid HI.out.bel
   generalize wr = w5 at *
   obtain ⟨pt, hpt⟩ : ∃ pt, pt = ptOf q r d m s Z := ⟨_, rfl⟩
   have HP1 : Hid (PtIs w5 S q r d m s pt) := Lib.hid (by rw [hpt]; exact ptis_of hld.st s0 s1)
   have HP2 : Hid (RPtIs w5 RS q pt) := Lib.hid (by rw [hpt]; exact rptis_of hld.rs s0 s1)
   have HP64 : Hid (∀ n i, In64 (pt n i)) := Lib.hid (fun n i => by rw [hpt]; exact ptOf64 hld.st n i)
   obtain ⟨bud, hbud⟩ : ∃ bud : Int, bud = 15 := ⟨_, rfl⟩
   have hbi : In64 bud := by
    rw [hbud]
    unfold In64
    omega
   have HV1 : Hid (∀ wq, Below w5.heap.size w5 wq → Calls Tryz.prog 11 #[.pointer (some ⟨S, 0, none⟩), .int .i64 least, .int .i64 bud] wq (HvPost wq pt least bud q)) := Lib.hid (fun wq hq => hvheavy wq S q r d m s pt ⟨fun w' h' => HP1.out.1 w' (btr hq h'), fun w' h' => HP1.out.2 w' (btr hq h')⟩ (by omega) (by omega) least bud hl64 hbi)
   have HV2 : Hid (∀ wq, Below w5.heap.size w5 wq → Calls Tryz.prog 12 #[.pointer (some ⟨RS, 0, none⟩), .int .i64 least, .int .i64 bud] wq (RHvPost wq pt least bud q)) := Lib.hid (fun wq hq => rhheavy wq RS q pt ⟨fun w' h' => HP2.out.1 w' (btr hq h'), fun w' h' => HP2.out.2 w' (btr hq h')⟩ (by omega) (by omega) least bud hl64 hbi)
   have HV3 : Hid (∀ wq, Below w5.heap.size w5 wq → Calls Tryz.prog 13 #[.pointer (some ⟨S, 0, none⟩), .int .i64 least, .int .i64 bud] wq (HiPost wq pt least bud q)) := Lib.hid (fun wq hq => hvhier wq S q r d m s pt ⟨fun w' h' => HP1.out.1 w' (btr hq h'), fun w' h' => HP1.out.2 w' (btr hq h')⟩ HP64.out (by omega) (by omega) least bud hl64 hbi)
   have HV4 : Hid (∀ wq, Below w5.heap.size w5 wq → Calls Tryz.prog 14 #[.pointer (some ⟨RS, 0, none⟩), .int .i64 least, .int .i64 bud] wq (RHiPost wq pt least bud q)) := Lib.hid (fun wq hq => rhhier wq RS q pt ⟨fun w' h' => HP2.out.1 w' (btr hq h'), fun w' h' => HP2.out.2 w' (btr hq h')⟩ HP64.out (by omega) (by omega) least bud hl64 hbi)
   rw [hbud] at HV1 HV2 HV3 HV4
   clear hld hpt hbud hbi HI HCL HR HP1 HP2 HP64
   have d1 : ¬ ((0 : Int) ≤ -1) := by omega
   go_wp2_with fail
   with_reducible refine (HV1.out _ (Below.refl _ _)).mono ?_
   rintro e w6 ⟨v1, rfl, hv1, hn1, hb1⟩
   have HA1 := Lib.hid hv1
   have HN1 := Lib.hid hn1
   have HB6 := Lib.hid hb1
   clear hv1 hn1 hb1
   go_wp2_with fail
   with_reducible refine (HV2.out _ HB6.out).mono ?_
   rintro e w7 ⟨v2, rfl, hv2, hn2, hb2⟩
   have HBT := Lib.hid (both_told (fun h => (HA1.out h).kept hb2) HN1.out hv2 hn2)
   have HB7 := Lib.hid (btr HB6.out hb2)
   clear hv2 hn2 hb2 HA1 HN1 HB6
   go_wp2_with fail
   with_reducible refine (HV3.out _ HB7.out).mono ?_
   rintro e w8 ⟨v3, rfl, hv3, hn3, hb3⟩
   have HA3 := Lib.hid hv3
   have HN3 := Lib.hid hn3
   have HB8 := Lib.hid (btr HB7.out hb3)
   have HB78 := Lib.hid hb3
   clear hv3 hn3 hb3
   go_wp2_with fail
   with_reducible refine (HV4.out _ HB8.out).mono ?_
   rintro e w9 ⟨v4, rfl, hv4, hn4, hb4⟩
   have HBK := Lib.hid (both_kept (fun h => by obtain ⟨o, e1, k1⟩ := HA3.out h; exact ⟨o, e1, k1.kept hb4⟩) HN3.out hv4 hn4)
   have HB9 := Lib.hid (btr HB8.out hb4)
   have HB79 := Lib.hid (btr HB78.out hb4)
   clear hv4 hn4 hb4 HA3 HN3 HB8 HB78
   obtain ⟨lo, t1, t2, t3⟩ := HBT.out
   have PSA := Lib.hid (fun wq (hq : Below w7.heap.size w7 wq) => same18_any wq _ _ v1 v2 pt lo (t1.kept hq) (t2.kept hq) (by omega))
   obtain ⟨ko, t4, t5, t6⟩ := HBK.out
   have PRE := Lib.hid (fun wq (hq : Below w9.heap.size w9 wq) => rests18_any wq _ _ v3 v4 pt ko (t4.kept hq) (t5.kept hq) (by omega))
   generalize hvErr pt least 15 q = er at *
   generalize hiErr pt least 15 q = eh at *
   clear HBT HBK t1 t2 t3 t4 t5 t6 HV1 HV2 HV3 HV4
   go_wp2_with fail
   with_reducible refine (PSA.out _ HB79.out).mono ?_
   rintro e w10 ⟨rfl, hb⟩
   have HB10 := Lib.hid hb
   clear hb
   go_wp2_with fail
   with_reducible refine (PRE.out _ HB10.out).mono ?_
   rintro e w11 ⟨rfl, hb⟩
   have HBF := Lib.hid (HBE.out.trans ((btr HB9.out (btr HB10.out hb)).mono HBE.out.size))
   clear hb
   go_wp2_with fail
   go_ret
   exact ⟨rfl, HBF.out⟩
end Go.Proofs.YthbkljeibmkimaaGreat


namespace Go.Proofs.YthbkljeibmkimaaGreat
open Go.RowKit
set_option linter.unusedVariables false
set_option linter.unusedSimpArgs false

theorem valI64' {w : World} {v : Value} (h : (Sh.int .i64).Val w v) : ∃ a : Int, v = .int .i64 a ∧ In64 a := by
  obtain ⟨a, e, ha⟩ := h
  simp at e
  subst e
  simp [Lit.wf, IntKind.min, IntKind.max, IntKind.signed, IntKind.bits] at ha
  exact ⟨a, rfl, by omega, by omega⟩
end Go.Proofs.YthbkljeibmkimaaGreat


namespace Go.Proofs.YthbkljeibmkimaaGreat
open Go.RowKit
set_option linter.unusedVariables false
set_option linter.unusedSimpArgs false

def shInts5 : Sh := .slice (.int .i64)
theorem HeavyLoaded_walk (v0 v1 v2 : Value) (w : World) (h0 : shCfg.Val w v0) (h1 : shInts5.Val w v1) (h2 : (Sh.int .i64).Val w v2) :
    Calls Tryz.prog 4 #[v0, v1, v2] w fun e w' => e = .returned (.bool true) ∧ Below w.heap.size w w' := by
  obtain ⟨xb, xr, xd, xm, s, rfl, -, -, -, -, hs⟩ := valCfg h0
  simp [Lit.wf, IntKind.min, IntKind.max, IntKind.signed, IntKind.bits] at hs
  obtain ⟨cs, hcs⟩ := cols_of_val h1
  obtain ⟨a, rfl, ha⟩ := valI64' h2
  exact loaded_walk xb xr xd xm s v1 cs (by omega) (by omega) a ha (ints_fit3 h1 hcs) w hcs
end Go.Proofs.YthbkljeibmkimaaGreat

