import Derived.Test.YthbkljeibmkimaaGreatQtf
import Derived.Test.YthbkljeibmkimaaGreatQte
/-
  Contracts of the functions that HeavyTells reaches, and the plain laws that it leans on. Conditions: none beyond those stated at each theorem.
-/
namespace Go.Proofs.YthbkljeibmkimaaGreat
open Go.RowKit
set_option linter.unusedVariables false
set_option linter.unusedSimpArgs false

theorem range_two {w : World} {g o : Nat} {a c : Value} {xs : List Value} (h : w.rangeAt g o (a :: c :: xs)) : w.rangeAt g o [a, c] := fun j u hu => by
  match j, hu with
  | 0, hu => exact h 0 u (by simpa using hu)
  | 1, hu => exact h 1 u (by simpa using hu)
  | j + 2, hu => simp at hu
def RrOwn (w : World) (base : Nat) (v : Value) (pt : Nat → Nat → Int) (l : List (Nat × Nat × Int)) : Prop := w.ownsRow base 106 4 v l.length (rsCells pt l)
theorem RrOwn.kept {w w' : World} {base : Nat} {v : Value} {pt : Nat → Nat → Int} {l : List (Nat × Nat × Int)} (h : RrOwn w base v pt l) (hb : Below w.heap.size w w') : RrOwn w' base v pt l := own_kept h hb
theorem RrOwn.push {w : World} {base : Nat} {v : Value} {pt : Nat → Nat → Int} {l : List (Nat × Nat × Int)} {n x N : Nat} {z : Int} (hN : N = l.length) (h : w.ownsRow base 106 4 v (N + 1) (rsCells pt l ++ [.int .i64 (n : Int), .int .u64 (x : Int), .int .i64 (pt n x), .int .i64 z])) : RrOwn w base v pt (l ++ [(n, x, z)]) := by
  subst hN
  unfold RrOwn
  rw [rsCells_append, List.length_append]
  exact h
theorem RrOwn.range {w : World} {base : Nat} {v : Value} {pt : Nat → Nat → Int} {l : List (Nat × Nat × Int)} (h : RrOwn w base v pt l) {t : Nat} {p : Nat × Nat × Int} (ht : l[t]? = some p) : ∃ g cap, v = .slice (some ⟨g, 0, none⟩) l.length cap ∧ base ≤ g ∧ g < w.heap.size ∧ l.length ≤ cap ∧ cap ≤ maxLen ∧ w.rangeAt g (t * 4) [.int .i64 (p.1 : Int), .int .u64 (p.2.1 : Int), .int .i64 (pt p.1 p.2.1), .int .i64 p.2.2] := by
  have hl : t < l.length := (List.getElem?_eq_some_iff.1 ht).1
  obtain ⟨g, cap, h1, h2, h3, h4, h5, h6⟩ := own_cells h (by omega)
  obtain ⟨g0, g1, g2, g3⟩ := rsCells_get (pt := pt) ht
  rw [Nat.mul_comm 4 t] at g0 g1 g2 g3
  refine ⟨g, cap, h1, h2, h3, h4, h5, fun j u hu => ?_⟩
  match j, hu with
  | 0, hu => simp at hu; subst hu; simpa using h6 _ _ g0
  | 1, hu => simp at hu; subst hu; exact h6 _ _ g1
  | 2, hu => simp at hu; subst hu; exact h6 _ _ g2
  | 3, hu => simp at hu; subst hu; exact h6 _ _ g3
  | j + 4, hu => simp at hu
theorem RrOwn.at_ {w : World} {base gh n cap : Nat} {pt : Nat → Nat → Int} {l : List (Nat × Nat × Int)} (h : RrOwn w base (.slice (some ⟨gh, 0, none⟩) n cap) pt l) {t : Nat} {p : Nat × Nat × Int} (ht : l[t]? = some p) : gh < w.heap.size ∧ w.rangeAt gh (t * 4) [.int .i64 (p.1 : Int), .int .u64 (p.2.1 : Int), .int .i64 (pt p.1 p.2.1), .int .i64 p.2.2] := by
  obtain ⟨g, c, he, -, h2, -, -, h5⟩ := h.range ht
  simp only [Value.slice.injEq, Option.some.injEq, Addr.mk.injEq] at he
  obtain ⟨⟨rfl, -⟩, -, -⟩ := he
  exact ⟨h2, h5⟩
theorem RfOwn.at_ {w : World} {base gh n cap : Nat} {pt : Nat → Nat → Int} {l : List (Nat × Nat)} (h : RfOwn w base (.slice (some ⟨gh, 0, none⟩) n cap) pt l) {t : Nat} {p : Nat × Nat} (ht : l[t]? = some p) : gh < w.heap.size ∧ w.rangeAt gh (t * 3) [.int .i64 (p.1 : Int), .int .u64 (p.2 : Int), .int .i64 (pt p.1 p.2)] := by
  obtain ⟨g, c, he, -, h2, -, -, h5⟩ := h.range ht
  simp only [Value.slice.injEq, Option.some.injEq, Addr.mk.injEq] at he
  obtain ⟨⟨rfl, -⟩, -, -⟩ := he
  exact ⟨h2, h5⟩
theorem own_apart {w : World} {b1 b2 : Nat} {e1 e2 : TypeId} {s1 s2 : Nat} {v1 v2 : Value} {n1 n2 : Nat} {x1 x2 : List Value} (h : w.ownsRow b1 e1 s1 v1 n1 x1) (k : w.ownsRow b2 e2 s2 v2 n2 x2) (hne : e1 ≠ e2) : ∀ g, v1.ownBlock = some g → v2.ownBlock ≠ some g := by
  intro g h1 h2
  rcases h.2 with ⟨rfl, _⟩ | ⟨g1, cap, cur, rfl, _, hg, _⟩
  · simp [Value.ownBlock] at h1
  · simp only [Value.ownBlock] at h1
    have e := Option.some.inj h1
    subst e
    have hb : Blk w g1 e1 cur := hg
    exact (own_far k hb hne) h2.symm
theorem Tryz.infoRr : (Tryz.prog.info? 106).map (fun i => (i.zero, i.size, i.bytes)) = some (some (.agg #[.int .i64 0, .int .u64 0, .int .i64 0, .int .i64 0]), 4, 32) := by kernel_rfl
def RHiPost (w : World) (pt : Nat → Nat → Int) (least budget : Int) (b : Nat) (e : Ending) (w' : World) : Prop :=
  ∃ v, e = .returned (.tuple #[v, .int .i64 (hiErr pt least budget b)]) ∧ (hiErr pt least budget b = 0 → ∃ o, hiKept pt least b = some o ∧ RrOwn w' w.heap.size v pt o) ∧ (hiErr pt least budget b ≠ 0 → v = .slice none 0 0) ∧ Below w.heap.size w w'
structure RiI (w wr : World) (pt : Nat → Nat → Int) (lo : List (Nat × Nat)) (v o : Value) (K : List (Nat × Nat × Int)) : Prop where
  told : RfOwn wr w.heap.size v pt lo
  kept : RrOwn wr w.heap.size o pt K
  bel : Below w.heap.size w wr
theorem RiI.keep {w w1 w2 : World} {pt : Nat → Nat → Int} {lo : List (Nat × Nat)} {v o : Value} {K : List (Nat × Nat × Int)} (h : RiI w w1 pt lo v o K) (hb : Below w1.heap.size w1 w2) : RiI w w2 pt lo v o K := ⟨h.told.kept hb, h.kept.kept hb, btr h.bel hb⟩
structure RkI (w1 wr : World) (RB : Nat) (x : Int) : Prop where
  box : Blk wr RB 103 (longA x)
  gr : w1.grownBy wr (some RB)
theorem RkI.keep {w1 w2 w3 : World} {RB : Nat} {x : Int} (h : RkI w1 w2 RB x) (hb : Below w2.heap.size w2 w3) : RkI w1 w3 RB x := ⟨h.box.kept hb, gr_below h.gr hb⟩
theorem RiI.gr {w w1 w2 : World} {pt : Nat → Nat → Int} {lo : List (Nat × Nat)} {v o : Value} {K : List (Nat × Nat × Int)} {RB : Nat} {cs : Array Value} (h : RiI w w1 pt lo v o K) (hb : Blk w1 RB 103 cs) (hR : w.heap.size ≤ RB) (hg : w1.grownBy w2 (some RB)) : RiI w w2 pt lo v o K :=
  ⟨own_gr h.told hg (fun k e => by rw [← e]; exact own_far h.told hb (by decide)), own_gr h.kept hg (fun k e => by rw [← e]; exact own_far h.kept hb (by decide)), h.bel.grown hg h.bel.size (fun k e => by have := Option.some.inj e; omega)⟩
set_option maxRecDepth 100000 in
set_option maxHeartbeats 8000000 in
theorem rhhier (w : World) (RS b : Nat) (pt : Nat → Nat → Int) (hp : RPtIs w RS b pt) (hp64 : ∀ n i, In64 (pt n i)) (hb1 : 1 ≤ b) (hb : b ≤ 59) (least budget : Int) (hl : In64 least) (hbu : In64 budget) :
  Calls Tryz.prog 14 #[.pointer (some ⟨RS, 0, none⟩), .int .i64 least, .int .i64 budget] w (RHiPost w pt least budget b) := by
 obtain ⟨iR, hR, hR0, hR1, hR2⟩ := info_parts Tryz.infoRr
 have PH := Lib.hid (rhheavy w RS b pt hp hb1 hb least budget hl hbu)
 have HCF := Lib.hid hp.1
 have HP64 := Lib.hid hp64
 clear hp hp64
 go_enter Tryz.func14, Tryz.ntmps14
 go_wp2_with fail
 with_reducible refine PH.out.mono ?_
 rintro e w1 ⟨v1, rfl, hv1, hn1, hb'⟩
 have HB1 := Lib.hid hb'
 by_cases hE : hvErr pt least budget b = 0
 ·have HV1 := Lib.hid (hv1 hE)
  have hask : askedUp pt least b (b + 1) ≤ 4096 ∧ 1 ≤ least := by
   unfold hvErr at hE
   split at hE
   ·cases hE
   ·split at hE
    ·cases hE
    ·omega
  have HIE : Hid (∀ o, hiKept pt least b = some o → hiErr pt least budget b = 0) := Lib.hid (fun o h => by unfold hiErr; rw [if_pos hE, h])
  have HIN : Hid (hiKept pt least b = none → hiErr pt least budget b = 4) := Lib.hid (fun h => by unfold hiErr; rw [if_pos hE, h])
  rw [hE]
  have HLV := Lib.hid (hiT_lvd pt least b)
  have HKD : Hid (hiKept pt least b = keptAt pt least (hiT pt least b) (hiT pt least b).length) := Lib.hid rfl
  have HTD : Hid (hiT pt least b = byKey lvK (b + 1) (hvOut pt least b (b + 1))) := Lib.hid rfl
  have HSML := Lib.hid (hvOut_small pt least b (by omega))
  have hlen := hvOut_len pt least b (b + 1)
  obtain ⟨lo, hlo⟩ : ∃ lo, lo = hvOut pt least b (b + 1) := ⟨_, rfl⟩
  have HBD : Hid (∀ p ∈ lo, p.1 ≤ b) := Lib.hid (fun p hp2 => by rw [hlo] at hp2; exact (hv_in (n := p.1) (i := p.2) hp2).1)
  rw [← hlo] at HV1 HSML HTD hlen
  obtain ⟨N, hN⟩ : ∃ N, N = lo.length := ⟨_, rfl⟩
  have HN := Lib.hid hN
  have hNs : N ≤ 4096 := by omega
  obtain ⟨Tl, hTl⟩ : ∃ Tl, Tl = hiT pt least b := ⟨_, rfl⟩
  rw [← hTl] at HLV HKD HTD
  have HTN : Hid (Tl.length ≤ N) := Lib.hid (by
   rw [hTl, hN, hlo]
   exact sub_len (lvd_nodup (hiT_lvd pt least b)) (fun p hp2 => hiT_mem.1 hp2))
  obtain ⟨ao, cap, h3, -, -⟩ := own_open HV1.out
  rw [← hN] at h3
  subst h3
  clear hE hv1 hn1 hb' hlo hN hTl hlen hask
  go_wp2_with fail
  go_loopw [10, 11] (fun o lv wr => ∃ (j : Nat) (K : List (Nat × Nat × Int)), lv = .int .i64 (j : Int) ∧ j ≤ b + 1 ∧ keptAt pt least Tl (posJ lo j 0) = some K ∧ RiI w wr pt lo (.slice ao N cap) o K) (fun _ lv _ => b + 1 - (intOf lv).toNat)
  case atStart =>
   refine ⟨0, [], rfl, Nat.zero_le _, by rw [posJ_zero]; rfl, ⟨HV1.out.kept (below_alloc1 _ _), ?_, btr HB1.out (below_alloc1 _ _)⟩⟩
   exact World.ownsRow_lit (base := w.heap.size) (e := 106) (size := 4) w1 #[] 0 HB1.out.size (by unfold maxLen; omega) (by simp)
  case round =>
   obtain ⟨j, K, rfl, hj, hK, hI⟩ := hrel
   have HI := Lib.hid hI
   have HK := Lib.hid hK
   clear hI hK
   generalize wr = w2 at *
   have c0 := HCF.out w2 HI.out.bel
   by_cases hjb : j ≤ b
   ·have hjz : (j : Int) ≤ (b : Int) := by omega
    go_wp2_with fail
    clear c0
    go_loopw [10, 12] (fun o i wr => ∃ (t : Nat) (K : List (Nat × Nat × Int)), i = .int .i64 (t : Int) ∧ t ≤ N ∧ keptAt pt least Tl (posJ lo j t) = some K ∧ RiI w wr pt lo (.slice ao N cap) o K) (fun _ i _ => N - (intOf i).toNat)
    case atStart => exact ⟨0, K, rfl, Nat.zero_le _, HK.out, HI.out⟩
    case round =>
     clear HI HK
     rename_i K0 _ _ _
     obtain ⟨t, K, rfl, ht, hK, hI⟩ := hrel
     have HI := Lib.hid hI
     have HK := Lib.hid hK
     clear hI hK
     generalize wr = w3 at *
     by_cases htN : t < N
     ·have htz : (t : Int) < (N : Int) := by omega
      obtain ⟨⟨n, i⟩, hp⟩ : ∃ p, lo[t]? = some p := ⟨_, List.getElem?_eq_getElem (by have := HN.out; omega)⟩
      obtain ⟨gl, c', he, -, hgl, -, -, HR⟩ := HI.out.told.range hp
      simp only [Value.slice.injEq] at he
      obtain ⟨rfl, -, rfl⟩ := he
      have HPP := Lib.hid hp
      have hc := HR 0 _ rfl
      have hc2 := HR 2 _ rfl
      simp only [Nat.add_zero] at hc
      have hnb : n ≤ 59 := (HSML.out _ (List.mem_of_getElem? hp)).1
      clear HR
      by_cases hnj : n = j
      ·subst hnj
       have HTT : Hid (Tl[posJ lo n t]? = some (n, i)) := Lib.hid (by rw [HTD.out]; exact posJ_at hp rfl (by omega))
       have HNXT := Lib.hid (keptAt_next HK.out HTT.out)
       have HPY : Hid (posJ lo n (t + 1) = posJ lo n t + 1) := Lib.hid (posJ_yes hp rfl)
       have hsub := keptAt_sub HK.out
       have HND : Hid ((posL K).Nodup) := Lib.hid (lvd_nodup (HLV.out.sublist (hsub.1.trans (List.take_sublist _ _))))
       obtain ⟨M, hM⟩ : ∃ M, M = K.length := ⟨_, rfl⟩
       have HM := Lib.hid hM
       have hMN : M ≤ 4096 := by
        have h1 := hsub.1.length_le
        rw [List.length_map, List.length_take] at h1
        have := HTN.out
        omega
       have HKS : Hid (∀ (k kn ki : Nat) (kx : Int), K[k]? = some (kn, ki, kx) → kn ≤ 59 ∧ ki < 18446744073709551616) := Lib.hid (fun k kn ki kx h => by
        have h1 : (kn, ki) ∈ Tl := (List.take_sublist _ _).subset (hsub.1.subset (List.mem_map.2 ⟨(kn, ki, kx), List.mem_of_getElem? h, rfl⟩))
        rw [HTD.out, byKey_mem] at h1
        exact HSML.out _ h1.1)
       obtain ⟨oo, oc, ho, -, -⟩ := own_open HI.out.kept
       rw [← hM] at ho
       subst ho
       have HOO := Lib.hid (own_apart HI.out.told HI.out.kept (by decide))
       have PO := Lib.hid (fun w => ofint_any (pt n i) (HP64.out n i).1 (HP64.out n i).2 w)
       have HNS : Hid (n ≤ 59 ∧ i < 18446744073709551616) := Lib.hid (HSML.out _ (List.mem_of_getElem? hp))
       clear hsub hM hp
       go_wp2_with fail
       with_reducible refine (PO.out _).mono ?_
       rintro e w4 ⟨rfl, hb⟩
       have HI4 := Lib.hid (HI.out.keep hb)
       clear hb hc hc2
       have HNB := Lib.hid (Blk.new w4 103 #[.int .i64 0, .int .i64 0, .int .i64 0, .int .i64 0, .int .i64 0, .int .i64 0, .int .i64 0, .int .i64 0, .int .i64 0, .int .i64 0])
       have hal := below_alloc1 w4 (.cells #[.int .i64 0, .int .i64 0, .int .i64 0, .int .i64 0, .int .i64 0, .int .i64 0, .int .i64 0, .int .i64 0, .int .i64 0, .int .i64 0] 103)
       have HI5 : Hid (RiI w _ pt lo _ _ K) := Lib.hid ((HI4.out.keep hal).gr HNB.out HI4.out.bel.size (grown_setRow _ _ (longA (pt n i))))
       have HR5 := Lib.hid (HNB.out.rowNew (cs' := longA (pt n i)))
       have HRB : Hid (w.heap.size ≤ w4.heap.size) := Lib.hid HI4.out.bel.size
       clear hal
       go_wp2_with (refine wpList_store_row rfl 103 _ _ rfl w4.heap.size (longA (pt n i)) rfl rfl 103 #[.int .i64 0, .int .i64 0, .int .i64 0, .int .i64 0, .int .i64 0, .int .i64 0, .int .i64 0, .int .i64 0, .int .i64 0, .int .i64 0] HNB.out (long_info _) (by rw [longA_size]; rfl) (longA_one _) ?_)
       generalize ((w4.alloc (.cells #[.int .i64 0, .int .i64 0, .int .i64 0, .int .i64 0, .int .i64 0, .int .i64 0, .int .i64 0, .int .i64 0, .int .i64 0, .int .i64 0] 103)).setRow w4.heap.size (longA (pt n i))) = w5 at *
       generalize w4.heap.size = RB at *
       have HRK0 : Hid (RkI w5 w5 RB (leftK pt (posL K) (n, i) 0)) := Lib.hid ⟨by unfold leftK; simpa using HR5.out, gr_refl _ _⟩
       clear HR5 HNB
       go_wp2_with fail
       go_loopw [14] (fun kv wr => ∃ k : Nat, kv = .int .i64 (k : Int) ∧ k ≤ M ∧ RkI w5 wr RB (leftK pt (posL K) (n, i) k)) (fun kv _ => M - (intOf kv).toNat)
       case atStart => exact ⟨0, rfl, Nat.zero_le _, HRK0.out⟩
       case round =>
        obtain ⟨k, rfl, hk, hrk⟩ := hrel
        have HRK := Lib.hid hrk
        have HI6 := Lib.hid (HI5.out.gr (RkI.box HRK0.out) HRB.out hrk.gr)
        clear hrk
        generalize wr = w6 at *
        by_cases hkM : k < M
        ·have hkz : (k : Int) < (M : Int) := by omega
         obtain ⟨⟨kn, ki, kx⟩, hkp⟩ : ∃ p, K[k]? = some p := ⟨_, List.getElem?_eq_getElem (by have := HM.out; omega)⟩
         obtain ⟨g, c3', he, -, hgK, -, -, hrgK⟩ := HI6.out.kept.range hkp
         simp only [Value.slice.injEq] at he
         obtain ⟨rfl, -, rfl⟩ := he
         have HKP := Lib.hid hkp
         have HKQ := Lib.hid (posL_get hkp)
         have HKB := Lib.hid (HKS.out k kn ki kx hkp)
         have HRGK := Lib.hid (range_two hrgK)
         have HGK := Lib.hid hgK
         have HRGL := Lib.hid (range_two (HI6.out.told.at_ HPP.out).2)
         have HGL := Lib.hid (HI6.out.told.at_ HPP.out).1
         have HLN := Lib.hid (leftK_next (pt := pt) (p := (n, i)) HND.out (posL_get hkp))
         have PIN := Lib.hid (fun w => in_any kn ki n i HKB.out.1 HKB.out.2 HNS.out.1 HNS.out.2 w)
         clear hkp hgK hrgK
         go_upto_region 16 with fail
         go_cut [76] (fun v wx => v = .bool (!liesB (kn, ki) (n, i)) ∧ Below w6.heap.size w6 wx)
         case first =>
          as_aux_lemma =>
           refine wp_region_held_drew (S := fun w' => Below w6.heap.size w6 w') (by kernel_rfl) (by exact below_drewN (Below.refl _ _) 1) (fun hHeld => ?_)
           refine tkH (i := 0) (v := ?_) rfl (by kernel_rfl) (fun _ _ _ h => h) (Or.inl ⟨by rfl, ?_⟩) (by assumption) ?_
           rotate_left
           ·intro w hSw
            try dsimp only at hSw
            go_simp
            try with_reducible rfl
           simp only [Act.put, z1, z2, z3, z4, z5, z6]
           refine tkH (i := 1) (v := ?_) rfl (by kernel_rfl) (fun _ _ _ h => h) (Or.inl ⟨by rfl, ?_⟩) (by assumption) ?_
           rotate_left
           ·intro w hSw
            try dsimp only at hSw
            go_simp
            try with_reducible rfl
           simp only [Act.put, z1, z2, z3, z4, z5, z6]
           refine tkH (i := 2) (v := ?_) rfl (by kernel_rfl) (fun _ _ _ h => h) (Or.inl ⟨by rfl, ?_⟩) (by assumption) ?_
           rotate_left
           ·intro w hSw
            try dsimp only at hSw
            go_simp
            try with_reducible rfl
           simp only [Act.put, z1, z2, z3, z4, z5, z6]
           refine tkH (i := 3) (v := ?_) rfl (by kernel_rfl) (fun _ _ _ h => h) (Or.inl ⟨by rfl, ?_⟩) (by assumption) ?_
           rotate_left
           ·intro w hSw
            try dsimp only at hSw
            go_simp
            try with_reducible rfl
           simp only [Act.put, z1, z2, z3, z4, z5, z6]
           refine tkH (i := 4) (v := ?_) rfl (by kernel_rfl) (fun _ _ _ h => h) (Or.inl ⟨by rfl, ?_⟩) (by assumption) ?_
           rotate_left
           ·intro w hSw
            have q1 := range_block HRGK.out (hSw.block _ HGK.out)
            have q2 := range_block HRGL.out (hSw.block _ HGL.out)
            try (first | refine (exec_load_mid 64 _ rfl g (k * 4) rfl [_, _] _ q1 Tryz.underlying64 rfl (by kernel_rfl)).trans ?_ | refine (exec_load_mid 64 _ rfl gl (t * 3) rfl [_, _] _ q2 Tryz.underlying64 rfl (by kernel_rfl)).trans ?_)
            go_simp
            try with_reducible rfl
           simp only [Act.put, z1, z2, z3, z4, z5, z6]
           refine tkH (i := 5) (v := ?_) rfl (by kernel_rfl) (fun _ _ _ h => h) (Or.inl ⟨by rfl, ?_⟩) (by assumption) ?_
           rotate_left
           ·intro w hSw
            try dsimp only at hSw
            go_simp
            try with_reducible rfl
           simp only [Act.put, z1, z2, z3, z4, z5, z6]
           refine tkH (i := 6) (v := ?_) rfl (by kernel_rfl) (fun _ _ _ h => h) (Or.inl ⟨by rfl, ?_⟩) (by assumption) ?_
           rotate_left
           ·intro w hSw
            try dsimp only at hSw
            go_simp
            try with_reducible rfl
           simp only [Act.put, z1, z2, z3, z4, z5, z6]
           refine tkH (i := 7) (v := ?_) rfl (by kernel_rfl) (fun _ _ _ h => h) (Or.inl ⟨by rfl, ?_⟩) (by assumption) ?_
           rotate_left
           ·intro w hSw
            try dsimp only at hSw
            go_simp
            try with_reducible rfl
           simp only [Act.put, z1, z2, z3, z4, z5, z6]
           refine tkH (i := 8) (v := ?_) rfl (by kernel_rfl) (fun _ _ _ h => h) (Or.inl ⟨by rfl, ?_⟩) (by assumption) ?_
           rotate_left
           ·intro w hSw
            try dsimp only at hSw
            go_simp
            try with_reducible rfl
           simp only [Act.put, z1, z2, z3, z4, z5, z6]
           refine tkH (i := 9) (v := ?_) rfl (by kernel_rfl) (fun _ _ _ h => h) (Or.inl ⟨by rfl, ?_⟩) (by assumption) ?_
           rotate_left
           ·intro w hSw
            have q1 := range_block HRGK.out (hSw.block _ HGK.out)
            have q2 := range_block HRGL.out (hSw.block _ HGL.out)
            try (first | refine (exec_load_mid 64 _ rfl g (k * 4) rfl [_, _] _ q1 Tryz.underlying64 rfl (by kernel_rfl)).trans ?_ | refine (exec_load_mid 64 _ rfl gl (t * 3) rfl [_, _] _ q2 Tryz.underlying64 rfl (by kernel_rfl)).trans ?_)
            go_simp
            try with_reducible rfl
           simp only [Act.put, z1, z2, z3, z4, z5, z6]
           refine wpAnyH_ready (rs := [10]) (by kernel_rfl) (by simp) ?_
           refine AllReadyH.cons rfl (fun Kc hKc => ?_) AllReadyH.nil
           go_simp
           go_wp2_with ((with_reducible refine (PIN.out _).mono ?_; rintro e wq ⟨rfl, hb'⟩))
           refine hKc.out _ _ ?_ (fun hHeld => ?_)
           ·first | assumption | exact hHeld | exact btr hHeld hb'
           clear hKc Kc
           refine tkH (i := 11) (v := ?_) rfl (by kernel_rfl) (fun _ _ _ h => h) (Or.inl ⟨by rfl, ?_⟩) (by assumption) ?_
           rotate_left
           ·intro w hSw
            try dsimp only at hSw
            go_simp
            try with_reducible rfl
           simp only [Act.put, z1, z2, z3, z4, z5, z6]
           refine wpAnyH_done (by kernel_rfl) ?_ _
           have HBD := Lib.hid hHeld
           clear hHeld
           go_wp2_with fail
           go_meet
           exact ⟨by first | rfl | simp, HBD.out⟩
         case rest =>
          obtain ⟨rfl, hb⟩ := hcut
          have HRK7 := Lib.hid (HRK.out.keep hb)
          have HI7 := Lib.hid (HI6.out.keep hb)
          clear HRGK HGK HRGL HGL PIN hb HI6 HRK
          generalize wc = w7 at *
          rcases hl1 : liesB (kn, ki) (n, i) with _ | _
          ·rw [hl1] at HLN
           have HLE : Hid (leftK pt (posL K) (n, i) (k + 1) = leftK pt (posL K) (n, i) k) := Lib.hid (by rw [HLN.out, if_neg (by simp)])
           clear hl1
           simp only [Bool.not_false]
           go_wp2_with fail
           go_roundw
           case rel => exact ⟨k + 1, by go_num, by omega, by rw [HLE.out]; exact HRK7.out⟩
           case measure => simp [intOf]; omega
          ·rw [hl1] at HLN
           clear hl1
           simp only [Bool.not_true]
           go_wp2_with fail
           go_loopw [15, 16] (fun al mv wr => ∃ mm : Nat, mv = .int .i64 (mm : Int) ∧ mm ≤ M ∧ al = .bool (aloneR (posL K) (n, i) k mm) ∧ Below w7.heap.size w7 wr) (fun _ mv _ => M - (intOf mv).toNat)
           case atStart => exact ⟨0, rfl, Nat.zero_le _, rfl, Below.refl _ _⟩
           case round =>
            obtain ⟨mm, rfl, hm, rfl, hbl⟩ := hrel
            have HBL := Lib.hid hbl
            clear hbl
            generalize wr = w8 at *
            have HI8 := Lib.hid (HI7.out.keep HBL.out)
            by_cases hmM : mm < M
            ·have hmz : (mm : Int) < (M : Int) := by omega
             obtain ⟨⟨mn, mi, mx⟩, hmp⟩ : ∃ p, K[mm]? = some p := ⟨_, List.getElem?_eq_getElem (by have := HM.out; omega)⟩
             have HMB := Lib.hid (HKS.out mm mn mi mx hmp)
             have HRGK := Lib.hid (range_two (HI8.out.kept.at_ HKP.out).2)
             have HGK := Lib.hid (HI8.out.kept.at_ HKP.out).1
             have HRGM := Lib.hid (range_two (HI8.out.kept.at_ hmp).2)
             have HRGL := Lib.hid (range_two (HI8.out.told.at_ HPP.out).2)
             have HGL := Lib.hid (HI8.out.told.at_ HPP.out).1
             have HAN : Hid (aloneR (posL K) (n, i) k (mm + 1) = (aloneR (posL K) (n, i) k mm && (decide (mm = k) || !(liesB (kn, ki) (mn, mi) && liesB (mn, mi) (n, i))))) := Lib.hid (by
              conv => lhs; unfold aloneR
              rw [HKQ.out, posL_get hmp])
             have PKM := Lib.hid (fun w => in_any kn ki mn mi HKB.out.1 HKB.out.2 HMB.out.1 HMB.out.2 w)
             have PMT := Lib.hid (fun w => in_any mn mi n i HMB.out.1 HMB.out.2 HNS.out.1 HNS.out.2 w)
             obtain ⟨A0, hA0⟩ : ∃ A0, A0 = aloneR (posL K) (n, i) k mm := ⟨_, rfl⟩
             rw [← hA0] at HAN ⊢
             clear hmp hA0
             by_cases hmk : mm = k
             ·have HAM : Hid (aloneR (posL K) (n, i) k (mm + 1) = A0) := Lib.hid (by rw [HAN.out]; simp [hmk])
              have hmk1 : ((mm : Int) != (k : Int)) = false := by simp [hmk]
              have hmk2 : (mm != k) = false := by simp [hmk]
              have hmk3 : ¬ (mm : Int) ≠ (k : Int) := by omega
              have hmk4 : (mm : Int) = (k : Int) := by omega
              clear hmk HAN
              go_wp2_with fail
              as_aux_lemma =>
               refine wp_region_held_drew (S := fun w' => Below w8.heap.size w8 w') (by kernel_rfl) (by exact below_drewN (Below.refl _ _) 1) (fun hHeld => ?_)
               refine tkH (i := 0) (v := ?_) rfl (by kernel_rfl) (fun _ _ _ h => h) (Or.inl ⟨by rfl, ?_⟩) (by assumption) ?_
               rotate_left
               ·intro w hSw
                try dsimp only at hSw
                go_simp
                try with_reducible rfl
               simp only [Act.put, z1, z2, z3, z4, z5, z6]
               refine tkH (i := 1) (v := ?_) rfl (by kernel_rfl) (fun _ _ _ h => h) (Or.inl ⟨by rfl, ?_⟩) (by assumption) ?_
               rotate_left
               ·intro w hSw
                try dsimp only at hSw
                go_simp
                try with_reducible rfl
               simp only [Act.put, z1, z2, z3, z4, z5, z6]
               refine tkH (i := 2) (v := ?_) rfl (by kernel_rfl) (fun _ _ _ h => h) (Or.inl ⟨by rfl, ?_⟩) (by assumption) ?_
               rotate_left
               ·intro w hSw
                try dsimp only at hSw
                go_simp
                try with_reducible rfl
               simp only [Act.put, z1, z2, z3, z4, z5, z6]
               refine tkH (i := 3) (v := ?_) rfl (by kernel_rfl) (fun _ _ _ h => h) (Or.inl ⟨by rfl, ?_⟩) (by assumption) ?_
               rotate_left
               ·intro w hSw
                try dsimp only at hSw
                go_simp
                try with_reducible rfl
               simp only [Act.put, z1, z2, z3, z4, z5, z6]
               refine tkH (i := 4) (v := undef) rfl (by kernel_rfl) (fun _ _ _ h => h) (Or.inr ⟨by rfl, rfl⟩) (by assumption) ?_
               simp only [Act.put, z1, z2, z3, z4, z5, z6]
               refine tkH (i := 5) (v := undef) rfl (by kernel_rfl) (fun _ _ _ h => h) (Or.inr ⟨by rfl, rfl⟩) (by assumption) ?_
               simp only [Act.put, z1, z2, z3, z4, z5, z6]
               refine tkH (i := 6) (v := undef) rfl (by kernel_rfl) (fun _ _ _ h => h) (Or.inr ⟨by rfl, rfl⟩) (by assumption) ?_
               simp only [Act.put, z1, z2, z3, z4, z5, z6]
               refine tkH (i := 7) (v := undef) rfl (by kernel_rfl) (fun _ _ _ h => h) (Or.inr ⟨by rfl, rfl⟩) (by assumption) ?_
               simp only [Act.put, z1, z2, z3, z4, z5, z6]
               refine tkH (i := 8) (v := undef) rfl (by kernel_rfl) (fun _ _ _ h => h) (Or.inr ⟨by rfl, rfl⟩) (by assumption) ?_
               simp only [Act.put, z1, z2, z3, z4, z5, z6]
               refine tkH (i := 9) (v := undef) rfl (by kernel_rfl) (fun _ _ _ h => h) (Or.inr ⟨by rfl, rfl⟩) (by assumption) ?_
               simp only [Act.put, z1, z2, z3, z4, z5, z6]
               refine tkH (i := 10) (v := undef) rfl (by kernel_rfl) (fun _ _ _ h => h) (Or.inr ⟨by rfl, rfl⟩) (by assumption) ?_
               simp only [Act.put, z1, z2, z3, z4, z5, z6]
               refine tkH (i := 11) (v := undef) rfl (by kernel_rfl) (fun _ _ _ h => h) (Or.inr ⟨by rfl, rfl⟩) (by assumption) ?_
               simp only [Act.put, z1, z2, z3, z4, z5, z6]
               refine tkH (i := 12) (v := undef) rfl (by kernel_rfl) (fun _ _ _ h => h) (Or.inr ⟨by rfl, rfl⟩) (by assumption) ?_
               simp only [Act.put, z1, z2, z3, z4, z5, z6]
               refine tkH (i := 13) (v := undef) rfl (by kernel_rfl) (fun _ _ _ h => h) (Or.inr ⟨by rfl, rfl⟩) (by assumption) ?_
               simp only [Act.put, z1, z2, z3, z4, z5, z6]
               refine wpAnyH_ready (rs := [14]) (by kernel_rfl) (by simp) ?_
               refine AllReadyH.cons rfl (fun Kc hKc => ?_) AllReadyH.nil
               go_simp
               refine hKc.out _ _ ?_ (fun hHeld => ?_)
               ·first | assumption | exact hHeld | exact btr hHeld hb'
               clear hKc Kc
               refine tkH (i := 15) (v := ?_) rfl (by kernel_rfl) (fun _ _ _ h => h) (Or.inl ⟨by rfl, ?_⟩) (by assumption) ?_
               rotate_left
               ·intro w hSw
                try dsimp only at hSw
                go_simp
                try with_reducible rfl
               simp only [Act.put, z1, z2, z3, z4, z5, z6]
               refine tkH (i := 16) (v := ?_) rfl (by kernel_rfl) (fun _ _ _ h => h) (Or.inl ⟨by rfl, ?_⟩) (by assumption) ?_
               rotate_left
               ·intro w hSw
                try dsimp only at hSw
                go_simp
                try with_reducible rfl
               simp only [Act.put, z1, z2, z3, z4, z5, z6]
               refine tkH (i := 17) (v := undef) rfl (by kernel_rfl) (fun _ _ _ h => h) (Or.inr ⟨by rfl, rfl⟩) (by assumption) ?_
               simp only [Act.put, z1, z2, z3, z4, z5, z6]
               refine tkH (i := 18) (v := undef) rfl (by kernel_rfl) (fun _ _ _ h => h) (Or.inr ⟨by rfl, rfl⟩) (by assumption) ?_
               simp only [Act.put, z1, z2, z3, z4, z5, z6]
               refine tkH (i := 19) (v := undef) rfl (by kernel_rfl) (fun _ _ _ h => h) (Or.inr ⟨by rfl, rfl⟩) (by assumption) ?_
               simp only [Act.put, z1, z2, z3, z4, z5, z6]
               refine tkH (i := 20) (v := undef) rfl (by kernel_rfl) (fun _ _ _ h => h) (Or.inr ⟨by rfl, rfl⟩) (by assumption) ?_
               simp only [Act.put, z1, z2, z3, z4, z5, z6]
               refine tkH (i := 21) (v := undef) rfl (by kernel_rfl) (fun _ _ _ h => h) (Or.inr ⟨by rfl, rfl⟩) (by assumption) ?_
               simp only [Act.put, z1, z2, z3, z4, z5, z6]
               refine tkH (i := 22) (v := undef) rfl (by kernel_rfl) (fun _ _ _ h => h) (Or.inr ⟨by rfl, rfl⟩) (by assumption) ?_
               simp only [Act.put, z1, z2, z3, z4, z5, z6]
               refine tkH (i := 23) (v := undef) rfl (by kernel_rfl) (fun _ _ _ h => h) (Or.inr ⟨by rfl, rfl⟩) (by assumption) ?_
               simp only [Act.put, z1, z2, z3, z4, z5, z6]
               refine tkH (i := 24) (v := undef) rfl (by kernel_rfl) (fun _ _ _ h => h) (Or.inr ⟨by rfl, rfl⟩) (by assumption) ?_
               simp only [Act.put, z1, z2, z3, z4, z5, z6]
               refine tkH (i := 25) (v := undef) rfl (by kernel_rfl) (fun _ _ _ h => h) (Or.inr ⟨by rfl, rfl⟩) (by assumption) ?_
               simp only [Act.put, z1, z2, z3, z4, z5, z6]
               refine tkH (i := 26) (v := undef) rfl (by kernel_rfl) (fun _ _ _ h => h) (Or.inr ⟨by rfl, rfl⟩) (by assumption) ?_
               simp only [Act.put, z1, z2, z3, z4, z5, z6]
               refine wpAnyH_ready (rs := [27]) (by kernel_rfl) (by simp) ?_
               refine AllReadyH.cons rfl (fun Kc hKc => ?_) AllReadyH.nil
               go_simp
               refine hKc.out _ _ ?_ (fun hHeld => ?_)
               ·first | assumption | exact hHeld | exact btr hHeld hb'
               clear hKc Kc
               refine tkH (i := 28) (v := ?_) rfl (by kernel_rfl) (fun _ _ _ h => h) (Or.inl ⟨by rfl, ?_⟩) (by assumption) ?_
               rotate_left
               ·intro w hSw
                try dsimp only at hSw
                go_simp
                try with_reducible rfl
               simp only [Act.put, z1, z2, z3, z4, z5, z6]
               refine wpAnyH_done (by kernel_rfl) ?_ _
               have HBD := Lib.hid hHeld
               clear hHeld
               go_wp2_with fail
               go_roundw
               case rel => exact ⟨mm + 1, by go_num, by omega, by rw [HAM.out], btr HBL.out HBD.out⟩
               case measure => simp [intOf]; omega
             ·rw [decide_eq_false hmk, Bool.false_or] at HAN
              have hmk1 : ((mm : Int) != (k : Int)) = true := by simp; omega
              have hmk2 : (mm != k) = true := by simp; omega
              have hmk3 : ¬ (mm : Int) = (k : Int) := by omega
              clear hmk
              rcases hl1 : liesB (kn, ki) (mn, mi) with _ | _
              ·rw [hl1] at PKM HAN
               have HAM : Hid (aloneR (posL K) (n, i) k (mm + 1) = A0) := Lib.hid (by rw [HAN.out]; simp)
               clear hl1 HAN
               go_wp2_with fail
               as_aux_lemma =>
                refine wp_region_held_drew (S := fun w' => Below w8.heap.size w8 w') (by kernel_rfl) (by exact below_drewN (Below.refl _ _) 1) (fun hHeld => ?_)
                refine tkH (i := 0) (v := ?_) rfl (by kernel_rfl) (fun _ _ _ h => h) (Or.inl ⟨by rfl, ?_⟩) (by assumption) ?_
                rotate_left
                ·intro w hSw
                 try dsimp only at hSw
                 go_simp
                 try with_reducible rfl
                simp only [Act.put, z1, z2, z3, z4, z5, z6]
                refine tkH (i := 1) (v := ?_) rfl (by kernel_rfl) (fun _ _ _ h => h) (Or.inl ⟨by rfl, ?_⟩) (by assumption) ?_
                rotate_left
                ·intro w hSw
                 try dsimp only at hSw
                 go_simp
                 try with_reducible rfl
                simp only [Act.put, z1, z2, z3, z4, z5, z6]
                refine tkH (i := 2) (v := ?_) rfl (by kernel_rfl) (fun _ _ _ h => h) (Or.inl ⟨by rfl, ?_⟩) (by assumption) ?_
                rotate_left
                ·intro w hSw
                 try dsimp only at hSw
                 go_simp
                 try with_reducible rfl
                simp only [Act.put, z1, z2, z3, z4, z5, z6]
                refine tkH (i := 3) (v := ?_) rfl (by kernel_rfl) (fun _ _ _ h => h) (Or.inl ⟨by rfl, ?_⟩) (by assumption) ?_
                rotate_left
                ·intro w hSw
                 try dsimp only at hSw
                 go_simp
                 try with_reducible rfl
                simp only [Act.put, z1, z2, z3, z4, z5, z6]
                refine tkH (i := 4) (v := ?_) rfl (by kernel_rfl) (fun _ _ _ h => h) (Or.inl ⟨by rfl, ?_⟩) (by assumption) ?_
                rotate_left
                ·intro w hSw
                 try dsimp only at hSw
                 go_simp
                 try with_reducible rfl
                simp only [Act.put, z1, z2, z3, z4, z5, z6]
                refine tkH (i := 5) (v := ?_) rfl (by kernel_rfl) (fun _ _ _ h => h) (Or.inl ⟨by rfl, ?_⟩) (by assumption) ?_
                rotate_left
                ·intro w hSw
                 try dsimp only at hSw
                 go_simp
                 try with_reducible rfl
                simp only [Act.put, z1, z2, z3, z4, z5, z6]
                refine tkH (i := 6) (v := ?_) rfl (by kernel_rfl) (fun _ _ _ h => h) (Or.inl ⟨by rfl, ?_⟩) (by assumption) ?_
                rotate_left
                ·intro w hSw
                 try dsimp only at hSw
                 go_simp
                 try with_reducible rfl
                simp only [Act.put, z1, z2, z3, z4, z5, z6]
                refine tkH (i := 7) (v := ?_) rfl (by kernel_rfl) (fun _ _ _ h => h) (Or.inl ⟨by rfl, ?_⟩) (by assumption) ?_
                rotate_left
                ·intro w hSw
                 try dsimp only at hSw
                 go_simp
                 try with_reducible rfl
                simp only [Act.put, z1, z2, z3, z4, z5, z6]
                refine tkH (i := 8) (v := ?_) rfl (by kernel_rfl) (fun _ _ _ h => h) (Or.inl ⟨by rfl, ?_⟩) (by assumption) ?_
                rotate_left
                ·intro w hSw
                 have q1 := range_block HRGK.out (hSw.block _ HGK.out)
                 have q2 := range_block HRGL.out (hSw.block _ HGL.out)
                 have q3 := range_block HRGM.out (hSw.block _ HGK.out)
                 try (first | refine (exec_load_mid 64 _ rfl g (k * 4) rfl [_, _] _ q1 Tryz.underlying64 rfl (by kernel_rfl)).trans ?_ | refine (exec_load_mid 64 _ rfl gl (t * 3) rfl [_, _] _ q2 Tryz.underlying64 rfl (by kernel_rfl)).trans ?_ | refine (exec_load_mid 64 _ rfl g (mm * 4) rfl [_, _] _ q3 Tryz.underlying64 rfl (by kernel_rfl)).trans ?_)
                 go_simp
                 try with_reducible rfl
                simp only [Act.put, z1, z2, z3, z4, z5, z6]
                refine tkH (i := 9) (v := ?_) rfl (by kernel_rfl) (fun _ _ _ h => h) (Or.inl ⟨by rfl, ?_⟩) (by assumption) ?_
                rotate_left
                ·intro w hSw
                 try dsimp only at hSw
                 go_simp
                 try with_reducible rfl
                simp only [Act.put, z1, z2, z3, z4, z5, z6]
                refine tkH (i := 10) (v := ?_) rfl (by kernel_rfl) (fun _ _ _ h => h) (Or.inl ⟨by rfl, ?_⟩) (by assumption) ?_
                rotate_left
                ·intro w hSw
                 try dsimp only at hSw
                 go_simp
                 try with_reducible rfl
                simp only [Act.put, z1, z2, z3, z4, z5, z6]
                refine tkH (i := 11) (v := ?_) rfl (by kernel_rfl) (fun _ _ _ h => h) (Or.inl ⟨by rfl, ?_⟩) (by assumption) ?_
                rotate_left
                ·intro w hSw
                 try dsimp only at hSw
                 go_simp
                 try with_reducible rfl
                simp only [Act.put, z1, z2, z3, z4, z5, z6]
                refine tkH (i := 12) (v := ?_) rfl (by kernel_rfl) (fun _ _ _ h => h) (Or.inl ⟨by rfl, ?_⟩) (by assumption) ?_
                rotate_left
                ·intro w hSw
                 try dsimp only at hSw
                 go_simp
                 try with_reducible rfl
                simp only [Act.put, z1, z2, z3, z4, z5, z6]
                refine tkH (i := 13) (v := ?_) rfl (by kernel_rfl) (fun _ _ _ h => h) (Or.inl ⟨by rfl, ?_⟩) (by assumption) ?_
                rotate_left
                ·intro w hSw
                 have q1 := range_block HRGK.out (hSw.block _ HGK.out)
                 have q2 := range_block HRGL.out (hSw.block _ HGL.out)
                 have q3 := range_block HRGM.out (hSw.block _ HGK.out)
                 try (first | refine (exec_load_mid 64 _ rfl g (k * 4) rfl [_, _] _ q1 Tryz.underlying64 rfl (by kernel_rfl)).trans ?_ | refine (exec_load_mid 64 _ rfl gl (t * 3) rfl [_, _] _ q2 Tryz.underlying64 rfl (by kernel_rfl)).trans ?_ | refine (exec_load_mid 64 _ rfl g (mm * 4) rfl [_, _] _ q3 Tryz.underlying64 rfl (by kernel_rfl)).trans ?_)
                 go_simp
                 try with_reducible rfl
                simp only [Act.put, z1, z2, z3, z4, z5, z6]
                refine wpAnyH_ready (rs := [14]) (by kernel_rfl) (by simp) ?_
                refine AllReadyH.cons rfl (fun Kc hKc => ?_) AllReadyH.nil
                go_simp
                go_wp2_with ((with_reducible refine (PKM.out _).mono ?_; rintro e wq ⟨rfl, hb'⟩))
                refine hKc.out _ _ ?_ (fun hHeld => ?_)
                ·first | assumption | exact hHeld | exact btr hHeld hb'
                clear hKc Kc
                refine tkH (i := 15) (v := ?_) rfl (by kernel_rfl) (fun _ _ _ h => h) (Or.inl ⟨by rfl, ?_⟩) (by assumption) ?_
                rotate_left
                ·intro w hSw
                 try dsimp only at hSw
                 go_simp
                 try with_reducible rfl
                simp only [Act.put, z1, z2, z3, z4, z5, z6]
                refine tkH (i := 16) (v := ?_) rfl (by kernel_rfl) (fun _ _ _ h => h) (Or.inl ⟨by rfl, ?_⟩) (by assumption) ?_
                rotate_left
                ·intro w hSw
                 try dsimp only at hSw
                 go_simp
                 try with_reducible rfl
                simp only [Act.put, z1, z2, z3, z4, z5, z6]
                refine tkH (i := 17) (v := undef) rfl (by kernel_rfl) (fun _ _ _ h => h) (Or.inr ⟨by rfl, rfl⟩) (by assumption) ?_
                simp only [Act.put, z1, z2, z3, z4, z5, z6]
                refine tkH (i := 18) (v := undef) rfl (by kernel_rfl) (fun _ _ _ h => h) (Or.inr ⟨by rfl, rfl⟩) (by assumption) ?_
                simp only [Act.put, z1, z2, z3, z4, z5, z6]
                refine tkH (i := 19) (v := undef) rfl (by kernel_rfl) (fun _ _ _ h => h) (Or.inr ⟨by rfl, rfl⟩) (by assumption) ?_
                simp only [Act.put, z1, z2, z3, z4, z5, z6]
                refine tkH (i := 20) (v := undef) rfl (by kernel_rfl) (fun _ _ _ h => h) (Or.inr ⟨by rfl, rfl⟩) (by assumption) ?_
                simp only [Act.put, z1, z2, z3, z4, z5, z6]
                refine tkH (i := 21) (v := undef) rfl (by kernel_rfl) (fun _ _ _ h => h) (Or.inr ⟨by rfl, rfl⟩) (by assumption) ?_
                simp only [Act.put, z1, z2, z3, z4, z5, z6]
                refine tkH (i := 22) (v := undef) rfl (by kernel_rfl) (fun _ _ _ h => h) (Or.inr ⟨by rfl, rfl⟩) (by assumption) ?_
                simp only [Act.put, z1, z2, z3, z4, z5, z6]
                refine tkH (i := 23) (v := undef) rfl (by kernel_rfl) (fun _ _ _ h => h) (Or.inr ⟨by rfl, rfl⟩) (by assumption) ?_
                simp only [Act.put, z1, z2, z3, z4, z5, z6]
                refine tkH (i := 24) (v := undef) rfl (by kernel_rfl) (fun _ _ _ h => h) (Or.inr ⟨by rfl, rfl⟩) (by assumption) ?_
                simp only [Act.put, z1, z2, z3, z4, z5, z6]
                refine tkH (i := 25) (v := undef) rfl (by kernel_rfl) (fun _ _ _ h => h) (Or.inr ⟨by rfl, rfl⟩) (by assumption) ?_
                simp only [Act.put, z1, z2, z3, z4, z5, z6]
                refine tkH (i := 26) (v := undef) rfl (by kernel_rfl) (fun _ _ _ h => h) (Or.inr ⟨by rfl, rfl⟩) (by assumption) ?_
                simp only [Act.put, z1, z2, z3, z4, z5, z6]
                refine wpAnyH_ready (rs := [27]) (by kernel_rfl) (by simp) ?_
                refine AllReadyH.cons rfl (fun Kc hKc => ?_) AllReadyH.nil
                go_simp
                refine hKc.out _ _ ?_ (fun hHeld => ?_)
                ·first | assumption | exact hHeld | exact btr hHeld hb'
                clear hKc Kc
                refine tkH (i := 28) (v := ?_) rfl (by kernel_rfl) (fun _ _ _ h => h) (Or.inl ⟨by rfl, ?_⟩) (by assumption) ?_
                rotate_left
                ·intro w hSw
                 try dsimp only at hSw
                 go_simp
                 try with_reducible rfl
                simp only [Act.put, z1, z2, z3, z4, z5, z6]
                refine wpAnyH_done (by kernel_rfl) ?_ _
                have HBD := Lib.hid hHeld
                clear hHeld
                go_wp2_with fail
                go_roundw
                case rel => exact ⟨mm + 1, by go_num, by omega, by rw [HAM.out], btr HBL.out HBD.out⟩
                case measure => simp [intOf]; omega
              ·rw [hl1] at PKM HAN
               clear hl1
               rcases hl2 : liesB (mn, mi) (n, i) with _ | _
               ·rw [hl2] at PMT HAN
                have HAM : Hid (aloneR (posL K) (n, i) k (mm + 1) = A0) := Lib.hid (by rw [HAN.out]; simp)
                clear hl2 HAN
                go_wp2_with fail
                as_aux_lemma =>
                 refine wp_region_held_drew (S := fun w' => Below w8.heap.size w8 w') (by kernel_rfl) (by exact below_drewN (Below.refl _ _) 1) (fun hHeld => ?_)
                 refine tkH (i := 0) (v := ?_) rfl (by kernel_rfl) (fun _ _ _ h => h) (Or.inl ⟨by rfl, ?_⟩) (by assumption) ?_
                 rotate_left
                 ·intro w hSw
                  try dsimp only at hSw
                  go_simp
                  try with_reducible rfl
                 simp only [Act.put, z1, z2, z3, z4, z5, z6]
                 refine tkH (i := 1) (v := ?_) rfl (by kernel_rfl) (fun _ _ _ h => h) (Or.inl ⟨by rfl, ?_⟩) (by assumption) ?_
                 rotate_left
                 ·intro w hSw
                  try dsimp only at hSw
                  go_simp
                  try with_reducible rfl
                 simp only [Act.put, z1, z2, z3, z4, z5, z6]
                 refine tkH (i := 2) (v := ?_) rfl (by kernel_rfl) (fun _ _ _ h => h) (Or.inl ⟨by rfl, ?_⟩) (by assumption) ?_
                 rotate_left
                 ·intro w hSw
                  try dsimp only at hSw
                  go_simp
                  try with_reducible rfl
                 simp only [Act.put, z1, z2, z3, z4, z5, z6]
                 refine tkH (i := 3) (v := ?_) rfl (by kernel_rfl) (fun _ _ _ h => h) (Or.inl ⟨by rfl, ?_⟩) (by assumption) ?_
                 rotate_left
                 ·intro w hSw
                  try dsimp only at hSw
                  go_simp
                  try with_reducible rfl
                 simp only [Act.put, z1, z2, z3, z4, z5, z6]
                 refine tkH (i := 4) (v := ?_) rfl (by kernel_rfl) (fun _ _ _ h => h) (Or.inl ⟨by rfl, ?_⟩) (by assumption) ?_
                 rotate_left
                 ·intro w hSw
                  try dsimp only at hSw
                  go_simp
                  try with_reducible rfl
                 simp only [Act.put, z1, z2, z3, z4, z5, z6]
                 refine tkH (i := 5) (v := ?_) rfl (by kernel_rfl) (fun _ _ _ h => h) (Or.inl ⟨by rfl, ?_⟩) (by assumption) ?_
                 rotate_left
                 ·intro w hSw
                  try dsimp only at hSw
                  go_simp
                  try with_reducible rfl
                 simp only [Act.put, z1, z2, z3, z4, z5, z6]
                 refine tkH (i := 6) (v := ?_) rfl (by kernel_rfl) (fun _ _ _ h => h) (Or.inl ⟨by rfl, ?_⟩) (by assumption) ?_
                 rotate_left
                 ·intro w hSw
                  try dsimp only at hSw
                  go_simp
                  try with_reducible rfl
                 simp only [Act.put, z1, z2, z3, z4, z5, z6]
                 refine tkH (i := 7) (v := ?_) rfl (by kernel_rfl) (fun _ _ _ h => h) (Or.inl ⟨by rfl, ?_⟩) (by assumption) ?_
                 rotate_left
                 ·intro w hSw
                  try dsimp only at hSw
                  go_simp
                  try with_reducible rfl
                 simp only [Act.put, z1, z2, z3, z4, z5, z6]
                 refine tkH (i := 8) (v := ?_) rfl (by kernel_rfl) (fun _ _ _ h => h) (Or.inl ⟨by rfl, ?_⟩) (by assumption) ?_
                 rotate_left
                 ·intro w hSw
                  have q1 := range_block HRGK.out (hSw.block _ HGK.out)
                  have q2 := range_block HRGL.out (hSw.block _ HGL.out)
                  have q3 := range_block HRGM.out (hSw.block _ HGK.out)
                  try (first | refine (exec_load_mid 64 _ rfl g (k * 4) rfl [_, _] _ q1 Tryz.underlying64 rfl (by kernel_rfl)).trans ?_ | refine (exec_load_mid 64 _ rfl gl (t * 3) rfl [_, _] _ q2 Tryz.underlying64 rfl (by kernel_rfl)).trans ?_ | refine (exec_load_mid 64 _ rfl g (mm * 4) rfl [_, _] _ q3 Tryz.underlying64 rfl (by kernel_rfl)).trans ?_)
                  go_simp
                  try with_reducible rfl
                 simp only [Act.put, z1, z2, z3, z4, z5, z6]
                 refine tkH (i := 9) (v := ?_) rfl (by kernel_rfl) (fun _ _ _ h => h) (Or.inl ⟨by rfl, ?_⟩) (by assumption) ?_
                 rotate_left
                 ·intro w hSw
                  try dsimp only at hSw
                  go_simp
                  try with_reducible rfl
                 simp only [Act.put, z1, z2, z3, z4, z5, z6]
                 refine tkH (i := 10) (v := ?_) rfl (by kernel_rfl) (fun _ _ _ h => h) (Or.inl ⟨by rfl, ?_⟩) (by assumption) ?_
                 rotate_left
                 ·intro w hSw
                  try dsimp only at hSw
                  go_simp
                  try with_reducible rfl
                 simp only [Act.put, z1, z2, z3, z4, z5, z6]
                 refine tkH (i := 11) (v := ?_) rfl (by kernel_rfl) (fun _ _ _ h => h) (Or.inl ⟨by rfl, ?_⟩) (by assumption) ?_
                 rotate_left
                 ·intro w hSw
                  try dsimp only at hSw
                  go_simp
                  try with_reducible rfl
                 simp only [Act.put, z1, z2, z3, z4, z5, z6]
                 refine tkH (i := 12) (v := ?_) rfl (by kernel_rfl) (fun _ _ _ h => h) (Or.inl ⟨by rfl, ?_⟩) (by assumption) ?_
                 rotate_left
                 ·intro w hSw
                  try dsimp only at hSw
                  go_simp
                  try with_reducible rfl
                 simp only [Act.put, z1, z2, z3, z4, z5, z6]
                 refine tkH (i := 13) (v := ?_) rfl (by kernel_rfl) (fun _ _ _ h => h) (Or.inl ⟨by rfl, ?_⟩) (by assumption) ?_
                 rotate_left
                 ·intro w hSw
                  have q1 := range_block HRGK.out (hSw.block _ HGK.out)
                  have q2 := range_block HRGL.out (hSw.block _ HGL.out)
                  have q3 := range_block HRGM.out (hSw.block _ HGK.out)
                  try (first | refine (exec_load_mid 64 _ rfl g (k * 4) rfl [_, _] _ q1 Tryz.underlying64 rfl (by kernel_rfl)).trans ?_ | refine (exec_load_mid 64 _ rfl gl (t * 3) rfl [_, _] _ q2 Tryz.underlying64 rfl (by kernel_rfl)).trans ?_ | refine (exec_load_mid 64 _ rfl g (mm * 4) rfl [_, _] _ q3 Tryz.underlying64 rfl (by kernel_rfl)).trans ?_)
                  go_simp
                  try with_reducible rfl
                 simp only [Act.put, z1, z2, z3, z4, z5, z6]
                 refine wpAnyH_ready (rs := [14]) (by kernel_rfl) (by simp) ?_
                 refine AllReadyH.cons rfl (fun Kc hKc => ?_) AllReadyH.nil
                 go_simp
                 go_wp2_with ((first | (with_reducible refine (PKM.out _).mono ?_; rintro e wq ⟨rfl, hb'⟩) | (with_reducible refine (PMT.out _).mono ?_; rintro e wq ⟨rfl, hb'⟩)))
                 refine hKc.out _ _ ?_ (fun hHeld => ?_)
                 ·first | assumption | exact hHeld | exact btr hHeld hb'
                 clear hKc Kc
                 refine tkH (i := 15) (v := ?_) rfl (by kernel_rfl) (fun _ _ _ h => h) (Or.inl ⟨by rfl, ?_⟩) (by assumption) ?_
                 rotate_left
                 ·intro w hSw
                  try dsimp only at hSw
                  go_simp
                  try with_reducible rfl
                 simp only [Act.put, z1, z2, z3, z4, z5, z6]
                 refine tkH (i := 16) (v := ?_) rfl (by kernel_rfl) (fun _ _ _ h => h) (Or.inl ⟨by rfl, ?_⟩) (by assumption) ?_
                 rotate_left
                 ·intro w hSw
                  try dsimp only at hSw
                  go_simp
                  try with_reducible rfl
                 simp only [Act.put, z1, z2, z3, z4, z5, z6]
                 refine tkH (i := 17) (v := ?_) rfl (by kernel_rfl) (fun _ _ _ h => h) (Or.inl ⟨by rfl, ?_⟩) (by assumption) ?_
                 rotate_left
                 ·intro w hSw
                  try dsimp only at hSw
                  go_simp
                  try with_reducible rfl
                 simp only [Act.put, z1, z2, z3, z4, z5, z6]
                 refine tkH (i := 18) (v := ?_) rfl (by kernel_rfl) (fun _ _ _ h => h) (Or.inl ⟨by rfl, ?_⟩) (by assumption) ?_
                 rotate_left
                 ·intro w hSw
                  try dsimp only at hSw
                  go_simp
                  try with_reducible rfl
                 simp only [Act.put, z1, z2, z3, z4, z5, z6]
                 refine tkH (i := 19) (v := ?_) rfl (by kernel_rfl) (fun _ _ _ h => h) (Or.inl ⟨by rfl, ?_⟩) (by assumption) ?_
                 rotate_left
                 ·intro w hSw
                  try dsimp only at hSw
                  go_simp
                  try with_reducible rfl
                 simp only [Act.put, z1, z2, z3, z4, z5, z6]
                 refine tkH (i := 20) (v := ?_) rfl (by kernel_rfl) (fun _ _ _ h => h) (Or.inl ⟨by rfl, ?_⟩) (by assumption) ?_
                 rotate_left
                 ·intro w hSw
                  try dsimp only at hSw
                  go_simp
                  try with_reducible rfl
                 simp only [Act.put, z1, z2, z3, z4, z5, z6]
                 refine tkH (i := 21) (v := ?_) rfl (by kernel_rfl) (fun _ _ _ h => h) (Or.inl ⟨by rfl, ?_⟩) (by assumption) ?_
                 rotate_left
                 ·intro w hSw
                  have q1 := range_block HRGK.out (hSw.block _ HGK.out)
                  have q2 := range_block HRGL.out (hSw.block _ HGL.out)
                  have q3 := range_block HRGM.out (hSw.block _ HGK.out)
                  try (first | refine (exec_load_mid 64 _ rfl g (k * 4) rfl [_, _] _ q1 Tryz.underlying64 rfl (by kernel_rfl)).trans ?_ | refine (exec_load_mid 64 _ rfl gl (t * 3) rfl [_, _] _ q2 Tryz.underlying64 rfl (by kernel_rfl)).trans ?_ | refine (exec_load_mid 64 _ rfl g (mm * 4) rfl [_, _] _ q3 Tryz.underlying64 rfl (by kernel_rfl)).trans ?_)
                  go_simp
                  try with_reducible rfl
                 simp only [Act.put, z1, z2, z3, z4, z5, z6]
                 refine tkH (i := 22) (v := ?_) rfl (by kernel_rfl) (fun _ _ _ h => h) (Or.inl ⟨by rfl, ?_⟩) (by assumption) ?_
                 rotate_left
                 ·intro w hSw
                  try dsimp only at hSw
                  go_simp
                  try with_reducible rfl
                 simp only [Act.put, z1, z2, z3, z4, z5, z6]
                 refine tkH (i := 23) (v := ?_) rfl (by kernel_rfl) (fun _ _ _ h => h) (Or.inl ⟨by rfl, ?_⟩) (by assumption) ?_
                 rotate_left
                 ·intro w hSw
                  try dsimp only at hSw
                  go_simp
                  try with_reducible rfl
                 simp only [Act.put, z1, z2, z3, z4, z5, z6]
                 refine tkH (i := 24) (v := ?_) rfl (by kernel_rfl) (fun _ _ _ h => h) (Or.inl ⟨by rfl, ?_⟩) (by assumption) ?_
                 rotate_left
                 ·intro w hSw
                  try dsimp only at hSw
                  go_simp
                  try with_reducible rfl
                 simp only [Act.put, z1, z2, z3, z4, z5, z6]
                 refine tkH (i := 25) (v := ?_) rfl (by kernel_rfl) (fun _ _ _ h => h) (Or.inl ⟨by rfl, ?_⟩) (by assumption) ?_
                 rotate_left
                 ·intro w hSw
                  try dsimp only at hSw
                  go_simp
                  try with_reducible rfl
                 simp only [Act.put, z1, z2, z3, z4, z5, z6]
                 refine tkH (i := 26) (v := ?_) rfl (by kernel_rfl) (fun _ _ _ h => h) (Or.inl ⟨by rfl, ?_⟩) (by assumption) ?_
                 rotate_left
                 ·intro w hSw
                  have q1 := range_block HRGK.out (hSw.block _ HGK.out)
                  have q2 := range_block HRGL.out (hSw.block _ HGL.out)
                  have q3 := range_block HRGM.out (hSw.block _ HGK.out)
                  try (first | refine (exec_load_mid 64 _ rfl g (k * 4) rfl [_, _] _ q1 Tryz.underlying64 rfl (by kernel_rfl)).trans ?_ | refine (exec_load_mid 64 _ rfl gl (t * 3) rfl [_, _] _ q2 Tryz.underlying64 rfl (by kernel_rfl)).trans ?_ | refine (exec_load_mid 64 _ rfl g (mm * 4) rfl [_, _] _ q3 Tryz.underlying64 rfl (by kernel_rfl)).trans ?_)
                  go_simp
                  try with_reducible rfl
                 simp only [Act.put, z1, z2, z3, z4, z5, z6]
                 refine wpAnyH_ready (rs := [27]) (by kernel_rfl) (by simp) ?_
                 refine AllReadyH.cons rfl (fun Kc hKc => ?_) AllReadyH.nil
                 go_simp
                 go_wp2_with ((first | (with_reducible refine (PKM.out _).mono ?_; rintro e wq ⟨rfl, hb'⟩) | (with_reducible refine (PMT.out _).mono ?_; rintro e wq ⟨rfl, hb'⟩)))
                 refine hKc.out _ _ ?_ (fun hHeld => ?_)
                 ·first | assumption | exact hHeld | exact btr hHeld hb'
                 clear hKc Kc
                 refine tkH (i := 28) (v := ?_) rfl (by kernel_rfl) (fun _ _ _ h => h) (Or.inl ⟨by rfl, ?_⟩) (by assumption) ?_
                 rotate_left
                 ·intro w hSw
                  try dsimp only at hSw
                  go_simp
                  try with_reducible rfl
                 simp only [Act.put, z1, z2, z3, z4, z5, z6]
                 refine wpAnyH_done (by kernel_rfl) ?_ _
                 have HBD := Lib.hid hHeld
                 clear hHeld
                 go_wp2_with fail
                 go_roundw
                 case rel => exact ⟨mm + 1, by go_num, by omega, by rw [HAM.out], btr HBL.out HBD.out⟩
                 case measure => simp [intOf]; omega
               ·rw [hl2] at PMT HAN
                have HAM : Hid (aloneR (posL K) (n, i) k (mm + 1) = false) := Lib.hid (by rw [HAN.out]; simp)
                clear hl2 HAN
                go_wp2_with fail
                as_aux_lemma =>
                 refine wp_region_held_drew (S := fun w' => Below w8.heap.size w8 w') (by kernel_rfl) (by exact below_drewN (Below.refl _ _) 1) (fun hHeld => ?_)
                 refine tkH (i := 0) (v := ?_) rfl (by kernel_rfl) (fun _ _ _ h => h) (Or.inl ⟨by rfl, ?_⟩) (by assumption) ?_
                 rotate_left
                 ·intro w hSw
                  try dsimp only at hSw
                  go_simp
                  try with_reducible rfl
                 simp only [Act.put, z1, z2, z3, z4, z5, z6]
                 refine tkH (i := 1) (v := ?_) rfl (by kernel_rfl) (fun _ _ _ h => h) (Or.inl ⟨by rfl, ?_⟩) (by assumption) ?_
                 rotate_left
                 ·intro w hSw
                  try dsimp only at hSw
                  go_simp
                  try with_reducible rfl
                 simp only [Act.put, z1, z2, z3, z4, z5, z6]
                 refine tkH (i := 2) (v := ?_) rfl (by kernel_rfl) (fun _ _ _ h => h) (Or.inl ⟨by rfl, ?_⟩) (by assumption) ?_
                 rotate_left
                 ·intro w hSw
                  try dsimp only at hSw
                  go_simp
                  try with_reducible rfl
                 simp only [Act.put, z1, z2, z3, z4, z5, z6]
                 refine tkH (i := 3) (v := ?_) rfl (by kernel_rfl) (fun _ _ _ h => h) (Or.inl ⟨by rfl, ?_⟩) (by assumption) ?_
                 rotate_left
                 ·intro w hSw
                  try dsimp only at hSw
                  go_simp
                  try with_reducible rfl
                 simp only [Act.put, z1, z2, z3, z4, z5, z6]
                 refine tkH (i := 4) (v := ?_) rfl (by kernel_rfl) (fun _ _ _ h => h) (Or.inl ⟨by rfl, ?_⟩) (by assumption) ?_
                 rotate_left
                 ·intro w hSw
                  try dsimp only at hSw
                  go_simp
                  try with_reducible rfl
                 simp only [Act.put, z1, z2, z3, z4, z5, z6]
                 refine tkH (i := 5) (v := ?_) rfl (by kernel_rfl) (fun _ _ _ h => h) (Or.inl ⟨by rfl, ?_⟩) (by assumption) ?_
                 rotate_left
                 ·intro w hSw
                  try dsimp only at hSw
                  go_simp
                  try with_reducible rfl
                 simp only [Act.put, z1, z2, z3, z4, z5, z6]
                 refine tkH (i := 6) (v := ?_) rfl (by kernel_rfl) (fun _ _ _ h => h) (Or.inl ⟨by rfl, ?_⟩) (by assumption) ?_
                 rotate_left
                 ·intro w hSw
                  try dsimp only at hSw
                  go_simp
                  try with_reducible rfl
                 simp only [Act.put, z1, z2, z3, z4, z5, z6]
                 refine tkH (i := 7) (v := ?_) rfl (by kernel_rfl) (fun _ _ _ h => h) (Or.inl ⟨by rfl, ?_⟩) (by assumption) ?_
                 rotate_left
                 ·intro w hSw
                  try dsimp only at hSw
                  go_simp
                  try with_reducible rfl
                 simp only [Act.put, z1, z2, z3, z4, z5, z6]
                 refine tkH (i := 8) (v := ?_) rfl (by kernel_rfl) (fun _ _ _ h => h) (Or.inl ⟨by rfl, ?_⟩) (by assumption) ?_
                 rotate_left
                 ·intro w hSw
                  have q1 := range_block HRGK.out (hSw.block _ HGK.out)
                  have q2 := range_block HRGL.out (hSw.block _ HGL.out)
                  have q3 := range_block HRGM.out (hSw.block _ HGK.out)
                  try (first | refine (exec_load_mid 64 _ rfl g (k * 4) rfl [_, _] _ q1 Tryz.underlying64 rfl (by kernel_rfl)).trans ?_ | refine (exec_load_mid 64 _ rfl gl (t * 3) rfl [_, _] _ q2 Tryz.underlying64 rfl (by kernel_rfl)).trans ?_ | refine (exec_load_mid 64 _ rfl g (mm * 4) rfl [_, _] _ q3 Tryz.underlying64 rfl (by kernel_rfl)).trans ?_)
                  go_simp
                  try with_reducible rfl
                 simp only [Act.put, z1, z2, z3, z4, z5, z6]
                 refine tkH (i := 9) (v := ?_) rfl (by kernel_rfl) (fun _ _ _ h => h) (Or.inl ⟨by rfl, ?_⟩) (by assumption) ?_
                 rotate_left
                 ·intro w hSw
                  try dsimp only at hSw
                  go_simp
                  try with_reducible rfl
                 simp only [Act.put, z1, z2, z3, z4, z5, z6]
                 refine tkH (i := 10) (v := ?_) rfl (by kernel_rfl) (fun _ _ _ h => h) (Or.inl ⟨by rfl, ?_⟩) (by assumption) ?_
                 rotate_left
                 ·intro w hSw
                  try dsimp only at hSw
                  go_simp
                  try with_reducible rfl
                 simp only [Act.put, z1, z2, z3, z4, z5, z6]
                 refine tkH (i := 11) (v := ?_) rfl (by kernel_rfl) (fun _ _ _ h => h) (Or.inl ⟨by rfl, ?_⟩) (by assumption) ?_
                 rotate_left
                 ·intro w hSw
                  try dsimp only at hSw
                  go_simp
                  try with_reducible rfl
                 simp only [Act.put, z1, z2, z3, z4, z5, z6]
                 refine tkH (i := 12) (v := ?_) rfl (by kernel_rfl) (fun _ _ _ h => h) (Or.inl ⟨by rfl, ?_⟩) (by assumption) ?_
                 rotate_left
                 ·intro w hSw
                  try dsimp only at hSw
                  go_simp
                  try with_reducible rfl
                 simp only [Act.put, z1, z2, z3, z4, z5, z6]
                 refine tkH (i := 13) (v := ?_) rfl (by kernel_rfl) (fun _ _ _ h => h) (Or.inl ⟨by rfl, ?_⟩) (by assumption) ?_
                 rotate_left
                 ·intro w hSw
                  have q1 := range_block HRGK.out (hSw.block _ HGK.out)
                  have q2 := range_block HRGL.out (hSw.block _ HGL.out)
                  have q3 := range_block HRGM.out (hSw.block _ HGK.out)
                  try (first | refine (exec_load_mid 64 _ rfl g (k * 4) rfl [_, _] _ q1 Tryz.underlying64 rfl (by kernel_rfl)).trans ?_ | refine (exec_load_mid 64 _ rfl gl (t * 3) rfl [_, _] _ q2 Tryz.underlying64 rfl (by kernel_rfl)).trans ?_ | refine (exec_load_mid 64 _ rfl g (mm * 4) rfl [_, _] _ q3 Tryz.underlying64 rfl (by kernel_rfl)).trans ?_)
                  go_simp
                  try with_reducible rfl
                 simp only [Act.put, z1, z2, z3, z4, z5, z6]
                 refine wpAnyH_ready (rs := [14]) (by kernel_rfl) (by simp) ?_
                 refine AllReadyH.cons rfl (fun Kc hKc => ?_) AllReadyH.nil
                 go_simp
                 go_wp2_with ((first | (with_reducible refine (PKM.out _).mono ?_; rintro e wq ⟨rfl, hb'⟩) | (with_reducible refine (PMT.out _).mono ?_; rintro e wq ⟨rfl, hb'⟩)))
                 refine hKc.out _ _ ?_ (fun hHeld => ?_)
                 ·first | assumption | exact hHeld | exact btr hHeld hb'
                 clear hKc Kc
                 refine tkH (i := 15) (v := ?_) rfl (by kernel_rfl) (fun _ _ _ h => h) (Or.inl ⟨by rfl, ?_⟩) (by assumption) ?_
                 rotate_left
                 ·intro w hSw
                  try dsimp only at hSw
                  go_simp
                  try with_reducible rfl
                 simp only [Act.put, z1, z2, z3, z4, z5, z6]
                 refine tkH (i := 16) (v := ?_) rfl (by kernel_rfl) (fun _ _ _ h => h) (Or.inl ⟨by rfl, ?_⟩) (by assumption) ?_
                 rotate_left
                 ·intro w hSw
                  try dsimp only at hSw
                  go_simp
                  try with_reducible rfl
                 simp only [Act.put, z1, z2, z3, z4, z5, z6]
                 refine tkH (i := 17) (v := ?_) rfl (by kernel_rfl) (fun _ _ _ h => h) (Or.inl ⟨by rfl, ?_⟩) (by assumption) ?_
                 rotate_left
                 ·intro w hSw
                  try dsimp only at hSw
                  go_simp
                  try with_reducible rfl
                 simp only [Act.put, z1, z2, z3, z4, z5, z6]
                 refine tkH (i := 18) (v := ?_) rfl (by kernel_rfl) (fun _ _ _ h => h) (Or.inl ⟨by rfl, ?_⟩) (by assumption) ?_
                 rotate_left
                 ·intro w hSw
                  try dsimp only at hSw
                  go_simp
                  try with_reducible rfl
                 simp only [Act.put, z1, z2, z3, z4, z5, z6]
                 refine tkH (i := 19) (v := ?_) rfl (by kernel_rfl) (fun _ _ _ h => h) (Or.inl ⟨by rfl, ?_⟩) (by assumption) ?_
                 rotate_left
                 ·intro w hSw
                  try dsimp only at hSw
                  go_simp
                  try with_reducible rfl
                 simp only [Act.put, z1, z2, z3, z4, z5, z6]
                 refine tkH (i := 20) (v := ?_) rfl (by kernel_rfl) (fun _ _ _ h => h) (Or.inl ⟨by rfl, ?_⟩) (by assumption) ?_
                 rotate_left
                 ·intro w hSw
                  try dsimp only at hSw
                  go_simp
                  try with_reducible rfl
                 simp only [Act.put, z1, z2, z3, z4, z5, z6]
                 refine tkH (i := 21) (v := ?_) rfl (by kernel_rfl) (fun _ _ _ h => h) (Or.inl ⟨by rfl, ?_⟩) (by assumption) ?_
                 rotate_left
                 ·intro w hSw
                  have q1 := range_block HRGK.out (hSw.block _ HGK.out)
                  have q2 := range_block HRGL.out (hSw.block _ HGL.out)
                  have q3 := range_block HRGM.out (hSw.block _ HGK.out)
                  try (first | refine (exec_load_mid 64 _ rfl g (k * 4) rfl [_, _] _ q1 Tryz.underlying64 rfl (by kernel_rfl)).trans ?_ | refine (exec_load_mid 64 _ rfl gl (t * 3) rfl [_, _] _ q2 Tryz.underlying64 rfl (by kernel_rfl)).trans ?_ | refine (exec_load_mid 64 _ rfl g (mm * 4) rfl [_, _] _ q3 Tryz.underlying64 rfl (by kernel_rfl)).trans ?_)
                  go_simp
                  try with_reducible rfl
                 simp only [Act.put, z1, z2, z3, z4, z5, z6]
                 refine tkH (i := 22) (v := ?_) rfl (by kernel_rfl) (fun _ _ _ h => h) (Or.inl ⟨by rfl, ?_⟩) (by assumption) ?_
                 rotate_left
                 ·intro w hSw
                  try dsimp only at hSw
                  go_simp
                  try with_reducible rfl
                 simp only [Act.put, z1, z2, z3, z4, z5, z6]
                 refine tkH (i := 23) (v := ?_) rfl (by kernel_rfl) (fun _ _ _ h => h) (Or.inl ⟨by rfl, ?_⟩) (by assumption) ?_
                 rotate_left
                 ·intro w hSw
                  try dsimp only at hSw
                  go_simp
                  try with_reducible rfl
                 simp only [Act.put, z1, z2, z3, z4, z5, z6]
                 refine tkH (i := 24) (v := ?_) rfl (by kernel_rfl) (fun _ _ _ h => h) (Or.inl ⟨by rfl, ?_⟩) (by assumption) ?_
                 rotate_left
                 ·intro w hSw
                  try dsimp only at hSw
                  go_simp
                  try with_reducible rfl
                 simp only [Act.put, z1, z2, z3, z4, z5, z6]
                 refine tkH (i := 25) (v := ?_) rfl (by kernel_rfl) (fun _ _ _ h => h) (Or.inl ⟨by rfl, ?_⟩) (by assumption) ?_
                 rotate_left
                 ·intro w hSw
                  try dsimp only at hSw
                  go_simp
                  try with_reducible rfl
                 simp only [Act.put, z1, z2, z3, z4, z5, z6]
                 refine tkH (i := 26) (v := ?_) rfl (by kernel_rfl) (fun _ _ _ h => h) (Or.inl ⟨by rfl, ?_⟩) (by assumption) ?_
                 rotate_left
                 ·intro w hSw
                  have q1 := range_block HRGK.out (hSw.block _ HGK.out)
                  have q2 := range_block HRGL.out (hSw.block _ HGL.out)
                  have q3 := range_block HRGM.out (hSw.block _ HGK.out)
                  try (first | refine (exec_load_mid 64 _ rfl g (k * 4) rfl [_, _] _ q1 Tryz.underlying64 rfl (by kernel_rfl)).trans ?_ | refine (exec_load_mid 64 _ rfl gl (t * 3) rfl [_, _] _ q2 Tryz.underlying64 rfl (by kernel_rfl)).trans ?_ | refine (exec_load_mid 64 _ rfl g (mm * 4) rfl [_, _] _ q3 Tryz.underlying64 rfl (by kernel_rfl)).trans ?_)
                  go_simp
                  try with_reducible rfl
                 simp only [Act.put, z1, z2, z3, z4, z5, z6]
                 refine wpAnyH_ready (rs := [27]) (by kernel_rfl) (by simp) ?_
                 refine AllReadyH.cons rfl (fun Kc hKc => ?_) AllReadyH.nil
                 go_simp
                 go_wp2_with ((first | (with_reducible refine (PKM.out _).mono ?_; rintro e wq ⟨rfl, hb'⟩) | (with_reducible refine (PMT.out _).mono ?_; rintro e wq ⟨rfl, hb'⟩)))
                 refine hKc.out _ _ ?_ (fun hHeld => ?_)
                 ·first | assumption | exact hHeld | exact btr hHeld hb'
                 clear hKc Kc
                 refine tkH (i := 28) (v := ?_) rfl (by kernel_rfl) (fun _ _ _ h => h) (Or.inl ⟨by rfl, ?_⟩) (by assumption) ?_
                 rotate_left
                 ·intro w hSw
                  try dsimp only at hSw
                  go_simp
                  try with_reducible rfl
                 simp only [Act.put, z1, z2, z3, z4, z5, z6]
                 refine wpAnyH_done (by kernel_rfl) ?_ _
                 have HBD := Lib.hid hHeld
                 clear hHeld
                 go_wp2_with fail
                 go_roundw
                 case rel => exact ⟨mm + 1, by go_num, by omega, by rw [HAM.out], btr HBL.out HBD.out⟩
                 case measure => simp [intOf]; omega
            ·have hmz : ¬ (mm : Int) < (M : Int) := by omega
             have hme : mm = (posL K).length := by unfold posL; rw [List.length_map, ← HM.out]; omega
             have HRK8 := Lib.hid (HRK7.out.keep HBL.out)
             rcases hab : aloneR (posL K) (n, i) k mm with _ | _
             ·have HLE : Hid (leftK pt (posL K) (n, i) (k + 1) = leftK pt (posL K) (n, i) k) := Lib.hid (by rw [HLN.out, ← hme, hab, if_neg (by simp)])
              clear hab hme
              go_wp2_with fail
              go_roundw
              case rel => exact ⟨k + 1, by go_num, by omega, by rw [HLE.out]; exact HRK8.out⟩
              case measure => simp [intOf]; omega
             ·have HLE : Hid (leftK pt (posL K) (n, i) (k + 1) = leftK pt (posL K) (n, i) k - pt kn ki) := Lib.hid (by rw [HLN.out, ← hme, hab, if_pos (by simp)])
              clear hab hme
              as_aux_lemma =>
               have PO := Lib.hid (fun w => ofint_any (pt kn ki) (HP64.out kn ki).1 (HP64.out kn ki).2 w)
               have PM := Lib.hid (fun w => lminus_any (pt kn ki) w)
               have PPL := Lib.hid (fun w => lplus_any (leftK pt (posL K) (n, i) k) (-(pt kn ki)) w)
               rw [show leftK pt (posL K) (n, i) k + -(pt kn ki) = leftK pt (posL K) (n, i) (k + 1) by rw [HLE.out]; omega] at PPL
               obtain ⟨y0, hy0⟩ : ∃ y0, y0 = leftK pt (posL K) (n, i) k := ⟨_, rfl⟩
               obtain ⟨y1, hy1⟩ : ∃ y1, y1 = leftK pt (posL K) (n, i) (k + 1) := ⟨_, rfl⟩
               rw [← hy0] at PPL HRK8
               rw [← hy1] at PPL
               have HY1 := Lib.hid hy1
               clear hy0 hy1 HLE
               go_wp2_with fail
               refine wp_region_any (by kernel_rfl) ?_
               have hbd : Below w8.heap.size w8 { heap := w8.heap, tape := w8.tape, drawn := w8.drawn + 1, os := w8.os, output := w8.output } := below_drewN (Below.refl _ _) 1
               have HRW := Lib.hid (HRK8.out.keep hbd)
               have HIW := Lib.hid (HI8.out.keep hbd)
               clear hbd HRK8 HI8
               generalize ({ heap := w8.heap, tape := w8.tape, drawn := w8.drawn + 1, os := w8.os, output := w8.output } : World) = w9 at *
               refine tkA (i := 1) (v := ?_) rfl (by kernel_rfl) (fun _ _ _ h => h) (Or.inl ⟨by rfl, ?_⟩) ?_
               rotate_left
               ·intro w
                go_simp
                try with_reducible rfl
               simp only [Act.put, z1, z2, z3, z4, z5, z6]
               refine tkA (i := 2) (v := ?_) rfl (by kernel_rfl) (fun _ _ _ h => h) (Or.inl ⟨by rfl, ?_⟩) ?_
               rotate_left
               ·intro w
                go_simp
                try with_reducible rfl
               simp only [Act.put, z1, z2, z3, z4, z5, z6]
               refine wpAny_ready (rs := [0, 3]) (by kernel_rfl) (by simp) ?_
               refine AllReady.cons rfl (fun Kc hKc => ?_) (AllReady.cons rfl (fun Kc hKc => ?_) AllReady.nil)
               ·have HKc := Lib.hid hKc
                clear hKc
                first | refine wp_load_row 103 _ rfl RB rfl 103 (longA y0) (0, 0) _ HRW.out.box Tryz.underlying103 rfl (long_info y0) ?_ | (have q2 := (HIW.out.kept.at_ HKP.out).2 2 _ rfl; go_simp; clear q2)
                refine HKc.out _ _ ?_
                clear HKc Kc
                refine wpAny_ready (rs := [3]) (by kernel_rfl) (by simp) ?_
                refine AllReady.cons rfl (fun Kc hKc => ?_) AllReady.nil
                have HKc := Lib.hid hKc
                clear hKc
                go_simp
                refine HKc.out _ _ ?_
                clear HKc Kc
                refine wpAny_ready (rs := [4]) (by kernel_rfl) (by simp) ?_
                refine AllReady.cons rfl (fun Kc hKc => ?_) AllReady.nil
                have HKc := Lib.hid hKc
                clear hKc
                go_simp
                refine HKc.out _ _ ?_
                clear HKc Kc
                refine wpAny_ready (rs := [5]) (by kernel_rfl) (by simp) ?_
                refine AllReady.cons rfl (fun Kc hKc => ?_) AllReady.nil
                have HKc := Lib.hid hKc
                clear hKc
                first | refine wp_load_row 103 _ rfl RB rfl 103 (longA y0) (0, 0) _ HRW.out.box Tryz.underlying103 rfl (long_info y0) ?_ | (have q2 := (HIW.out.kept.at_ HKP.out).2 2 _ rfl; go_simp; clear q2)
                refine HKc.out _ _ ?_
                clear HKc Kc
                refine wpAny_ready (rs := [6]) (by kernel_rfl) (by simp) ?_
                refine AllReady.cons rfl (fun Kc hKc => ?_) AllReady.nil
                have HKc := Lib.hid hKc
                clear hKc
                go_simp
                go_wp2_with ((first | (with_reducible refine (PO.out _).mono ?_; rintro e wq ⟨rfl, hb⟩; have HRW := Lib.hid (HRW.out.keep hb); have HIW := Lib.hid (HIW.out.keep hb); clear hb) | (with_reducible refine (PM.out _).mono ?_; rintro e wq ⟨rfl, hb⟩; have HRW := Lib.hid (HRW.out.keep hb); have HIW := Lib.hid (HIW.out.keep hb); clear hb) | (with_reducible refine (PPL.out _).mono ?_; rintro e wq ⟨rfl, hb⟩; have HRW := Lib.hid (HRW.out.keep hb); have HIW := Lib.hid (HIW.out.keep hb); clear hb)))
                refine HKc.out _ _ ?_
                clear HKc Kc
                refine wpAny_ready (rs := [7]) (by kernel_rfl) (by simp) ?_
                refine AllReady.cons rfl (fun Kc hKc => ?_) AllReady.nil
                have HKc := Lib.hid hKc
                clear hKc
                go_simp
                go_wp2_with ((first | (with_reducible refine (PO.out _).mono ?_; rintro e wq ⟨rfl, hb⟩; have HRW := Lib.hid (HRW.out.keep hb); have HIW := Lib.hid (HIW.out.keep hb); clear hb) | (with_reducible refine (PM.out _).mono ?_; rintro e wq ⟨rfl, hb⟩; have HRW := Lib.hid (HRW.out.keep hb); have HIW := Lib.hid (HIW.out.keep hb); clear hb) | (with_reducible refine (PPL.out _).mono ?_; rintro e wq ⟨rfl, hb⟩; have HRW := Lib.hid (HRW.out.keep hb); have HIW := Lib.hid (HIW.out.keep hb); clear hb)))
                refine HKc.out _ _ ?_
                clear HKc Kc
                refine wpAny_ready (rs := [8]) (by kernel_rfl) (by simp) ?_
                refine AllReady.cons rfl (fun Kc hKc => ?_) AllReady.nil
                have HKc := Lib.hid hKc
                clear hKc
                go_simp
                go_wp2_with ((first | (with_reducible refine (PO.out _).mono ?_; rintro e wq ⟨rfl, hb⟩; have HRW := Lib.hid (HRW.out.keep hb); have HIW := Lib.hid (HIW.out.keep hb); clear hb) | (with_reducible refine (PM.out _).mono ?_; rintro e wq ⟨rfl, hb⟩; have HRW := Lib.hid (HRW.out.keep hb); have HIW := Lib.hid (HIW.out.keep hb); clear hb) | (with_reducible refine (PPL.out _).mono ?_; rintro e wq ⟨rfl, hb⟩; have HRW := Lib.hid (HRW.out.keep hb); have HIW := Lib.hid (HIW.out.keep hb); clear hb)))
                refine HKc.out _ _ ?_
                clear HKc Kc
                refine wpAny_ready (rs := [9]) (by kernel_rfl) (by simp) ?_
                refine AllReady.cons rfl (fun Kc hKc => ?_) AllReady.nil
                have HKc := Lib.hid hKc
                clear hKc
                have HRK13 : Hid (RkI w5 _ RB y1) := Lib.hid ⟨HRW.out.box.rowNew, grown_trans HRW.out.gr (grown_setRow _ _ _)⟩; have hq12 := HRW.out.box; refine wp_store_row 103 _ _ rfl RB (longA y1) rfl rfl 103 (longA y0) hq12 (long_info _) (by rw [longA_size, longA_size]) (longA_one _) ?_
                refine HKc.out _ _ ?_
                clear HKc Kc
                refine wpAny_done (by kernel_rfl) ?_ _
                go_wp2_with fail
                go_roundw
                case rel => exact ⟨k + 1, by go_num, by omega, by rw [← HY1.out]; exact HRK13.out⟩
                case measure => simp [intOf]; omega
               ·have HKc := Lib.hid hKc
                clear hKc
                go_simp
                refine HKc.out _ _ ?_
                clear HKc Kc
                refine tkA (i := 4) (v := ?_) rfl (by kernel_rfl) (fun _ _ _ h => h) (Or.inl ⟨by rfl, ?_⟩) ?_
                rotate_left
                ·intro w
                 go_simp
                 try with_reducible rfl
                simp only [Act.put, z1, z2, z3, z4, z5, z6]
                refine wpAny_ready (rs := [0, 5]) (by kernel_rfl) (by simp) ?_
                refine AllReady.cons rfl (fun Kc hKc => ?_) (AllReady.cons rfl (fun Kc hKc => ?_) AllReady.nil)
                ·have HKc := Lib.hid hKc
                 clear hKc
                 first | refine wp_load_row 103 _ rfl RB rfl 103 (longA y0) (0, 0) _ HRW.out.box Tryz.underlying103 rfl (long_info y0) ?_ | (have q2 := (HIW.out.kept.at_ HKP.out).2 2 _ rfl; go_simp; clear q2)
                 refine HKc.out _ _ ?_
                 clear HKc Kc
                 refine wpAny_ready (rs := [5]) (by kernel_rfl) (by simp) ?_
                 refine AllReady.cons rfl (fun Kc hKc => ?_) AllReady.nil
                 have HKc := Lib.hid hKc
                 clear hKc
                 first | refine wp_load_row 103 _ rfl RB rfl 103 (longA y0) (0, 0) _ HRW.out.box Tryz.underlying103 rfl (long_info y0) ?_ | (have q2 := (HIW.out.kept.at_ HKP.out).2 2 _ rfl; go_simp; clear q2)
                 refine HKc.out _ _ ?_
                 clear HKc Kc
                 refine wpAny_ready (rs := [6]) (by kernel_rfl) (by simp) ?_
                 refine AllReady.cons rfl (fun Kc hKc => ?_) AllReady.nil
                 have HKc := Lib.hid hKc
                 clear hKc
                 go_simp
                 go_wp2_with ((first | (with_reducible refine (PO.out _).mono ?_; rintro e wq ⟨rfl, hb⟩; have HRW := Lib.hid (HRW.out.keep hb); have HIW := Lib.hid (HIW.out.keep hb); clear hb) | (with_reducible refine (PM.out _).mono ?_; rintro e wq ⟨rfl, hb⟩; have HRW := Lib.hid (HRW.out.keep hb); have HIW := Lib.hid (HIW.out.keep hb); clear hb) | (with_reducible refine (PPL.out _).mono ?_; rintro e wq ⟨rfl, hb⟩; have HRW := Lib.hid (HRW.out.keep hb); have HIW := Lib.hid (HIW.out.keep hb); clear hb)))
                 refine HKc.out _ _ ?_
                 clear HKc Kc
                 refine wpAny_ready (rs := [7]) (by kernel_rfl) (by simp) ?_
                 refine AllReady.cons rfl (fun Kc hKc => ?_) AllReady.nil
                 have HKc := Lib.hid hKc
                 clear hKc
                 go_simp
                 go_wp2_with ((first | (with_reducible refine (PO.out _).mono ?_; rintro e wq ⟨rfl, hb⟩; have HRW := Lib.hid (HRW.out.keep hb); have HIW := Lib.hid (HIW.out.keep hb); clear hb) | (with_reducible refine (PM.out _).mono ?_; rintro e wq ⟨rfl, hb⟩; have HRW := Lib.hid (HRW.out.keep hb); have HIW := Lib.hid (HIW.out.keep hb); clear hb) | (with_reducible refine (PPL.out _).mono ?_; rintro e wq ⟨rfl, hb⟩; have HRW := Lib.hid (HRW.out.keep hb); have HIW := Lib.hid (HIW.out.keep hb); clear hb)))
                 refine HKc.out _ _ ?_
                 clear HKc Kc
                 refine wpAny_ready (rs := [8]) (by kernel_rfl) (by simp) ?_
                 refine AllReady.cons rfl (fun Kc hKc => ?_) AllReady.nil
                 have HKc := Lib.hid hKc
                 clear hKc
                 go_simp
                 go_wp2_with ((first | (with_reducible refine (PO.out _).mono ?_; rintro e wq ⟨rfl, hb⟩; have HRW := Lib.hid (HRW.out.keep hb); have HIW := Lib.hid (HIW.out.keep hb); clear hb) | (with_reducible refine (PM.out _).mono ?_; rintro e wq ⟨rfl, hb⟩; have HRW := Lib.hid (HRW.out.keep hb); have HIW := Lib.hid (HIW.out.keep hb); clear hb) | (with_reducible refine (PPL.out _).mono ?_; rintro e wq ⟨rfl, hb⟩; have HRW := Lib.hid (HRW.out.keep hb); have HIW := Lib.hid (HIW.out.keep hb); clear hb)))
                 refine HKc.out _ _ ?_
                 clear HKc Kc
                 refine wpAny_ready (rs := [9]) (by kernel_rfl) (by simp) ?_
                 refine AllReady.cons rfl (fun Kc hKc => ?_) AllReady.nil
                 have HKc := Lib.hid hKc
                 clear hKc
                 have HRK13 : Hid (RkI w5 _ RB y1) := Lib.hid ⟨HRW.out.box.rowNew, grown_trans HRW.out.gr (grown_setRow _ _ _)⟩; have hq12 := HRW.out.box; refine wp_store_row 103 _ _ rfl RB (longA y1) rfl rfl 103 (longA y0) hq12 (long_info _) (by rw [longA_size, longA_size]) (longA_one _) ?_
                 refine HKc.out _ _ ?_
                 clear HKc Kc
                 refine wpAny_done (by kernel_rfl) ?_ _
                 go_wp2_with fail
                 go_roundw
                 case rel => exact ⟨k + 1, by go_num, by omega, by rw [← HY1.out]; exact HRK13.out⟩
                 case measure => simp [intOf]; omega
                ·have HKc := Lib.hid hKc
                 clear hKc
                 first | refine wp_load_row 103 _ rfl RB rfl 103 (longA y0) (0, 0) _ HRW.out.box Tryz.underlying103 rfl (long_info y0) ?_ | (have q2 := (HIW.out.kept.at_ HKP.out).2 2 _ rfl; go_simp; clear q2)
                 refine HKc.out _ _ ?_
                 clear HKc Kc
                 refine wpAny_ready (rs := [0, 6]) (by kernel_rfl) (by simp) ?_
                 refine AllReady.cons rfl (fun Kc hKc => ?_) (AllReady.cons rfl (fun Kc hKc => ?_) AllReady.nil)
                 ·have HKc := Lib.hid hKc
                  clear hKc
                  first | refine wp_load_row 103 _ rfl RB rfl 103 (longA y0) (0, 0) _ HRW.out.box Tryz.underlying103 rfl (long_info y0) ?_ | (have q2 := (HIW.out.kept.at_ HKP.out).2 2 _ rfl; go_simp; clear q2)
                  refine HKc.out _ _ ?_
                  clear HKc Kc
                  refine wpAny_ready (rs := [6]) (by kernel_rfl) (by simp) ?_
                  refine AllReady.cons rfl (fun Kc hKc => ?_) AllReady.nil
                  have HKc := Lib.hid hKc
                  clear hKc
                  go_simp
                  go_wp2_with ((first | (with_reducible refine (PO.out _).mono ?_; rintro e wq ⟨rfl, hb⟩; have HRW := Lib.hid (HRW.out.keep hb); have HIW := Lib.hid (HIW.out.keep hb); clear hb) | (with_reducible refine (PM.out _).mono ?_; rintro e wq ⟨rfl, hb⟩; have HRW := Lib.hid (HRW.out.keep hb); have HIW := Lib.hid (HIW.out.keep hb); clear hb) | (with_reducible refine (PPL.out _).mono ?_; rintro e wq ⟨rfl, hb⟩; have HRW := Lib.hid (HRW.out.keep hb); have HIW := Lib.hid (HIW.out.keep hb); clear hb)))
                  refine HKc.out _ _ ?_
                  clear HKc Kc
                  refine wpAny_ready (rs := [7]) (by kernel_rfl) (by simp) ?_
                  refine AllReady.cons rfl (fun Kc hKc => ?_) AllReady.nil
                  have HKc := Lib.hid hKc
                  clear hKc
                  go_simp
                  go_wp2_with ((first | (with_reducible refine (PO.out _).mono ?_; rintro e wq ⟨rfl, hb⟩; have HRW := Lib.hid (HRW.out.keep hb); have HIW := Lib.hid (HIW.out.keep hb); clear hb) | (with_reducible refine (PM.out _).mono ?_; rintro e wq ⟨rfl, hb⟩; have HRW := Lib.hid (HRW.out.keep hb); have HIW := Lib.hid (HIW.out.keep hb); clear hb) | (with_reducible refine (PPL.out _).mono ?_; rintro e wq ⟨rfl, hb⟩; have HRW := Lib.hid (HRW.out.keep hb); have HIW := Lib.hid (HIW.out.keep hb); clear hb)))
                  refine HKc.out _ _ ?_
                  clear HKc Kc
                  refine wpAny_ready (rs := [8]) (by kernel_rfl) (by simp) ?_
                  refine AllReady.cons rfl (fun Kc hKc => ?_) AllReady.nil
                  have HKc := Lib.hid hKc
                  clear hKc
                  go_simp
                  go_wp2_with ((first | (with_reducible refine (PO.out _).mono ?_; rintro e wq ⟨rfl, hb⟩; have HRW := Lib.hid (HRW.out.keep hb); have HIW := Lib.hid (HIW.out.keep hb); clear hb) | (with_reducible refine (PM.out _).mono ?_; rintro e wq ⟨rfl, hb⟩; have HRW := Lib.hid (HRW.out.keep hb); have HIW := Lib.hid (HIW.out.keep hb); clear hb) | (with_reducible refine (PPL.out _).mono ?_; rintro e wq ⟨rfl, hb⟩; have HRW := Lib.hid (HRW.out.keep hb); have HIW := Lib.hid (HIW.out.keep hb); clear hb)))
                  refine HKc.out _ _ ?_
                  clear HKc Kc
                  refine wpAny_ready (rs := [9]) (by kernel_rfl) (by simp) ?_
                  refine AllReady.cons rfl (fun Kc hKc => ?_) AllReady.nil
                  have HKc := Lib.hid hKc
                  clear hKc
                  have HRK13 : Hid (RkI w5 _ RB y1) := Lib.hid ⟨HRW.out.box.rowNew, grown_trans HRW.out.gr (grown_setRow _ _ _)⟩; have hq12 := HRW.out.box; refine wp_store_row 103 _ _ rfl RB (longA y1) rfl rfl 103 (longA y0) hq12 (long_info _) (by rw [longA_size, longA_size]) (longA_one _) ?_
                  refine HKc.out _ _ ?_
                  clear HKc Kc
                  refine wpAny_done (by kernel_rfl) ?_ _
                  go_wp2_with fail
                  go_roundw
                  case rel => exact ⟨k + 1, by go_num, by omega, by rw [← HY1.out]; exact HRK13.out⟩
                  case measure => simp [intOf]; omega
                 ·have HKc := Lib.hid hKc
                  clear hKc
                  go_simp
                  go_wp2_with ((first | (with_reducible refine (PO.out _).mono ?_; rintro e wq ⟨rfl, hb⟩; have HRW := Lib.hid (HRW.out.keep hb); have HIW := Lib.hid (HIW.out.keep hb); clear hb) | (with_reducible refine (PM.out _).mono ?_; rintro e wq ⟨rfl, hb⟩; have HRW := Lib.hid (HRW.out.keep hb); have HIW := Lib.hid (HIW.out.keep hb); clear hb) | (with_reducible refine (PPL.out _).mono ?_; rintro e wq ⟨rfl, hb⟩; have HRW := Lib.hid (HRW.out.keep hb); have HIW := Lib.hid (HIW.out.keep hb); clear hb)))
                  refine HKc.out _ _ ?_
                  clear HKc Kc
                  refine wpAny_ready (rs := [0, 7]) (by kernel_rfl) (by simp) ?_
                  refine AllReady.cons rfl (fun Kc hKc => ?_) (AllReady.cons rfl (fun Kc hKc => ?_) AllReady.nil)
                  ·have HKc := Lib.hid hKc
                   clear hKc
                   first | refine wp_load_row 103 _ rfl RB rfl 103 (longA y0) (0, 0) _ HRW.out.box Tryz.underlying103 rfl (long_info y0) ?_ | (have q2 := (HIW.out.kept.at_ HKP.out).2 2 _ rfl; go_simp; clear q2)
                   refine HKc.out _ _ ?_
                   clear HKc Kc
                   refine wpAny_ready (rs := [7]) (by kernel_rfl) (by simp) ?_
                   refine AllReady.cons rfl (fun Kc hKc => ?_) AllReady.nil
                   have HKc := Lib.hid hKc
                   clear hKc
                   go_simp
                   go_wp2_with ((first | (with_reducible refine (PO.out _).mono ?_; rintro e wq ⟨rfl, hb⟩; have HRW := Lib.hid (HRW.out.keep hb); have HIW := Lib.hid (HIW.out.keep hb); clear hb) | (with_reducible refine (PM.out _).mono ?_; rintro e wq ⟨rfl, hb⟩; have HRW := Lib.hid (HRW.out.keep hb); have HIW := Lib.hid (HIW.out.keep hb); clear hb) | (with_reducible refine (PPL.out _).mono ?_; rintro e wq ⟨rfl, hb⟩; have HRW := Lib.hid (HRW.out.keep hb); have HIW := Lib.hid (HIW.out.keep hb); clear hb)))
                   refine HKc.out _ _ ?_
                   clear HKc Kc
                   refine wpAny_ready (rs := [8]) (by kernel_rfl) (by simp) ?_
                   refine AllReady.cons rfl (fun Kc hKc => ?_) AllReady.nil
                   have HKc := Lib.hid hKc
                   clear hKc
                   go_simp
                   go_wp2_with ((first | (with_reducible refine (PO.out _).mono ?_; rintro e wq ⟨rfl, hb⟩; have HRW := Lib.hid (HRW.out.keep hb); have HIW := Lib.hid (HIW.out.keep hb); clear hb) | (with_reducible refine (PM.out _).mono ?_; rintro e wq ⟨rfl, hb⟩; have HRW := Lib.hid (HRW.out.keep hb); have HIW := Lib.hid (HIW.out.keep hb); clear hb) | (with_reducible refine (PPL.out _).mono ?_; rintro e wq ⟨rfl, hb⟩; have HRW := Lib.hid (HRW.out.keep hb); have HIW := Lib.hid (HIW.out.keep hb); clear hb)))
                   refine HKc.out _ _ ?_
                   clear HKc Kc
                   refine wpAny_ready (rs := [9]) (by kernel_rfl) (by simp) ?_
                   refine AllReady.cons rfl (fun Kc hKc => ?_) AllReady.nil
                   have HKc := Lib.hid hKc
                   clear hKc
                   have HRK13 : Hid (RkI w5 _ RB y1) := Lib.hid ⟨HRW.out.box.rowNew, grown_trans HRW.out.gr (grown_setRow _ _ _)⟩; have hq12 := HRW.out.box; refine wp_store_row 103 _ _ rfl RB (longA y1) rfl rfl 103 (longA y0) hq12 (long_info _) (by rw [longA_size, longA_size]) (longA_one _) ?_
                   refine HKc.out _ _ ?_
                   clear HKc Kc
                   refine wpAny_done (by kernel_rfl) ?_ _
                   go_wp2_with fail
                   go_roundw
                   case rel => exact ⟨k + 1, by go_num, by omega, by rw [← HY1.out]; exact HRK13.out⟩
                   case measure => simp [intOf]; omega
                  ·have HKc := Lib.hid hKc
                   clear hKc
                   go_simp
                   go_wp2_with ((first | (with_reducible refine (PO.out _).mono ?_; rintro e wq ⟨rfl, hb⟩; have HRW := Lib.hid (HRW.out.keep hb); have HIW := Lib.hid (HIW.out.keep hb); clear hb) | (with_reducible refine (PM.out _).mono ?_; rintro e wq ⟨rfl, hb⟩; have HRW := Lib.hid (HRW.out.keep hb); have HIW := Lib.hid (HIW.out.keep hb); clear hb) | (with_reducible refine (PPL.out _).mono ?_; rintro e wq ⟨rfl, hb⟩; have HRW := Lib.hid (HRW.out.keep hb); have HIW := Lib.hid (HIW.out.keep hb); clear hb)))
                   refine HKc.out _ _ ?_
                   clear HKc Kc
                   refine wpAny_ready (rs := [0]) (by kernel_rfl) (by simp) ?_
                   refine AllReady.cons rfl (fun Kc hKc => ?_) AllReady.nil
                   have HKc := Lib.hid hKc
                   clear hKc
                   first | refine wp_load_row 103 _ rfl RB rfl 103 (longA y0) (0, 0) _ HRW.out.box Tryz.underlying103 rfl (long_info y0) ?_ | (have q2 := (HIW.out.kept.at_ HKP.out).2 2 _ rfl; go_simp; clear q2)
                   refine HKc.out _ _ ?_
                   clear HKc Kc
                   refine wpAny_ready (rs := [8]) (by kernel_rfl) (by simp) ?_
                   refine AllReady.cons rfl (fun Kc hKc => ?_) AllReady.nil
                   have HKc := Lib.hid hKc
                   clear hKc
                   go_simp
                   go_wp2_with ((first | (with_reducible refine (PO.out _).mono ?_; rintro e wq ⟨rfl, hb⟩; have HRW := Lib.hid (HRW.out.keep hb); have HIW := Lib.hid (HIW.out.keep hb); clear hb) | (with_reducible refine (PM.out _).mono ?_; rintro e wq ⟨rfl, hb⟩; have HRW := Lib.hid (HRW.out.keep hb); have HIW := Lib.hid (HIW.out.keep hb); clear hb) | (with_reducible refine (PPL.out _).mono ?_; rintro e wq ⟨rfl, hb⟩; have HRW := Lib.hid (HRW.out.keep hb); have HIW := Lib.hid (HIW.out.keep hb); clear hb)))
                   refine HKc.out _ _ ?_
                   clear HKc Kc
                   refine wpAny_ready (rs := [9]) (by kernel_rfl) (by simp) ?_
                   refine AllReady.cons rfl (fun Kc hKc => ?_) AllReady.nil
                   have HKc := Lib.hid hKc
                   clear hKc
                   have HRK13 : Hid (RkI w5 _ RB y1) := Lib.hid ⟨HRW.out.box.rowNew, grown_trans HRW.out.gr (grown_setRow _ _ _)⟩; have hq12 := HRW.out.box; refine wp_store_row 103 _ _ rfl RB (longA y1) rfl rfl 103 (longA y0) hq12 (long_info _) (by rw [longA_size, longA_size]) (longA_one _) ?_
                   refine HKc.out _ _ ?_
                   clear HKc Kc
                   refine wpAny_done (by kernel_rfl) ?_ _
                   go_wp2_with fail
                   go_roundw
                   case rel => exact ⟨k + 1, by go_num, by omega, by rw [← HY1.out]; exact HRK13.out⟩
                   case measure => simp [intOf]; omega
        ·have hkz : ¬ (k : Int) < (M : Int) := by omega
         have HLE : Hid (leftK pt (posL K) (n, i) k = rest pt (posL K) (n, i)) := Lib.hid (by
          rw [← leftK_all HND.out, show k = (posL K).length by unfold posL; rw [List.length_map, ← HM.out]; omega])
         have hlb := leftK_bd (K := posL K) (p := (n, i)) (fun n i => HP64.out n i) k
         rw [HLE.out] at hlb
         have HRKE : Hid (RkI w5 w6 RB (rest pt (posL K) (n, i))) := Lib.hid (by rw [← HLE.out]; exact HRK.out)
         obtain ⟨x, hx⟩ : ∃ x, x = rest pt (posL K) (n, i) := ⟨_, rfl⟩
         rw [← hx] at hlb HRKE
         have HX := Lib.hid hx
         clear hx HRK
         have q0 := HRKE.out.box
         go_wp2_with (refine wpList_load_row rfl 103 _ rfl RB rfl 103 (longA x) (0, 0) _ q0 Tryz.underlying103 rfl (long_info x) ?_)
         clear q0
         have HFX : Hid (posJ lo n t + 1 ≤ Tl.length) := Lib.hid (List.getElem?_eq_some_iff.1 HTT.out).1
         rw [show (K.map fun q => (q.1, q.2.1)) = posL K from rfl, ← HX.out] at HNXT
         by_cases hfx : -9223372036854775808 ≤ x ∧ x ≤ 9223372036854775807
         ·have PI := Lib.hid (fun w => lint_yes x hfx.1 hfx.2 w)
          have HNX2 : Hid (keptAt pt least Tl (posJ lo n t + 1) = some (if least ≤ x then K ++ [(n, i, x)] else K)) := Lib.hid (by rw [HNXT.out, if_pos (fits_iff.2 hfx)])
          clear HNXT
          with_reducible refine (PI.out _).mono ?_
          rintro e w7 ⟨rfl, hb⟩
          have HI7 := Lib.hid (HI6.out.keep hb)
          clear hb
          by_cases hlx : least ≤ x
          ·have HNX3 : Hid (keptAt pt least Tl (posJ lo n (t + 1)) = some (K ++ [(n, i, x)])) := Lib.hid (by rw [HPY.out, HNX2.out, if_pos hlx])
           clear HNX2
           go_wp2_with fail
           refine wp_region_any (by kernel_rfl) ?_
           have hbd : Below w7.heap.size w7 { heap := w7.heap, tape := w7.tape, drawn := w7.drawn + 1, os := w7.os, output := w7.output } := below_drewN (Below.refl _ _) 1
           have HI8 := Lib.hid (HI7.out.keep hbd)
           clear hbd HI7
           generalize ({ heap := w7.heap, tape := w7.tape, drawn := w7.drawn + 1, os := w7.os, output := w7.output } : World) = w8 at *
           have q1 := range_two (HI8.out.told.at_ HPP.out).2
           have q2 := (HI8.out.told.at_ HPP.out).2 2 _ rfl
           refine tkA (i := 0) (v := ?_) rfl (by kernel_rfl) (fun _ _ _ h => h) (Or.inl ⟨by rfl, ?_⟩) ?_
           rotate_left
           ·intro w
            go_simp
            try with_reducible rfl
           simp only [Act.put, z1, z2, z3, z4, z5, z6]
           refine wpAny_still_tail [false, true, true, true, true, true, true, true, true, true, true, true, true] [0] _ (by kernel_rfl) (by kernel_rfl) ?_
           simp only [dropAt, List.length_cons, List.length_nil, List.drop_succ_cons, List.drop_zero]
           iterate 12 (first | refine wpStill_load_mid (by rfl) 64 _ rfl gl (t * 3) rfl [.int .i64 (n : Int), .int .u64 (i : Int)] _ q1 Tryz.underlying64 rfl (by kernel_rfl) ?_ | still_step)
           refine wpStill_nil ?_
           try simp only [Act.put, z1, z2, z3, z4, z5, z6]
           clear q1 q2
           have HPA : Hid (w8.ownsRow w.heap.size 106 4 (.slice oo M oc) M (rsCells pt K)) := Lib.hid (by
            have h1 := HI8.out.kept
            unfold RrOwn at h1
            rw [← HM.out] at h1
            exact h1)
           have hc1 : M + 1 ≤ maxLen := by unfold maxLen; omega
           have hc4 : (M + 1) * 32 ≤ 140737488355328 := by omega
           have HB9 := Lib.hid (HI8.out.bel.alloc HI8.out.bel.size (.cells #[.int .i64 (n : Int), .int .u64 (i : Int), .int .i64 (pt n i), .int .i64 x] 106))
           go_wp2_with (at_builtin; go_loud (refine wpList_append_own_at _ rfl _ _ 48 rfl w.heap.size 106 iR (.agg #[.int .i64 0, .int .u64 0, .int .i64 0, .int .i64 0]) 4 32 Tryz.underlying48 hR hR0 hR1 hR2 rfl (by decide) _ M _ rfl (World.ownsRow.alloc HPA.out _) ⟨w8.heap.size, 0, none⟩ 1 1 [.int .i64 (n : Int), .int .u64 (i : Int), .int .i64 (pt n i), .int .i64 x] rfl rfl (cells_new _ rfl) ?c2 hc1 hc4 ?c5 ?_))
           case c2 => simp [Value.oneCell']
           case c5 => exact HB9.out.size
           intro v5 w9 hown' hgrow hnil' hq5
           have HNW : Hid (RrOwn w9 w.heap.size v5 pt (K ++ [(n, i, x)])) := Lib.hid (RrOwn.push HM.out hown')
           have HTW : Hid (RfOwn w9 w.heap.size (.slice (some ⟨gl, 0, none⟩) N cap) pt lo) := Lib.hid (own_gr (World.ownsRow.alloc HI8.out.told _) hgrow (fun k e => by
            intro e2
            have hne := HOO.out k e
            exact hne e2))
           have HBW := Lib.hid (HB9.out.grown hgrow HB9.out.size (fun k e => (HPA.out.lt k e).1))
           clear hown' hgrow hnil' hq5 hc1 hc4
           go_wp2_with fail
           go_roundw
           case rel => exact ⟨t + 1, K ++ [(n, i, x)], by go_num, by omega, HNX3.out, ⟨HTW.out, HNW.out, HBW.out⟩⟩
           case measure => simp [intOf]; omega
          ·have HNX3 : Hid (keptAt pt least Tl (posJ lo n (t + 1)) = some K) := Lib.hid (by rw [HPY.out, HNX2.out, if_neg hlx])
           clear HNX2
           go_wp2_with fail
           go_roundw
           case rel => exact ⟨t + 1, K, by go_num, by omega, HNX3.out, HI7.out⟩
           case measure => simp [intOf]; omega
         ·have PI := Lib.hid (fun w => lint_no x (by omega) (by omega) hfx w)
          have HKF : Hid (hiKept pt least b = none) := Lib.hid (by
           rw [HKD.out]
           refine keptAt_none HFX.out ?_
           rw [HNXT.out, if_neg (by rw [fits_iff]; exact hfx)])
          have h4 := HIN.out HKF.out
          have HF : Hid (∀ w', Below w.heap.size w w' → RHiPost w pt least budget b (.returned (.tuple #[.slice none 0 0, .int .i64 4])) w') := Lib.hid (fun w' hb' => ⟨_, by rw [h4], fun h => absurd h (by rw [h4]; decide), fun _ => rfl, hb'⟩)
          clear HNXT h4
          with_reducible refine (PI.out _).mono ?_
          rintro e w7 ⟨rfl, hb⟩
          have HI7 := Lib.hid (HI6.out.keep hb)
          clear hb
          go_wp2_with fail
          go_ret2
          exact HF.out _ HI7.out.bel

      ·have hnz : ¬ (n : Int) = (j : Int) := by omega
       have HPY : Hid (posJ lo j (t + 1) = posJ lo j t) := Lib.hid (posJ_not hp hnj)
       clear hp hc2
       go_wp2_with fail
       go_roundw
       case rel => exact ⟨t + 1, K, by go_num, by omega, by rw [HPY.out]; exact HK.out, HI.out⟩
       case measure => simp [intOf]; omega
     ·have htz : ¬ (t : Int) < (N : Int) := by omega
      have hte : t = lo.length := by have := HN.out; omega
      have HK2 : Hid (keptAt pt least Tl (posJ lo (j + 1) 0) = some K) := Lib.hid (by rw [← posJ_row, ← hte]; exact HK.out)
      go_wp2_with fail
      go_roundw
      case rel => exact ⟨j + 1, K, by go_num, by omega, HK2.out, HI.out⟩
      case measure => simp [intOf]; omega
   ·have hjz : ¬ (j : Int) ≤ (b : Int) := by omega
    have HKF : Hid (hiKept pt least b = some K) := Lib.hid (by
     rw [HKD.out, ← HK.out, show j = b + 1 by omega, posJ_end, ← HTD.out])
    have HF : Hid (RHiPost w pt least budget b (.returned (.tuple #[u10, .int .i64 0])) w2) := Lib.hid ⟨_, by rw [HIE.out _ HKF.out], fun _ => ⟨K, HKF.out, HI.out.kept⟩, fun h => absurd (HIE.out _ HKF.out) h, HI.out.bel⟩
    go_wp2_with fail
    go_ret2
    exact HF.out
 ·have hv := hn1 hE
  subst hv
  have hE2 : hiErr pt least budget b = hvErr pt least budget b := by unfold hiErr; rw [if_neg hE]
  have HF : Hid (RHiPost w pt least budget b (.returned (.tuple #[.slice none 0 0, .int .i64 (hvErr pt least budget b)])) w1) := Lib.hid ⟨_, by rw [hE2], fun h => absurd (by rw [← hE2]; exact h) hE, fun _ => rfl, HB1.out⟩
  have HE : Hid (hvErr pt least budget b ≠ 0) := Lib.hid hE
  obtain ⟨er, her⟩ : ∃ er, er = hvErr pt least budget b := ⟨_, rfl⟩
  rw [← her] at HF HE ⊢
  have hne : ¬ er = 0 := HE.out
  clear hE hv1 hn1 hb' hE2 her
  go_wp2_with fail
  go_ret2
  exact HF.out
end Go.Proofs.YthbkljeibmkimaaGreat


namespace Go.Proofs.YthbkljeibmkimaaGreat
open Go.RowKit
set_option linter.unusedVariables false
set_option linter.unusedSimpArgs false

set_option maxRecDepth 100000 in
set_option maxHeartbeats 4000000 in
theorem same18_any (w : World) (b1 b2 : Nat) (v1 v2 : Value) (pt : Nat → Nat → Int) (lo : List (Nat × Nat)) (h1 : FdOwn w b1 v1 pt lo) (h2 : RfOwn w b2 v2 pt lo) (hlen : lo.length ≤ 100000) :
  Calls Tryz.prog 15 #[v1, v2] w fun e w' => e = .returned (.bool true) ∧ Below w.heap.size w w' := by
 have H1 := Lib.hid h1
 have H2 := Lib.hid h2
 obtain ⟨N, hN⟩ : ∃ N, N = lo.length := ⟨_, rfl⟩
 have HN := Lib.hid hN
 obtain ⟨a1, c1, e1, -, -⟩ := own_open h1
 obtain ⟨a2, c2, e2, -, -⟩ := own_open h2
 rw [← hN] at e1 e2 hlen
 subst e1 e2
 clear h1 h2 hN
 go_enter Tryz.func15, Tryz.ntmps15
 go_wp2_with fail
 go_loopw [5] (fun i wr => ∃ t : Nat, i = .int .i64 (t : Int) ∧ t ≤ N ∧ Below w.heap.size w wr) (fun i _ => N - (intOf i).toNat)
 case atStart => exact ⟨0, rfl, Nat.zero_le _, Below.refl _ _⟩
 case round =>
  obtain ⟨t, rfl, htN, hbw⟩ := hrel
  have HBW := Lib.hid hbw
  clear hbw
  by_cases hlt : t < N
  ·have hlz : (t : Int) < (N : Int) := by omega
   obtain ⟨p, hp⟩ : ∃ p, lo[t]? = some p := ⟨_, List.getElem?_eq_getElem (by rw [← HN.out]; exact hlt)⟩
   obtain ⟨x1, x2⟩ := p
   obtain ⟨g1, c1', he, -, hl1, -, -, r1⟩ := H1.out.range hp
   simp only [Value.slice.injEq] at he
   obtain ⟨rfl, -, rfl⟩ := he
   obtain ⟨g2, c2', he, -, hl2, -, -, r2⟩ := H2.out.range hp
   simp only [Value.slice.injEq] at he
   obtain ⟨rfl, -, rfl⟩ := he
   simp only at r1 r2
   generalize pt x1 x2 = y at *
   have HR1 := Lib.hid r1
   have HL1 := Lib.hid hl1
   have HR2 := Lib.hid r2
   have HL2 := Lib.hid hl2
   clear r1 r2 hl1 hl2 hp
   generalize wr = w8 at *
   go_wp2_with fail
   refine wp_region_held_drew (S := fun w' => Below w.heap.size w w') (by kernel_rfl) (by exact HBW.out.trans (below_drewN (Below.refl _ _) 1)) (fun hHeld => ?_)
   refine tkH (i := 0) (v := ?_) rfl (by kernel_rfl) (fun _ _ _ h => h) (Or.inl ⟨by rfl, ?_⟩) (by assumption) ?_
   rotate_left
   ·intro w hSw
    try dsimp only at hSw
    go_simp
    try with_reducible rfl
   simp only [Act.put, z1, z2, z3, z4, z5, z6]
   refine tkH (i := 1) (v := ?_) rfl (by kernel_rfl) (fun _ _ _ h => h) (Or.inl ⟨by rfl, ?_⟩) (by assumption) ?_
   rotate_left
   ·intro w hSw
    try dsimp only at hSw
    go_simp
    try with_reducible rfl
   simp only [Act.put, z1, z2, z3, z4, z5, z6]
   refine tkH (i := 2) (v := ?_) rfl (by kernel_rfl) (fun _ _ _ h => h) (Or.inl ⟨by rfl, ?_⟩) (by assumption) ?_
   rotate_left
   ·intro w hSw
    try dsimp only at hSw
    go_simp
    try with_reducible rfl
   simp only [Act.put, z1, z2, z3, z4, z5, z6]
   refine tkH (i := 3) (v := ?_) rfl (by kernel_rfl) (fun _ _ _ h => h) (Or.inl ⟨by rfl, ?_⟩) (by assumption) ?_
   rotate_left
   ·intro w hSw
    have q1 := range_block HR1.out (hSw.block _ HL1.out)
    have q2 := range_block HR2.out (hSw.block _ HL2.out)
    try (first | refine (exec_load_mid 66 _ rfl g1 (t * 3) rfl [.int .i64 (x1 : Int), .int .u64 (x2 : Int), .int .i64 y] _ q1 Tryz.underlying66 rfl (by kernel_rfl)).trans ?_ | refine (exec_load_mid 90 _ rfl g2 (t * 3) rfl [.int .i64 (x1 : Int), .int .u64 (x2 : Int), .int .i64 y] _ q2 Tryz.underlying90 rfl (by kernel_rfl)).trans ?_)
    go_simp
    try with_reducible rfl
   simp only [Act.put, z1, z2, z3, z4, z5, z6]
   refine tkH (i := 4) (v := ?_) rfl (by kernel_rfl) (fun _ _ _ h => h) (Or.inl ⟨by rfl, ?_⟩) (by assumption) ?_
   rotate_left
   ·intro w hSw
    try dsimp only at hSw
    go_simp
    try with_reducible rfl
   simp only [Act.put, z1, z2, z3, z4, z5, z6]
   refine tkH (i := 5) (v := ?_) rfl (by kernel_rfl) (fun _ _ _ h => h) (Or.inl ⟨by rfl, ?_⟩) (by assumption) ?_
   rotate_left
   ·intro w hSw
    try dsimp only at hSw
    go_simp
    try with_reducible rfl
   simp only [Act.put, z1, z2, z3, z4, z5, z6]
   refine tkH (i := 6) (v := ?_) rfl (by kernel_rfl) (fun _ _ _ h => h) (Or.inl ⟨by rfl, ?_⟩) (by assumption) ?_
   rotate_left
   ·intro w hSw
    try dsimp only at hSw
    go_simp
    try with_reducible rfl
   simp only [Act.put, z1, z2, z3, z4, z5, z6]
   refine tkH (i := 7) (v := ?_) rfl (by kernel_rfl) (fun _ _ _ h => h) (Or.inl ⟨by rfl, ?_⟩) (by assumption) ?_
   rotate_left
   ·intro w hSw
    have q1 := range_block HR1.out (hSw.block _ HL1.out)
    have q2 := range_block HR2.out (hSw.block _ HL2.out)
    try (first | refine (exec_load_mid 66 _ rfl g1 (t * 3) rfl [.int .i64 (x1 : Int), .int .u64 (x2 : Int), .int .i64 y] _ q1 Tryz.underlying66 rfl (by kernel_rfl)).trans ?_ | refine (exec_load_mid 90 _ rfl g2 (t * 3) rfl [.int .i64 (x1 : Int), .int .u64 (x2 : Int), .int .i64 y] _ q2 Tryz.underlying90 rfl (by kernel_rfl)).trans ?_)
    go_simp
    try with_reducible rfl
   simp only [Act.put, z1, z2, z3, z4, z5, z6]
   refine tkH (i := 8) (v := ?_) rfl (by kernel_rfl) (fun _ _ _ h => h) (Or.inl ⟨by rfl, ?_⟩) (by assumption) ?_
   rotate_left
   ·intro w hSw
    try dsimp only at hSw
    go_simp
    try with_reducible rfl
   simp only [Act.put, z1, z2, z3, z4, z5, z6]
   refine wpAnyH_done (by kernel_rfl) ?_ _
   have HBX := Lib.hid hHeld
   clear hHeld
   go_wp2_with fail
   go_roundw
   case rel => exact ⟨t + 1, by go_num, by omega, HBX.out⟩
   case measure => simp [intOf]; omega
  ·have hlz : ¬ (t : Int) < (N : Int) := by omega
   go_wp2_with fail
   go_ret
   exact ⟨rfl, HBW.out⟩
set_option maxRecDepth 100000 in
set_option maxHeartbeats 4000000 in
theorem rests18_any (w : World) (b1 b2 : Nat) (v1 v2 : Value) (pt : Nat → Nat → Int) (lo : List (Nat × Nat × Int)) (h1 : RsOwn w b1 v1 pt lo) (h2 : RrOwn w b2 v2 pt lo) (hlen : lo.length ≤ 100000) :
  Calls Tryz.prog 16 #[v1, v2] w fun e w' => e = .returned (.bool true) ∧ Below w.heap.size w w' := by
 have H1 := Lib.hid h1
 have H2 := Lib.hid h2
 obtain ⟨N, hN⟩ : ∃ N, N = lo.length := ⟨_, rfl⟩
 have HN := Lib.hid hN
 obtain ⟨a1, c1, e1, -, -⟩ := own_open h1
 obtain ⟨a2, c2, e2, -, -⟩ := own_open h2
 rw [← hN] at e1 e2 hlen
 subst e1 e2
 clear h1 h2 hN
 go_enter Tryz.func16, Tryz.ntmps16
 go_wp2_with fail
 go_loopw [5] (fun i wr => ∃ t : Nat, i = .int .i64 (t : Int) ∧ t ≤ N ∧ Below w.heap.size w wr) (fun i _ => N - (intOf i).toNat)
 case atStart => exact ⟨0, rfl, Nat.zero_le _, Below.refl _ _⟩
 case round =>
  obtain ⟨t, rfl, htN, hbw⟩ := hrel
  have HBW := Lib.hid hbw
  clear hbw
  by_cases hlt : t < N
  ·have hlz : (t : Int) < (N : Int) := by omega
   obtain ⟨p, hp⟩ : ∃ p, lo[t]? = some p := ⟨_, List.getElem?_eq_getElem (by rw [← HN.out]; exact hlt)⟩
   obtain ⟨x1, x2, z⟩ := p
   obtain ⟨g1, c1', he, -, hl1, -, -, r1⟩ := H1.out.range hp
   simp only [Value.slice.injEq] at he
   obtain ⟨rfl, -, rfl⟩ := he
   obtain ⟨g2, c2', he, -, hl2, -, -, r2⟩ := H2.out.range hp
   simp only [Value.slice.injEq] at he
   obtain ⟨rfl, -, rfl⟩ := he
   simp only at r1 r2
   generalize pt x1 x2 = y at *
   have HR1 := Lib.hid r1
   have HL1 := Lib.hid hl1
   have HR2 := Lib.hid r2
   have HL2 := Lib.hid hl2
   clear r1 r2 hl1 hl2 hp
   generalize wr = w8 at *
   go_wp2_with fail
   refine wp_region_held_drew (S := fun w' => Below w.heap.size w w') (by kernel_rfl) (by exact HBW.out.trans (below_drewN (Below.refl _ _) 1)) (fun hHeld => ?_)
   refine tkH (i := 0) (v := ?_) rfl (by kernel_rfl) (fun _ _ _ h => h) (Or.inl ⟨by rfl, ?_⟩) (by assumption) ?_
   rotate_left
   ·intro w hSw
    try dsimp only at hSw
    go_simp
    try with_reducible rfl
   simp only [Act.put, z1, z2, z3, z4, z5, z6]
   refine tkH (i := 1) (v := ?_) rfl (by kernel_rfl) (fun _ _ _ h => h) (Or.inl ⟨by rfl, ?_⟩) (by assumption) ?_
   rotate_left
   ·intro w hSw
    try dsimp only at hSw
    go_simp
    try with_reducible rfl
   simp only [Act.put, z1, z2, z3, z4, z5, z6]
   refine tkH (i := 2) (v := ?_) rfl (by kernel_rfl) (fun _ _ _ h => h) (Or.inl ⟨by rfl, ?_⟩) (by assumption) ?_
   rotate_left
   ·intro w hSw
    try dsimp only at hSw
    go_simp
    try with_reducible rfl
   simp only [Act.put, z1, z2, z3, z4, z5, z6]
   refine tkH (i := 3) (v := ?_) rfl (by kernel_rfl) (fun _ _ _ h => h) (Or.inl ⟨by rfl, ?_⟩) (by assumption) ?_
   rotate_left
   ·intro w hSw
    have q1 := range_block HR1.out (hSw.block _ HL1.out)
    have q2 := range_block HR2.out (hSw.block _ HL2.out)
    try (first | refine (exec_load_mid 68 _ rfl g1 (t * 4) rfl [.int .i64 (x1 : Int), .int .u64 (x2 : Int), .int .i64 y, .int .i64 z] _ q1 Tryz.underlying68 rfl (by kernel_rfl)).trans ?_ | refine (exec_load_mid 106 _ rfl g2 (t * 4) rfl [.int .i64 (x1 : Int), .int .u64 (x2 : Int), .int .i64 y, .int .i64 z] _ q2 Tryz.underlying106 rfl (by kernel_rfl)).trans ?_)
    go_simp
    try with_reducible rfl
   simp only [Act.put, z1, z2, z3, z4, z5, z6]
   refine tkH (i := 4) (v := ?_) rfl (by kernel_rfl) (fun _ _ _ h => h) (Or.inl ⟨by rfl, ?_⟩) (by assumption) ?_
   rotate_left
   ·intro w hSw
    try dsimp only at hSw
    go_simp
    try with_reducible rfl
   simp only [Act.put, z1, z2, z3, z4, z5, z6]
   refine tkH (i := 5) (v := ?_) rfl (by kernel_rfl) (fun _ _ _ h => h) (Or.inl ⟨by rfl, ?_⟩) (by assumption) ?_
   rotate_left
   ·intro w hSw
    try dsimp only at hSw
    go_simp
    try with_reducible rfl
   simp only [Act.put, z1, z2, z3, z4, z5, z6]
   refine tkH (i := 6) (v := ?_) rfl (by kernel_rfl) (fun _ _ _ h => h) (Or.inl ⟨by rfl, ?_⟩) (by assumption) ?_
   rotate_left
   ·intro w hSw
    try dsimp only at hSw
    go_simp
    try with_reducible rfl
   simp only [Act.put, z1, z2, z3, z4, z5, z6]
   refine tkH (i := 7) (v := ?_) rfl (by kernel_rfl) (fun _ _ _ h => h) (Or.inl ⟨by rfl, ?_⟩) (by assumption) ?_
   rotate_left
   ·intro w hSw
    have q1 := range_block HR1.out (hSw.block _ HL1.out)
    have q2 := range_block HR2.out (hSw.block _ HL2.out)
    try (first | refine (exec_load_mid 68 _ rfl g1 (t * 4) rfl [.int .i64 (x1 : Int), .int .u64 (x2 : Int), .int .i64 y, .int .i64 z] _ q1 Tryz.underlying68 rfl (by kernel_rfl)).trans ?_ | refine (exec_load_mid 106 _ rfl g2 (t * 4) rfl [.int .i64 (x1 : Int), .int .u64 (x2 : Int), .int .i64 y, .int .i64 z] _ q2 Tryz.underlying106 rfl (by kernel_rfl)).trans ?_)
    go_simp
    try with_reducible rfl
   simp only [Act.put, z1, z2, z3, z4, z5, z6]
   refine tkH (i := 8) (v := ?_) rfl (by kernel_rfl) (fun _ _ _ h => h) (Or.inl ⟨by rfl, ?_⟩) (by assumption) ?_
   rotate_left
   ·intro w hSw
    try dsimp only at hSw
    go_simp
    try with_reducible rfl
   simp only [Act.put, z1, z2, z3, z4, z5, z6]
   refine wpAnyH_done (by kernel_rfl) ?_ _
   have HBX := Lib.hid hHeld
   clear hHeld
   go_wp2_with fail
   go_roundw
   case rel => exact ⟨t + 1, by go_num, by omega, HBX.out⟩
   case measure => simp [intOf]; omega
  ·have hlz : ¬ (t : Int) < (N : Int) := by omega
   go_wp2_with fail
   go_ret
   exact ⟨rfl, HBW.out⟩
end Go.Proofs.YthbkljeibmkimaaGreat


namespace Go.Proofs.YthbkljeibmkimaaGreat
open Go.RowKit
set_option linter.unusedVariables false
set_option linter.unusedSimpArgs false

def Two (w : World) (n0 S RS : Nat) (b r d m s : Int) (Z : Nat → List Int) : Prop :=
  ∃ L X A G C RL P F h1, StIs w n0 S L b r d m s X A G C Z ∧ RStIs w h1 RS RL b r d m s P F Z ∧ (∀ n, n ≤ b.toNat → C n < h1) ∧ h1 ≤ w.heap.size ∧ n0 ≤ h1 ∧ n0 ≤ S ∧ n0 ≤ RS
theorem Two.kept {w w' : World} {n0 S RS : Nat} {b r d m s : Int} {Z : Nat → List Int} (h : Two w n0 S RS b r d m s Z) (hb : Below w.heap.size w w') : Two w' n0 S RS b r d m s Z := by
  obtain ⟨L, X, A, G, C, RL, P, F, h1, hs, hr, hc, ht, hn, hS, hR⟩ := h
  exact ⟨L, X, A, G, C, RL, P, F, h1, hs.kept hb, hr.kept hb, hc, Nat.le_trans ht hb.size, hn, hS, hR⟩
theorem Two.right {w : World} {n0 S RS : Nat} {b r d m s : Int} {Z : Nat → List Int} (h : Two w n0 S RS b r d m s Z) : rightB b r d m = true := by
  obtain ⟨L, X, A, G, C, RL, P, F, h1, hs, -⟩ := h
  exact hs.right
theorem Two.fit {w : World} {n0 S RS : Nat} {b r d m s : Int} {Z : Nat → List Int} (h : Two w n0 S RS b r d m s Z) : ∀ n, n ≤ b.toNat → Fit (Z n) ∧ (Z n).length = cellsN b r d m n := by
  obtain ⟨L, X, A, G, C, RL, P, F, h1, hs, -⟩ := h
  exact fun n hn => ⟨(hs.lev n hn).fit, (hs.lev n hn).len⟩
theorem RStIs.other {w w' : World} {h1 RS RL : Nat} {b r d m s : Int} {P : Nat → Nat} {F : Nat → Nat → Prop} {Z : Nat → List Int} {C : Nat → Nat} (hr : RStIs w h1 RS RL b r d m s P F Z) (hc : ∀ n, n ≤ b.toNat → C n < h1) (hC : ∀ n, n ≤ b.toNat → ∃ cur, Blk w (C n) 2 cur) (g : RGr w w' C (b.toNat + 1)) : RStIs w' h1 RS RL b r d m s P F Z := by
  obtain ⟨cap, h2, h3⟩ := hr.box
  obtain ⟨cur, h4, h5⟩ := hr.row
  have key : ∀ {q : Nat} {t : TypeId} {cs : Array Value}, Blk w q t cs → t ≠ 2 → Blk w' q t cs := fun {q t cs} hb ht => (g.block q hb.lt (fun n hn e => by
    obtain ⟨cu, hcu⟩ := hC n (by omega)
    rw [← e] at hcu
    exact hb.ne_ hcu ht rfl)).trans hb
  refine ⟨⟨cap, key h2 (by decide), h3⟩, hr.right, ⟨cur, key h4 (by decide), h5⟩, fun n hn => (hr.lev n hn).frame (fun k hk => g.block k (hr.fin n k hn hk).2 (fun j hj e => ?_)), fun n k hn hk => ?_, hr.apart, hr.out⟩
  · have := hc j (by omega)
    have := (hr.fin n k hn hk).1
    omega
  · have := hr.fin n k hn hk
    have := g.size
    omega
theorem StUpPost.below {w w' : World} {n0 S L : Nat} {b r d m s : Int} {X : Nat → Value} {A G C : Nat → Nat} {Z : Nat → List Int} {k : Nat} {x : Int} {e : Ending} (hs : StIs w n0 S L b r d m s X A G C Z) (hn : n0 ≤ w.heap.size) (p : StUpPost w n0 S L b r d m s X A G C Z k x e w') : Below n0 w w' :=
  ⟨p.2.2.os, p.2.2.tape, p.2.2.output, p.2.2.size, fun k hk => p.2.2.block k (by omega) (fun n hn e => by have := hs.low n (by omega); omega)⟩
theorem StUpPost.far {w w' : World} {n0 S L g : Nat} {t : TypeId} {cs : Array Value} {b r d m s : Int} {X : Nat → Value} {A G C : Nat → Nat} {Z : Nat → List Int} {k : Nat} {x : Int} {e : Ending} (hs : StIs w n0 S L b r d m s X A G C Z) (p : StUpPost w n0 S L b r d m s X A G C Z k x e w') (hb : Blk w g t cs) (ht : t ≠ 2) : Blk w' g t cs :=
  (p.2.2.block g hb.lt (fun n hn e => by
    obtain ⟨cu, hcu⟩ := (hs.lev n (by omega)).cells
    rw [← e] at hcu
    exact hb.ne_ hcu ht rfl)).trans hb
theorem Two.step {w w1 w1' w2 : World} {n0 S RS : Nat} {b r d m s : Int} {Z : Nat → List Int} {k : Nat} {x : Int} {L : Nat} {X : Nat → Value} {A G C : Nat → Nat} {RL : Nat} {P : Nat → Nat} {F : Nat → Nat → Prop} {h1 : Nat} {e1 e2 : Ending}
  (hr : RStIs w h1 RS RL b r d m s P F Z) (hs : StIs w n0 S L b r d m s X A G C Z) (hc : ∀ n, n ≤ b.toNat → C n < h1) (ht : h1 ≤ w.heap.size) (hn : n0 ≤ h1) (hS : n0 ≤ S) (hR : n0 ≤ RS)
  (p1 : StUpPost w n0 S L b r d m s X A G C Z k x e1 w1) (hb : Below w1.heap.size w1 w1') (p2 : RStUpPost w1' h1 RS b r d m s Z k x e2 w2) : Two w2 n0 S RS b r d m s (stUpd b r d m s Z k x) ∧ Below n0 w w2 := by
 have hbel := p1.below hs (by omega)
 obtain ⟨-, q1, q2⟩ := p1
 obtain ⟨RL2, P2, F2, -, r1, r2⟩ := p2
 have hrs1 := (hr.other hc (fun n hn => (hs.lev n hn).cells) q2).kept hb
 obtain ⟨cap, hx, -⟩ := hrs1.box
 refine ⟨⟨L, X, A, G, C, RL2, P2, F2, h1, (q1.kept hb).far hx (by decide) (by decide) r2, r1, hc, Nat.le_trans ht (Nat.le_trans q2.size (Nat.le_trans hb.size r2.size)), hn, hS, hR⟩, ?_⟩
 have h3 : Below n0 w w1' := hbel.trans (hb.mono (by have := q2.size; omega))
 exact h3.grown r2 (by have := h3.size; omega) (fun k e => by have := Option.some.inj e; omega)
end Go.Proofs.YthbkljeibmkimaaGreat


namespace Go.Proofs.YthbkljeibmkimaaGreat
open Go.RowKit
set_option linter.unusedVariables false
set_option linter.unusedSimpArgs false

theorem any_right5 (b r d m p : Int) (p0 : 1 ≤ p) (p1 : p ≤ 59) : rightB (anyI b p) (anyI r 4) (anyI d 9) (anyI m 3) = true := by
  have h1 := anyI_bd b p p0
  have h2 := anyI_bd r 4 (by decide)
  have h3 := anyI_bd d 9 (by decide)
  have h4 := anyI_bd m 3 (by decide)
  exact right_mk (by omega)
theorem rptis_of {w : World} {base RS RL b : Nat} {r d m s : Int} {P : Nat → Nat} {F : Nat → Nat → Prop} {Z : Nat → List Int} (h : RStIs w base RS RL (b : Int) r d m s P F Z) (s0 : 0 ≤ s) (s1 : s ≤ 18446744073709551615) : RPtIs w RS b (ptOf b r d m s Z) := by
  have hR := right_of h.right
  refine ⟨fun wq hq => ?_, fun wq hq n i hn hi => ?_⟩
  · obtain ⟨cap, hx, -⟩ := (h.kept hq).box
    have := hx.cell 0
    simpa using this
  · have h2 := two_lt (n := b - n) (by omega)
    have e : ((2 ^ (b - n) : Nat) : Int) = (2 : Int) ^ (b - n) := by simp
    rw [ptOf_in hn hi]
    exact rstpoint wq base RS RL _ r d m s P F Z (h.kept hq) s0 s1 n (by simpa using hn) i (by omega) (by rw [keysI_nat h.right hn]; omega)
theorem both_told {w : World} {b1 b2 : Nat} {v1 v2 : Value} {pt : Nat → Nat → Int} {least budget : Int} {b : Nat} (h1 : hvErr pt least budget b = 0 → FdOwn w b1 v1 pt (hvOut pt least b (b + 1))) (n1 : hvErr pt least budget b ≠ 0 → v1 = .slice none 0 0)
    (h2 : hvErr pt least budget b = 0 → RfOwn w b2 v2 pt (hvOut pt least b (b + 1))) (n2 : hvErr pt least budget b ≠ 0 → v2 = .slice none 0 0) : ∃ lo, FdOwn w b1 v1 pt lo ∧ RfOwn w b2 v2 pt lo ∧ lo.length ≤ 4096 := by
  by_cases h : hvErr pt least budget b = 0
  · refine ⟨_, h1 h, h2 h, ?_⟩
    have hl := hvOut_len pt least b (b + 1)
    unfold hvErr at h
    split at h
    · cases h
    · split at h
      · cases h
      · omega
  · rw [n1 h, n2 h]
    exact ⟨[], World.ownsRow_nil _ _ _ _, World.ownsRow_nil _ _ _ _, Nat.zero_le _⟩
theorem both_kept {w : World} {b1 b2 : Nat} {v1 v2 : Value} {pt : Nat → Nat → Int} {least budget : Int} {b : Nat} (h1 : hiErr pt least budget b = 0 → ∃ o, hiKept pt least b = some o ∧ RsOwn w b1 v1 pt o) (n1 : hiErr pt least budget b ≠ 0 → v1 = .slice none 0 0)
  (h2 : hiErr pt least budget b = 0 → ∃ o, hiKept pt least b = some o ∧ RrOwn w b2 v2 pt o) (n2 : hiErr pt least budget b ≠ 0 → v2 = .slice none 0 0) : ∃ o, RsOwn w b1 v1 pt o ∧ RrOwn w b2 v2 pt o ∧ o.length ≤ 4096 := by
 by_cases h : hiErr pt least budget b = 0
 ·obtain ⟨o, e1, k1⟩ := h1 h
  obtain ⟨o', e2, k2⟩ := h2 h
  rw [e1] at e2
  cases e2
  refine ⟨o, k1, k2, ?_⟩
  have hs := (keptAt_sub e1).1.length_le
  rw [List.length_map, List.take_length] at hs
  have ht : (hiT pt least b).length ≤ (hvOut pt least b (b + 1)).length := sub_len (lvd_nodup (hiT_lvd pt least b)) (fun p hp => hiT_mem.1 hp)
  have hl := hvOut_len pt least b (b + 1)
  unfold hiErr at h
  split at h
  ·rename_i he
   unfold hvErr at he
   split at he
   ·cases he
   ·split at he
    ·cases he
    ·omega
  ·rename_i he
   exact absurd h he
 ·rw [n1 h, n2 h]
  exact ⟨[], World.ownsRow_nil _ _ _ _, World.ownsRow_nil _ _ _ _, Nat.zero_le _⟩
structure TellI (w wr : World) (XB : Nat) (xs : Array Value) (S RS : Nat) (b r d m s : Int) (Z : Nat → List Int) : Prop where
  two : Two wr w.heap.size S RS b r d m s Z
  box : Blk wr XB 27 xs
  bel : Below w.heap.size w wr
set_option maxRecDepth 100000 in
set_option maxHeartbeats 8000000 in
theorem tells_walk (xb xr xd xm s : Int) (l : Value) (n : Nat) (ks : Nat → Nat) (ds : Nat → Int) (s0 : 0 ≤ s) (s1 : s ≤ 18446744073709551615) (least b0 : Int) (h0 : In64 b0) (hl64 : In64 least) (w : World) (hl : UpdsAt w l n ks ds) :
  Calls Tryz.prog 3 #[.agg #[.int .i64 xb, .int .i64 xr, .int .i64 xd, .int .i64 xm, .int .u64 s, l], .int .i64 least, .int .i64 b0] w fun e w' => e = .returned (.bool true) ∧ Below w.heap.size w w' := by
 have HL := Lib.hid hl
 obtain ⟨ao, cap, rfl, hmx, hd64, hcells⟩ := hl
 have HCL := Lib.hid hcells
 have HD64 := Lib.hid hd64
 clear hcells hd64
 have PSH := Lib.hid (fun w => shown18 w)
 have PA := Lib.hid (fun w => any_any xb xr xd xm s 5 9 (by decide) (by decide) (by decide) (by decide) w)
 have HR := Lib.hid (any_right5 xb xr xd xm 5 (by decide) (by decide))
 have hbb := anyI_bd xb 5 (by decide)
 obtain ⟨b, hb⟩ : ∃ b, b = anyI xb 5 := ⟨_, rfl⟩
 obtain ⟨r, hr⟩ : ∃ r, r = anyI xr 4 := ⟨_, rfl⟩
 obtain ⟨d, hd⟩ : ∃ d, d = anyI xd 9 := ⟨_, rfl⟩
 obtain ⟨m, hm⟩ : ∃ m, m = anyI xm 3 := ⟨_, rfl⟩
 rw [← hb, ← hr, ← hd, ← hm] at PA HR
 rw [← hb] at hbb
 have HBB := Lib.hid hbb
 clear hb hr hd hm hbb
 have PS := Lib.hid (fun w => stnew_yes b r d m s HR.out w)
 have PR := Lib.hid (fun w => rstnew b r d m s HR.out w)
 obtain ⟨g1, hb1, hsz1⟩ := news1 w (.cells #[.int .i64 xb, .int .i64 xr, .int .i64 xd, .int .i64 xm, .int .u64 s, .slice ao n cap] 27)
 have hx1 : Blk _ w.heap.size 27 #[.int .i64 xb, .int .i64 xr, .int .i64 xd, .int .i64 xm, .int .u64 s, .slice ao n cap] := g1
 have HX0 := Lib.hid hx1
 have HB0 := Lib.hid hb1
 clear g1 hx1 hb1 hsz1 HL
 go_enter Tryz.func3, Tryz.ntmps3
 go_wp2_with fail
 generalize (w.alloc (.cells #[.int .i64 xb, .int .i64 xr, .int .i64 xd, .int .i64 xm, .int .u64 s, .slice ao n cap] 27)) = w0 at *
 with_reducible refine (PSH.out _).mono ?_
 rintro e w1 ⟨rfl, hb⟩
 have HX1 := Lib.hid (HX0.out.kept hb)
 have HB1 := Lib.hid (btr HB0.out hb)
 have q0 := HX1.out.cell 0
 have q1 := HX1.out.cell 1
 have q2 := HX1.out.cell 2
 have q3 := HX1.out.cell 3
 have q4 := HX1.out.cell 4
 simp at q0 q1 q2 q3 q4
 clear hb HX0 HB0
 go_wp2_with fail
 with_reducible refine (PA.out _).mono ?_
 rintro e w2 ⟨rfl, hb⟩
 have HX2 := Lib.hid ((HX1.out.kept hb).alloc (.cells #[.int .i64 b, .int .i64 r, .int .i64 d, .int .i64 m, .int .u64 s] 24))
 have hc : Blk (w2.alloc (.cells #[.int .i64 b, .int .i64 r, .int .i64 d, .int .i64 m, .int .u64 s] 24)) w2.heap.size 24 #[.int .i64 b, .int .i64 r, .int .i64 d, .int .i64 m, .int .u64 s] := Blk.new w2 _ _
 have HB2 := Lib.hid ((btr HB1.out hb).alloc (btr HB1.out hb).size (.cells #[.int .i64 b, .int .i64 r, .int .i64 d, .int .i64 m, .int .u64 s] 24))
 clear hb q0 q1 q2 q3 q4
 go_wp2_with (refine wpList_load_row rfl 24 _ rfl w2.heap.size rfl 24 _ (0, 0) _ hc Tryz.underlying24 rfl (by kernel_rfl) ?_)
 generalize (w2.alloc (.cells #[.int .i64 b, .int .i64 r, .int .i64 d, .int .i64 m, .int .u64 s] 24)) = w2' at *
 with_reducible refine (PS.out _).mono ?_
 rintro e w3 ⟨S, L, X, A, G, C, rfl, hS, hst, hb⟩
 have hc2 := hc.kept hb
 have HX3 := Lib.hid (HX2.out.kept hb)
 have HB3 := Lib.hid (btr HB2.out hb)
 have HST3 := Lib.hid (hst.low_ HB2.out.size)
 have HS3 : Hid (w.heap.size ≤ S) := Lib.hid (Nat.le_trans HB2.out.size hS)
 clear hb hc hst hS
 go_wp2_with (refine wpList_load_row rfl 24 _ rfl w2.heap.size rfl 24 _ (0, 0) _ hc2 Tryz.underlying24 rfl (by kernel_rfl) ?_)
 with_reducible refine (PR.out _).mono ?_
 rintro e w4 ⟨RS, RL, P, F, rfl, hRS, hrst, hb⟩
 have HX4 := Lib.hid (HX3.out.kept hb)
 have HB4 := Lib.hid (btr HB3.out hb)
 have HTWO : Hid (Two w4 w.heap.size S RS b r d m s (zeroZ b r d m)) := Lib.hid ⟨L, X, A, G, C, RL, P, F, w3.heap.size, HST3.out.kept hb, hrst, fun j hj => (HST3.out.lev j hj).ltC, hb.size, HB3.out.size, HS3.out, Nat.le_trans HB3.out.size hRS⟩
 have HI4 : Hid (TellI w w4 w.heap.size #[.int .i64 xb, .int .i64 xr, .int .i64 xd, .int .i64 xm, .int .u64 s, .slice ao n cap] S RS b r d m s (zeroZ b r d m)) := Lib.hid ⟨HTWO.out, HX4.out, HB4.out⟩
 clear hb hc2 hrst hRS HX2 HX3 HX4 HB2 HB3 HB4 HST3 HTWO
 go_wp2_with fail
 go_loopw [12] (fun i wr => ∃ (j : Nat) (Z : Nat → List Int), j ≤ 30 ∧ j ≤ n ∧ i = .int .i64 (j : Int) ∧ TellI w wr w.heap.size #[.int .i64 xb, .int .i64 xr, .int .i64 xd, .int .i64 xm, .int .u64 s, .slice ao n cap] S RS b r d m s Z) (fun i _ => 30 - (intOf i).toNat)
 case atStart => exact ⟨0, _, by omega, by omega, rfl, HI4.out⟩
 case round =>
  obtain ⟨j, Z, hj, hjn, rfl, hI⟩ := hrel
  have HI := Lib.hid hI
  have q5 := hI.box.cell 5
  simp at q5
  clear HI4
  by_cases hlt : j < n ∧ j < 30
  ·obtain ⟨h1, h2⟩ := hlt
   obtain ⟨bb, off, rfl, hbb, hcc⟩ := HCL.out (by omega)
   obtain ⟨u0, u1⟩ := hcc j h1
   obtain ⟨hd64, hk64⟩ := HD64.out j h1
   have HU0 : Hid (∀ w', Below w.heap.size w w' → w'.cell? ⟨bb, off + j * 2, none⟩ = some (.int .u64 (ks j : Int))) := Lib.hid (fun w' hb => (hb.cell (p := ⟨bb, off + j * 2, none⟩) hbb).trans u0)
   have HU1 : Hid (∀ w', Below w.heap.size w w' → w'.cell? ⟨bb, off + j * 2 + 1, none⟩ = some (.int .i64 (ds j))) := Lib.hid (fun w' hb => (hb.cell (p := ⟨bb, off + j * 2 + 1, none⟩) hbb).trans u1)
   generalize ks j = kj at *
   generalize ds j = dj at *
   clear u0 u1 hcc hI
   have d1 : (j : Int) < (n : Int) := by omega
   have d2 : (j : Int) < 30 := by omega
   have d0 : (0 : Int) ≤ (j : Int) := by omega
   go_wp2_with fail
   refine wp_region_still_tail 13 (by kernel_rfl) (by kernel_rfl) ?_
   simp only [List.take_succ_cons, List.take_zero, List.drop_succ_cons, List.drop_zero]
   have HID : Hid (TellI w { heap := wr.heap, tape := wr.tape, drawn := wr.drawn + 1, os := wr.os, output := wr.output } w.heap.size #[.int .i64 xb, .int .i64 xr, .int .i64 xd, .int .i64 xm, .int .u64 s, .slice (some ⟨bb, off, none⟩) n cap] S RS b r d m s Z) := Lib.hid ⟨HI.out.two.kept (below_drewN (Below.refl _ _) 1), HI.out.box.drew, below_drewN HI.out.bel 1⟩
   generalize ({ heap := wr.heap, tape := wr.tape, drawn := wr.drawn + 1, os := wr.os, output := wr.output } : World) = wd at *
   have q6 := HID.out.box.cell 5
   have u0 := HU0.out _ HID.out.bel
   have u1 := HU1.out _ HID.out.bel
   simp at q6
   clear q5
   repeat still_step
   refine wpStill_nil ?_
   obtain ⟨L, X, A, G, C, RL, P, F, hh, hs, hr, hc, ht, hn0, hS, hR⟩ := HID.out.two
   have P1 := Lib.hid (stupdate wd w.heap.size S L b r d m s X A G C Z hs s0 s1 kj hk64 dj hd64)
   have HS := Lib.hid hs
   have HRR := Lib.hid hr
   have HSEP : Hid ((∀ n, n ≤ b.toNat → C n < hh) ∧ hh ≤ wd.heap.size ∧ w.heap.size ≤ hh ∧ w.heap.size ≤ S ∧ w.heap.size ≤ RS) := Lib.hid ⟨hc, ht, hn0, hS, hR⟩
   clear hs hr hc ht hn0 hS hR u0 u1 q6
   go_wp2_with fail
   with_reducible refine P1.out.mono ?_
   intro e w5 hp
   have hq := hp.1
   subst hq
   have HP1 := Lib.hid hp
   have HB5 : Hid (Below w.heap.size w w5) := Lib.hid (HID.out.bel.trans (hp.below HS.out (by have := HID.out.bel.size; exact this)))
   have HX5 : Hid (Blk w5 w.heap.size _ _) := Lib.hid (hp.far HS.out HID.out.box (by decide))
   clear hp
   go_wp2_with fail
   refine wp_region_still_tail 13 (by kernel_rfl) (by kernel_rfl) ?_
   simp only [List.take_succ_cons, List.take_zero, List.drop_succ_cons, List.drop_zero]
   have HB6 : Hid (Below w.heap.size w { heap := w5.heap, tape := w5.tape, drawn := w5.drawn + 1, os := w5.os, output := w5.output }) := Lib.hid (below_drewN HB5.out 1)
   have HB56 : Hid (Below w5.heap.size w5 { heap := w5.heap, tape := w5.tape, drawn := w5.drawn + 1, os := w5.os, output := w5.output }) := Lib.hid (below_drewN (Below.refl _ _) 1)
   generalize ({ heap := w5.heap, tape := w5.tape, drawn := w5.drawn + 1, os := w5.os, output := w5.output } : World) = we at *
   have HX6 := Lib.hid (HX5.out.kept HB56.out)
   have q6 := HX6.out.cell 5
   have u0 := HU0.out _ HB6.out
   have u1 := HU1.out _ HB6.out
   simp at q6
   repeat still_step
   refine wpStill_nil ?_
   have hr6 := (HRR.out.other HSEP.out.1 (fun n hn => (HS.out.lev n hn).cells) HP1.out.2.2).kept HB56.out
   have P2 := Lib.hid (rstupdate we hh RS RL b r d m s P F Z hr6 (by have := HSEP.out.2.1; have h5 := HP1.out.2.2.size; have h6 := HB56.out.size; omega) (fun n hn => (HS.out.lev n hn).fit) s0 s1 kj hk64 dj hd64)
   clear hr6 u0 u1 q6
   go_wp2_with fail
   with_reducible refine P2.out.mono ?_
   intro e w7 hp
   have hq := hp
   obtain ⟨RL7, P7, F7, he, -, hg7⟩ := hq
   subst he
   obtain ⟨c1, c2, c3, c4, c5⟩ := HSEP.out
   have hfin := Two.step HRR.out HS.out c1 c2 c3 c4 c5 HP1.out HB56.out hp
   have HN : Hid (TellI w w7 w.heap.size #[.int .i64 xb, .int .i64 xr, .int .i64 xd, .int .i64 xm, .int .u64 s, .slice (some ⟨bb, off, none⟩) n cap] S RS b r d m s (stUpd b r d m s Z kj dj)) := Lib.hid ⟨hfin.1, HX6.out.grown hg7 (by
    obtain ⟨cpr, hxr, -⟩ := (HRR.out.other c1 (fun n hn => (HS.out.lev n hn).cells) HP1.out.2.2).box
    simpa using HX5.out.ne_ hxr (by decide)), HID.out.bel.trans hfin.2⟩
   clear hp hfin hg7 c1 c2 c3 c4 c5
   go_wp2
   go_roundw
   case rel => exact ⟨j + 1, _, by omega, by omega, by go_num, HN.out⟩
   case measure => simp [intOf]; omega
  ·have HIT := Lib.hid HI.out.two
   have HBE := Lib.hid HI.out.bel
   generalize wr = w5 at *
   obtain ⟨q, hq⟩ : ∃ q : Nat, b = (q : Int) := ⟨b.toNat, by have := HBB.out; omega⟩
   subst hq
   have hq1 : 1 ≤ q ∧ q ≤ 5 := by have := HBB.out; omega
   obtain ⟨L, X, A, G, C, RL, P, F, hh, hs, hr, -, -, -, -, -⟩ := HIT.out
   obtain ⟨pt, hpt⟩ : ∃ pt, pt = ptOf q r d m s Z := ⟨_, rfl⟩
   have HP1 : Hid (PtIs w5 S q r d m s pt) := Lib.hid (by rw [hpt]; exact ptis_of hs s0 s1)
   have HP2 : Hid (RPtIs w5 RS q pt) := Lib.hid (by rw [hpt]; exact rptis_of hr s0 s1)
   have HP64 : Hid (∀ n i, In64 (pt n i)) := Lib.hid (fun n i => by rw [hpt]; exact ptOf64 hs n i)
   obtain ⟨bud, hbud⟩ : ∃ bud, bud = if b0 ≤ 4096 then min b0 100 else b0 := ⟨_, rfl⟩
   have hbi : In64 bud := by
    rw [hbud]
    unfold In64 at *
    split <;> omega
   have HBU := Lib.hid hbud
   have HV1 : Hid (∀ wq, Below w5.heap.size w5 wq → Calls Tryz.prog 11 #[.pointer (some ⟨S, 0, none⟩), .int .i64 least, .int .i64 bud] wq (HvPost wq pt least bud q)) := Lib.hid (fun wq hq => hvheavy wq S q r d m s pt ⟨fun w' h' => HP1.out.1 w' (btr hq h'), fun w' h' => HP1.out.2 w' (btr hq h')⟩ (by omega) (by omega) least bud hl64 hbi)
   have HV2 : Hid (∀ wq, Below w5.heap.size w5 wq → Calls Tryz.prog 12 #[.pointer (some ⟨RS, 0, none⟩), .int .i64 least, .int .i64 bud] wq (RHvPost wq pt least bud q)) := Lib.hid (fun wq hq => rhheavy wq RS q pt ⟨fun w' h' => HP2.out.1 w' (btr hq h'), fun w' h' => HP2.out.2 w' (btr hq h')⟩ (by omega) (by omega) least bud hl64 hbi)
   have HV3 : Hid (∀ wq, Below w5.heap.size w5 wq → Calls Tryz.prog 13 #[.pointer (some ⟨S, 0, none⟩), .int .i64 least, .int .i64 bud] wq (HiPost wq pt least bud q)) := Lib.hid (fun wq hq => hvhier wq S q r d m s pt ⟨fun w' h' => HP1.out.1 w' (btr hq h'), fun w' h' => HP1.out.2 w' (btr hq h')⟩ HP64.out (by omega) (by omega) least bud hl64 hbi)
   have HV4 : Hid (∀ wq, Below w5.heap.size w5 wq → Calls Tryz.prog 14 #[.pointer (some ⟨RS, 0, none⟩), .int .i64 least, .int .i64 bud] wq (RHiPost wq pt least bud q)) := Lib.hid (fun wq hq => rhhier wq RS q pt ⟨fun w' h' => HP2.out.1 w' (btr hq h'), fun w' h' => HP2.out.2 w' (btr hq h')⟩ HP64.out (by omega) (by omega) least bud hl64 hbi)
   clear hs hr hpt hbud hbi HIT HI hI HCL HD64 HR PS PR PA PSH HP1 HP2 HP64 HX1 HB1
   have hcases : ((j : Int) < (n : Int) ∧ ¬ (j : Int) < 30 ∧ decide ((j : Int) < 30) = false) ∨ (¬ (j : Int) < (n : Int) ∧ decide (j < n) = false ∧ decide ((j : Int) < (n : Int)) = false) := by
    by_cases h1 : j < n
    ·exact .inl ⟨by omega, by omega, decide_eq_false (by omega)⟩
    ·exact .inr ⟨by omega, decide_eq_false h1, decide_eq_false (by omega)⟩
   rcases hcases with ⟨d1, d2, d3⟩ | ⟨d1, d2, d3⟩
   ·go_upto_if 78 with fail
    go_cut [2] (fun v wx => v = .int .i64 bud ∧ w5 = wx)
    case first =>
     by_cases hb4 : b0 ≤ 4096
     ·have HE : Hid (bud = min b0 100) := Lib.hid (by rw [HBU.out, if_pos hb4])
      go_wp2_with fail
      all_goals (go_meet; exact ⟨congrArg (Value.int .i64) (by have := HE.out; omega), rfl⟩)
     ·have HE : Hid (Value.int .i64 b0 = .int .i64 bud) := Lib.hid (by rw [HBU.out, if_neg hb4])
      go_wp2_with fail
      go_meet
      exact ⟨HE.out, rfl⟩
    case rest =>
     obtain ⟨rfl, hw⟩ := hcut
     subst hw
     clear HBU
     go_wp2_with fail
     with_reducible refine (HV1.out _ (Below.refl _ _)).mono ?_
     rintro e w6 ⟨v1, rfl, hv1, hn1, hb1⟩
     have HA1 := Lib.hid hv1
     have HN1 := Lib.hid hn1
     have HB6 := Lib.hid hb1
     clear hv1 hn1 hb1
     go_wp2_with fail
     with_reducible refine (HV2.out _ HB6.out).mono ?_
     rintro e w7 ⟨v2, rfl, hv2, hn2, hb2⟩
     have HBT := Lib.hid (both_told (fun h => (HA1.out h).kept hb2) HN1.out hv2 hn2)
     have HB7 := Lib.hid (btr HB6.out hb2)
     clear hv2 hn2 hb2 HA1 HN1 HB6
     go_wp2_with fail
     with_reducible refine (HV3.out _ HB7.out).mono ?_
     rintro e w8 ⟨v3, rfl, hv3, hn3, hb3⟩
     have HA3 := Lib.hid hv3
     have HN3 := Lib.hid hn3
     have HB8 := Lib.hid (btr HB7.out hb3)
     have HB78 := Lib.hid hb3
     clear hv3 hn3 hb3
     go_wp2_with fail
     with_reducible refine (HV4.out _ HB8.out).mono ?_
     rintro e w9 ⟨v4, rfl, hv4, hn4, hb4⟩
     have HBK := Lib.hid (both_kept (fun h => by obtain ⟨o, e1, k1⟩ := HA3.out h; exact ⟨o, e1, k1.kept hb4⟩) HN3.out hv4 hn4)
     have HB9 := Lib.hid (btr HB8.out hb4)
     have HB79 := Lib.hid (btr HB78.out hb4)
     clear hv4 hn4 hb4 HA3 HN3 HB8 HB78
     obtain ⟨lo, t1, t2, t3⟩ := HBT.out
     have PSA := Lib.hid (fun wq (hq : Below w7.heap.size w7 wq) => same18_any wq _ _ v1 v2 pt lo (t1.kept hq) (t2.kept hq) (by omega))
     obtain ⟨ko, t4, t5, t6⟩ := HBK.out
     have PRE := Lib.hid (fun wq (hq : Below w9.heap.size w9 wq) => rests18_any wq _ _ v3 v4 pt ko (t4.kept hq) (t5.kept hq) (by omega))
     generalize hvErr pt least bud q = er at *
     generalize hiErr pt least bud q = eh at *
     clear HBT HBK t1 t2 t3 t4 t5 t6 HV1 HV2 HV3 HV4
     go_wp2_with fail
     with_reducible refine (PSA.out _ HB79.out).mono ?_
     rintro e w10 ⟨rfl, hb⟩
     have HB10 := Lib.hid hb
     clear hb
     go_wp2_with fail
     with_reducible refine (PRE.out _ HB10.out).mono ?_
     rintro e w11 ⟨rfl, hb⟩
     have HBF := Lib.hid (HBE.out.trans ((btr HB9.out (btr HB10.out hb)).mono HBE.out.size))
     clear hb
     go_wp2_with fail
     go_ret
     exact ⟨rfl, HBF.out⟩
   ·go_upto_if 78 with fail
    go_cut [2] (fun v wx => v = .int .i64 bud ∧ w5 = wx)
    case first =>
     by_cases hb4 : b0 ≤ 4096
     ·have HE : Hid (bud = min b0 100) := Lib.hid (by rw [HBU.out, if_pos hb4])
      go_wp2_with fail
      all_goals (go_meet; exact ⟨congrArg (Value.int .i64) (by have := HE.out; omega), rfl⟩)
     ·have HE : Hid (Value.int .i64 b0 = .int .i64 bud) := Lib.hid (by rw [HBU.out, if_neg hb4])
      go_wp2_with fail
      go_meet
      exact ⟨HE.out, rfl⟩
    case rest =>
     obtain ⟨rfl, hw⟩ := hcut
     subst hw
     clear HBU
     go_wp2_with fail
     with_reducible refine (HV1.out _ (Below.refl _ _)).mono ?_
     rintro e w6 ⟨v1, rfl, hv1, hn1, hb1⟩
     have HA1 := Lib.hid hv1
     have HN1 := Lib.hid hn1
     have HB6 := Lib.hid hb1
     clear hv1 hn1 hb1
     go_wp2_with fail
     with_reducible refine (HV2.out _ HB6.out).mono ?_
     rintro e w7 ⟨v2, rfl, hv2, hn2, hb2⟩
     have HBT := Lib.hid (both_told (fun h => (HA1.out h).kept hb2) HN1.out hv2 hn2)
     have HB7 := Lib.hid (btr HB6.out hb2)
     clear hv2 hn2 hb2 HA1 HN1 HB6
     go_wp2_with fail
     with_reducible refine (HV3.out _ HB7.out).mono ?_
     rintro e w8 ⟨v3, rfl, hv3, hn3, hb3⟩
     have HA3 := Lib.hid hv3
     have HN3 := Lib.hid hn3
     have HB8 := Lib.hid (btr HB7.out hb3)
     have HB78 := Lib.hid hb3
     clear hv3 hn3 hb3
     go_wp2_with fail
     with_reducible refine (HV4.out _ HB8.out).mono ?_
     rintro e w9 ⟨v4, rfl, hv4, hn4, hb4⟩
     have HBK := Lib.hid (both_kept (fun h => by obtain ⟨o, e1, k1⟩ := HA3.out h; exact ⟨o, e1, k1.kept hb4⟩) HN3.out hv4 hn4)
     have HB9 := Lib.hid (btr HB8.out hb4)
     have HB79 := Lib.hid (btr HB78.out hb4)
     clear hv4 hn4 hb4 HA3 HN3 HB8 HB78
     obtain ⟨lo, t1, t2, t3⟩ := HBT.out
     have PSA := Lib.hid (fun wq (hq : Below w7.heap.size w7 wq) => same18_any wq _ _ v1 v2 pt lo (t1.kept hq) (t2.kept hq) (by omega))
     obtain ⟨ko, t4, t5, t6⟩ := HBK.out
     have PRE := Lib.hid (fun wq (hq : Below w9.heap.size w9 wq) => rests18_any wq _ _ v3 v4 pt ko (t4.kept hq) (t5.kept hq) (by omega))
     generalize hvErr pt least bud q = er at *
     generalize hiErr pt least bud q = eh at *
     clear HBT HBK t1 t2 t3 t4 t5 t6 HV1 HV2 HV3 HV4
     go_wp2_with fail
     with_reducible refine (PSA.out _ HB79.out).mono ?_
     rintro e w10 ⟨rfl, hb⟩
     have HB10 := Lib.hid hb
     clear hb
     go_wp2_with fail
     with_reducible refine (PRE.out _ HB10.out).mono ?_
     rintro e w11 ⟨rfl, hb⟩
     have HBF := Lib.hid (HBE.out.trans ((btr HB9.out (btr HB10.out hb)).mono HBE.out.size))
     clear hb
     go_wp2_with fail
     go_ret
     exact ⟨rfl, HBF.out⟩
end Go.Proofs.YthbkljeibmkimaaGreat


namespace Go.Proofs.YthbkljeibmkimaaGreat
open Go.RowKit
set_option linter.unusedVariables false
set_option linter.unusedSimpArgs false

theorem valI64' {w : World} {v : Value} (h : (Sh.int .i64).Val w v) : ∃ a : Int, v = .int .i64 a ∧ In64 a := by
  obtain ⟨a, e, ha⟩ := h
  simp at e
  subst e
  simp [Lit.wf, IntKind.min, IntKind.max, IntKind.signed, IntKind.bits] at ha
  exact ⟨a, rfl, by omega, by omega⟩
theorem HeavyTells_walk (v0 v1 v2 : Value) (w : World) (h0 : shPlay.Val w v0) (h1 : (Sh.int .i64).Val w v1) (h2 : (Sh.int .i64).Val w v2) :
    Calls Tryz.prog 3 #[v0, v1, v2] w fun e w' => e = .returned (.bool true) ∧ Below w.heap.size w w' := by
  obtain ⟨xb, xr, xd, xm, s, l, n, ks, ds, rfl, hl, -, -, -, -, s0, s1⟩ := valPlay h0
  obtain ⟨a, rfl, ha⟩ := valI64' h1
  obtain ⟨b, rfl, hb⟩ := valI64' h2
  exact tells_walk xb xr xd xm s l n ks ds s0 s1 a b hb ha w hl
end Go.Proofs.YthbkljeibmkimaaGreat

