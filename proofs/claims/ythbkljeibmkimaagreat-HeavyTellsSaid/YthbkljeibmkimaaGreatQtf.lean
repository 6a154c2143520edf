import Derived.Test.YthbkljeibmkimaaGreatQte
import Derived.Test.YthbkljeibmkimaaGreatQtb
/-
  Contracts of the functions that HeavyTells reaches, and the plain laws that it leans on. Conditions: none beyond those stated at each theorem.
-/
namespace Go.Proofs.YthbkljeibmkimaaGreat
open Go.RowKit
set_option linter.unusedVariables false
set_option linter.unusedSimpArgs false

section
variable {P : Program}
theorem wpList_append_lit1 {ops : Array Oper} {rest : List Oper} {o : Oper} {w : World} {a : Act} {Q : Exit → Act → World → Prop} (hgd : o.guard = none) (s x : Operand) (t : TypeId)
  (ho : o.op = .call { callee := .builtin .append, args := #[s, x], argTypes := #[t, t] })
  (base : Nat) (e : TypeId) (i : TypeInfo) (z : Value) (bytes : Nat) (ht : P.underlying t = some (.slice e)) (hi : P.info? e = some i) (hz : i.zero = some z)
  (hsize : i.size = 1) (hby : i.bytes = bytes) (hzs : z.cells.size = 1)
  (g cap : Nat) (hs : a.eval s = .slice (some ⟨g, 0, none⟩) 0 cap) (hown : w.ownsRow base e 1 (.slice (some ⟨g, 0, none⟩) 0 cap) 0 [])
  (ao : Option Addr) (m c : Nat) (news : List Value) (hx : a.eval x = .slice ao m c) (hl : news.length = m) (hnews : 0 < m → ∃ ad, ao = some ad ∧ ∀ j u, news[j]? = some u → w.cell? (ad.add j) = some u) (h1 : ∀ u ∈ news, u.oneCell' = true)
  (h63 : m ≤ maxLen) (hbytes : m * bytes ≤ 140737488355328) (hbase : base ≤ w.heap.size)
  (h : ∀ v' w', w'.ownsRow base e 1 v' m news → w.grownBy w' (some g) → v' ≠ .slice none 0 0 → (v'.ownBlock = some g ∨ v'.ownBlock = some w.heap.size) → wpList P ops Q rest (a.put o.dst v') w') :
  wpList P ops Q (o :: rest) a w :=
 wpList_plain hgd fun K hK => wp_append_lit s x t ho base e i z bytes ht hi hz hsize hby hzs g cap hs hown ao m c news hx hl hnews h1 h63 hbytes hbase fun v' w' h2 h3 h4 h5 => hK _ _ (h v' w' h2 h3 h4 h5)
end

theorem one_cells {w : World} {g : Nat} {x : Value} (h : w.cell? ⟨g, 0, none⟩ = some x) : ∀ j u, [x][j]? = some u → w.cell? ((⟨g, 0, none⟩ : Addr).add j) = some u := by
  intro j u hj
  match j, hj with
  | 0, hj =>
    simp at hj
    subst hj
    rw [addr_add]
    exact h
theorem own_mono1 {w : World} {b b' : Nat} {e : TypeId} {v : Value} {n : Nat} {xs : List Value} (h : w.ownsRow b e 1 v n xs) (hb : b' ≤ b) : w.ownsRow b' e 1 v n xs := by
  refine ⟨h.1, ?_⟩
  rcases h.2 with h | ⟨g, cap, cur, e1, e2, e3⟩
  · exact .inl h
  · exact .inr ⟨g, cap, cur, e1, Nat.le_trans hb e2, e3⟩
theorem ins_own {w : World} {b b' : Nat} {e : TypeId} {v : Value} {a j m : Nat} {o : List Int} {x : Int} (h : w.ownsRow b e 1 v (a + 1 + m) ((o.take a).map (Value.int .i64) ++ [.int .i64 x] ++ (o.drop a).map (Value.int .i64))) (hb : b' ≤ b) (ha : a ≤ j) (hm : m = j - a) : w.ownsRow b' e 1 v (j + 1) ((insZ o a x).map (Value.int .i64)) := by
  have h1 : a + 1 + m = j + 1 := by omega
  rw [h1] at h
  have h2 : (insZ o a x).map (Value.int .i64) = (o.take a).map (Value.int .i64) ++ [.int .i64 x] ++ (o.drop a).map (Value.int .i64) := by simp [insZ]
  rw [h2]
  exact own_mono1 h hb
theorem drop_news {w w' : World} {go a j : Nat} {o : List Int} (hc : ∀ k, k < j → w.cell? ⟨go, k, none⟩ = some (.int .i64 (cellD o k))) (hl : o.length = j) (hg : go < w.heap.size) (hb : Below w.heap.size w w') {k : Nat} {u : Value} (hu : ((o.drop a).map (Value.int .i64))[k]? = some u) : w'.cell? ⟨go, a + k, none⟩ = some u := by
  rw [List.getElem?_map, List.getElem?_drop] at hu
  cases hz : o[a + k]? with
  | none => rw [hz] at hu; simp at hu
  | some z =>
    rw [hz] at hu
    simp at hu
    subst hu
    have hk : a + k < j := by have := (List.getElem?_eq_some_iff.1 hz).1; omega
    have := hc (a + k) hk
    rw [show cellD o (a + k) = z by simp [cellD, hz]] at this
    exact (hb.cell (p := ⟨go, a + k, none⟩) hg).trans this
theorem take_news {w w' : World} {go a j : Nat} {o : List Int} (hc : ∀ k, k < j → w.cell? ⟨go, k, none⟩ = some (.int .i64 (cellD o k))) (hl : o.length = j) (hg : go < w.heap.size) (hb : Below w.heap.size w w') {k : Nat} {u : Value} (hu : ((o.take a).map (Value.int .i64))[k]? = some u) : w'.cell? ⟨go, k, none⟩ = some u := by
  rw [List.getElem?_map, List.getElem?_take] at hu
  split at hu
  · cases hz : o[k]? with
    | none => rw [hz] at hu; simp at hu
    | some z =>
      rw [hz] at hu
      simp at hu
      subst hu
      have hk : k < j := by have := (List.getElem?_eq_some_iff.1 hz).1; omega
      have := hc k hk
      rw [show cellD o k = z by simp [cellD, hz]] at this
      exact (hb.cell (p := ⟨go, k, none⟩) hg).trans this
  · simp at hu

def SortedPost (w : World) (zs : List Int) (e : Ending) (w' : World) : Prop :=
  ∃ g cap o, e = .returned (.slice (some ⟨g, 0, none⟩) zs.length cap) ∧ zs.length ≤ cap ∧ IntsAt w' (.slice (some ⟨g, 0, none⟩) zs.length cap) o ∧ o.length = zs.length ∧ SortedL o ∧ o.Perm zs ∧ Below w.heap.size w w'
set_option maxRecDepth 100000 in
set_option maxHeartbeats 8000000 in
theorem sorted_any (v : Value) (zs : List Int) (w : World) (hv : IntsAt w v zs) (hn : zs.length ≤ 1000) :
  Calls Tryz.prog 92 #[v] w (SortedPost w zs) := by
 obtain ⟨ao, cap, rfl, hcap, hcells⟩ := hv
 have HC := Lib.hid hcells
 clear hcells
 obtain ⟨n, hlen⟩ : ∃ n, n = zs.length := ⟨_, rfl⟩
 have HLEN := Lib.hid hlen
 unfold SortedPost
 rw [← hlen] at hcap hn HC
 simp only [← hlen]
 obtain ⟨i0, hi, hz0, hz1, hz2⟩ := info_parts Tryz.info64
 have hown0 := World.ownsRow_lit (base := w.heap.size) (e := 2) (size := 1) w #[] 0 (by exact Nat.le_refl _) (by unfold maxLen; omega) (by simp)
 have HO1 := Lib.hid hown0
 have HB1 : Hid (Below w.heap.size w (w.alloc (.cells #[] 2))) := Lib.hid ((Below.refl _ _).alloc (Nat.le_refl _) _)
 clear hlen hown0
 go_enter Tryz.func92, Tryz.ntmps92
 go_wp2_with fail
 go_loopw [3, 4] (fun y i wr => ∃ (j : Nat) (o : List Int), j ≤ n ∧ i = .int .i64 (j : Int) ∧ y ≠ .slice none 0 0 ∧ wr.ownsRow w.heap.size 2 1 y j (o.map (Value.int .i64)) ∧ o.length = j ∧ SortedL o ∧ o.Perm (zs.take j) ∧ Below w.heap.size w wr) (fun _ i _ => n - (intOf i).toNat)
 case atStart => exact ⟨0, [], by omega, rfl, by simp, HO1.out, rfl, fun i k _ hk => by simp at hk, by simp, HB1.out⟩
 case round =>
  obtain ⟨j, o, hj, rfl, hnil, hown, hol, hso, hpo, hbel⟩ := hrel
  clear HO1 HB1
  have HB := Lib.hid hbel
  have HO := Lib.hid hown
  have HOL := Lib.hid hol
  have HSO := Lib.hid hso
  have HPO := Lib.hid hpo
  have hown2 : wr.ownsRow w.heap.size 2 1 u3 o.length (o.map (Value.int .i64)) := by rw [hol]; exact hown
  obtain ⟨go, cpo, rfl, hgo, hcpo, curo, hco, hcoz⟩ := own_row hown2 hnil
  rw [hol] at hcpo HO ⊢
  have HOC := Lib.hid (show ∀ k, k < j → wr.cell? ⟨go, k, none⟩ = some (.int .i64 (cellD o k)) from fun k hk => (hco.cell k).trans (hcoz k _ (by have := HOL.out; simp [cellD, this, hk])))
  have HGO := Lib.hid hco.lt
  clear hown hown2 hnil hso hpo hbel hco hcoz hol
  by_cases hlt : j < n
  ·obtain ⟨gz, rfl, hgz, hcz⟩ := HC.out (by have := HLEN.out; omega)
   have hzj : zs[j]? = some (cellD zs j) := by
    have : j < zs.length := by have := HLEN.out; omega
    simp [cellD, this]
   have HZ := Lib.hid (hcz j _ hzj)
   have HZL := Lib.hid (cell_block (hcz j _ hzj))
   have HTK : Hid (zs.take (j + 1) = zs.take j ++ [cellD zs j]) := Lib.hid (by rw [List.take_add_one, hzj]; rfl)
   clear hcz hzj
   generalize cellD zs j = x at *
   have j0 : (0 : Int) ≤ (j : Int) := by omega
   have j1 : (j : Int) < (n : Int) := by omega
   generalize wr = wo at *
   go_wp2_with fail
   go_loopw [5] (fun p wr => ∃ a : Nat, a ≤ j ∧ p = .int .i64 (a : Int) ∧ (∀ k, a ≤ k → k < j → x < cellD o k) ∧ Below wo.heap.size wo wr) (fun p _ => (intOf p).toNat)
   case atStart => exact ⟨j, by omega, rfl, fun k h1 h2 => by omega, Below.refl _ _⟩
   case round =>
    obtain ⟨a, ha, rfl, hgt, hbel⟩ := hrel
    have HGT := Lib.hid hgt
    have HBI := Lib.hid hbel
    have HBID := Lib.hid (fun k => below_drewN hbel k)
    have cz := (hbel.cell (p := ⟨gz, j, none⟩) (Nat.lt_of_lt_of_le HZL.out HB.out.size)).trans ((HB.out.cell (p := ⟨gz, j, none⟩) HZL.out).trans HZ.out)
    clear hgt hbel
    by_cases hmore : 0 < a ∧ x < cellD o (a - 1)
    ·obtain ⟨ha0, hxa⟩ := hmore
     have co := (HBI.out.cell (p := ⟨go, a - 1, none⟩) HGO.out).trans (HOC.out (a - 1) (by omega))
     have e1 : wrap64 ((a : Int) - 1) = ((a - 1 : Nat) : Int) := by unfold wrap64; omega
     have e2 : decide ((0 : Int) < (a : Int)) = true := decide_eq_true (by omega)
     have e2' : decide (0 < a) = true := decide_eq_true (by omega)
     have e3 : (0 : Int) ≤ ((a - 1 : Nat) : Int) := by omega
     have e4 : ((a - 1 : Nat) : Int) < (j : Int) := by omega
     have HGT2 : Hid (∀ k, a - 1 ≤ k → k < j → x < cellD o k) := Lib.hid (fun k h1 h2 => by
      by_cases e : k = a - 1
      ·subst e; exact hxa
      ·exact HGT.out k (by omega) h2)
     generalize cellD o (a - 1) = y at *
     have e5 : decide (x < y) = true := decide_eq_true hxa
     clear hxa
     go_wp2_with fail
     go_quiet (fail)
     go_wp2
     go_roundw
     case rel => exact ⟨a - 1, by omega, by go_num, HGT2.out, HBID.out _⟩
     case measure => simp [intOf]; omega
    ·have HEND : Hid (a = 0 ∨ cellD o (a - 1) ≤ x) := Lib.hid (by
      by_cases h0 : a = 0
      ·exact .inl h0
      ·exact .inr (by rcases Int.lt_or_le x (cellD o (a - 1)) with h | h; exact absurd ⟨by omega, h⟩ hmore; exact h))
     have HINS := Lib.hid (insZ_sorted (x := x) HSO.out (by have := HOL.out; omega : a ≤ o.length) HEND.out (fun k h1 h2 => HGT.out k h1 (by have := HOL.out; omega)))
     have hcase : (decide ((0 : Int) < (a : Int)) = false ∧ decide (0 < a) = false) ∨ (decide ((0 : Int) < (a : Int)) = true ∧ decide (0 < a) = true ∧ 0 < a ∧ decide (x < cellD o (a - 1)) = false) := by
      by_cases h0 : a = 0
      ·exact .inl ⟨decide_eq_false (by omega), decide_eq_false (by omega)⟩
      ·refine .inr ⟨decide_eq_true (by omega), decide_eq_true (by omega), by omega, decide_eq_false (fun h => hmore ⟨by omega, h⟩)⟩
     clear hmore
     by_cases hca : cpo = a
     ·obtain rfl : a = j := by omega
      obtain rfl : a = cpo := hca.symm
      clear hca
      rcases hcase with ⟨e1, e2⟩ | ⟨e1, e2, ha0, e3⟩
      ·go_wp2_with fail
       go_quiet (fail)
       have HBW := Lib.hid (HBID.out nq)
       generalize wr.drewN nq = wi at *
       have HW := Lib.hid (btr HB.out HBW.out)
       have HGI : Hid (go < wi.heap.size) := Lib.hid (Nat.lt_of_lt_of_le HGO.out HBW.out.size)
       have HOCI := Lib.hid (show ∀ k, k < a → wi.cell? ⟨go, k, none⟩ = some (.int .i64 (cellD o k)) from fun k hk => (HBW.out.cell (p := ⟨go, k, none⟩) HGO.out).trans (HOC.out k hk))
       have HZI := Lib.hid ((HW.out.cell (p := ⟨gz, a, none⟩) HZL.out).trans HZ.out)
       have hown0 := World.ownsRow_lit (base := wi.heap.size) (e := 2) (size := 1) wi #[] 0 (by exact Nat.le_refl _) (by unfold maxLen; omega) (by simp)
       have HL0 := Lib.hid hown0
       have hai : Below wi.heap.size wi (wi.alloc (.cells #[] 2)) := (Below.refl _ _).alloc (Nat.le_refl _) _
       have HR1 : Hid (((o.drop a).map (Value.int .i64)).length = 0) := Lib.hid (by have := HOL.out; simp; omega)
       have HR2 : Hid (0 < 0 → ∃ ad, (some ⟨go, 0, none⟩ : Option Addr) = some ad ∧ ∀ j' u, ((o.drop a).map (Value.int .i64))[j']? = some u → (wi.alloc (.cells #[] 2)).cell? (ad.add j') = some u) := Lib.hid (fun h => absurd h (Nat.lt_irrefl _))
       have HR3 : Hid (∀ u ∈ (o.drop a).map (Value.int .i64), u.oneCell' = true) := Lib.hid (fun u hu => by obtain ⟨z, -, rfl⟩ := List.mem_map.1 hu; rfl)
       have HT1 : Hid (((o.take a).map (Value.int .i64)).length = a) := Lib.hid (by have := HOL.out; simp; omega)
       have HT3 : Hid (∀ u ∈ (o.take a).map (Value.int .i64), u.oneCell' = true) := Lib.hid (fun u hu => by obtain ⟨z, -, rfl⟩ := List.mem_map.1 hu; rfl)
       clear hown0 hai
       go_wp2_with (at_builtin; refine wpList_append_lit1 rfl _ _ 54 rfl wi.heap.size 2 i0 (.int .i64 0) 8 Tryz.underlying54 hi hz0 hz1 hz2 rfl wi.heap.size 0 rfl HL0.out (some ⟨go, 0, none⟩) 0 0 ((o.drop a).map (Value.int .i64)) rfl HR1.out HR2.out HR3.out (by unfold maxLen; omega) (by omega) (by simp) ?_)
       intro v5 w5 o5 g5 n5 q5
       have HB5 : Hid (Below wi.heap.size wi w5) := Lib.hid (((Below.refl _ _).alloc (Nat.le_refl _) _).grown g5 (by simp) (fun k e => by have := Option.some.inj e; omega))
       have o5b : w5.ownsRow wi.heap.size 2 1 v5 (o.drop a).length ((o.drop a).map (Value.int .i64)) := by
        have := HR1.out
        rw [List.length_map] at this
        rw [this]; first | exact o5 | (rw [List.map_drop]; exact o5)
       obtain ⟨gr, cpr, rfl, hgr, hcpr, curr, hcr, hcrz⟩ := own_row o5b n5
       have hdl : (o.drop a).length = 0 := by have := HR1.out; rwa [List.length_map] at this
       rw [hdl] at hcpr ⊢
       have HRN := Lib.hid (show ∀ w', Below w5.heap.size w5 w' → ∀ j' u, ((o.drop a).map (Value.int .i64))[j']? = some u → w'.cell? ((⟨gr, 0, none⟩ : Addr).add j') = some u from fun w' hb j' u hu => by
        rw [addr_add, Nat.zero_add]
        rw [List.getElem?_map] at hu
        cases hz : (o.drop a)[j']? with
        | none => rw [hz] at hu; simp at hu
        | some z =>
         rw [hz] at hu
         simp at hu
         subst hu
         exact (hb.cell (p := ⟨gr, j', none⟩) hcr.lt).trans ((hcr.cell j').trans (hcrz j' z hz)))
       have HZ5 := Lib.hid ((HB5.out.cell (p := ⟨gz, a, none⟩) (Nat.lt_of_lt_of_le HZL.out HW.out.size)).trans HZI.out)
       have HZ5L : Hid (gz < w5.heap.size) := Lib.hid (Nat.lt_of_lt_of_le HZL.out (Nat.le_trans HW.out.size HB5.out.size))
       have HW5 := Lib.hid (btr HW.out HB5.out)
       have HT2 := Lib.hid (show ∀ w', Below w5.heap.size w5 w' → (0 < a → ∃ ad, (some ⟨go, 0, none⟩ : Option Addr) = some ad ∧ ∀ j' u, ((o.take a).map (Value.int .i64))[j']? = some u → w'.cell? (ad.add j') = some u) from fun w' hb _ => ⟨_, rfl, fun j' u hu => by
        rw [addr_add, Nat.zero_add]
        exact take_news HOCI.out HOL.out HGI.out (btr HB5.out hb) hu⟩)
       have hR1' : ((o.drop a).map (Value.int .i64)).length = 0 * 1 := by rw [HR1.out]; first | done | omega
       have HR1' := Lib.hid hR1'
       have a0 : (0 : Int) ≤ (a : Int) := by omega
       have a1 : (a : Int) ≤ (a : Int) := by omega
       have m1 : a + 1 ≤ maxLen := by unfold maxLen; omega
       have m2 : a + 1 + 0 ≤ maxLen := by unfold maxLen; omega
       have m3 : a ≤ maxLen := by unfold maxLen; omega
       have HA2 : Hid (((w5.alloc (.cells #[] 2)).alloc (.cells #[.int .i64 x] 2)).drew.cell? ⟨w5.heap.size + 1, 0, none⟩ = some (.int .i64 x)) := Lib.hid (by simp)
       have HLB : Hid (World.ownsRow ((w5.alloc (.cells #[.int .i64 x] 2)).alloc (.cells #[] 2)).drew w5.heap.size 2 1 (.slice (some ⟨w5.heap.size + 1, 0, none⟩) 0 0) 0 []) := Lib.hid (by
        have := World.ownsRow_lit (base := w5.heap.size) (e := 2) (size := 1) (w5.alloc (.cells #[.int .i64 x] 2)) #[] 0 (by simp) (by unfold maxLen; omega) (by simp)
        rw [show (w5.alloc (.cells #[.int .i64 x] 2)).heap.size = w5.heap.size + 1 by simp] at this
        exact this)
       have HBB : Hid (((w5.alloc (.cells #[.int .i64 x] 2)).alloc (.cells #[] 2)).drew.cell? ⟨w5.heap.size, 0, none⟩ = some (.int .i64 x)) := Lib.hid (by simp)
       clear o5 g5 n5 q5 o5b hcr hcrz hdl hgr hR1' HL0 HR2 HOCI HZI
       go_wp2_with fail
       refine wp_region_held_drew (S := fun w' => Below w5.heap.size w5 w') (by kernel_rfl) (by exact below_drewN (Below.refl _ _) 1) (fun hHeld => ?_)
       refine tkH (i := 1) (v := ?_) rfl (by kernel_rfl) (fun _ _ _ h => h) (Or.inl ⟨by rfl, ?_⟩) (by assumption) ?_
       rotate_left
       ·intro w hSw
        try dsimp only at hSw
        go_simp
        try with_reducible rfl
       simp only [Act.put, z1, z2, z3, z4, z5, z6]
       refine tkH (i := 2) (v := ?_) rfl (by kernel_rfl) (fun _ _ _ h => h) (Or.inl ⟨by rfl, ?_⟩) (by assumption) ?_
       rotate_left
       ·intro w hSw
        try dsimp only at hSw
        go_simp
        try with_reducible rfl
       simp only [Act.put, z1, z2, z3, z4, z5, z6]
       refine tkH (i := 3) (v := ?_) rfl (by kernel_rfl) (fun _ _ _ h => h) (Or.inl ⟨by rfl, ?_⟩) (by assumption) ?_
       rotate_left
       ·intro w hSw
        try dsimp only at hSw
        go_simp
        try with_reducible rfl
       simp only [Act.put, z1, z2, z3, z4, z5, z6]
       refine tkH (i := 5) (v := ?_) rfl (by kernel_rfl) (fun _ _ _ h => h) (Or.inl ⟨by rfl, ?_⟩) (by assumption) ?_
       rotate_left
       ·intro w hSw
        try dsimp only at hSw
        go_simp
        try with_reducible rfl
       simp only [Act.put, z1, z2, z3, z4, z5, z6]
       refine tkH (i := 6) (v := ?_) rfl (by kernel_rfl) (fun _ _ _ h => h) (Or.inl ⟨by rfl, ?_⟩) (by assumption) ?_
       rotate_left
       ·intro w hSw
        try dsimp only at hSw
        go_simp
        try with_reducible rfl
       simp only [Act.put, z1, z2, z3, z4, z5, z6]
       refine tkH (i := 7) (v := ?_) rfl (by kernel_rfl) (fun _ _ _ h => h) (Or.inl ⟨by rfl, ?_⟩) (by assumption) ?_
       rotate_left
       ·intro w hSw
        try dsimp only at hSw
        go_simp
        try with_reducible rfl
       simp only [Act.put, z1, z2, z3, z4, z5, z6]
       refine tkH (i := 8) (v := ?_) rfl (by kernel_rfl) (fun _ _ _ h => h) (Or.inl ⟨by rfl, ?_⟩) (by assumption) ?_
       rotate_left
       ·intro w hSw
        have q := (hSw.cell (p := ⟨gz, a, none⟩) HZ5L.out).trans HZ5.out
        go_simp
        try with_reducible rfl
       simp only [Act.put, z1, z2, z3, z4, z5, z6]
       refine tkH (i := 11) (v := ?_) rfl (by kernel_rfl) (fun _ _ _ h => h) (Or.inl ⟨by rfl, ?_⟩) (by assumption) ?_
       rotate_left
       ·intro w hSw
        try dsimp only at hSw
        go_simp
        try with_reducible rfl
       simp only [Act.put, z1, z2, z3, z4, z5, z6]
       refine wpAnyH_ready (rs := [0, 9]) (by kernel_rfl) (by simp) ?_
       refine AllReadyH.cons rfl (fun Kc hKc => ?_) (AllReadyH.cons rfl (fun Kc hKc => ?_) AllReadyH.nil)
       ·go_simp
        refine hKc.out _ _ ?_ (fun hHeld => ?_)
        ·first | exact hHeld.alloc hHeld.size _ | exact hHeld.grown g49 hHeld.size (fun k e => (o47.lt k e).1) | exact hHeld.grown g47 hHeld.size (fun k e => (o41.lt k e).1) | exact hHeld.grown g41 hHeld.size (fun k e => by have := Option.some.inj e; subst this; simp) | exact hHeld.grown g41 hHeld.size (fun k e => by have := Option.some.inj e; subst this; exact Nat.le_refl _)
        clear hKc Kc
        refine wpAnyH_ready (rs := [4, 9]) (by kernel_rfl) (by simp) ?_
        refine AllReadyH.cons rfl (fun Kc hKc => ?_) (AllReadyH.cons rfl (fun Kc hKc => ?_) AllReadyH.nil)
        ·first | (refine wp_append_lit _ _ 54 rfl w5.heap.size 2 i0 (.int .i64 0) 8 Tryz.underlying54 hi hz0 hz1 hz2 rfl _ 0 rfl (by first | exact World.ownsRow_lit (base := w5.heap.size) (e := 2) (size := 1) _ #[] 0 (by first | exact Nat.le_refl _ | simp) (by unfold maxLen; omega) (by simp) | exact (World.ownsRow_lit (base := w5.heap.size) (e := 2) (size := 1) _ #[] 0 (by first | exact Nat.le_refl _ | simp) (by unfold maxLen; omega) (by simp)).alloc _ | exact HLB.out) (some ⟨go, 0, none⟩) a a ((o.take a).map (Value.int .i64)) rfl HT1.out (HT2.out _ hHeld) HT3.out m3 (by omega) hHeld.size ?_; intro v41 w41 o41 g41 n41 q41) | (refine wp_append_own_at _ _ 54 rfl w5.heap.size 2 i0 (.int .i64 0) 1 8 Tryz.underlying54 hi hz0 hz1 hz2 rfl (by decide) _ a ((o.take a).map (Value.int .i64)) rfl (by first | exact o41 | exact o41.alloc _) _ 1 1 [.int .i64 x] rfl rfl (by first | exact cell_one_new _ _ _ | exact one_cells (g41.cell HA2.out (by simp)) | exact one_cells (g41.cell HBB.out (by simp))) (by simp [Value.oneCell']) m1 (by omega) hHeld.size ?_; intro v47 w47 o47 g47 n47 q47) | (refine wp_append_own_at _ _ 54 rfl w5.heap.size 2 i0 (.int .i64 0) 1 8 Tryz.underlying54 hi hz0 hz1 hz2 rfl (by decide) _ (a + 1) ((o.take a).map (Value.int .i64) ++ [.int .i64 x]) rfl (by exact o47) ⟨gr, 0, none⟩ 0 cpr ((o.drop a).map (Value.int .i64)) rfl HR1'.out (HRN.out _ hHeld) HR3.out m2 (by omega) hHeld.size ?_; intro v49 w49 o49 g49 n49 q49)
         refine hKc.out _ _ ?_ (fun hHeld => ?_)
         ·first | exact hHeld.alloc hHeld.size _ | exact hHeld.grown g49 hHeld.size (fun k e => (o47.lt k e).1) | exact hHeld.grown g47 hHeld.size (fun k e => (o41.lt k e).1) | exact hHeld.grown g41 hHeld.size (fun k e => by have := Option.some.inj e; subst this; simp) | exact hHeld.grown g41 hHeld.size (fun k e => by have := Option.some.inj e; subst this; exact Nat.le_refl _)
         clear hKc Kc
         refine wpAnyH_ready (rs := [9]) (by kernel_rfl) (by simp) ?_
         refine AllReadyH.cons rfl (fun Kc hKc => ?_) AllReadyH.nil
         go_simp
         refine hKc.out _ _ ?_ (fun hHeld => ?_)
         ·first | exact hHeld.alloc hHeld.size _ | exact hHeld.grown g49 hHeld.size (fun k e => (o47.lt k e).1) | exact hHeld.grown g47 hHeld.size (fun k e => (o41.lt k e).1) | exact hHeld.grown g41 hHeld.size (fun k e => by have := Option.some.inj e; subst this; simp) | exact hHeld.grown g41 hHeld.size (fun k e => by have := Option.some.inj e; subst this; exact Nat.le_refl _)
         clear hKc Kc
         refine wpAnyH_ready (rs := [10]) (by kernel_rfl) (by simp) ?_
         refine AllReadyH.cons rfl (fun Kc hKc => ?_) AllReadyH.nil
         first | (refine wp_append_lit _ _ 54 rfl w5.heap.size 2 i0 (.int .i64 0) 8 Tryz.underlying54 hi hz0 hz1 hz2 rfl _ 0 rfl (by first | exact World.ownsRow_lit (base := w5.heap.size) (e := 2) (size := 1) _ #[] 0 (by first | exact Nat.le_refl _ | simp) (by unfold maxLen; omega) (by simp) | exact (World.ownsRow_lit (base := w5.heap.size) (e := 2) (size := 1) _ #[] 0 (by first | exact Nat.le_refl _ | simp) (by unfold maxLen; omega) (by simp)).alloc _ | exact HLB.out) (some ⟨go, 0, none⟩) a a ((o.take a).map (Value.int .i64)) rfl HT1.out (HT2.out _ hHeld) HT3.out m3 (by omega) hHeld.size ?_; intro v41 w41 o41 g41 n41 q41) | (refine wp_append_own_at _ _ 54 rfl w5.heap.size 2 i0 (.int .i64 0) 1 8 Tryz.underlying54 hi hz0 hz1 hz2 rfl (by decide) _ a ((o.take a).map (Value.int .i64)) rfl (by first | exact o41 | exact o41.alloc _) _ 1 1 [.int .i64 x] rfl rfl (by first | exact cell_one_new _ _ _ | exact one_cells (g41.cell HA2.out (by simp)) | exact one_cells (g41.cell HBB.out (by simp))) (by simp [Value.oneCell']) m1 (by omega) hHeld.size ?_; intro v47 w47 o47 g47 n47 q47) | (refine wp_append_own_at _ _ 54 rfl w5.heap.size 2 i0 (.int .i64 0) 1 8 Tryz.underlying54 hi hz0 hz1 hz2 rfl (by decide) _ (a + 1) ((o.take a).map (Value.int .i64) ++ [.int .i64 x]) rfl (by exact o47) ⟨gr, 0, none⟩ 0 cpr ((o.drop a).map (Value.int .i64)) rfl HR1'.out (HRN.out _ hHeld) HR3.out m2 (by omega) hHeld.size ?_; intro v49 w49 o49 g49 n49 q49)
         refine hKc.out _ _ ?_ (fun hHeld => ?_)
         ·first | exact hHeld.alloc hHeld.size _ | exact hHeld.grown g49 hHeld.size (fun k e => (o47.lt k e).1) | exact hHeld.grown g47 hHeld.size (fun k e => (o41.lt k e).1) | exact hHeld.grown g41 hHeld.size (fun k e => by have := Option.some.inj e; subst this; simp) | exact hHeld.grown g41 hHeld.size (fun k e => by have := Option.some.inj e; subst this; exact Nat.le_refl _)
         clear hKc Kc
         refine wpAnyH_ready (rs := [12]) (by kernel_rfl) (by simp) ?_
         refine AllReadyH.cons rfl (fun Kc hKc => ?_) AllReadyH.nil
         first | (refine wp_append_lit _ _ 54 rfl w5.heap.size 2 i0 (.int .i64 0) 8 Tryz.underlying54 hi hz0 hz1 hz2 rfl _ 0 rfl (by first | exact World.ownsRow_lit (base := w5.heap.size) (e := 2) (size := 1) _ #[] 0 (by first | exact Nat.le_refl _ | simp) (by unfold maxLen; omega) (by simp) | exact (World.ownsRow_lit (base := w5.heap.size) (e := 2) (size := 1) _ #[] 0 (by first | exact Nat.le_refl _ | simp) (by unfold maxLen; omega) (by simp)).alloc _ | exact HLB.out) (some ⟨go, 0, none⟩) a a ((o.take a).map (Value.int .i64)) rfl HT1.out (HT2.out _ hHeld) HT3.out m3 (by omega) hHeld.size ?_; intro v41 w41 o41 g41 n41 q41) | (refine wp_append_own_at _ _ 54 rfl w5.heap.size 2 i0 (.int .i64 0) 1 8 Tryz.underlying54 hi hz0 hz1 hz2 rfl (by decide) _ a ((o.take a).map (Value.int .i64)) rfl (by first | exact o41 | exact o41.alloc _) _ 1 1 [.int .i64 x] rfl rfl (by first | exact cell_one_new _ _ _ | exact one_cells (g41.cell HA2.out (by simp)) | exact one_cells (g41.cell HBB.out (by simp))) (by simp [Value.oneCell']) m1 (by omega) hHeld.size ?_; intro v47 w47 o47 g47 n47 q47) | (refine wp_append_own_at _ _ 54 rfl w5.heap.size 2 i0 (.int .i64 0) 1 8 Tryz.underlying54 hi hz0 hz1 hz2 rfl (by decide) _ (a + 1) ((o.take a).map (Value.int .i64) ++ [.int .i64 x]) rfl (by exact o47) ⟨gr, 0, none⟩ 0 cpr ((o.drop a).map (Value.int .i64)) rfl HR1'.out (HRN.out _ hHeld) HR3.out m2 (by omega) hHeld.size ?_; intro v49 w49 o49 g49 n49 q49)
         refine hKc.out _ _ ?_ (fun hHeld => ?_)
         ·first | exact hHeld.alloc hHeld.size _ | exact hHeld.grown g49 hHeld.size (fun k e => (o47.lt k e).1) | exact hHeld.grown g47 hHeld.size (fun k e => (o41.lt k e).1) | exact hHeld.grown g41 hHeld.size (fun k e => by have := Option.some.inj e; subst this; simp) | exact hHeld.grown g41 hHeld.size (fun k e => by have := Option.some.inj e; subst this; exact Nat.le_refl _)
         clear hKc Kc
         refine tkH (i := 13) (v := ?_) rfl (by kernel_rfl) (fun _ _ _ h => h) (Or.inl ⟨by rfl, ?_⟩) (by assumption) ?_
         rotate_left
         ·intro w hSw
          try dsimp only at hSw
          go_simp
          try with_reducible rfl
         simp only [Act.put, z1, z2, z3, z4, z5, z6]
         refine wpAnyH_done (by kernel_rfl) ?_ _
         have HNIL' : Hid (v49 ≠ .slice none 0 0) := Lib.hid (fun h => by have := (n47.1 (n49.1 h).1).2; omega)
         have HO' : Hid (w49.ownsRow w.heap.size 2 1 v49 (a + 1) ((insZ o a x).map (Value.int .i64))) := Lib.hid (ins_own o49 HW5.out.size ha (by omega))
         have HB' := Lib.hid (btr HW5.out hHeld)
         have HLN : Hid ((insZ o a x).length = a + 1) := Lib.hid (by rw [insZ_len, HOL.out])
         have HPN : Hid ((insZ o a x).Perm (zs.take (a + 1))) := Lib.hid ((insZ_perm o a x).trans (by rw [HTK.out]; exact HPO.out.append_right [x]))
         clear hHeld n47 n49 o47 o49 g47 g49
         go_wp2
         go_roundw
         case rel => exact ⟨a + 1, insZ o a x, by omega, by go_num, HNIL'.out, HO'.out, HLN.out, HINS.out, HPN.out, HB'.out⟩
         case measure => simp [intOf]; omega
        ·go_simp
         refine hKc.out _ _ ?_ (fun hHeld => ?_)
         ·first | exact hHeld.alloc hHeld.size _ | exact hHeld.grown g49 hHeld.size (fun k e => (o47.lt k e).1) | exact hHeld.grown g47 hHeld.size (fun k e => (o41.lt k e).1) | exact hHeld.grown g41 hHeld.size (fun k e => by have := Option.some.inj e; subst this; simp) | exact hHeld.grown g41 hHeld.size (fun k e => by have := Option.some.inj e; subst this; exact Nat.le_refl _)
         clear hKc Kc
         refine wpAnyH_ready (rs := [4]) (by kernel_rfl) (by simp) ?_
         refine AllReadyH.cons rfl (fun Kc hKc => ?_) AllReadyH.nil
         first | (refine wp_append_lit _ _ 54 rfl w5.heap.size 2 i0 (.int .i64 0) 8 Tryz.underlying54 hi hz0 hz1 hz2 rfl _ 0 rfl (by first | exact World.ownsRow_lit (base := w5.heap.size) (e := 2) (size := 1) _ #[] 0 (by first | exact Nat.le_refl _ | simp) (by unfold maxLen; omega) (by simp) | exact (World.ownsRow_lit (base := w5.heap.size) (e := 2) (size := 1) _ #[] 0 (by first | exact Nat.le_refl _ | simp) (by unfold maxLen; omega) (by simp)).alloc _ | exact HLB.out) (some ⟨go, 0, none⟩) a a ((o.take a).map (Value.int .i64)) rfl HT1.out (HT2.out _ hHeld) HT3.out m3 (by omega) hHeld.size ?_; intro v41 w41 o41 g41 n41 q41) | (refine wp_append_own_at _ _ 54 rfl w5.heap.size 2 i0 (.int .i64 0) 1 8 Tryz.underlying54 hi hz0 hz1 hz2 rfl (by decide) _ a ((o.take a).map (Value.int .i64)) rfl (by first | exact o41 | exact o41.alloc _) _ 1 1 [.int .i64 x] rfl rfl (by first | exact cell_one_new _ _ _ | exact one_cells (g41.cell HA2.out (by simp)) | exact one_cells (g41.cell HBB.out (by simp))) (by simp [Value.oneCell']) m1 (by omega) hHeld.size ?_; intro v47 w47 o47 g47 n47 q47) | (refine wp_append_own_at _ _ 54 rfl w5.heap.size 2 i0 (.int .i64 0) 1 8 Tryz.underlying54 hi hz0 hz1 hz2 rfl (by decide) _ (a + 1) ((o.take a).map (Value.int .i64) ++ [.int .i64 x]) rfl (by exact o47) ⟨gr, 0, none⟩ 0 cpr ((o.drop a).map (Value.int .i64)) rfl HR1'.out (HRN.out _ hHeld) HR3.out m2 (by omega) hHeld.size ?_; intro v49 w49 o49 g49 n49 q49)
         refine hKc.out _ _ ?_ (fun hHeld => ?_)
         ·first | exact hHeld.alloc hHeld.size _ | exact hHeld.grown g49 hHeld.size (fun k e => (o47.lt k e).1) | exact hHeld.grown g47 hHeld.size (fun k e => (o41.lt k e).1) | exact hHeld.grown g41 hHeld.size (fun k e => by have := Option.some.inj e; subst this; simp) | exact hHeld.grown g41 hHeld.size (fun k e => by have := Option.some.inj e; subst this; exact Nat.le_refl _)
         clear hKc Kc
         refine wpAnyH_ready (rs := [10]) (by kernel_rfl) (by simp) ?_
         refine AllReadyH.cons rfl (fun Kc hKc => ?_) AllReadyH.nil
         first | (refine wp_append_lit _ _ 54 rfl w5.heap.size 2 i0 (.int .i64 0) 8 Tryz.underlying54 hi hz0 hz1 hz2 rfl _ 0 rfl (by first | exact World.ownsRow_lit (base := w5.heap.size) (e := 2) (size := 1) _ #[] 0 (by first | exact Nat.le_refl _ | simp) (by unfold maxLen; omega) (by simp) | exact (World.ownsRow_lit (base := w5.heap.size) (e := 2) (size := 1) _ #[] 0 (by first | exact Nat.le_refl _ | simp) (by unfold maxLen; omega) (by simp)).alloc _ | exact HLB.out) (some ⟨go, 0, none⟩) a a ((o.take a).map (Value.int .i64)) rfl HT1.out (HT2.out _ hHeld) HT3.out m3 (by omega) hHeld.size ?_; intro v41 w41 o41 g41 n41 q41) | (refine wp_append_own_at _ _ 54 rfl w5.heap.size 2 i0 (.int .i64 0) 1 8 Tryz.underlying54 hi hz0 hz1 hz2 rfl (by decide) _ a ((o.take a).map (Value.int .i64)) rfl (by first | exact o41 | exact o41.alloc _) _ 1 1 [.int .i64 x] rfl rfl (by first | exact cell_one_new _ _ _ | exact one_cells (g41.cell HA2.out (by simp)) | exact one_cells (g41.cell HBB.out (by simp))) (by simp [Value.oneCell']) m1 (by omega) hHeld.size ?_; intro v47 w47 o47 g47 n47 q47) | (refine wp_append_own_at _ _ 54 rfl w5.heap.size 2 i0 (.int .i64 0) 1 8 Tryz.underlying54 hi hz0 hz1 hz2 rfl (by decide) _ (a + 1) ((o.take a).map (Value.int .i64) ++ [.int .i64 x]) rfl (by exact o47) ⟨gr, 0, none⟩ 0 cpr ((o.drop a).map (Value.int .i64)) rfl HR1'.out (HRN.out _ hHeld) HR3.out m2 (by omega) hHeld.size ?_; intro v49 w49 o49 g49 n49 q49)
         refine hKc.out _ _ ?_ (fun hHeld => ?_)
         ·first | exact hHeld.alloc hHeld.size _ | exact hHeld.grown g49 hHeld.size (fun k e => (o47.lt k e).1) | exact hHeld.grown g47 hHeld.size (fun k e => (o41.lt k e).1) | exact hHeld.grown g41 hHeld.size (fun k e => by have := Option.some.inj e; subst this; simp) | exact hHeld.grown g41 hHeld.size (fun k e => by have := Option.some.inj e; subst this; exact Nat.le_refl _)
         clear hKc Kc
         refine wpAnyH_ready (rs := [12]) (by kernel_rfl) (by simp) ?_
         refine AllReadyH.cons rfl (fun Kc hKc => ?_) AllReadyH.nil
         first | (refine wp_append_lit _ _ 54 rfl w5.heap.size 2 i0 (.int .i64 0) 8 Tryz.underlying54 hi hz0 hz1 hz2 rfl _ 0 rfl (by first | exact World.ownsRow_lit (base := w5.heap.size) (e := 2) (size := 1) _ #[] 0 (by first | exact Nat.le_refl _ | simp) (by unfold maxLen; omega) (by simp) | exact (World.ownsRow_lit (base := w5.heap.size) (e := 2) (size := 1) _ #[] 0 (by first | exact Nat.le_refl _ | simp) (by unfold maxLen; omega) (by simp)).alloc _ | exact HLB.out) (some ⟨go, 0, none⟩) a a ((o.take a).map (Value.int .i64)) rfl HT1.out (HT2.out _ hHeld) HT3.out m3 (by omega) hHeld.size ?_; intro v41 w41 o41 g41 n41 q41) | (refine wp_append_own_at _ _ 54 rfl w5.heap.size 2 i0 (.int .i64 0) 1 8 Tryz.underlying54 hi hz0 hz1 hz2 rfl (by decide) _ a ((o.take a).map (Value.int .i64)) rfl (by first | exact o41 | exact o41.alloc _) _ 1 1 [.int .i64 x] rfl rfl (by first | exact cell_one_new _ _ _ | exact one_cells (g41.cell HA2.out (by simp)) | exact one_cells (g41.cell HBB.out (by simp))) (by simp [Value.oneCell']) m1 (by omega) hHeld.size ?_; intro v47 w47 o47 g47 n47 q47) | (refine wp_append_own_at _ _ 54 rfl w5.heap.size 2 i0 (.int .i64 0) 1 8 Tryz.underlying54 hi hz0 hz1 hz2 rfl (by decide) _ (a + 1) ((o.take a).map (Value.int .i64) ++ [.int .i64 x]) rfl (by exact o47) ⟨gr, 0, none⟩ 0 cpr ((o.drop a).map (Value.int .i64)) rfl HR1'.out (HRN.out _ hHeld) HR3.out m2 (by omega) hHeld.size ?_; intro v49 w49 o49 g49 n49 q49)
         refine hKc.out _ _ ?_ (fun hHeld => ?_)
         ·first | exact hHeld.alloc hHeld.size _ | exact hHeld.grown g49 hHeld.size (fun k e => (o47.lt k e).1) | exact hHeld.grown g47 hHeld.size (fun k e => (o41.lt k e).1) | exact hHeld.grown g41 hHeld.size (fun k e => by have := Option.some.inj e; subst this; simp) | exact hHeld.grown g41 hHeld.size (fun k e => by have := Option.some.inj e; subst this; exact Nat.le_refl _)
         clear hKc Kc
         refine tkH (i := 13) (v := ?_) rfl (by kernel_rfl) (fun _ _ _ h => h) (Or.inl ⟨by rfl, ?_⟩) (by assumption) ?_
         rotate_left
         ·intro w hSw
          try dsimp only at hSw
          go_simp
          try with_reducible rfl
         simp only [Act.put, z1, z2, z3, z4, z5, z6]
         refine wpAnyH_done (by kernel_rfl) ?_ _
         have HNIL' : Hid (v49 ≠ .slice none 0 0) := Lib.hid (fun h => by have := (n47.1 (n49.1 h).1).2; omega)
         have HO' : Hid (w49.ownsRow w.heap.size 2 1 v49 (a + 1) ((insZ o a x).map (Value.int .i64))) := Lib.hid (ins_own o49 HW5.out.size ha (by omega))
         have HB' := Lib.hid (btr HW5.out hHeld)
         have HLN : Hid ((insZ o a x).length = a + 1) := Lib.hid (by rw [insZ_len, HOL.out])
         have HPN : Hid ((insZ o a x).Perm (zs.take (a + 1))) := Lib.hid ((insZ_perm o a x).trans (by rw [HTK.out]; exact HPO.out.append_right [x]))
         clear hHeld n47 n49 o47 o49 g47 g49
         go_wp2
         go_roundw
         case rel => exact ⟨a + 1, insZ o a x, by omega, by go_num, HNIL'.out, HO'.out, HLN.out, HINS.out, HPN.out, HB'.out⟩
         case measure => simp [intOf]; omega
       ·go_simp
        refine hKc.out _ _ ?_ (fun hHeld => ?_)
        ·first | exact hHeld.alloc hHeld.size _ | exact hHeld.grown g49 hHeld.size (fun k e => (o47.lt k e).1) | exact hHeld.grown g47 hHeld.size (fun k e => (o41.lt k e).1) | exact hHeld.grown g41 hHeld.size (fun k e => by have := Option.some.inj e; subst this; simp) | exact hHeld.grown g41 hHeld.size (fun k e => by have := Option.some.inj e; subst this; exact Nat.le_refl _)
        clear hKc Kc
        refine wpAnyH_ready (rs := [0]) (by kernel_rfl) (by simp) ?_
        refine AllReadyH.cons rfl (fun Kc hKc => ?_) AllReadyH.nil
        go_simp
        refine hKc.out _ _ ?_ (fun hHeld => ?_)
        ·first | exact hHeld.alloc hHeld.size _ | exact hHeld.grown g49 hHeld.size (fun k e => (o47.lt k e).1) | exact hHeld.grown g47 hHeld.size (fun k e => (o41.lt k e).1) | exact hHeld.grown g41 hHeld.size (fun k e => by have := Option.some.inj e; subst this; simp) | exact hHeld.grown g41 hHeld.size (fun k e => by have := Option.some.inj e; subst this; exact Nat.le_refl _)
        clear hKc Kc
        refine wpAnyH_ready (rs := [4]) (by kernel_rfl) (by simp) ?_
        refine AllReadyH.cons rfl (fun Kc hKc => ?_) AllReadyH.nil
        first | (refine wp_append_lit _ _ 54 rfl w5.heap.size 2 i0 (.int .i64 0) 8 Tryz.underlying54 hi hz0 hz1 hz2 rfl _ 0 rfl (by first | exact World.ownsRow_lit (base := w5.heap.size) (e := 2) (size := 1) _ #[] 0 (by first | exact Nat.le_refl _ | simp) (by unfold maxLen; omega) (by simp) | exact (World.ownsRow_lit (base := w5.heap.size) (e := 2) (size := 1) _ #[] 0 (by first | exact Nat.le_refl _ | simp) (by unfold maxLen; omega) (by simp)).alloc _ | exact HLB.out) (some ⟨go, 0, none⟩) a a ((o.take a).map (Value.int .i64)) rfl HT1.out (HT2.out _ hHeld) HT3.out m3 (by omega) hHeld.size ?_; intro v41 w41 o41 g41 n41 q41) | (refine wp_append_own_at _ _ 54 rfl w5.heap.size 2 i0 (.int .i64 0) 1 8 Tryz.underlying54 hi hz0 hz1 hz2 rfl (by decide) _ a ((o.take a).map (Value.int .i64)) rfl (by first | exact o41 | exact o41.alloc _) _ 1 1 [.int .i64 x] rfl rfl (by first | exact cell_one_new _ _ _ | exact one_cells (g41.cell HA2.out (by simp)) | exact one_cells (g41.cell HBB.out (by simp))) (by simp [Value.oneCell']) m1 (by omega) hHeld.size ?_; intro v47 w47 o47 g47 n47 q47) | (refine wp_append_own_at _ _ 54 rfl w5.heap.size 2 i0 (.int .i64 0) 1 8 Tryz.underlying54 hi hz0 hz1 hz2 rfl (by decide) _ (a + 1) ((o.take a).map (Value.int .i64) ++ [.int .i64 x]) rfl (by exact o47) ⟨gr, 0, none⟩ 0 cpr ((o.drop a).map (Value.int .i64)) rfl HR1'.out (HRN.out _ hHeld) HR3.out m2 (by omega) hHeld.size ?_; intro v49 w49 o49 g49 n49 q49)
        refine hKc.out _ _ ?_ (fun hHeld => ?_)
        ·first | exact hHeld.alloc hHeld.size _ | exact hHeld.grown g49 hHeld.size (fun k e => (o47.lt k e).1) | exact hHeld.grown g47 hHeld.size (fun k e => (o41.lt k e).1) | exact hHeld.grown g41 hHeld.size (fun k e => by have := Option.some.inj e; subst this; simp) | exact hHeld.grown g41 hHeld.size (fun k e => by have := Option.some.inj e; subst this; exact Nat.le_refl _)
        clear hKc Kc
        refine wpAnyH_ready (rs := [10]) (by kernel_rfl) (by simp) ?_
        refine AllReadyH.cons rfl (fun Kc hKc => ?_) AllReadyH.nil
        first | (refine wp_append_lit _ _ 54 rfl w5.heap.size 2 i0 (.int .i64 0) 8 Tryz.underlying54 hi hz0 hz1 hz2 rfl _ 0 rfl (by first | exact World.ownsRow_lit (base := w5.heap.size) (e := 2) (size := 1) _ #[] 0 (by first | exact Nat.le_refl _ | simp) (by unfold maxLen; omega) (by simp) | exact (World.ownsRow_lit (base := w5.heap.size) (e := 2) (size := 1) _ #[] 0 (by first | exact Nat.le_refl _ | simp) (by unfold maxLen; omega) (by simp)).alloc _ | exact HLB.out) (some ⟨go, 0, none⟩) a a ((o.take a).map (Value.int .i64)) rfl HT1.out (HT2.out _ hHeld) HT3.out m3 (by omega) hHeld.size ?_; intro v41 w41 o41 g41 n41 q41) | (refine wp_append_own_at _ _ 54 rfl w5.heap.size 2 i0 (.int .i64 0) 1 8 Tryz.underlying54 hi hz0 hz1 hz2 rfl (by decide) _ a ((o.take a).map (Value.int .i64)) rfl (by first | exact o41 | exact o41.alloc _) _ 1 1 [.int .i64 x] rfl rfl (by first | exact cell_one_new _ _ _ | exact one_cells (g41.cell HA2.out (by simp)) | exact one_cells (g41.cell HBB.out (by simp))) (by simp [Value.oneCell']) m1 (by omega) hHeld.size ?_; intro v47 w47 o47 g47 n47 q47) | (refine wp_append_own_at _ _ 54 rfl w5.heap.size 2 i0 (.int .i64 0) 1 8 Tryz.underlying54 hi hz0 hz1 hz2 rfl (by decide) _ (a + 1) ((o.take a).map (Value.int .i64) ++ [.int .i64 x]) rfl (by exact o47) ⟨gr, 0, none⟩ 0 cpr ((o.drop a).map (Value.int .i64)) rfl HR1'.out (HRN.out _ hHeld) HR3.out m2 (by omega) hHeld.size ?_; intro v49 w49 o49 g49 n49 q49)
        refine hKc.out _ _ ?_ (fun hHeld => ?_)
        ·first | exact hHeld.alloc hHeld.size _ | exact hHeld.grown g49 hHeld.size (fun k e => (o47.lt k e).1) | exact hHeld.grown g47 hHeld.size (fun k e => (o41.lt k e).1) | exact hHeld.grown g41 hHeld.size (fun k e => by have := Option.some.inj e; subst this; simp) | exact hHeld.grown g41 hHeld.size (fun k e => by have := Option.some.inj e; subst this; exact Nat.le_refl _)
        clear hKc Kc
        refine wpAnyH_ready (rs := [12]) (by kernel_rfl) (by simp) ?_
        refine AllReadyH.cons rfl (fun Kc hKc => ?_) AllReadyH.nil
        first | (refine wp_append_lit _ _ 54 rfl w5.heap.size 2 i0 (.int .i64 0) 8 Tryz.underlying54 hi hz0 hz1 hz2 rfl _ 0 rfl (by first | exact World.ownsRow_lit (base := w5.heap.size) (e := 2) (size := 1) _ #[] 0 (by first | exact Nat.le_refl _ | simp) (by unfold maxLen; omega) (by simp) | exact (World.ownsRow_lit (base := w5.heap.size) (e := 2) (size := 1) _ #[] 0 (by first | exact Nat.le_refl _ | simp) (by unfold maxLen; omega) (by simp)).alloc _ | exact HLB.out) (some ⟨go, 0, none⟩) a a ((o.take a).map (Value.int .i64)) rfl HT1.out (HT2.out _ hHeld) HT3.out m3 (by omega) hHeld.size ?_; intro v41 w41 o41 g41 n41 q41) | (refine wp_append_own_at _ _ 54 rfl w5.heap.size 2 i0 (.int .i64 0) 1 8 Tryz.underlying54 hi hz0 hz1 hz2 rfl (by decide) _ a ((o.take a).map (Value.int .i64)) rfl (by first | exact o41 | exact o41.alloc _) _ 1 1 [.int .i64 x] rfl rfl (by first | exact cell_one_new _ _ _ | exact one_cells (g41.cell HA2.out (by simp)) | exact one_cells (g41.cell HBB.out (by simp))) (by simp [Value.oneCell']) m1 (by omega) hHeld.size ?_; intro v47 w47 o47 g47 n47 q47) | (refine wp_append_own_at _ _ 54 rfl w5.heap.size 2 i0 (.int .i64 0) 1 8 Tryz.underlying54 hi hz0 hz1 hz2 rfl (by decide) _ (a + 1) ((o.take a).map (Value.int .i64) ++ [.int .i64 x]) rfl (by exact o47) ⟨gr, 0, none⟩ 0 cpr ((o.drop a).map (Value.int .i64)) rfl HR1'.out (HRN.out _ hHeld) HR3.out m2 (by omega) hHeld.size ?_; intro v49 w49 o49 g49 n49 q49)
        refine hKc.out _ _ ?_ (fun hHeld => ?_)
        ·first | exact hHeld.alloc hHeld.size _ | exact hHeld.grown g49 hHeld.size (fun k e => (o47.lt k e).1) | exact hHeld.grown g47 hHeld.size (fun k e => (o41.lt k e).1) | exact hHeld.grown g41 hHeld.size (fun k e => by have := Option.some.inj e; subst this; simp) | exact hHeld.grown g41 hHeld.size (fun k e => by have := Option.some.inj e; subst this; exact Nat.le_refl _)
        clear hKc Kc
        refine tkH (i := 13) (v := ?_) rfl (by kernel_rfl) (fun _ _ _ h => h) (Or.inl ⟨by rfl, ?_⟩) (by assumption) ?_
        rotate_left
        ·intro w hSw
         try dsimp only at hSw
         go_simp
         try with_reducible rfl
        simp only [Act.put, z1, z2, z3, z4, z5, z6]
        refine wpAnyH_done (by kernel_rfl) ?_ _
        have HNIL' : Hid (v49 ≠ .slice none 0 0) := Lib.hid (fun h => by have := (n47.1 (n49.1 h).1).2; omega)
        have HO' : Hid (w49.ownsRow w.heap.size 2 1 v49 (a + 1) ((insZ o a x).map (Value.int .i64))) := Lib.hid (ins_own o49 HW5.out.size ha (by omega))
        have HB' := Lib.hid (btr HW5.out hHeld)
        have HLN : Hid ((insZ o a x).length = a + 1) := Lib.hid (by rw [insZ_len, HOL.out])
        have HPN : Hid ((insZ o a x).Perm (zs.take (a + 1))) := Lib.hid ((insZ_perm o a x).trans (by rw [HTK.out]; exact HPO.out.append_right [x]))
        clear hHeld n47 n49 o47 o49 g47 g49
        go_wp2
        go_roundw
        case rel => exact ⟨a + 1, insZ o a x, by omega, by go_num, HNIL'.out, HO'.out, HLN.out, HINS.out, HPN.out, HB'.out⟩
        case measure => simp [intOf]; omega
      ·have co := (HBI.out.cell (p := ⟨go, a - 1, none⟩) HGO.out).trans (HOC.out (a - 1) (by omega))
       have e4 : wrap64 ((a : Int) - 1) = ((a - 1 : Nat) : Int) := by unfold wrap64; omega
       have e5 : (0 : Int) ≤ ((a - 1 : Nat) : Int) := by omega
       have e6 : ((a - 1 : Nat) : Int) < (a : Int) := by omega
       generalize cellD o (a - 1) = y at *
       go_wp2_with fail
       go_quiet (fail)
       have HBW := Lib.hid (HBID.out nq)
       generalize wr.drewN nq = wi at *
       have HW := Lib.hid (btr HB.out HBW.out)
       have HGI : Hid (go < wi.heap.size) := Lib.hid (Nat.lt_of_lt_of_le HGO.out HBW.out.size)
       have HOCI := Lib.hid (show ∀ k, k < a → wi.cell? ⟨go, k, none⟩ = some (.int .i64 (cellD o k)) from fun k hk => (HBW.out.cell (p := ⟨go, k, none⟩) HGO.out).trans (HOC.out k hk))
       have HZI := Lib.hid ((HW.out.cell (p := ⟨gz, a, none⟩) HZL.out).trans HZ.out)
       have hown0 := World.ownsRow_lit (base := wi.heap.size) (e := 2) (size := 1) wi #[] 0 (by exact Nat.le_refl _) (by unfold maxLen; omega) (by simp)
       have HL0 := Lib.hid hown0
       have hai : Below wi.heap.size wi (wi.alloc (.cells #[] 2)) := (Below.refl _ _).alloc (Nat.le_refl _) _
       have HR1 : Hid (((o.drop a).map (Value.int .i64)).length = 0) := Lib.hid (by have := HOL.out; simp; omega)
       have HR2 : Hid (0 < 0 → ∃ ad, (some ⟨go, 0, none⟩ : Option Addr) = some ad ∧ ∀ j' u, ((o.drop a).map (Value.int .i64))[j']? = some u → (wi.alloc (.cells #[] 2)).cell? (ad.add j') = some u) := Lib.hid (fun h => absurd h (Nat.lt_irrefl _))
       have HR3 : Hid (∀ u ∈ (o.drop a).map (Value.int .i64), u.oneCell' = true) := Lib.hid (fun u hu => by obtain ⟨z, -, rfl⟩ := List.mem_map.1 hu; rfl)
       have HT1 : Hid (((o.take a).map (Value.int .i64)).length = a) := Lib.hid (by have := HOL.out; simp; omega)
       have HT3 : Hid (∀ u ∈ (o.take a).map (Value.int .i64), u.oneCell' = true) := Lib.hid (fun u hu => by obtain ⟨z, -, rfl⟩ := List.mem_map.1 hu; rfl)
       clear hown0 hai
       go_wp2_with (at_builtin; refine wpList_append_lit1 rfl _ _ 54 rfl wi.heap.size 2 i0 (.int .i64 0) 8 Tryz.underlying54 hi hz0 hz1 hz2 rfl wi.heap.size 0 rfl HL0.out (some ⟨go, 0, none⟩) 0 0 ((o.drop a).map (Value.int .i64)) rfl HR1.out HR2.out HR3.out (by unfold maxLen; omega) (by omega) (by simp) ?_)
       intro v5 w5 o5 g5 n5 q5
       have HB5 : Hid (Below wi.heap.size wi w5) := Lib.hid (((Below.refl _ _).alloc (Nat.le_refl _) _).grown g5 (by simp) (fun k e => by have := Option.some.inj e; omega))
       have o5b : w5.ownsRow wi.heap.size 2 1 v5 (o.drop a).length ((o.drop a).map (Value.int .i64)) := by
        have := HR1.out
        rw [List.length_map] at this
        rw [this]; first | exact o5 | (rw [List.map_drop]; exact o5)
       obtain ⟨gr, cpr, rfl, hgr, hcpr, curr, hcr, hcrz⟩ := own_row o5b n5
       have hdl : (o.drop a).length = 0 := by have := HR1.out; rwa [List.length_map] at this
       rw [hdl] at hcpr ⊢
       have HRN := Lib.hid (show ∀ w', Below w5.heap.size w5 w' → ∀ j' u, ((o.drop a).map (Value.int .i64))[j']? = some u → w'.cell? ((⟨gr, 0, none⟩ : Addr).add j') = some u from fun w' hb j' u hu => by
        rw [addr_add, Nat.zero_add]
        rw [List.getElem?_map] at hu
        cases hz : (o.drop a)[j']? with
        | none => rw [hz] at hu; simp at hu
        | some z =>
         rw [hz] at hu
         simp at hu
         subst hu
         exact (hb.cell (p := ⟨gr, j', none⟩) hcr.lt).trans ((hcr.cell j').trans (hcrz j' z hz)))
       have HZ5 := Lib.hid ((HB5.out.cell (p := ⟨gz, a, none⟩) (Nat.lt_of_lt_of_le HZL.out HW.out.size)).trans HZI.out)
       have HZ5L : Hid (gz < w5.heap.size) := Lib.hid (Nat.lt_of_lt_of_le HZL.out (Nat.le_trans HW.out.size HB5.out.size))
       have HW5 := Lib.hid (btr HW.out HB5.out)
       have HT2 := Lib.hid (show ∀ w', Below w5.heap.size w5 w' → (0 < a → ∃ ad, (some ⟨go, 0, none⟩ : Option Addr) = some ad ∧ ∀ j' u, ((o.take a).map (Value.int .i64))[j']? = some u → w'.cell? (ad.add j') = some u) from fun w' hb _ => ⟨_, rfl, fun j' u hu => by
        rw [addr_add, Nat.zero_add]
        exact take_news HOCI.out HOL.out HGI.out (btr HB5.out hb) hu⟩)
       have hR1' : ((o.drop a).map (Value.int .i64)).length = 0 * 1 := by rw [HR1.out]; first | done | omega
       have HR1' := Lib.hid hR1'
       have a0 : (0 : Int) ≤ (a : Int) := by omega
       have a1 : (a : Int) ≤ (a : Int) := by omega
       have m1 : a + 1 ≤ maxLen := by unfold maxLen; omega
       have m2 : a + 1 + 0 ≤ maxLen := by unfold maxLen; omega
       have m3 : a ≤ maxLen := by unfold maxLen; omega
       have HA2 : Hid (((w5.alloc (.cells #[] 2)).alloc (.cells #[.int .i64 x] 2)).drew.cell? ⟨w5.heap.size + 1, 0, none⟩ = some (.int .i64 x)) := Lib.hid (by simp)
       have HLB : Hid (World.ownsRow ((w5.alloc (.cells #[.int .i64 x] 2)).alloc (.cells #[] 2)).drew w5.heap.size 2 1 (.slice (some ⟨w5.heap.size + 1, 0, none⟩) 0 0) 0 []) := Lib.hid (by
        have := World.ownsRow_lit (base := w5.heap.size) (e := 2) (size := 1) (w5.alloc (.cells #[.int .i64 x] 2)) #[] 0 (by simp) (by unfold maxLen; omega) (by simp)
        rw [show (w5.alloc (.cells #[.int .i64 x] 2)).heap.size = w5.heap.size + 1 by simp] at this
        exact this)
       have HBB : Hid (((w5.alloc (.cells #[.int .i64 x] 2)).alloc (.cells #[] 2)).drew.cell? ⟨w5.heap.size, 0, none⟩ = some (.int .i64 x)) := Lib.hid (by simp)
       clear o5 g5 n5 q5 o5b hcr hcrz hdl hgr hR1' HL0 HR2 HOCI HZI
       go_wp2_with fail
       refine wp_region_held_drew (S := fun w' => Below w5.heap.size w5 w') (by kernel_rfl) (by exact below_drewN (Below.refl _ _) 1) (fun hHeld => ?_)
       refine tkH (i := 1) (v := ?_) rfl (by kernel_rfl) (fun _ _ _ h => h) (Or.inl ⟨by rfl, ?_⟩) (by assumption) ?_
       rotate_left
       ·intro w hSw
        try dsimp only at hSw
        go_simp
        try with_reducible rfl
       simp only [Act.put, z1, z2, z3, z4, z5, z6]
       refine tkH (i := 2) (v := ?_) rfl (by kernel_rfl) (fun _ _ _ h => h) (Or.inl ⟨by rfl, ?_⟩) (by assumption) ?_
       rotate_left
       ·intro w hSw
        try dsimp only at hSw
        go_simp
        try with_reducible rfl
       simp only [Act.put, z1, z2, z3, z4, z5, z6]
       refine tkH (i := 3) (v := ?_) rfl (by kernel_rfl) (fun _ _ _ h => h) (Or.inl ⟨by rfl, ?_⟩) (by assumption) ?_
       rotate_left
       ·intro w hSw
        try dsimp only at hSw
        go_simp
        try with_reducible rfl
       simp only [Act.put, z1, z2, z3, z4, z5, z6]
       refine tkH (i := 5) (v := ?_) rfl (by kernel_rfl) (fun _ _ _ h => h) (Or.inl ⟨by rfl, ?_⟩) (by assumption) ?_
       rotate_left
       ·intro w hSw
        try dsimp only at hSw
        go_simp
        try with_reducible rfl
       simp only [Act.put, z1, z2, z3, z4, z5, z6]
       refine tkH (i := 6) (v := ?_) rfl (by kernel_rfl) (fun _ _ _ h => h) (Or.inl ⟨by rfl, ?_⟩) (by assumption) ?_
       rotate_left
       ·intro w hSw
        try dsimp only at hSw
        go_simp
        try with_reducible rfl
       simp only [Act.put, z1, z2, z3, z4, z5, z6]
       refine tkH (i := 7) (v := ?_) rfl (by kernel_rfl) (fun _ _ _ h => h) (Or.inl ⟨by rfl, ?_⟩) (by assumption) ?_
       rotate_left
       ·intro w hSw
        try dsimp only at hSw
        go_simp
        try with_reducible rfl
       simp only [Act.put, z1, z2, z3, z4, z5, z6]
       refine tkH (i := 8) (v := ?_) rfl (by kernel_rfl) (fun _ _ _ h => h) (Or.inl ⟨by rfl, ?_⟩) (by assumption) ?_
       rotate_left
       ·intro w hSw
        have q := (hSw.cell (p := ⟨gz, a, none⟩) HZ5L.out).trans HZ5.out
        go_simp
        try with_reducible rfl
       simp only [Act.put, z1, z2, z3, z4, z5, z6]
       refine tkH (i := 11) (v := ?_) rfl (by kernel_rfl) (fun _ _ _ h => h) (Or.inl ⟨by rfl, ?_⟩) (by assumption) ?_
       rotate_left
       ·intro w hSw
        try dsimp only at hSw
        go_simp
        try with_reducible rfl
       simp only [Act.put, z1, z2, z3, z4, z5, z6]
       refine wpAnyH_ready (rs := [0, 9]) (by kernel_rfl) (by simp) ?_
       refine AllReadyH.cons rfl (fun Kc hKc => ?_) (AllReadyH.cons rfl (fun Kc hKc => ?_) AllReadyH.nil)
       ·go_simp
        refine hKc.out _ _ ?_ (fun hHeld => ?_)
        ·first | exact hHeld.alloc hHeld.size _ | exact hHeld.grown g49 hHeld.size (fun k e => (o47.lt k e).1) | exact hHeld.grown g47 hHeld.size (fun k e => (o41.lt k e).1) | exact hHeld.grown g41 hHeld.size (fun k e => by have := Option.some.inj e; subst this; simp) | exact hHeld.grown g41 hHeld.size (fun k e => by have := Option.some.inj e; subst this; exact Nat.le_refl _)
        clear hKc Kc
        refine wpAnyH_ready (rs := [4, 9]) (by kernel_rfl) (by simp) ?_
        refine AllReadyH.cons rfl (fun Kc hKc => ?_) (AllReadyH.cons rfl (fun Kc hKc => ?_) AllReadyH.nil)
        ·first | (refine wp_append_lit _ _ 54 rfl w5.heap.size 2 i0 (.int .i64 0) 8 Tryz.underlying54 hi hz0 hz1 hz2 rfl _ 0 rfl (by first | exact World.ownsRow_lit (base := w5.heap.size) (e := 2) (size := 1) _ #[] 0 (by first | exact Nat.le_refl _ | simp) (by unfold maxLen; omega) (by simp) | exact (World.ownsRow_lit (base := w5.heap.size) (e := 2) (size := 1) _ #[] 0 (by first | exact Nat.le_refl _ | simp) (by unfold maxLen; omega) (by simp)).alloc _ | exact HLB.out) (some ⟨go, 0, none⟩) a a ((o.take a).map (Value.int .i64)) rfl HT1.out (HT2.out _ hHeld) HT3.out m3 (by omega) hHeld.size ?_; intro v41 w41 o41 g41 n41 q41) | (refine wp_append_own_at _ _ 54 rfl w5.heap.size 2 i0 (.int .i64 0) 1 8 Tryz.underlying54 hi hz0 hz1 hz2 rfl (by decide) _ a ((o.take a).map (Value.int .i64)) rfl (by first | exact o41 | exact o41.alloc _) _ 1 1 [.int .i64 x] rfl rfl (by first | exact cell_one_new _ _ _ | exact one_cells (g41.cell HA2.out (by simp)) | exact one_cells (g41.cell HBB.out (by simp))) (by simp [Value.oneCell']) m1 (by omega) hHeld.size ?_; intro v47 w47 o47 g47 n47 q47) | (refine wp_append_own_at _ _ 54 rfl w5.heap.size 2 i0 (.int .i64 0) 1 8 Tryz.underlying54 hi hz0 hz1 hz2 rfl (by decide) _ (a + 1) ((o.take a).map (Value.int .i64) ++ [.int .i64 x]) rfl (by exact o47) ⟨gr, 0, none⟩ 0 cpr ((o.drop a).map (Value.int .i64)) rfl HR1'.out (HRN.out _ hHeld) HR3.out m2 (by omega) hHeld.size ?_; intro v49 w49 o49 g49 n49 q49)
         refine hKc.out _ _ ?_ (fun hHeld => ?_)
         ·first | exact hHeld.alloc hHeld.size _ | exact hHeld.grown g49 hHeld.size (fun k e => (o47.lt k e).1) | exact hHeld.grown g47 hHeld.size (fun k e => (o41.lt k e).1) | exact hHeld.grown g41 hHeld.size (fun k e => by have := Option.some.inj e; subst this; simp) | exact hHeld.grown g41 hHeld.size (fun k e => by have := Option.some.inj e; subst this; exact Nat.le_refl _)
         clear hKc Kc
         refine wpAnyH_ready (rs := [9]) (by kernel_rfl) (by simp) ?_
         refine AllReadyH.cons rfl (fun Kc hKc => ?_) AllReadyH.nil
         go_simp
         refine hKc.out _ _ ?_ (fun hHeld => ?_)
         ·first | exact hHeld.alloc hHeld.size _ | exact hHeld.grown g49 hHeld.size (fun k e => (o47.lt k e).1) | exact hHeld.grown g47 hHeld.size (fun k e => (o41.lt k e).1) | exact hHeld.grown g41 hHeld.size (fun k e => by have := Option.some.inj e; subst this; simp) | exact hHeld.grown g41 hHeld.size (fun k e => by have := Option.some.inj e; subst this; exact Nat.le_refl _)
         clear hKc Kc
         refine wpAnyH_ready (rs := [10]) (by kernel_rfl) (by simp) ?_
         refine AllReadyH.cons rfl (fun Kc hKc => ?_) AllReadyH.nil
         first | (refine wp_append_lit _ _ 54 rfl w5.heap.size 2 i0 (.int .i64 0) 8 Tryz.underlying54 hi hz0 hz1 hz2 rfl _ 0 rfl (by first | exact World.ownsRow_lit (base := w5.heap.size) (e := 2) (size := 1) _ #[] 0 (by first | exact Nat.le_refl _ | simp) (by unfold maxLen; omega) (by simp) | exact (World.ownsRow_lit (base := w5.heap.size) (e := 2) (size := 1) _ #[] 0 (by first | exact Nat.le_refl _ | simp) (by unfold maxLen; omega) (by simp)).alloc _ | exact HLB.out) (some ⟨go, 0, none⟩) a a ((o.take a).map (Value.int .i64)) rfl HT1.out (HT2.out _ hHeld) HT3.out m3 (by omega) hHeld.size ?_; intro v41 w41 o41 g41 n41 q41) | (refine wp_append_own_at _ _ 54 rfl w5.heap.size 2 i0 (.int .i64 0) 1 8 Tryz.underlying54 hi hz0 hz1 hz2 rfl (by decide) _ a ((o.take a).map (Value.int .i64)) rfl (by first | exact o41 | exact o41.alloc _) _ 1 1 [.int .i64 x] rfl rfl (by first | exact cell_one_new _ _ _ | exact one_cells (g41.cell HA2.out (by simp)) | exact one_cells (g41.cell HBB.out (by simp))) (by simp [Value.oneCell']) m1 (by omega) hHeld.size ?_; intro v47 w47 o47 g47 n47 q47) | (refine wp_append_own_at _ _ 54 rfl w5.heap.size 2 i0 (.int .i64 0) 1 8 Tryz.underlying54 hi hz0 hz1 hz2 rfl (by decide) _ (a + 1) ((o.take a).map (Value.int .i64) ++ [.int .i64 x]) rfl (by exact o47) ⟨gr, 0, none⟩ 0 cpr ((o.drop a).map (Value.int .i64)) rfl HR1'.out (HRN.out _ hHeld) HR3.out m2 (by omega) hHeld.size ?_; intro v49 w49 o49 g49 n49 q49)
         refine hKc.out _ _ ?_ (fun hHeld => ?_)
         ·first | exact hHeld.alloc hHeld.size _ | exact hHeld.grown g49 hHeld.size (fun k e => (o47.lt k e).1) | exact hHeld.grown g47 hHeld.size (fun k e => (o41.lt k e).1) | exact hHeld.grown g41 hHeld.size (fun k e => by have := Option.some.inj e; subst this; simp) | exact hHeld.grown g41 hHeld.size (fun k e => by have := Option.some.inj e; subst this; exact Nat.le_refl _)
         clear hKc Kc
         refine wpAnyH_ready (rs := [12]) (by kernel_rfl) (by simp) ?_
         refine AllReadyH.cons rfl (fun Kc hKc => ?_) AllReadyH.nil
         first | (refine wp_append_lit _ _ 54 rfl w5.heap.size 2 i0 (.int .i64 0) 8 Tryz.underlying54 hi hz0 hz1 hz2 rfl _ 0 rfl (by first | exact World.ownsRow_lit (base := w5.heap.size) (e := 2) (size := 1) _ #[] 0 (by first | exact Nat.le_refl _ | simp) (by unfold maxLen; omega) (by simp) | exact (World.ownsRow_lit (base := w5.heap.size) (e := 2) (size := 1) _ #[] 0 (by first | exact Nat.le_refl _ | simp) (by unfold maxLen; omega) (by simp)).alloc _ | exact HLB.out) (some ⟨go, 0, none⟩) a a ((o.take a).map (Value.int .i64)) rfl HT1.out (HT2.out _ hHeld) HT3.out m3 (by omega) hHeld.size ?_; intro v41 w41 o41 g41 n41 q41) | (refine wp_append_own_at _ _ 54 rfl w5.heap.size 2 i0 (.int .i64 0) 1 8 Tryz.underlying54 hi hz0 hz1 hz2 rfl (by decide) _ a ((o.take a).map (Value.int .i64)) rfl (by first | exact o41 | exact o41.alloc _) _ 1 1 [.int .i64 x] rfl rfl (by first | exact cell_one_new _ _ _ | exact one_cells (g41.cell HA2.out (by simp)) | exact one_cells (g41.cell HBB.out (by simp))) (by simp [Value.oneCell']) m1 (by omega) hHeld.size ?_; intro v47 w47 o47 g47 n47 q47) | (refine wp_append_own_at _ _ 54 rfl w5.heap.size 2 i0 (.int .i64 0) 1 8 Tryz.underlying54 hi hz0 hz1 hz2 rfl (by decide) _ (a + 1) ((o.take a).map (Value.int .i64) ++ [.int .i64 x]) rfl (by exact o47) ⟨gr, 0, none⟩ 0 cpr ((o.drop a).map (Value.int .i64)) rfl HR1'.out (HRN.out _ hHeld) HR3.out m2 (by omega) hHeld.size ?_; intro v49 w49 o49 g49 n49 q49)
         refine hKc.out _ _ ?_ (fun hHeld => ?_)
         ·first | exact hHeld.alloc hHeld.size _ | exact hHeld.grown g49 hHeld.size (fun k e => (o47.lt k e).1) | exact hHeld.grown g47 hHeld.size (fun k e => (o41.lt k e).1) | exact hHeld.grown g41 hHeld.size (fun k e => by have := Option.some.inj e; subst this; simp) | exact hHeld.grown g41 hHeld.size (fun k e => by have := Option.some.inj e; subst this; exact Nat.le_refl _)
         clear hKc Kc
         refine tkH (i := 13) (v := ?_) rfl (by kernel_rfl) (fun _ _ _ h => h) (Or.inl ⟨by rfl, ?_⟩) (by assumption) ?_
         rotate_left
         ·intro w hSw
          try dsimp only at hSw
          go_simp
          try with_reducible rfl
         simp only [Act.put, z1, z2, z3, z4, z5, z6]
         refine wpAnyH_done (by kernel_rfl) ?_ _
         have HNIL' : Hid (v49 ≠ .slice none 0 0) := Lib.hid (fun h => by have := (n47.1 (n49.1 h).1).2; omega)
         have HO' : Hid (w49.ownsRow w.heap.size 2 1 v49 (a + 1) ((insZ o a x).map (Value.int .i64))) := Lib.hid (ins_own o49 HW5.out.size ha (by omega))
         have HB' := Lib.hid (btr HW5.out hHeld)
         have HLN : Hid ((insZ o a x).length = a + 1) := Lib.hid (by rw [insZ_len, HOL.out])
         have HPN : Hid ((insZ o a x).Perm (zs.take (a + 1))) := Lib.hid ((insZ_perm o a x).trans (by rw [HTK.out]; exact HPO.out.append_right [x]))
         clear hHeld n47 n49 o47 o49 g47 g49
         go_wp2
         go_roundw
         case rel => exact ⟨a + 1, insZ o a x, by omega, by go_num, HNIL'.out, HO'.out, HLN.out, HINS.out, HPN.out, HB'.out⟩
         case measure => simp [intOf]; omega
        ·go_simp
         refine hKc.out _ _ ?_ (fun hHeld => ?_)
         ·first | exact hHeld.alloc hHeld.size _ | exact hHeld.grown g49 hHeld.size (fun k e => (o47.lt k e).1) | exact hHeld.grown g47 hHeld.size (fun k e => (o41.lt k e).1) | exact hHeld.grown g41 hHeld.size (fun k e => by have := Option.some.inj e; subst this; simp) | exact hHeld.grown g41 hHeld.size (fun k e => by have := Option.some.inj e; subst this; exact Nat.le_refl _)
         clear hKc Kc
         refine wpAnyH_ready (rs := [4]) (by kernel_rfl) (by simp) ?_
         refine AllReadyH.cons rfl (fun Kc hKc => ?_) AllReadyH.nil
         first | (refine wp_append_lit _ _ 54 rfl w5.heap.size 2 i0 (.int .i64 0) 8 Tryz.underlying54 hi hz0 hz1 hz2 rfl _ 0 rfl (by first | exact World.ownsRow_lit (base := w5.heap.size) (e := 2) (size := 1) _ #[] 0 (by first | exact Nat.le_refl _ | simp) (by unfold maxLen; omega) (by simp) | exact (World.ownsRow_lit (base := w5.heap.size) (e := 2) (size := 1) _ #[] 0 (by first | exact Nat.le_refl _ | simp) (by unfold maxLen; omega) (by simp)).alloc _ | exact HLB.out) (some ⟨go, 0, none⟩) a a ((o.take a).map (Value.int .i64)) rfl HT1.out (HT2.out _ hHeld) HT3.out m3 (by omega) hHeld.size ?_; intro v41 w41 o41 g41 n41 q41) | (refine wp_append_own_at _ _ 54 rfl w5.heap.size 2 i0 (.int .i64 0) 1 8 Tryz.underlying54 hi hz0 hz1 hz2 rfl (by decide) _ a ((o.take a).map (Value.int .i64)) rfl (by first | exact o41 | exact o41.alloc _) _ 1 1 [.int .i64 x] rfl rfl (by first | exact cell_one_new _ _ _ | exact one_cells (g41.cell HA2.out (by simp)) | exact one_cells (g41.cell HBB.out (by simp))) (by simp [Value.oneCell']) m1 (by omega) hHeld.size ?_; intro v47 w47 o47 g47 n47 q47) | (refine wp_append_own_at _ _ 54 rfl w5.heap.size 2 i0 (.int .i64 0) 1 8 Tryz.underlying54 hi hz0 hz1 hz2 rfl (by decide) _ (a + 1) ((o.take a).map (Value.int .i64) ++ [.int .i64 x]) rfl (by exact o47) ⟨gr, 0, none⟩ 0 cpr ((o.drop a).map (Value.int .i64)) rfl HR1'.out (HRN.out _ hHeld) HR3.out m2 (by omega) hHeld.size ?_; intro v49 w49 o49 g49 n49 q49)
         refine hKc.out _ _ ?_ (fun hHeld => ?_)
         ·first | exact hHeld.alloc hHeld.size _ | exact hHeld.grown g49 hHeld.size (fun k e => (o47.lt k e).1) | exact hHeld.grown g47 hHeld.size (fun k e => (o41.lt k e).1) | exact hHeld.grown g41 hHeld.size (fun k e => by have := Option.some.inj e; subst this; simp) | exact hHeld.grown g41 hHeld.size (fun k e => by have := Option.some.inj e; subst this; exact Nat.le_refl _)
         clear hKc Kc
         refine wpAnyH_ready (rs := [10]) (by kernel_rfl) (by simp) ?_
         refine AllReadyH.cons rfl (fun Kc hKc => ?_) AllReadyH.nil
         first | (refine wp_append_lit _ _ 54 rfl w5.heap.size 2 i0 (.int .i64 0) 8 Tryz.underlying54 hi hz0 hz1 hz2 rfl _ 0 rfl (by first | exact World.ownsRow_lit (base := w5.heap.size) (e := 2) (size := 1) _ #[] 0 (by first | exact Nat.le_refl _ | simp) (by unfold maxLen; omega) (by simp) | exact (World.ownsRow_lit (base := w5.heap.size) (e := 2) (size := 1) _ #[] 0 (by first | exact Nat.le_refl _ | simp) (by unfold maxLen; omega) (by simp)).alloc _ | exact HLB.out) (some ⟨go, 0, none⟩) a a ((o.take a).map (Value.int .i64)) rfl HT1.out (HT2.out _ hHeld) HT3.out m3 (by omega) hHeld.size ?_; intro v41 w41 o41 g41 n41 q41) | (refine wp_append_own_at _ _ 54 rfl w5.heap.size 2 i0 (.int .i64 0) 1 8 Tryz.underlying54 hi hz0 hz1 hz2 rfl (by decide) _ a ((o.take a).map (Value.int .i64)) rfl (by first | exact o41 | exact o41.alloc _) _ 1 1 [.int .i64 x] rfl rfl (by first | exact cell_one_new _ _ _ | exact one_cells (g41.cell HA2.out (by simp)) | exact one_cells (g41.cell HBB.out (by simp))) (by simp [Value.oneCell']) m1 (by omega) hHeld.size ?_; intro v47 w47 o47 g47 n47 q47) | (refine wp_append_own_at _ _ 54 rfl w5.heap.size 2 i0 (.int .i64 0) 1 8 Tryz.underlying54 hi hz0 hz1 hz2 rfl (by decide) _ (a + 1) ((o.take a).map (Value.int .i64) ++ [.int .i64 x]) rfl (by exact o47) ⟨gr, 0, none⟩ 0 cpr ((o.drop a).map (Value.int .i64)) rfl HR1'.out (HRN.out _ hHeld) HR3.out m2 (by omega) hHeld.size ?_; intro v49 w49 o49 g49 n49 q49)
         refine hKc.out _ _ ?_ (fun hHeld => ?_)
         ·first | exact hHeld.alloc hHeld.size _ | exact hHeld.grown g49 hHeld.size (fun k e => (o47.lt k e).1) | exact hHeld.grown g47 hHeld.size (fun k e => (o41.lt k e).1) | exact hHeld.grown g41 hHeld.size (fun k e => by have := Option.some.inj e; subst this; simp) | exact hHeld.grown g41 hHeld.size (fun k e => by have := Option.some.inj e; subst this; exact Nat.le_refl _)
         clear hKc Kc
         refine wpAnyH_ready (rs := [12]) (by kernel_rfl) (by simp) ?_
         refine AllReadyH.cons rfl (fun Kc hKc => ?_) AllReadyH.nil
         first | (refine wp_append_lit _ _ 54 rfl w5.heap.size 2 i0 (.int .i64 0) 8 Tryz.underlying54 hi hz0 hz1 hz2 rfl _ 0 rfl (by first | exact World.ownsRow_lit (base := w5.heap.size) (e := 2) (size := 1) _ #[] 0 (by first | exact Nat.le_refl _ | simp) (by unfold maxLen; omega) (by simp) | exact (World.ownsRow_lit (base := w5.heap.size) (e := 2) (size := 1) _ #[] 0 (by first | exact Nat.le_refl _ | simp) (by unfold maxLen; omega) (by simp)).alloc _ | exact HLB.out) (some ⟨go, 0, none⟩) a a ((o.take a).map (Value.int .i64)) rfl HT1.out (HT2.out _ hHeld) HT3.out m3 (by omega) hHeld.size ?_; intro v41 w41 o41 g41 n41 q41) | (refine wp_append_own_at _ _ 54 rfl w5.heap.size 2 i0 (.int .i64 0) 1 8 Tryz.underlying54 hi hz0 hz1 hz2 rfl (by decide) _ a ((o.take a).map (Value.int .i64)) rfl (by first | exact o41 | exact o41.alloc _) _ 1 1 [.int .i64 x] rfl rfl (by first | exact cell_one_new _ _ _ | exact one_cells (g41.cell HA2.out (by simp)) | exact one_cells (g41.cell HBB.out (by simp))) (by simp [Value.oneCell']) m1 (by omega) hHeld.size ?_; intro v47 w47 o47 g47 n47 q47) | (refine wp_append_own_at _ _ 54 rfl w5.heap.size 2 i0 (.int .i64 0) 1 8 Tryz.underlying54 hi hz0 hz1 hz2 rfl (by decide) _ (a + 1) ((o.take a).map (Value.int .i64) ++ [.int .i64 x]) rfl (by exact o47) ⟨gr, 0, none⟩ 0 cpr ((o.drop a).map (Value.int .i64)) rfl HR1'.out (HRN.out _ hHeld) HR3.out m2 (by omega) hHeld.size ?_; intro v49 w49 o49 g49 n49 q49)
         refine hKc.out _ _ ?_ (fun hHeld => ?_)
         ·first | exact hHeld.alloc hHeld.size _ | exact hHeld.grown g49 hHeld.size (fun k e => (o47.lt k e).1) | exact hHeld.grown g47 hHeld.size (fun k e => (o41.lt k e).1) | exact hHeld.grown g41 hHeld.size (fun k e => by have := Option.some.inj e; subst this; simp) | exact hHeld.grown g41 hHeld.size (fun k e => by have := Option.some.inj e; subst this; exact Nat.le_refl _)
         clear hKc Kc
         refine tkH (i := 13) (v := ?_) rfl (by kernel_rfl) (fun _ _ _ h => h) (Or.inl ⟨by rfl, ?_⟩) (by assumption) ?_
         rotate_left
         ·intro w hSw
          try dsimp only at hSw
          go_simp
          try with_reducible rfl
         simp only [Act.put, z1, z2, z3, z4, z5, z6]
         refine wpAnyH_done (by kernel_rfl) ?_ _
         have HNIL' : Hid (v49 ≠ .slice none 0 0) := Lib.hid (fun h => by have := (n47.1 (n49.1 h).1).2; omega)
         have HO' : Hid (w49.ownsRow w.heap.size 2 1 v49 (a + 1) ((insZ o a x).map (Value.int .i64))) := Lib.hid (ins_own o49 HW5.out.size ha (by omega))
         have HB' := Lib.hid (btr HW5.out hHeld)
         have HLN : Hid ((insZ o a x).length = a + 1) := Lib.hid (by rw [insZ_len, HOL.out])
         have HPN : Hid ((insZ o a x).Perm (zs.take (a + 1))) := Lib.hid ((insZ_perm o a x).trans (by rw [HTK.out]; exact HPO.out.append_right [x]))
         clear hHeld n47 n49 o47 o49 g47 g49
         go_wp2
         go_roundw
         case rel => exact ⟨a + 1, insZ o a x, by omega, by go_num, HNIL'.out, HO'.out, HLN.out, HINS.out, HPN.out, HB'.out⟩
         case measure => simp [intOf]; omega
       ·go_simp
        refine hKc.out _ _ ?_ (fun hHeld => ?_)
        ·first | exact hHeld.alloc hHeld.size _ | exact hHeld.grown g49 hHeld.size (fun k e => (o47.lt k e).1) | exact hHeld.grown g47 hHeld.size (fun k e => (o41.lt k e).1) | exact hHeld.grown g41 hHeld.size (fun k e => by have := Option.some.inj e; subst this; simp) | exact hHeld.grown g41 hHeld.size (fun k e => by have := Option.some.inj e; subst this; exact Nat.le_refl _)
        clear hKc Kc
        refine wpAnyH_ready (rs := [0]) (by kernel_rfl) (by simp) ?_
        refine AllReadyH.cons rfl (fun Kc hKc => ?_) AllReadyH.nil
        go_simp
        refine hKc.out _ _ ?_ (fun hHeld => ?_)
        ·first | exact hHeld.alloc hHeld.size _ | exact hHeld.grown g49 hHeld.size (fun k e => (o47.lt k e).1) | exact hHeld.grown g47 hHeld.size (fun k e => (o41.lt k e).1) | exact hHeld.grown g41 hHeld.size (fun k e => by have := Option.some.inj e; subst this; simp) | exact hHeld.grown g41 hHeld.size (fun k e => by have := Option.some.inj e; subst this; exact Nat.le_refl _)
        clear hKc Kc
        refine wpAnyH_ready (rs := [4]) (by kernel_rfl) (by simp) ?_
        refine AllReadyH.cons rfl (fun Kc hKc => ?_) AllReadyH.nil
        first | (refine wp_append_lit _ _ 54 rfl w5.heap.size 2 i0 (.int .i64 0) 8 Tryz.underlying54 hi hz0 hz1 hz2 rfl _ 0 rfl (by first | exact World.ownsRow_lit (base := w5.heap.size) (e := 2) (size := 1) _ #[] 0 (by first | exact Nat.le_refl _ | simp) (by unfold maxLen; omega) (by simp) | exact (World.ownsRow_lit (base := w5.heap.size) (e := 2) (size := 1) _ #[] 0 (by first | exact Nat.le_refl _ | simp) (by unfold maxLen; omega) (by simp)).alloc _ | exact HLB.out) (some ⟨go, 0, none⟩) a a ((o.take a).map (Value.int .i64)) rfl HT1.out (HT2.out _ hHeld) HT3.out m3 (by omega) hHeld.size ?_; intro v41 w41 o41 g41 n41 q41) | (refine wp_append_own_at _ _ 54 rfl w5.heap.size 2 i0 (.int .i64 0) 1 8 Tryz.underlying54 hi hz0 hz1 hz2 rfl (by decide) _ a ((o.take a).map (Value.int .i64)) rfl (by first | exact o41 | exact o41.alloc _) _ 1 1 [.int .i64 x] rfl rfl (by first | exact cell_one_new _ _ _ | exact one_cells (g41.cell HA2.out (by simp)) | exact one_cells (g41.cell HBB.out (by simp))) (by simp [Value.oneCell']) m1 (by omega) hHeld.size ?_; intro v47 w47 o47 g47 n47 q47) | (refine wp_append_own_at _ _ 54 rfl w5.heap.size 2 i0 (.int .i64 0) 1 8 Tryz.underlying54 hi hz0 hz1 hz2 rfl (by decide) _ (a + 1) ((o.take a).map (Value.int .i64) ++ [.int .i64 x]) rfl (by exact o47) ⟨gr, 0, none⟩ 0 cpr ((o.drop a).map (Value.int .i64)) rfl HR1'.out (HRN.out _ hHeld) HR3.out m2 (by omega) hHeld.size ?_; intro v49 w49 o49 g49 n49 q49)
        refine hKc.out _ _ ?_ (fun hHeld => ?_)
        ·first | exact hHeld.alloc hHeld.size _ | exact hHeld.grown g49 hHeld.size (fun k e => (o47.lt k e).1) | exact hHeld.grown g47 hHeld.size (fun k e => (o41.lt k e).1) | exact hHeld.grown g41 hHeld.size (fun k e => by have := Option.some.inj e; subst this; simp) | exact hHeld.grown g41 hHeld.size (fun k e => by have := Option.some.inj e; subst this; exact Nat.le_refl _)
        clear hKc Kc
        refine wpAnyH_ready (rs := [10]) (by kernel_rfl) (by simp) ?_
        refine AllReadyH.cons rfl (fun Kc hKc => ?_) AllReadyH.nil
        first | (refine wp_append_lit _ _ 54 rfl w5.heap.size 2 i0 (.int .i64 0) 8 Tryz.underlying54 hi hz0 hz1 hz2 rfl _ 0 rfl (by first | exact World.ownsRow_lit (base := w5.heap.size) (e := 2) (size := 1) _ #[] 0 (by first | exact Nat.le_refl _ | simp) (by unfold maxLen; omega) (by simp) | exact (World.ownsRow_lit (base := w5.heap.size) (e := 2) (size := 1) _ #[] 0 (by first | exact Nat.le_refl _ | simp) (by unfold maxLen; omega) (by simp)).alloc _ | exact HLB.out) (some ⟨go, 0, none⟩) a a ((o.take a).map (Value.int .i64)) rfl HT1.out (HT2.out _ hHeld) HT3.out m3 (by omega) hHeld.size ?_; intro v41 w41 o41 g41 n41 q41) | (refine wp_append_own_at _ _ 54 rfl w5.heap.size 2 i0 (.int .i64 0) 1 8 Tryz.underlying54 hi hz0 hz1 hz2 rfl (by decide) _ a ((o.take a).map (Value.int .i64)) rfl (by first | exact o41 | exact o41.alloc _) _ 1 1 [.int .i64 x] rfl rfl (by first | exact cell_one_new _ _ _ | exact one_cells (g41.cell HA2.out (by simp)) | exact one_cells (g41.cell HBB.out (by simp))) (by simp [Value.oneCell']) m1 (by omega) hHeld.size ?_; intro v47 w47 o47 g47 n47 q47) | (refine wp_append_own_at _ _ 54 rfl w5.heap.size 2 i0 (.int .i64 0) 1 8 Tryz.underlying54 hi hz0 hz1 hz2 rfl (by decide) _ (a + 1) ((o.take a).map (Value.int .i64) ++ [.int .i64 x]) rfl (by exact o47) ⟨gr, 0, none⟩ 0 cpr ((o.drop a).map (Value.int .i64)) rfl HR1'.out (HRN.out _ hHeld) HR3.out m2 (by omega) hHeld.size ?_; intro v49 w49 o49 g49 n49 q49)
        refine hKc.out _ _ ?_ (fun hHeld => ?_)
        ·first | exact hHeld.alloc hHeld.size _ | exact hHeld.grown g49 hHeld.size (fun k e => (o47.lt k e).1) | exact hHeld.grown g47 hHeld.size (fun k e => (o41.lt k e).1) | exact hHeld.grown g41 hHeld.size (fun k e => by have := Option.some.inj e; subst this; simp) | exact hHeld.grown g41 hHeld.size (fun k e => by have := Option.some.inj e; subst this; exact Nat.le_refl _)
        clear hKc Kc
        refine wpAnyH_ready (rs := [12]) (by kernel_rfl) (by simp) ?_
        refine AllReadyH.cons rfl (fun Kc hKc => ?_) AllReadyH.nil
        first | (refine wp_append_lit _ _ 54 rfl w5.heap.size 2 i0 (.int .i64 0) 8 Tryz.underlying54 hi hz0 hz1 hz2 rfl _ 0 rfl (by first | exact World.ownsRow_lit (base := w5.heap.size) (e := 2) (size := 1) _ #[] 0 (by first | exact Nat.le_refl _ | simp) (by unfold maxLen; omega) (by simp) | exact (World.ownsRow_lit (base := w5.heap.size) (e := 2) (size := 1) _ #[] 0 (by first | exact Nat.le_refl _ | simp) (by unfold maxLen; omega) (by simp)).alloc _ | exact HLB.out) (some ⟨go, 0, none⟩) a a ((o.take a).map (Value.int .i64)) rfl HT1.out (HT2.out _ hHeld) HT3.out m3 (by omega) hHeld.size ?_; intro v41 w41 o41 g41 n41 q41) | (refine wp_append_own_at _ _ 54 rfl w5.heap.size 2 i0 (.int .i64 0) 1 8 Tryz.underlying54 hi hz0 hz1 hz2 rfl (by decide) _ a ((o.take a).map (Value.int .i64)) rfl (by first | exact o41 | exact o41.alloc _) _ 1 1 [.int .i64 x] rfl rfl (by first | exact cell_one_new _ _ _ | exact one_cells (g41.cell HA2.out (by simp)) | exact one_cells (g41.cell HBB.out (by simp))) (by simp [Value.oneCell']) m1 (by omega) hHeld.size ?_; intro v47 w47 o47 g47 n47 q47) | (refine wp_append_own_at _ _ 54 rfl w5.heap.size 2 i0 (.int .i64 0) 1 8 Tryz.underlying54 hi hz0 hz1 hz2 rfl (by decide) _ (a + 1) ((o.take a).map (Value.int .i64) ++ [.int .i64 x]) rfl (by exact o47) ⟨gr, 0, none⟩ 0 cpr ((o.drop a).map (Value.int .i64)) rfl HR1'.out (HRN.out _ hHeld) HR3.out m2 (by omega) hHeld.size ?_; intro v49 w49 o49 g49 n49 q49)
        refine hKc.out _ _ ?_ (fun hHeld => ?_)
        ·first | exact hHeld.alloc hHeld.size _ | exact hHeld.grown g49 hHeld.size (fun k e => (o47.lt k e).1) | exact hHeld.grown g47 hHeld.size (fun k e => (o41.lt k e).1) | exact hHeld.grown g41 hHeld.size (fun k e => by have := Option.some.inj e; subst this; simp) | exact hHeld.grown g41 hHeld.size (fun k e => by have := Option.some.inj e; subst this; exact Nat.le_refl _)
        clear hKc Kc
        refine tkH (i := 13) (v := ?_) rfl (by kernel_rfl) (fun _ _ _ h => h) (Or.inl ⟨by rfl, ?_⟩) (by assumption) ?_
        rotate_left
        ·intro w hSw
         try dsimp only at hSw
         go_simp
         try with_reducible rfl
        simp only [Act.put, z1, z2, z3, z4, z5, z6]
        refine wpAnyH_done (by kernel_rfl) ?_ _
        have HNIL' : Hid (v49 ≠ .slice none 0 0) := Lib.hid (fun h => by have := (n47.1 (n49.1 h).1).2; omega)
        have HO' : Hid (w49.ownsRow w.heap.size 2 1 v49 (a + 1) ((insZ o a x).map (Value.int .i64))) := Lib.hid (ins_own o49 HW5.out.size ha (by omega))
        have HB' := Lib.hid (btr HW5.out hHeld)
        have HLN : Hid ((insZ o a x).length = a + 1) := Lib.hid (by rw [insZ_len, HOL.out])
        have HPN : Hid ((insZ o a x).Perm (zs.take (a + 1))) := Lib.hid ((insZ_perm o a x).trans (by rw [HTK.out]; exact HPO.out.append_right [x]))
        clear hHeld n47 n49 o47 o49 g47 g49
        go_wp2
        go_roundw
        case rel => exact ⟨a + 1, insZ o a x, by omega, by go_num, HNIL'.out, HO'.out, HLN.out, HINS.out, HPN.out, HB'.out⟩
        case measure => simp [intOf]; omega
     ·have hca2 : ¬ a = cpo := fun h => hca h.symm
      rcases hcase with ⟨e1, e2⟩ | ⟨e1, e2, ha0, e3⟩
      ·go_wp2_with fail
       go_quiet (fail)
       have HBW := Lib.hid (HBID.out nq)
       generalize wr.drewN nq = wi at *
       have HW := Lib.hid (btr HB.out HBW.out)
       have HGI : Hid (go < wi.heap.size) := Lib.hid (Nat.lt_of_lt_of_le HGO.out HBW.out.size)
       have HOCI := Lib.hid (show ∀ k, k < j → wi.cell? ⟨go, k, none⟩ = some (.int .i64 (cellD o k)) from fun k hk => (HBW.out.cell (p := ⟨go, k, none⟩) HGO.out).trans (HOC.out k hk))
       have HZI := Lib.hid ((HW.out.cell (p := ⟨gz, j, none⟩) HZL.out).trans HZ.out)
       have hown0 := World.ownsRow_lit (base := wi.heap.size) (e := 2) (size := 1) wi #[] 0 (by exact Nat.le_refl _) (by unfold maxLen; omega) (by simp)
       have HL0 := Lib.hid hown0
       have hai : Below wi.heap.size wi (wi.alloc (.cells #[] 2)) := (Below.refl _ _).alloc (Nat.le_refl _) _
       have HR1 : Hid (((o.drop a).map (Value.int .i64)).length = (j - a)) := Lib.hid (by have := HOL.out; simp; omega)
       have HR2 : Hid (0 < (j - a) → ∃ ad, (some ⟨go, a, none⟩ : Option Addr) = some ad ∧ ∀ j' u, ((o.drop a).map (Value.int .i64))[j']? = some u → (wi.alloc (.cells #[] 2)).cell? (ad.add j') = some u) := Lib.hid (fun _ => ⟨_, rfl, fun j' u hu => by rw [addr_add]; exact drop_news HOCI.out HOL.out HGI.out hai hu⟩)
       have HR3 : Hid (∀ u ∈ (o.drop a).map (Value.int .i64), u.oneCell' = true) := Lib.hid (fun u hu => by obtain ⟨z, -, rfl⟩ := List.mem_map.1 hu; rfl)
       have HT1 : Hid (((o.take a).map (Value.int .i64)).length = a) := Lib.hid (by have := HOL.out; simp; omega)
       have HT3 : Hid (∀ u ∈ (o.take a).map (Value.int .i64), u.oneCell' = true) := Lib.hid (fun u hu => by obtain ⟨z, -, rfl⟩ := List.mem_map.1 hu; rfl)
       clear hown0 hai
       go_wp2_with (at_builtin; refine wpList_append_lit1 rfl _ _ 54 rfl wi.heap.size 2 i0 (.int .i64 0) 8 Tryz.underlying54 hi hz0 hz1 hz2 rfl wi.heap.size 0 rfl HL0.out (some ⟨go, a, none⟩) (j - a) (cpo - a) ((o.drop a).map (Value.int .i64)) rfl HR1.out HR2.out HR3.out (by unfold maxLen; omega) (by omega) (by simp) ?_)
       intro v5 w5 o5 g5 n5 q5
       have HB5 : Hid (Below wi.heap.size wi w5) := Lib.hid (((Below.refl _ _).alloc (Nat.le_refl _) _).grown g5 (by simp) (fun k e => by have := Option.some.inj e; omega))
       have o5b : w5.ownsRow wi.heap.size 2 1 v5 (o.drop a).length ((o.drop a).map (Value.int .i64)) := by
        have := HR1.out
        rw [List.length_map] at this
        rw [this]; first | exact o5 | (rw [List.map_drop]; exact o5)
       obtain ⟨gr, cpr, rfl, hgr, hcpr, curr, hcr, hcrz⟩ := own_row o5b n5
       have hdl : (o.drop a).length = (j - a) := by have := HR1.out; rwa [List.length_map] at this
       rw [hdl] at hcpr ⊢
       have HRN := Lib.hid (show ∀ w', Below w5.heap.size w5 w' → ∀ j' u, ((o.drop a).map (Value.int .i64))[j']? = some u → w'.cell? ((⟨gr, 0, none⟩ : Addr).add j') = some u from fun w' hb j' u hu => by
        rw [addr_add, Nat.zero_add]
        rw [List.getElem?_map] at hu
        cases hz : (o.drop a)[j']? with
        | none => rw [hz] at hu; simp at hu
        | some z =>
         rw [hz] at hu
         simp at hu
         subst hu
         exact (hb.cell (p := ⟨gr, j', none⟩) hcr.lt).trans ((hcr.cell j').trans (hcrz j' z hz)))
       have HZ5 := Lib.hid ((HB5.out.cell (p := ⟨gz, j, none⟩) (Nat.lt_of_lt_of_le HZL.out HW.out.size)).trans HZI.out)
       have HZ5L : Hid (gz < w5.heap.size) := Lib.hid (Nat.lt_of_lt_of_le HZL.out (Nat.le_trans HW.out.size HB5.out.size))
       have HW5 := Lib.hid (btr HW.out HB5.out)
       have HT2 := Lib.hid (show ∀ w', Below w5.heap.size w5 w' → (0 < a → ∃ ad, (some ⟨go, 0, none⟩ : Option Addr) = some ad ∧ ∀ j' u, ((o.take a).map (Value.int .i64))[j']? = some u → w'.cell? (ad.add j') = some u) from fun w' hb _ => ⟨_, rfl, fun j' u hu => by
        rw [addr_add, Nat.zero_add]
        exact take_news HOCI.out HOL.out HGI.out (btr HB5.out hb) hu⟩)
       have hR1' : ((o.drop a).map (Value.int .i64)).length = (j - a) * 1 := by rw [HR1.out]; first | done | omega
       have HR1' := Lib.hid hR1'
       have a0 : (0 : Int) ≤ (a : Int) := by omega
       have a1 : (a : Int) ≤ (cpo : Int) := by omega
       have m1 : a + 1 ≤ maxLen := by unfold maxLen; omega
       have m2 : a + 1 + (j - a) ≤ maxLen := by unfold maxLen; omega
       have m3 : a ≤ maxLen := by unfold maxLen; omega
       have HA2 : Hid (((w5.alloc (.cells #[] 2)).alloc (.cells #[.int .i64 x] 2)).drew.cell? ⟨w5.heap.size + 1, 0, none⟩ = some (.int .i64 x)) := Lib.hid (by simp)
       have HLB : Hid (World.ownsRow ((w5.alloc (.cells #[.int .i64 x] 2)).alloc (.cells #[] 2)).drew w5.heap.size 2 1 (.slice (some ⟨w5.heap.size + 1, 0, none⟩) 0 0) 0 []) := Lib.hid (by
        have := World.ownsRow_lit (base := w5.heap.size) (e := 2) (size := 1) (w5.alloc (.cells #[.int .i64 x] 2)) #[] 0 (by simp) (by unfold maxLen; omega) (by simp)
        rw [show (w5.alloc (.cells #[.int .i64 x] 2)).heap.size = w5.heap.size + 1 by simp] at this
        exact this)
       have HBB : Hid (((w5.alloc (.cells #[.int .i64 x] 2)).alloc (.cells #[] 2)).drew.cell? ⟨w5.heap.size, 0, none⟩ = some (.int .i64 x)) := Lib.hid (by simp)
       clear o5 g5 n5 q5 o5b hcr hcrz hdl hgr hR1' HL0 HR2 HOCI HZI
       go_wp2_with fail
       refine wp_region_held_drew (S := fun w' => Below w5.heap.size w5 w') (by kernel_rfl) (by exact below_drewN (Below.refl _ _) 1) (fun hHeld => ?_)
       refine tkH (i := 1) (v := ?_) rfl (by kernel_rfl) (fun _ _ _ h => h) (Or.inl ⟨by rfl, ?_⟩) (by assumption) ?_
       rotate_left
       ·intro w hSw
        try dsimp only at hSw
        go_simp
        try with_reducible rfl
       simp only [Act.put, z1, z2, z3, z4, z5, z6]
       refine tkH (i := 2) (v := ?_) rfl (by kernel_rfl) (fun _ _ _ h => h) (Or.inl ⟨by rfl, ?_⟩) (by assumption) ?_
       rotate_left
       ·intro w hSw
        try dsimp only at hSw
        go_simp
        try with_reducible rfl
       simp only [Act.put, z1, z2, z3, z4, z5, z6]
       refine tkH (i := 3) (v := ?_) rfl (by kernel_rfl) (fun _ _ _ h => h) (Or.inl ⟨by rfl, ?_⟩) (by assumption) ?_
       rotate_left
       ·intro w hSw
        try dsimp only at hSw
        go_simp
        try with_reducible rfl
       simp only [Act.put, z1, z2, z3, z4, z5, z6]
       refine tkH (i := 5) (v := ?_) rfl (by kernel_rfl) (fun _ _ _ h => h) (Or.inl ⟨by rfl, ?_⟩) (by assumption) ?_
       rotate_left
       ·intro w hSw
        try dsimp only at hSw
        go_simp
        try with_reducible rfl
       simp only [Act.put, z1, z2, z3, z4, z5, z6]
       refine tkH (i := 6) (v := ?_) rfl (by kernel_rfl) (fun _ _ _ h => h) (Or.inl ⟨by rfl, ?_⟩) (by assumption) ?_
       rotate_left
       ·intro w hSw
        try dsimp only at hSw
        go_simp
        try with_reducible rfl
       simp only [Act.put, z1, z2, z3, z4, z5, z6]
       refine tkH (i := 7) (v := ?_) rfl (by kernel_rfl) (fun _ _ _ h => h) (Or.inl ⟨by rfl, ?_⟩) (by assumption) ?_
       rotate_left
       ·intro w hSw
        try dsimp only at hSw
        go_simp
        try with_reducible rfl
       simp only [Act.put, z1, z2, z3, z4, z5, z6]
       refine tkH (i := 8) (v := ?_) rfl (by kernel_rfl) (fun _ _ _ h => h) (Or.inl ⟨by rfl, ?_⟩) (by assumption) ?_
       rotate_left
       ·intro w hSw
        have q := (hSw.cell (p := ⟨gz, j, none⟩) HZ5L.out).trans HZ5.out
        go_simp
        try with_reducible rfl
       simp only [Act.put, z1, z2, z3, z4, z5, z6]
       refine tkH (i := 11) (v := ?_) rfl (by kernel_rfl) (fun _ _ _ h => h) (Or.inl ⟨by rfl, ?_⟩) (by assumption) ?_
       rotate_left
       ·intro w hSw
        try dsimp only at hSw
        go_simp
        try with_reducible rfl
       simp only [Act.put, z1, z2, z3, z4, z5, z6]
       refine wpAnyH_ready (rs := [0, 9]) (by kernel_rfl) (by simp) ?_
       refine AllReadyH.cons rfl (fun Kc hKc => ?_) (AllReadyH.cons rfl (fun Kc hKc => ?_) AllReadyH.nil)
       ·go_simp
        refine hKc.out _ _ ?_ (fun hHeld => ?_)
        ·first | exact hHeld.alloc hHeld.size _ | exact hHeld.grown g49 hHeld.size (fun k e => (o47.lt k e).1) | exact hHeld.grown g47 hHeld.size (fun k e => (o41.lt k e).1) | exact hHeld.grown g41 hHeld.size (fun k e => by have := Option.some.inj e; subst this; simp) | exact hHeld.grown g41 hHeld.size (fun k e => by have := Option.some.inj e; subst this; exact Nat.le_refl _)
        clear hKc Kc
        refine wpAnyH_ready (rs := [4, 9]) (by kernel_rfl) (by simp) ?_
        refine AllReadyH.cons rfl (fun Kc hKc => ?_) (AllReadyH.cons rfl (fun Kc hKc => ?_) AllReadyH.nil)
        ·first | (refine wp_append_lit _ _ 54 rfl w5.heap.size 2 i0 (.int .i64 0) 8 Tryz.underlying54 hi hz0 hz1 hz2 rfl _ 0 rfl (by first | exact World.ownsRow_lit (base := w5.heap.size) (e := 2) (size := 1) _ #[] 0 (by first | exact Nat.le_refl _ | simp) (by unfold maxLen; omega) (by simp) | exact (World.ownsRow_lit (base := w5.heap.size) (e := 2) (size := 1) _ #[] 0 (by first | exact Nat.le_refl _ | simp) (by unfold maxLen; omega) (by simp)).alloc _ | exact HLB.out) (some ⟨go, 0, none⟩) a cpo ((o.take a).map (Value.int .i64)) rfl HT1.out (HT2.out _ hHeld) HT3.out m3 (by omega) hHeld.size ?_; intro v41 w41 o41 g41 n41 q41) | (refine wp_append_own_at _ _ 54 rfl w5.heap.size 2 i0 (.int .i64 0) 1 8 Tryz.underlying54 hi hz0 hz1 hz2 rfl (by decide) _ a ((o.take a).map (Value.int .i64)) rfl (by first | exact o41 | exact o41.alloc _) _ 1 1 [.int .i64 x] rfl rfl (by first | exact cell_one_new _ _ _ | exact one_cells (g41.cell HA2.out (by simp)) | exact one_cells (g41.cell HBB.out (by simp))) (by simp [Value.oneCell']) m1 (by omega) hHeld.size ?_; intro v47 w47 o47 g47 n47 q47) | (refine wp_append_own_at _ _ 54 rfl w5.heap.size 2 i0 (.int .i64 0) 1 8 Tryz.underlying54 hi hz0 hz1 hz2 rfl (by decide) _ (a + 1) ((o.take a).map (Value.int .i64) ++ [.int .i64 x]) rfl (by exact o47) ⟨gr, 0, none⟩ (j - a) cpr ((o.drop a).map (Value.int .i64)) rfl HR1'.out (HRN.out _ hHeld) HR3.out m2 (by omega) hHeld.size ?_; intro v49 w49 o49 g49 n49 q49)
         refine hKc.out _ _ ?_ (fun hHeld => ?_)
         ·first | exact hHeld.alloc hHeld.size _ | exact hHeld.grown g49 hHeld.size (fun k e => (o47.lt k e).1) | exact hHeld.grown g47 hHeld.size (fun k e => (o41.lt k e).1) | exact hHeld.grown g41 hHeld.size (fun k e => by have := Option.some.inj e; subst this; simp) | exact hHeld.grown g41 hHeld.size (fun k e => by have := Option.some.inj e; subst this; exact Nat.le_refl _)
         clear hKc Kc
         refine wpAnyH_ready (rs := [9]) (by kernel_rfl) (by simp) ?_
         refine AllReadyH.cons rfl (fun Kc hKc => ?_) AllReadyH.nil
         go_simp
         refine hKc.out _ _ ?_ (fun hHeld => ?_)
         ·first | exact hHeld.alloc hHeld.size _ | exact hHeld.grown g49 hHeld.size (fun k e => (o47.lt k e).1) | exact hHeld.grown g47 hHeld.size (fun k e => (o41.lt k e).1) | exact hHeld.grown g41 hHeld.size (fun k e => by have := Option.some.inj e; subst this; simp) | exact hHeld.grown g41 hHeld.size (fun k e => by have := Option.some.inj e; subst this; exact Nat.le_refl _)
         clear hKc Kc
         refine wpAnyH_ready (rs := [10]) (by kernel_rfl) (by simp) ?_
         refine AllReadyH.cons rfl (fun Kc hKc => ?_) AllReadyH.nil
         first | (refine wp_append_lit _ _ 54 rfl w5.heap.size 2 i0 (.int .i64 0) 8 Tryz.underlying54 hi hz0 hz1 hz2 rfl _ 0 rfl (by first | exact World.ownsRow_lit (base := w5.heap.size) (e := 2) (size := 1) _ #[] 0 (by first | exact Nat.le_refl _ | simp) (by unfold maxLen; omega) (by simp) | exact (World.ownsRow_lit (base := w5.heap.size) (e := 2) (size := 1) _ #[] 0 (by first | exact Nat.le_refl _ | simp) (by unfold maxLen; omega) (by simp)).alloc _ | exact HLB.out) (some ⟨go, 0, none⟩) a cpo ((o.take a).map (Value.int .i64)) rfl HT1.out (HT2.out _ hHeld) HT3.out m3 (by omega) hHeld.size ?_; intro v41 w41 o41 g41 n41 q41) | (refine wp_append_own_at _ _ 54 rfl w5.heap.size 2 i0 (.int .i64 0) 1 8 Tryz.underlying54 hi hz0 hz1 hz2 rfl (by decide) _ a ((o.take a).map (Value.int .i64)) rfl (by first | exact o41 | exact o41.alloc _) _ 1 1 [.int .i64 x] rfl rfl (by first | exact cell_one_new _ _ _ | exact one_cells (g41.cell HA2.out (by simp)) | exact one_cells (g41.cell HBB.out (by simp))) (by simp [Value.oneCell']) m1 (by omega) hHeld.size ?_; intro v47 w47 o47 g47 n47 q47) | (refine wp_append_own_at _ _ 54 rfl w5.heap.size 2 i0 (.int .i64 0) 1 8 Tryz.underlying54 hi hz0 hz1 hz2 rfl (by decide) _ (a + 1) ((o.take a).map (Value.int .i64) ++ [.int .i64 x]) rfl (by exact o47) ⟨gr, 0, none⟩ (j - a) cpr ((o.drop a).map (Value.int .i64)) rfl HR1'.out (HRN.out _ hHeld) HR3.out m2 (by omega) hHeld.size ?_; intro v49 w49 o49 g49 n49 q49)
         refine hKc.out _ _ ?_ (fun hHeld => ?_)
         ·first | exact hHeld.alloc hHeld.size _ | exact hHeld.grown g49 hHeld.size (fun k e => (o47.lt k e).1) | exact hHeld.grown g47 hHeld.size (fun k e => (o41.lt k e).1) | exact hHeld.grown g41 hHeld.size (fun k e => by have := Option.some.inj e; subst this; simp) | exact hHeld.grown g41 hHeld.size (fun k e => by have := Option.some.inj e; subst this; exact Nat.le_refl _)
         clear hKc Kc
         refine wpAnyH_ready (rs := [12]) (by kernel_rfl) (by simp) ?_
         refine AllReadyH.cons rfl (fun Kc hKc => ?_) AllReadyH.nil
         first | (refine wp_append_lit _ _ 54 rfl w5.heap.size 2 i0 (.int .i64 0) 8 Tryz.underlying54 hi hz0 hz1 hz2 rfl _ 0 rfl (by first | exact World.ownsRow_lit (base := w5.heap.size) (e := 2) (size := 1) _ #[] 0 (by first | exact Nat.le_refl _ | simp) (by unfold maxLen; omega) (by simp) | exact (World.ownsRow_lit (base := w5.heap.size) (e := 2) (size := 1) _ #[] 0 (by first | exact Nat.le_refl _ | simp) (by unfold maxLen; omega) (by simp)).alloc _ | exact HLB.out) (some ⟨go, 0, none⟩) a cpo ((o.take a).map (Value.int .i64)) rfl HT1.out (HT2.out _ hHeld) HT3.out m3 (by omega) hHeld.size ?_; intro v41 w41 o41 g41 n41 q41) | (refine wp_append_own_at _ _ 54 rfl w5.heap.size 2 i0 (.int .i64 0) 1 8 Tryz.underlying54 hi hz0 hz1 hz2 rfl (by decide) _ a ((o.take a).map (Value.int .i64)) rfl (by first | exact o41 | exact o41.alloc _) _ 1 1 [.int .i64 x] rfl rfl (by first | exact cell_one_new _ _ _ | exact one_cells (g41.cell HA2.out (by simp)) | exact one_cells (g41.cell HBB.out (by simp))) (by simp [Value.oneCell']) m1 (by omega) hHeld.size ?_; intro v47 w47 o47 g47 n47 q47) | (refine wp_append_own_at _ _ 54 rfl w5.heap.size 2 i0 (.int .i64 0) 1 8 Tryz.underlying54 hi hz0 hz1 hz2 rfl (by decide) _ (a + 1) ((o.take a).map (Value.int .i64) ++ [.int .i64 x]) rfl (by exact o47) ⟨gr, 0, none⟩ (j - a) cpr ((o.drop a).map (Value.int .i64)) rfl HR1'.out (HRN.out _ hHeld) HR3.out m2 (by omega) hHeld.size ?_; intro v49 w49 o49 g49 n49 q49)
         refine hKc.out _ _ ?_ (fun hHeld => ?_)
         ·first | exact hHeld.alloc hHeld.size _ | exact hHeld.grown g49 hHeld.size (fun k e => (o47.lt k e).1) | exact hHeld.grown g47 hHeld.size (fun k e => (o41.lt k e).1) | exact hHeld.grown g41 hHeld.size (fun k e => by have := Option.some.inj e; subst this; simp) | exact hHeld.grown g41 hHeld.size (fun k e => by have := Option.some.inj e; subst this; exact Nat.le_refl _)
         clear hKc Kc
         refine tkH (i := 13) (v := ?_) rfl (by kernel_rfl) (fun _ _ _ h => h) (Or.inl ⟨by rfl, ?_⟩) (by assumption) ?_
         rotate_left
         ·intro w hSw
          try dsimp only at hSw
          go_simp
          try with_reducible rfl
         simp only [Act.put, z1, z2, z3, z4, z5, z6]
         refine wpAnyH_done (by kernel_rfl) ?_ _
         have HNIL' : Hid (v49 ≠ .slice none 0 0) := Lib.hid (fun h => by have := (n47.1 (n49.1 h).1).2; omega)
         have HO' : Hid (w49.ownsRow w.heap.size 2 1 v49 (j + 1) ((insZ o a x).map (Value.int .i64))) := Lib.hid (ins_own o49 HW5.out.size ha (by omega))
         have HB' := Lib.hid (btr HW5.out hHeld)
         have HLN : Hid ((insZ o a x).length = j + 1) := Lib.hid (by rw [insZ_len, HOL.out])
         have HPN : Hid ((insZ o a x).Perm (zs.take (j + 1))) := Lib.hid ((insZ_perm o a x).trans (by rw [HTK.out]; exact HPO.out.append_right [x]))
         clear hHeld n47 n49 o47 o49 g47 g49
         go_wp2
         go_roundw
         case rel => exact ⟨j + 1, insZ o a x, by omega, by go_num, HNIL'.out, HO'.out, HLN.out, HINS.out, HPN.out, HB'.out⟩
         case measure => simp [intOf]; omega
        ·go_simp
         refine hKc.out _ _ ?_ (fun hHeld => ?_)
         ·first | exact hHeld.alloc hHeld.size _ | exact hHeld.grown g49 hHeld.size (fun k e => (o47.lt k e).1) | exact hHeld.grown g47 hHeld.size (fun k e => (o41.lt k e).1) | exact hHeld.grown g41 hHeld.size (fun k e => by have := Option.some.inj e; subst this; simp) | exact hHeld.grown g41 hHeld.size (fun k e => by have := Option.some.inj e; subst this; exact Nat.le_refl _)
         clear hKc Kc
         refine wpAnyH_ready (rs := [4]) (by kernel_rfl) (by simp) ?_
         refine AllReadyH.cons rfl (fun Kc hKc => ?_) AllReadyH.nil
         first | (refine wp_append_lit _ _ 54 rfl w5.heap.size 2 i0 (.int .i64 0) 8 Tryz.underlying54 hi hz0 hz1 hz2 rfl _ 0 rfl (by first | exact World.ownsRow_lit (base := w5.heap.size) (e := 2) (size := 1) _ #[] 0 (by first | exact Nat.le_refl _ | simp) (by unfold maxLen; omega) (by simp) | exact (World.ownsRow_lit (base := w5.heap.size) (e := 2) (size := 1) _ #[] 0 (by first | exact Nat.le_refl _ | simp) (by unfold maxLen; omega) (by simp)).alloc _ | exact HLB.out) (some ⟨go, 0, none⟩) a cpo ((o.take a).map (Value.int .i64)) rfl HT1.out (HT2.out _ hHeld) HT3.out m3 (by omega) hHeld.size ?_; intro v41 w41 o41 g41 n41 q41) | (refine wp_append_own_at _ _ 54 rfl w5.heap.size 2 i0 (.int .i64 0) 1 8 Tryz.underlying54 hi hz0 hz1 hz2 rfl (by decide) _ a ((o.take a).map (Value.int .i64)) rfl (by first | exact o41 | exact o41.alloc _) _ 1 1 [.int .i64 x] rfl rfl (by first | exact cell_one_new _ _ _ | exact one_cells (g41.cell HA2.out (by simp)) | exact one_cells (g41.cell HBB.out (by simp))) (by simp [Value.oneCell']) m1 (by omega) hHeld.size ?_; intro v47 w47 o47 g47 n47 q47) | (refine wp_append_own_at _ _ 54 rfl w5.heap.size 2 i0 (.int .i64 0) 1 8 Tryz.underlying54 hi hz0 hz1 hz2 rfl (by decide) _ (a + 1) ((o.take a).map (Value.int .i64) ++ [.int .i64 x]) rfl (by exact o47) ⟨gr, 0, none⟩ (j - a) cpr ((o.drop a).map (Value.int .i64)) rfl HR1'.out (HRN.out _ hHeld) HR3.out m2 (by omega) hHeld.size ?_; intro v49 w49 o49 g49 n49 q49)
         refine hKc.out _ _ ?_ (fun hHeld => ?_)
         ·first | exact hHeld.alloc hHeld.size _ | exact hHeld.grown g49 hHeld.size (fun k e => (o47.lt k e).1) | exact hHeld.grown g47 hHeld.size (fun k e => (o41.lt k e).1) | exact hHeld.grown g41 hHeld.size (fun k e => by have := Option.some.inj e; subst this; simp) | exact hHeld.grown g41 hHeld.size (fun k e => by have := Option.some.inj e; subst this; exact Nat.le_refl _)
         clear hKc Kc
         refine wpAnyH_ready (rs := [10]) (by kernel_rfl) (by simp) ?_
         refine AllReadyH.cons rfl (fun Kc hKc => ?_) AllReadyH.nil
         first | (refine wp_append_lit _ _ 54 rfl w5.heap.size 2 i0 (.int .i64 0) 8 Tryz.underlying54 hi hz0 hz1 hz2 rfl _ 0 rfl (by first | exact World.ownsRow_lit (base := w5.heap.size) (e := 2) (size := 1) _ #[] 0 (by first | exact Nat.le_refl _ | simp) (by unfold maxLen; omega) (by simp) | exact (World.ownsRow_lit (base := w5.heap.size) (e := 2) (size := 1) _ #[] 0 (by first | exact Nat.le_refl _ | simp) (by unfold maxLen; omega) (by simp)).alloc _ | exact HLB.out) (some ⟨go, 0, none⟩) a cpo ((o.take a).map (Value.int .i64)) rfl HT1.out (HT2.out _ hHeld) HT3.out m3 (by omega) hHeld.size ?_; intro v41 w41 o41 g41 n41 q41) | (refine wp_append_own_at _ _ 54 rfl w5.heap.size 2 i0 (.int .i64 0) 1 8 Tryz.underlying54 hi hz0 hz1 hz2 rfl (by decide) _ a ((o.take a).map (Value.int .i64)) rfl (by first | exact o41 | exact o41.alloc _) _ 1 1 [.int .i64 x] rfl rfl (by first | exact cell_one_new _ _ _ | exact one_cells (g41.cell HA2.out (by simp)) | exact one_cells (g41.cell HBB.out (by simp))) (by simp [Value.oneCell']) m1 (by omega) hHeld.size ?_; intro v47 w47 o47 g47 n47 q47) | (refine wp_append_own_at _ _ 54 rfl w5.heap.size 2 i0 (.int .i64 0) 1 8 Tryz.underlying54 hi hz0 hz1 hz2 rfl (by decide) _ (a + 1) ((o.take a).map (Value.int .i64) ++ [.int .i64 x]) rfl (by exact o47) ⟨gr, 0, none⟩ (j - a) cpr ((o.drop a).map (Value.int .i64)) rfl HR1'.out (HRN.out _ hHeld) HR3.out m2 (by omega) hHeld.size ?_; intro v49 w49 o49 g49 n49 q49)
         refine hKc.out _ _ ?_ (fun hHeld => ?_)
         ·first | exact hHeld.alloc hHeld.size _ | exact hHeld.grown g49 hHeld.size (fun k e => (o47.lt k e).1) | exact hHeld.grown g47 hHeld.size (fun k e => (o41.lt k e).1) | exact hHeld.grown g41 hHeld.size (fun k e => by have := Option.some.inj e; subst this; simp) | exact hHeld.grown g41 hHeld.size (fun k e => by have := Option.some.inj e; subst this; exact Nat.le_refl _)
         clear hKc Kc
         refine wpAnyH_ready (rs := [12]) (by kernel_rfl) (by simp) ?_
         refine AllReadyH.cons rfl (fun Kc hKc => ?_) AllReadyH.nil
         first | (refine wp_append_lit _ _ 54 rfl w5.heap.size 2 i0 (.int .i64 0) 8 Tryz.underlying54 hi hz0 hz1 hz2 rfl _ 0 rfl (by first | exact World.ownsRow_lit (base := w5.heap.size) (e := 2) (size := 1) _ #[] 0 (by first | exact Nat.le_refl _ | simp) (by unfold maxLen; omega) (by simp) | exact (World.ownsRow_lit (base := w5.heap.size) (e := 2) (size := 1) _ #[] 0 (by first | exact Nat.le_refl _ | simp) (by unfold maxLen; omega) (by simp)).alloc _ | exact HLB.out) (some ⟨go, 0, none⟩) a cpo ((o.take a).map (Value.int .i64)) rfl HT1.out (HT2.out _ hHeld) HT3.out m3 (by omega) hHeld.size ?_; intro v41 w41 o41 g41 n41 q41) | (refine wp_append_own_at _ _ 54 rfl w5.heap.size 2 i0 (.int .i64 0) 1 8 Tryz.underlying54 hi hz0 hz1 hz2 rfl (by decide) _ a ((o.take a).map (Value.int .i64)) rfl (by first | exact o41 | exact o41.alloc _) _ 1 1 [.int .i64 x] rfl rfl (by first | exact cell_one_new _ _ _ | exact one_cells (g41.cell HA2.out (by simp)) | exact one_cells (g41.cell HBB.out (by simp))) (by simp [Value.oneCell']) m1 (by omega) hHeld.size ?_; intro v47 w47 o47 g47 n47 q47) | (refine wp_append_own_at _ _ 54 rfl w5.heap.size 2 i0 (.int .i64 0) 1 8 Tryz.underlying54 hi hz0 hz1 hz2 rfl (by decide) _ (a + 1) ((o.take a).map (Value.int .i64) ++ [.int .i64 x]) rfl (by exact o47) ⟨gr, 0, none⟩ (j - a) cpr ((o.drop a).map (Value.int .i64)) rfl HR1'.out (HRN.out _ hHeld) HR3.out m2 (by omega) hHeld.size ?_; intro v49 w49 o49 g49 n49 q49)
         refine hKc.out _ _ ?_ (fun hHeld => ?_)
         ·first | exact hHeld.alloc hHeld.size _ | exact hHeld.grown g49 hHeld.size (fun k e => (o47.lt k e).1) | exact hHeld.grown g47 hHeld.size (fun k e => (o41.lt k e).1) | exact hHeld.grown g41 hHeld.size (fun k e => by have := Option.some.inj e; subst this; simp) | exact hHeld.grown g41 hHeld.size (fun k e => by have := Option.some.inj e; subst this; exact Nat.le_refl _)
         clear hKc Kc
         refine tkH (i := 13) (v := ?_) rfl (by kernel_rfl) (fun _ _ _ h => h) (Or.inl ⟨by rfl, ?_⟩) (by assumption) ?_
         rotate_left
         ·intro w hSw
          try dsimp only at hSw
          go_simp
          try with_reducible rfl
         simp only [Act.put, z1, z2, z3, z4, z5, z6]
         refine wpAnyH_done (by kernel_rfl) ?_ _
         have HNIL' : Hid (v49 ≠ .slice none 0 0) := Lib.hid (fun h => by have := (n47.1 (n49.1 h).1).2; omega)
         have HO' : Hid (w49.ownsRow w.heap.size 2 1 v49 (j + 1) ((insZ o a x).map (Value.int .i64))) := Lib.hid (ins_own o49 HW5.out.size ha (by omega))
         have HB' := Lib.hid (btr HW5.out hHeld)
         have HLN : Hid ((insZ o a x).length = j + 1) := Lib.hid (by rw [insZ_len, HOL.out])
         have HPN : Hid ((insZ o a x).Perm (zs.take (j + 1))) := Lib.hid ((insZ_perm o a x).trans (by rw [HTK.out]; exact HPO.out.append_right [x]))
         clear hHeld n47 n49 o47 o49 g47 g49
         go_wp2
         go_roundw
         case rel => exact ⟨j + 1, insZ o a x, by omega, by go_num, HNIL'.out, HO'.out, HLN.out, HINS.out, HPN.out, HB'.out⟩
         case measure => simp [intOf]; omega
       ·go_simp
        refine hKc.out _ _ ?_ (fun hHeld => ?_)
        ·first | exact hHeld.alloc hHeld.size _ | exact hHeld.grown g49 hHeld.size (fun k e => (o47.lt k e).1) | exact hHeld.grown g47 hHeld.size (fun k e => (o41.lt k e).1) | exact hHeld.grown g41 hHeld.size (fun k e => by have := Option.some.inj e; subst this; simp) | exact hHeld.grown g41 hHeld.size (fun k e => by have := Option.some.inj e; subst this; exact Nat.le_refl _)
        clear hKc Kc
        refine wpAnyH_ready (rs := [0]) (by kernel_rfl) (by simp) ?_
        refine AllReadyH.cons rfl (fun Kc hKc => ?_) AllReadyH.nil
        go_simp
        refine hKc.out _ _ ?_ (fun hHeld => ?_)
        ·first | exact hHeld.alloc hHeld.size _ | exact hHeld.grown g49 hHeld.size (fun k e => (o47.lt k e).1) | exact hHeld.grown g47 hHeld.size (fun k e => (o41.lt k e).1) | exact hHeld.grown g41 hHeld.size (fun k e => by have := Option.some.inj e; subst this; simp) | exact hHeld.grown g41 hHeld.size (fun k e => by have := Option.some.inj e; subst this; exact Nat.le_refl _)
        clear hKc Kc
        refine wpAnyH_ready (rs := [4]) (by kernel_rfl) (by simp) ?_
        refine AllReadyH.cons rfl (fun Kc hKc => ?_) AllReadyH.nil
        first | (refine wp_append_lit _ _ 54 rfl w5.heap.size 2 i0 (.int .i64 0) 8 Tryz.underlying54 hi hz0 hz1 hz2 rfl _ 0 rfl (by first | exact World.ownsRow_lit (base := w5.heap.size) (e := 2) (size := 1) _ #[] 0 (by first | exact Nat.le_refl _ | simp) (by unfold maxLen; omega) (by simp) | exact (World.ownsRow_lit (base := w5.heap.size) (e := 2) (size := 1) _ #[] 0 (by first | exact Nat.le_refl _ | simp) (by unfold maxLen; omega) (by simp)).alloc _ | exact HLB.out) (some ⟨go, 0, none⟩) a cpo ((o.take a).map (Value.int .i64)) rfl HT1.out (HT2.out _ hHeld) HT3.out m3 (by omega) hHeld.size ?_; intro v41 w41 o41 g41 n41 q41) | (refine wp_append_own_at _ _ 54 rfl w5.heap.size 2 i0 (.int .i64 0) 1 8 Tryz.underlying54 hi hz0 hz1 hz2 rfl (by decide) _ a ((o.take a).map (Value.int .i64)) rfl (by first | exact o41 | exact o41.alloc _) _ 1 1 [.int .i64 x] rfl rfl (by first | exact cell_one_new _ _ _ | exact one_cells (g41.cell HA2.out (by simp)) | exact one_cells (g41.cell HBB.out (by simp))) (by simp [Value.oneCell']) m1 (by omega) hHeld.size ?_; intro v47 w47 o47 g47 n47 q47) | (refine wp_append_own_at _ _ 54 rfl w5.heap.size 2 i0 (.int .i64 0) 1 8 Tryz.underlying54 hi hz0 hz1 hz2 rfl (by decide) _ (a + 1) ((o.take a).map (Value.int .i64) ++ [.int .i64 x]) rfl (by exact o47) ⟨gr, 0, none⟩ (j - a) cpr ((o.drop a).map (Value.int .i64)) rfl HR1'.out (HRN.out _ hHeld) HR3.out m2 (by omega) hHeld.size ?_; intro v49 w49 o49 g49 n49 q49)
        refine hKc.out _ _ ?_ (fun hHeld => ?_)
        ·first | exact hHeld.alloc hHeld.size _ | exact hHeld.grown g49 hHeld.size (fun k e => (o47.lt k e).1) | exact hHeld.grown g47 hHeld.size (fun k e => (o41.lt k e).1) | exact hHeld.grown g41 hHeld.size (fun k e => by have := Option.some.inj e; subst this; simp) | exact hHeld.grown g41 hHeld.size (fun k e => by have := Option.some.inj e; subst this; exact Nat.le_refl _)
        clear hKc Kc
        refine wpAnyH_ready (rs := [10]) (by kernel_rfl) (by simp) ?_
        refine AllReadyH.cons rfl (fun Kc hKc => ?_) AllReadyH.nil
        first | (refine wp_append_lit _ _ 54 rfl w5.heap.size 2 i0 (.int .i64 0) 8 Tryz.underlying54 hi hz0 hz1 hz2 rfl _ 0 rfl (by first | exact World.ownsRow_lit (base := w5.heap.size) (e := 2) (size := 1) _ #[] 0 (by first | exact Nat.le_refl _ | simp) (by unfold maxLen; omega) (by simp) | exact (World.ownsRow_lit (base := w5.heap.size) (e := 2) (size := 1) _ #[] 0 (by first | exact Nat.le_refl _ | simp) (by unfold maxLen; omega) (by simp)).alloc _ | exact HLB.out) (some ⟨go, 0, none⟩) a cpo ((o.take a).map (Value.int .i64)) rfl HT1.out (HT2.out _ hHeld) HT3.out m3 (by omega) hHeld.size ?_; intro v41 w41 o41 g41 n41 q41) | (refine wp_append_own_at _ _ 54 rfl w5.heap.size 2 i0 (.int .i64 0) 1 8 Tryz.underlying54 hi hz0 hz1 hz2 rfl (by decide) _ a ((o.take a).map (Value.int .i64)) rfl (by first | exact o41 | exact o41.alloc _) _ 1 1 [.int .i64 x] rfl rfl (by first | exact cell_one_new _ _ _ | exact one_cells (g41.cell HA2.out (by simp)) | exact one_cells (g41.cell HBB.out (by simp))) (by simp [Value.oneCell']) m1 (by omega) hHeld.size ?_; intro v47 w47 o47 g47 n47 q47) | (refine wp_append_own_at _ _ 54 rfl w5.heap.size 2 i0 (.int .i64 0) 1 8 Tryz.underlying54 hi hz0 hz1 hz2 rfl (by decide) _ (a + 1) ((o.take a).map (Value.int .i64) ++ [.int .i64 x]) rfl (by exact o47) ⟨gr, 0, none⟩ (j - a) cpr ((o.drop a).map (Value.int .i64)) rfl HR1'.out (HRN.out _ hHeld) HR3.out m2 (by omega) hHeld.size ?_; intro v49 w49 o49 g49 n49 q49)
        refine hKc.out _ _ ?_ (fun hHeld => ?_)
        ·first | exact hHeld.alloc hHeld.size _ | exact hHeld.grown g49 hHeld.size (fun k e => (o47.lt k e).1) | exact hHeld.grown g47 hHeld.size (fun k e => (o41.lt k e).1) | exact hHeld.grown g41 hHeld.size (fun k e => by have := Option.some.inj e; subst this; simp) | exact hHeld.grown g41 hHeld.size (fun k e => by have := Option.some.inj e; subst this; exact Nat.le_refl _)
        clear hKc Kc
        refine wpAnyH_ready (rs := [12]) (by kernel_rfl) (by simp) ?_
        refine AllReadyH.cons rfl (fun Kc hKc => ?_) AllReadyH.nil
        first | (refine wp_append_lit _ _ 54 rfl w5.heap.size 2 i0 (.int .i64 0) 8 Tryz.underlying54 hi hz0 hz1 hz2 rfl _ 0 rfl (by first | exact World.ownsRow_lit (base := w5.heap.size) (e := 2) (size := 1) _ #[] 0 (by first | exact Nat.le_refl _ | simp) (by unfold maxLen; omega) (by simp) | exact (World.ownsRow_lit (base := w5.heap.size) (e := 2) (size := 1) _ #[] 0 (by first | exact Nat.le_refl _ | simp) (by unfold maxLen; omega) (by simp)).alloc _ | exact HLB.out) (some ⟨go, 0, none⟩) a cpo ((o.take a).map (Value.int .i64)) rfl HT1.out (HT2.out _ hHeld) HT3.out m3 (by omega) hHeld.size ?_; intro v41 w41 o41 g41 n41 q41) | (refine wp_append_own_at _ _ 54 rfl w5.heap.size 2 i0 (.int .i64 0) 1 8 Tryz.underlying54 hi hz0 hz1 hz2 rfl (by decide) _ a ((o.take a).map (Value.int .i64)) rfl (by first | exact o41 | exact o41.alloc _) _ 1 1 [.int .i64 x] rfl rfl (by first | exact cell_one_new _ _ _ | exact one_cells (g41.cell HA2.out (by simp)) | exact one_cells (g41.cell HBB.out (by simp))) (by simp [Value.oneCell']) m1 (by omega) hHeld.size ?_; intro v47 w47 o47 g47 n47 q47) | (refine wp_append_own_at _ _ 54 rfl w5.heap.size 2 i0 (.int .i64 0) 1 8 Tryz.underlying54 hi hz0 hz1 hz2 rfl (by decide) _ (a + 1) ((o.take a).map (Value.int .i64) ++ [.int .i64 x]) rfl (by exact o47) ⟨gr, 0, none⟩ (j - a) cpr ((o.drop a).map (Value.int .i64)) rfl HR1'.out (HRN.out _ hHeld) HR3.out m2 (by omega) hHeld.size ?_; intro v49 w49 o49 g49 n49 q49)
        refine hKc.out _ _ ?_ (fun hHeld => ?_)
        ·first | exact hHeld.alloc hHeld.size _ | exact hHeld.grown g49 hHeld.size (fun k e => (o47.lt k e).1) | exact hHeld.grown g47 hHeld.size (fun k e => (o41.lt k e).1) | exact hHeld.grown g41 hHeld.size (fun k e => by have := Option.some.inj e; subst this; simp) | exact hHeld.grown g41 hHeld.size (fun k e => by have := Option.some.inj e; subst this; exact Nat.le_refl _)
        clear hKc Kc
        refine tkH (i := 13) (v := ?_) rfl (by kernel_rfl) (fun _ _ _ h => h) (Or.inl ⟨by rfl, ?_⟩) (by assumption) ?_
        rotate_left
        ·intro w hSw
         try dsimp only at hSw
         go_simp
         try with_reducible rfl
        simp only [Act.put, z1, z2, z3, z4, z5, z6]
        refine wpAnyH_done (by kernel_rfl) ?_ _
        have HNIL' : Hid (v49 ≠ .slice none 0 0) := Lib.hid (fun h => by have := (n47.1 (n49.1 h).1).2; omega)
        have HO' : Hid (w49.ownsRow w.heap.size 2 1 v49 (j + 1) ((insZ o a x).map (Value.int .i64))) := Lib.hid (ins_own o49 HW5.out.size ha (by omega))
        have HB' := Lib.hid (btr HW5.out hHeld)
        have HLN : Hid ((insZ o a x).length = j + 1) := Lib.hid (by rw [insZ_len, HOL.out])
        have HPN : Hid ((insZ o a x).Perm (zs.take (j + 1))) := Lib.hid ((insZ_perm o a x).trans (by rw [HTK.out]; exact HPO.out.append_right [x]))
        clear hHeld n47 n49 o47 o49 g47 g49
        go_wp2
        go_roundw
        case rel => exact ⟨j + 1, insZ o a x, by omega, by go_num, HNIL'.out, HO'.out, HLN.out, HINS.out, HPN.out, HB'.out⟩
        case measure => simp [intOf]; omega
      ·have co := (HBI.out.cell (p := ⟨go, a - 1, none⟩) HGO.out).trans (HOC.out (a - 1) (by omega))
       have e4 : wrap64 ((a : Int) - 1) = ((a - 1 : Nat) : Int) := by unfold wrap64; omega
       have e5 : (0 : Int) ≤ ((a - 1 : Nat) : Int) := by omega
       have e6 : ((a - 1 : Nat) : Int) < (j : Int) := by omega
       generalize cellD o (a - 1) = y at *
       go_wp2_with fail
       go_quiet (fail)
       have HBW := Lib.hid (HBID.out nq)
       generalize wr.drewN nq = wi at *
       have HW := Lib.hid (btr HB.out HBW.out)
       have HGI : Hid (go < wi.heap.size) := Lib.hid (Nat.lt_of_lt_of_le HGO.out HBW.out.size)
       have HOCI := Lib.hid (show ∀ k, k < j → wi.cell? ⟨go, k, none⟩ = some (.int .i64 (cellD o k)) from fun k hk => (HBW.out.cell (p := ⟨go, k, none⟩) HGO.out).trans (HOC.out k hk))
       have HZI := Lib.hid ((HW.out.cell (p := ⟨gz, j, none⟩) HZL.out).trans HZ.out)
       have hown0 := World.ownsRow_lit (base := wi.heap.size) (e := 2) (size := 1) wi #[] 0 (by exact Nat.le_refl _) (by unfold maxLen; omega) (by simp)
       have HL0 := Lib.hid hown0
       have hai : Below wi.heap.size wi (wi.alloc (.cells #[] 2)) := (Below.refl _ _).alloc (Nat.le_refl _) _
       have HR1 : Hid (((o.drop a).map (Value.int .i64)).length = (j - a)) := Lib.hid (by have := HOL.out; simp; omega)
       have HR2 : Hid (0 < (j - a) → ∃ ad, (some ⟨go, a, none⟩ : Option Addr) = some ad ∧ ∀ j' u, ((o.drop a).map (Value.int .i64))[j']? = some u → (wi.alloc (.cells #[] 2)).cell? (ad.add j') = some u) := Lib.hid (fun _ => ⟨_, rfl, fun j' u hu => by rw [addr_add]; exact drop_news HOCI.out HOL.out HGI.out hai hu⟩)
       have HR3 : Hid (∀ u ∈ (o.drop a).map (Value.int .i64), u.oneCell' = true) := Lib.hid (fun u hu => by obtain ⟨z, -, rfl⟩ := List.mem_map.1 hu; rfl)
       have HT1 : Hid (((o.take a).map (Value.int .i64)).length = a) := Lib.hid (by have := HOL.out; simp; omega)
       have HT3 : Hid (∀ u ∈ (o.take a).map (Value.int .i64), u.oneCell' = true) := Lib.hid (fun u hu => by obtain ⟨z, -, rfl⟩ := List.mem_map.1 hu; rfl)
       clear hown0 hai
       go_wp2_with (at_builtin; refine wpList_append_lit1 rfl _ _ 54 rfl wi.heap.size 2 i0 (.int .i64 0) 8 Tryz.underlying54 hi hz0 hz1 hz2 rfl wi.heap.size 0 rfl HL0.out (some ⟨go, a, none⟩) (j - a) (cpo - a) ((o.drop a).map (Value.int .i64)) rfl HR1.out HR2.out HR3.out (by unfold maxLen; omega) (by omega) (by simp) ?_)
       intro v5 w5 o5 g5 n5 q5
       have HB5 : Hid (Below wi.heap.size wi w5) := Lib.hid (((Below.refl _ _).alloc (Nat.le_refl _) _).grown g5 (by simp) (fun k e => by have := Option.some.inj e; omega))
       have o5b : w5.ownsRow wi.heap.size 2 1 v5 (o.drop a).length ((o.drop a).map (Value.int .i64)) := by
        have := HR1.out
        rw [List.length_map] at this
        rw [this]; first | exact o5 | (rw [List.map_drop]; exact o5)
       obtain ⟨gr, cpr, rfl, hgr, hcpr, curr, hcr, hcrz⟩ := own_row o5b n5
       have hdl : (o.drop a).length = (j - a) := by have := HR1.out; rwa [List.length_map] at this
       rw [hdl] at hcpr ⊢
       have HRN := Lib.hid (show ∀ w', Below w5.heap.size w5 w' → ∀ j' u, ((o.drop a).map (Value.int .i64))[j']? = some u → w'.cell? ((⟨gr, 0, none⟩ : Addr).add j') = some u from fun w' hb j' u hu => by
        rw [addr_add, Nat.zero_add]
        rw [List.getElem?_map] at hu
        cases hz : (o.drop a)[j']? with
        | none => rw [hz] at hu; simp at hu
        | some z =>
         rw [hz] at hu
         simp at hu
         subst hu
         exact (hb.cell (p := ⟨gr, j', none⟩) hcr.lt).trans ((hcr.cell j').trans (hcrz j' z hz)))
       have HZ5 := Lib.hid ((HB5.out.cell (p := ⟨gz, j, none⟩) (Nat.lt_of_lt_of_le HZL.out HW.out.size)).trans HZI.out)
       have HZ5L : Hid (gz < w5.heap.size) := Lib.hid (Nat.lt_of_lt_of_le HZL.out (Nat.le_trans HW.out.size HB5.out.size))
       have HW5 := Lib.hid (btr HW.out HB5.out)
       have HT2 := Lib.hid (show ∀ w', Below w5.heap.size w5 w' → (0 < a → ∃ ad, (some ⟨go, 0, none⟩ : Option Addr) = some ad ∧ ∀ j' u, ((o.take a).map (Value.int .i64))[j']? = some u → w'.cell? (ad.add j') = some u) from fun w' hb _ => ⟨_, rfl, fun j' u hu => by
        rw [addr_add, Nat.zero_add]
        exact take_news HOCI.out HOL.out HGI.out (btr HB5.out hb) hu⟩)
       have hR1' : ((o.drop a).map (Value.int .i64)).length = (j - a) * 1 := by rw [HR1.out]; first | done | omega
       have HR1' := Lib.hid hR1'
       have a0 : (0 : Int) ≤ (a : Int) := by omega
       have a1 : (a : Int) ≤ (cpo : Int) := by omega
       have m1 : a + 1 ≤ maxLen := by unfold maxLen; omega
       have m2 : a + 1 + (j - a) ≤ maxLen := by unfold maxLen; omega
       have m3 : a ≤ maxLen := by unfold maxLen; omega
       have HA2 : Hid (((w5.alloc (.cells #[] 2)).alloc (.cells #[.int .i64 x] 2)).drew.cell? ⟨w5.heap.size + 1, 0, none⟩ = some (.int .i64 x)) := Lib.hid (by simp)
       have HLB : Hid (World.ownsRow ((w5.alloc (.cells #[.int .i64 x] 2)).alloc (.cells #[] 2)).drew w5.heap.size 2 1 (.slice (some ⟨w5.heap.size + 1, 0, none⟩) 0 0) 0 []) := Lib.hid (by
        have := World.ownsRow_lit (base := w5.heap.size) (e := 2) (size := 1) (w5.alloc (.cells #[.int .i64 x] 2)) #[] 0 (by simp) (by unfold maxLen; omega) (by simp)
        rw [show (w5.alloc (.cells #[.int .i64 x] 2)).heap.size = w5.heap.size + 1 by simp] at this
        exact this)
       have HBB : Hid (((w5.alloc (.cells #[.int .i64 x] 2)).alloc (.cells #[] 2)).drew.cell? ⟨w5.heap.size, 0, none⟩ = some (.int .i64 x)) := Lib.hid (by simp)
       clear o5 g5 n5 q5 o5b hcr hcrz hdl hgr hR1' HL0 HR2 HOCI HZI
       go_wp2_with fail
       refine wp_region_held_drew (S := fun w' => Below w5.heap.size w5 w') (by kernel_rfl) (by exact below_drewN (Below.refl _ _) 1) (fun hHeld => ?_)
       refine tkH (i := 1) (v := ?_) rfl (by kernel_rfl) (fun _ _ _ h => h) (Or.inl ⟨by rfl, ?_⟩) (by assumption) ?_
       rotate_left
       ·intro w hSw
        try dsimp only at hSw
        go_simp
        try with_reducible rfl
       simp only [Act.put, z1, z2, z3, z4, z5, z6]
       refine tkH (i := 2) (v := ?_) rfl (by kernel_rfl) (fun _ _ _ h => h) (Or.inl ⟨by rfl, ?_⟩) (by assumption) ?_
       rotate_left
       ·intro w hSw
        try dsimp only at hSw
        go_simp
        try with_reducible rfl
       simp only [Act.put, z1, z2, z3, z4, z5, z6]
       refine tkH (i := 3) (v := ?_) rfl (by kernel_rfl) (fun _ _ _ h => h) (Or.inl ⟨by rfl, ?_⟩) (by assumption) ?_
       rotate_left
       ·intro w hSw
        try dsimp only at hSw
        go_simp
        try with_reducible rfl
       simp only [Act.put, z1, z2, z3, z4, z5, z6]
       refine tkH (i := 5) (v := ?_) rfl (by kernel_rfl) (fun _ _ _ h => h) (Or.inl ⟨by rfl, ?_⟩) (by assumption) ?_
       rotate_left
       ·intro w hSw
        try dsimp only at hSw
        go_simp
        try with_reducible rfl
       simp only [Act.put, z1, z2, z3, z4, z5, z6]
       refine tkH (i := 6) (v := ?_) rfl (by kernel_rfl) (fun _ _ _ h => h) (Or.inl ⟨by rfl, ?_⟩) (by assumption) ?_
       rotate_left
       ·intro w hSw
        try dsimp only at hSw
        go_simp
        try with_reducible rfl
       simp only [Act.put, z1, z2, z3, z4, z5, z6]
       refine tkH (i := 7) (v := ?_) rfl (by kernel_rfl) (fun _ _ _ h => h) (Or.inl ⟨by rfl, ?_⟩) (by assumption) ?_
       rotate_left
       ·intro w hSw
        try dsimp only at hSw
        go_simp
        try with_reducible rfl
       simp only [Act.put, z1, z2, z3, z4, z5, z6]
       refine tkH (i := 8) (v := ?_) rfl (by kernel_rfl) (fun _ _ _ h => h) (Or.inl ⟨by rfl, ?_⟩) (by assumption) ?_
       rotate_left
       ·intro w hSw
        have q := (hSw.cell (p := ⟨gz, j, none⟩) HZ5L.out).trans HZ5.out
        go_simp
        try with_reducible rfl
       simp only [Act.put, z1, z2, z3, z4, z5, z6]
       refine tkH (i := 11) (v := ?_) rfl (by kernel_rfl) (fun _ _ _ h => h) (Or.inl ⟨by rfl, ?_⟩) (by assumption) ?_
       rotate_left
       ·intro w hSw
        try dsimp only at hSw
        go_simp
        try with_reducible rfl
       simp only [Act.put, z1, z2, z3, z4, z5, z6]
       refine wpAnyH_ready (rs := [0, 9]) (by kernel_rfl) (by simp) ?_
       refine AllReadyH.cons rfl (fun Kc hKc => ?_) (AllReadyH.cons rfl (fun Kc hKc => ?_) AllReadyH.nil)
       ·go_simp
        refine hKc.out _ _ ?_ (fun hHeld => ?_)
        ·first | exact hHeld.alloc hHeld.size _ | exact hHeld.grown g49 hHeld.size (fun k e => (o47.lt k e).1) | exact hHeld.grown g47 hHeld.size (fun k e => (o41.lt k e).1) | exact hHeld.grown g41 hHeld.size (fun k e => by have := Option.some.inj e; subst this; simp) | exact hHeld.grown g41 hHeld.size (fun k e => by have := Option.some.inj e; subst this; exact Nat.le_refl _)
        clear hKc Kc
        refine wpAnyH_ready (rs := [4, 9]) (by kernel_rfl) (by simp) ?_
        refine AllReadyH.cons rfl (fun Kc hKc => ?_) (AllReadyH.cons rfl (fun Kc hKc => ?_) AllReadyH.nil)
        ·first | (refine wp_append_lit _ _ 54 rfl w5.heap.size 2 i0 (.int .i64 0) 8 Tryz.underlying54 hi hz0 hz1 hz2 rfl _ 0 rfl (by first | exact World.ownsRow_lit (base := w5.heap.size) (e := 2) (size := 1) _ #[] 0 (by first | exact Nat.le_refl _ | simp) (by unfold maxLen; omega) (by simp) | exact (World.ownsRow_lit (base := w5.heap.size) (e := 2) (size := 1) _ #[] 0 (by first | exact Nat.le_refl _ | simp) (by unfold maxLen; omega) (by simp)).alloc _ | exact HLB.out) (some ⟨go, 0, none⟩) a cpo ((o.take a).map (Value.int .i64)) rfl HT1.out (HT2.out _ hHeld) HT3.out m3 (by omega) hHeld.size ?_; intro v41 w41 o41 g41 n41 q41) | (refine wp_append_own_at _ _ 54 rfl w5.heap.size 2 i0 (.int .i64 0) 1 8 Tryz.underlying54 hi hz0 hz1 hz2 rfl (by decide) _ a ((o.take a).map (Value.int .i64)) rfl (by first | exact o41 | exact o41.alloc _) _ 1 1 [.int .i64 x] rfl rfl (by first | exact cell_one_new _ _ _ | exact one_cells (g41.cell HA2.out (by simp)) | exact one_cells (g41.cell HBB.out (by simp))) (by simp [Value.oneCell']) m1 (by omega) hHeld.size ?_; intro v47 w47 o47 g47 n47 q47) | (refine wp_append_own_at _ _ 54 rfl w5.heap.size 2 i0 (.int .i64 0) 1 8 Tryz.underlying54 hi hz0 hz1 hz2 rfl (by decide) _ (a + 1) ((o.take a).map (Value.int .i64) ++ [.int .i64 x]) rfl (by exact o47) ⟨gr, 0, none⟩ (j - a) cpr ((o.drop a).map (Value.int .i64)) rfl HR1'.out (HRN.out _ hHeld) HR3.out m2 (by omega) hHeld.size ?_; intro v49 w49 o49 g49 n49 q49)
         refine hKc.out _ _ ?_ (fun hHeld => ?_)
         ·first | exact hHeld.alloc hHeld.size _ | exact hHeld.grown g49 hHeld.size (fun k e => (o47.lt k e).1) | exact hHeld.grown g47 hHeld.size (fun k e => (o41.lt k e).1) | exact hHeld.grown g41 hHeld.size (fun k e => by have := Option.some.inj e; subst this; simp) | exact hHeld.grown g41 hHeld.size (fun k e => by have := Option.some.inj e; subst this; exact Nat.le_refl _)
         clear hKc Kc
         refine wpAnyH_ready (rs := [9]) (by kernel_rfl) (by simp) ?_
         refine AllReadyH.cons rfl (fun Kc hKc => ?_) AllReadyH.nil
         go_simp
         refine hKc.out _ _ ?_ (fun hHeld => ?_)
         ·first | exact hHeld.alloc hHeld.size _ | exact hHeld.grown g49 hHeld.size (fun k e => (o47.lt k e).1) | exact hHeld.grown g47 hHeld.size (fun k e => (o41.lt k e).1) | exact hHeld.grown g41 hHeld.size (fun k e => by have := Option.some.inj e; subst this; simp) | exact hHeld.grown g41 hHeld.size (fun k e => by have := Option.some.inj e; subst this; exact Nat.le_refl _)
         clear hKc Kc
         refine wpAnyH_ready (rs := [10]) (by kernel_rfl) (by simp) ?_
         refine AllReadyH.cons rfl (fun Kc hKc => ?_) AllReadyH.nil
         first | (refine wp_append_lit _ _ 54 rfl w5.heap.size 2 i0 (.int .i64 0) 8 Tryz.underlying54 hi hz0 hz1 hz2 rfl _ 0 rfl (by first | exact World.ownsRow_lit (base := w5.heap.size) (e := 2) (size := 1) _ #[] 0 (by first | exact Nat.le_refl _ | simp) (by unfold maxLen; omega) (by simp) | exact (World.ownsRow_lit (base := w5.heap.size) (e := 2) (size := 1) _ #[] 0 (by first | exact Nat.le_refl _ | simp) (by unfold maxLen; omega) (by simp)).alloc _ | exact HLB.out) (some ⟨go, 0, none⟩) a cpo ((o.take a).map (Value.int .i64)) rfl HT1.out (HT2.out _ hHeld) HT3.out m3 (by omega) hHeld.size ?_; intro v41 w41 o41 g41 n41 q41) | (refine wp_append_own_at _ _ 54 rfl w5.heap.size 2 i0 (.int .i64 0) 1 8 Tryz.underlying54 hi hz0 hz1 hz2 rfl (by decide) _ a ((o.take a).map (Value.int .i64)) rfl (by first | exact o41 | exact o41.alloc _) _ 1 1 [.int .i64 x] rfl rfl (by first | exact cell_one_new _ _ _ | exact one_cells (g41.cell HA2.out (by simp)) | exact one_cells (g41.cell HBB.out (by simp))) (by simp [Value.oneCell']) m1 (by omega) hHeld.size ?_; intro v47 w47 o47 g47 n47 q47) | (refine wp_append_own_at _ _ 54 rfl w5.heap.size 2 i0 (.int .i64 0) 1 8 Tryz.underlying54 hi hz0 hz1 hz2 rfl (by decide) _ (a + 1) ((o.take a).map (Value.int .i64) ++ [.int .i64 x]) rfl (by exact o47) ⟨gr, 0, none⟩ (j - a) cpr ((o.drop a).map (Value.int .i64)) rfl HR1'.out (HRN.out _ hHeld) HR3.out m2 (by omega) hHeld.size ?_; intro v49 w49 o49 g49 n49 q49)
         refine hKc.out _ _ ?_ (fun hHeld => ?_)
         ·first | exact hHeld.alloc hHeld.size _ | exact hHeld.grown g49 hHeld.size (fun k e => (o47.lt k e).1) | exact hHeld.grown g47 hHeld.size (fun k e => (o41.lt k e).1) | exact hHeld.grown g41 hHeld.size (fun k e => by have := Option.some.inj e; subst this; simp) | exact hHeld.grown g41 hHeld.size (fun k e => by have := Option.some.inj e; subst this; exact Nat.le_refl _)
         clear hKc Kc
         refine wpAnyH_ready (rs := [12]) (by kernel_rfl) (by simp) ?_
         refine AllReadyH.cons rfl (fun Kc hKc => ?_) AllReadyH.nil
         first | (refine wp_append_lit _ _ 54 rfl w5.heap.size 2 i0 (.int .i64 0) 8 Tryz.underlying54 hi hz0 hz1 hz2 rfl _ 0 rfl (by first | exact World.ownsRow_lit (base := w5.heap.size) (e := 2) (size := 1) _ #[] 0 (by first | exact Nat.le_refl _ | simp) (by unfold maxLen; omega) (by simp) | exact (World.ownsRow_lit (base := w5.heap.size) (e := 2) (size := 1) _ #[] 0 (by first | exact Nat.le_refl _ | simp) (by unfold maxLen; omega) (by simp)).alloc _ | exact HLB.out) (some ⟨go, 0, none⟩) a cpo ((o.take a).map (Value.int .i64)) rfl HT1.out (HT2.out _ hHeld) HT3.out m3 (by omega) hHeld.size ?_; intro v41 w41 o41 g41 n41 q41) | (refine wp_append_own_at _ _ 54 rfl w5.heap.size 2 i0 (.int .i64 0) 1 8 Tryz.underlying54 hi hz0 hz1 hz2 rfl (by decide) _ a ((o.take a).map (Value.int .i64)) rfl (by first | exact o41 | exact o41.alloc _) _ 1 1 [.int .i64 x] rfl rfl (by first | exact cell_one_new _ _ _ | exact one_cells (g41.cell HA2.out (by simp)) | exact one_cells (g41.cell HBB.out (by simp))) (by simp [Value.oneCell']) m1 (by omega) hHeld.size ?_; intro v47 w47 o47 g47 n47 q47) | (refine wp_append_own_at _ _ 54 rfl w5.heap.size 2 i0 (.int .i64 0) 1 8 Tryz.underlying54 hi hz0 hz1 hz2 rfl (by decide) _ (a + 1) ((o.take a).map (Value.int .i64) ++ [.int .i64 x]) rfl (by exact o47) ⟨gr, 0, none⟩ (j - a) cpr ((o.drop a).map (Value.int .i64)) rfl HR1'.out (HRN.out _ hHeld) HR3.out m2 (by omega) hHeld.size ?_; intro v49 w49 o49 g49 n49 q49)
         refine hKc.out _ _ ?_ (fun hHeld => ?_)
         ·first | exact hHeld.alloc hHeld.size _ | exact hHeld.grown g49 hHeld.size (fun k e => (o47.lt k e).1) | exact hHeld.grown g47 hHeld.size (fun k e => (o41.lt k e).1) | exact hHeld.grown g41 hHeld.size (fun k e => by have := Option.some.inj e; subst this; simp) | exact hHeld.grown g41 hHeld.size (fun k e => by have := Option.some.inj e; subst this; exact Nat.le_refl _)
         clear hKc Kc
         refine tkH (i := 13) (v := ?_) rfl (by kernel_rfl) (fun _ _ _ h => h) (Or.inl ⟨by rfl, ?_⟩) (by assumption) ?_
         rotate_left
         ·intro w hSw
          try dsimp only at hSw
          go_simp
          try with_reducible rfl
         simp only [Act.put, z1, z2, z3, z4, z5, z6]
         refine wpAnyH_done (by kernel_rfl) ?_ _
         have HNIL' : Hid (v49 ≠ .slice none 0 0) := Lib.hid (fun h => by have := (n47.1 (n49.1 h).1).2; omega)
         have HO' : Hid (w49.ownsRow w.heap.size 2 1 v49 (j + 1) ((insZ o a x).map (Value.int .i64))) := Lib.hid (ins_own o49 HW5.out.size ha (by omega))
         have HB' := Lib.hid (btr HW5.out hHeld)
         have HLN : Hid ((insZ o a x).length = j + 1) := Lib.hid (by rw [insZ_len, HOL.out])
         have HPN : Hid ((insZ o a x).Perm (zs.take (j + 1))) := Lib.hid ((insZ_perm o a x).trans (by rw [HTK.out]; exact HPO.out.append_right [x]))
         clear hHeld n47 n49 o47 o49 g47 g49
         go_wp2
         go_roundw
         case rel => exact ⟨j + 1, insZ o a x, by omega, by go_num, HNIL'.out, HO'.out, HLN.out, HINS.out, HPN.out, HB'.out⟩
         case measure => simp [intOf]; omega
        ·go_simp
         refine hKc.out _ _ ?_ (fun hHeld => ?_)
         ·first | exact hHeld.alloc hHeld.size _ | exact hHeld.grown g49 hHeld.size (fun k e => (o47.lt k e).1) | exact hHeld.grown g47 hHeld.size (fun k e => (o41.lt k e).1) | exact hHeld.grown g41 hHeld.size (fun k e => by have := Option.some.inj e; subst this; simp) | exact hHeld.grown g41 hHeld.size (fun k e => by have := Option.some.inj e; subst this; exact Nat.le_refl _)
         clear hKc Kc
         refine wpAnyH_ready (rs := [4]) (by kernel_rfl) (by simp) ?_
         refine AllReadyH.cons rfl (fun Kc hKc => ?_) AllReadyH.nil
         first | (refine wp_append_lit _ _ 54 rfl w5.heap.size 2 i0 (.int .i64 0) 8 Tryz.underlying54 hi hz0 hz1 hz2 rfl _ 0 rfl (by first | exact World.ownsRow_lit (base := w5.heap.size) (e := 2) (size := 1) _ #[] 0 (by first | exact Nat.le_refl _ | simp) (by unfold maxLen; omega) (by simp) | exact (World.ownsRow_lit (base := w5.heap.size) (e := 2) (size := 1) _ #[] 0 (by first | exact Nat.le_refl _ | simp) (by unfold maxLen; omega) (by simp)).alloc _ | exact HLB.out) (some ⟨go, 0, none⟩) a cpo ((o.take a).map (Value.int .i64)) rfl HT1.out (HT2.out _ hHeld) HT3.out m3 (by omega) hHeld.size ?_; intro v41 w41 o41 g41 n41 q41) | (refine wp_append_own_at _ _ 54 rfl w5.heap.size 2 i0 (.int .i64 0) 1 8 Tryz.underlying54 hi hz0 hz1 hz2 rfl (by decide) _ a ((o.take a).map (Value.int .i64)) rfl (by first | exact o41 | exact o41.alloc _) _ 1 1 [.int .i64 x] rfl rfl (by first | exact cell_one_new _ _ _ | exact one_cells (g41.cell HA2.out (by simp)) | exact one_cells (g41.cell HBB.out (by simp))) (by simp [Value.oneCell']) m1 (by omega) hHeld.size ?_; intro v47 w47 o47 g47 n47 q47) | (refine wp_append_own_at _ _ 54 rfl w5.heap.size 2 i0 (.int .i64 0) 1 8 Tryz.underlying54 hi hz0 hz1 hz2 rfl (by decide) _ (a + 1) ((o.take a).map (Value.int .i64) ++ [.int .i64 x]) rfl (by exact o47) ⟨gr, 0, none⟩ (j - a) cpr ((o.drop a).map (Value.int .i64)) rfl HR1'.out (HRN.out _ hHeld) HR3.out m2 (by omega) hHeld.size ?_; intro v49 w49 o49 g49 n49 q49)
         refine hKc.out _ _ ?_ (fun hHeld => ?_)
         ·first | exact hHeld.alloc hHeld.size _ | exact hHeld.grown g49 hHeld.size (fun k e => (o47.lt k e).1) | exact hHeld.grown g47 hHeld.size (fun k e => (o41.lt k e).1) | exact hHeld.grown g41 hHeld.size (fun k e => by have := Option.some.inj e; subst this; simp) | exact hHeld.grown g41 hHeld.size (fun k e => by have := Option.some.inj e; subst this; exact Nat.le_refl _)
         clear hKc Kc
         refine wpAnyH_ready (rs := [10]) (by kernel_rfl) (by simp) ?_
         refine AllReadyH.cons rfl (fun Kc hKc => ?_) AllReadyH.nil
         first | (refine wp_append_lit _ _ 54 rfl w5.heap.size 2 i0 (.int .i64 0) 8 Tryz.underlying54 hi hz0 hz1 hz2 rfl _ 0 rfl (by first | exact World.ownsRow_lit (base := w5.heap.size) (e := 2) (size := 1) _ #[] 0 (by first | exact Nat.le_refl _ | simp) (by unfold maxLen; omega) (by simp) | exact (World.ownsRow_lit (base := w5.heap.size) (e := 2) (size := 1) _ #[] 0 (by first | exact Nat.le_refl _ | simp) (by unfold maxLen; omega) (by simp)).alloc _ | exact HLB.out) (some ⟨go, 0, none⟩) a cpo ((o.take a).map (Value.int .i64)) rfl HT1.out (HT2.out _ hHeld) HT3.out m3 (by omega) hHeld.size ?_; intro v41 w41 o41 g41 n41 q41) | (refine wp_append_own_at _ _ 54 rfl w5.heap.size 2 i0 (.int .i64 0) 1 8 Tryz.underlying54 hi hz0 hz1 hz2 rfl (by decide) _ a ((o.take a).map (Value.int .i64)) rfl (by first | exact o41 | exact o41.alloc _) _ 1 1 [.int .i64 x] rfl rfl (by first | exact cell_one_new _ _ _ | exact one_cells (g41.cell HA2.out (by simp)) | exact one_cells (g41.cell HBB.out (by simp))) (by simp [Value.oneCell']) m1 (by omega) hHeld.size ?_; intro v47 w47 o47 g47 n47 q47) | (refine wp_append_own_at _ _ 54 rfl w5.heap.size 2 i0 (.int .i64 0) 1 8 Tryz.underlying54 hi hz0 hz1 hz2 rfl (by decide) _ (a + 1) ((o.take a).map (Value.int .i64) ++ [.int .i64 x]) rfl (by exact o47) ⟨gr, 0, none⟩ (j - a) cpr ((o.drop a).map (Value.int .i64)) rfl HR1'.out (HRN.out _ hHeld) HR3.out m2 (by omega) hHeld.size ?_; intro v49 w49 o49 g49 n49 q49)
         refine hKc.out _ _ ?_ (fun hHeld => ?_)
         ·first | exact hHeld.alloc hHeld.size _ | exact hHeld.grown g49 hHeld.size (fun k e => (o47.lt k e).1) | exact hHeld.grown g47 hHeld.size (fun k e => (o41.lt k e).1) | exact hHeld.grown g41 hHeld.size (fun k e => by have := Option.some.inj e; subst this; simp) | exact hHeld.grown g41 hHeld.size (fun k e => by have := Option.some.inj e; subst this; exact Nat.le_refl _)
         clear hKc Kc
         refine wpAnyH_ready (rs := [12]) (by kernel_rfl) (by simp) ?_
         refine AllReadyH.cons rfl (fun Kc hKc => ?_) AllReadyH.nil
         first | (refine wp_append_lit _ _ 54 rfl w5.heap.size 2 i0 (.int .i64 0) 8 Tryz.underlying54 hi hz0 hz1 hz2 rfl _ 0 rfl (by first | exact World.ownsRow_lit (base := w5.heap.size) (e := 2) (size := 1) _ #[] 0 (by first | exact Nat.le_refl _ | simp) (by unfold maxLen; omega) (by simp) | exact (World.ownsRow_lit (base := w5.heap.size) (e := 2) (size := 1) _ #[] 0 (by first | exact Nat.le_refl _ | simp) (by unfold maxLen; omega) (by simp)).alloc _ | exact HLB.out) (some ⟨go, 0, none⟩) a cpo ((o.take a).map (Value.int .i64)) rfl HT1.out (HT2.out _ hHeld) HT3.out m3 (by omega) hHeld.size ?_; intro v41 w41 o41 g41 n41 q41) | (refine wp_append_own_at _ _ 54 rfl w5.heap.size 2 i0 (.int .i64 0) 1 8 Tryz.underlying54 hi hz0 hz1 hz2 rfl (by decide) _ a ((o.take a).map (Value.int .i64)) rfl (by first | exact o41 | exact o41.alloc _) _ 1 1 [.int .i64 x] rfl rfl (by first | exact cell_one_new _ _ _ | exact one_cells (g41.cell HA2.out (by simp)) | exact one_cells (g41.cell HBB.out (by simp))) (by simp [Value.oneCell']) m1 (by omega) hHeld.size ?_; intro v47 w47 o47 g47 n47 q47) | (refine wp_append_own_at _ _ 54 rfl w5.heap.size 2 i0 (.int .i64 0) 1 8 Tryz.underlying54 hi hz0 hz1 hz2 rfl (by decide) _ (a + 1) ((o.take a).map (Value.int .i64) ++ [.int .i64 x]) rfl (by exact o47) ⟨gr, 0, none⟩ (j - a) cpr ((o.drop a).map (Value.int .i64)) rfl HR1'.out (HRN.out _ hHeld) HR3.out m2 (by omega) hHeld.size ?_; intro v49 w49 o49 g49 n49 q49)
         refine hKc.out _ _ ?_ (fun hHeld => ?_)
         ·first | exact hHeld.alloc hHeld.size _ | exact hHeld.grown g49 hHeld.size (fun k e => (o47.lt k e).1) | exact hHeld.grown g47 hHeld.size (fun k e => (o41.lt k e).1) | exact hHeld.grown g41 hHeld.size (fun k e => by have := Option.some.inj e; subst this; simp) | exact hHeld.grown g41 hHeld.size (fun k e => by have := Option.some.inj e; subst this; exact Nat.le_refl _)
         clear hKc Kc
         refine tkH (i := 13) (v := ?_) rfl (by kernel_rfl) (fun _ _ _ h => h) (Or.inl ⟨by rfl, ?_⟩) (by assumption) ?_
         rotate_left
         ·intro w hSw
          try dsimp only at hSw
          go_simp
          try with_reducible rfl
         simp only [Act.put, z1, z2, z3, z4, z5, z6]
         refine wpAnyH_done (by kernel_rfl) ?_ _
         have HNIL' : Hid (v49 ≠ .slice none 0 0) := Lib.hid (fun h => by have := (n47.1 (n49.1 h).1).2; omega)
         have HO' : Hid (w49.ownsRow w.heap.size 2 1 v49 (j + 1) ((insZ o a x).map (Value.int .i64))) := Lib.hid (ins_own o49 HW5.out.size ha (by omega))
         have HB' := Lib.hid (btr HW5.out hHeld)
         have HLN : Hid ((insZ o a x).length = j + 1) := Lib.hid (by rw [insZ_len, HOL.out])
         have HPN : Hid ((insZ o a x).Perm (zs.take (j + 1))) := Lib.hid ((insZ_perm o a x).trans (by rw [HTK.out]; exact HPO.out.append_right [x]))
         clear hHeld n47 n49 o47 o49 g47 g49
         go_wp2
         go_roundw
         case rel => exact ⟨j + 1, insZ o a x, by omega, by go_num, HNIL'.out, HO'.out, HLN.out, HINS.out, HPN.out, HB'.out⟩
         case measure => simp [intOf]; omega
       ·go_simp
        refine hKc.out _ _ ?_ (fun hHeld => ?_)
        ·first | exact hHeld.alloc hHeld.size _ | exact hHeld.grown g49 hHeld.size (fun k e => (o47.lt k e).1) | exact hHeld.grown g47 hHeld.size (fun k e => (o41.lt k e).1) | exact hHeld.grown g41 hHeld.size (fun k e => by have := Option.some.inj e; subst this; simp) | exact hHeld.grown g41 hHeld.size (fun k e => by have := Option.some.inj e; subst this; exact Nat.le_refl _)
        clear hKc Kc
        refine wpAnyH_ready (rs := [0]) (by kernel_rfl) (by simp) ?_
        refine AllReadyH.cons rfl (fun Kc hKc => ?_) AllReadyH.nil
        go_simp
        refine hKc.out _ _ ?_ (fun hHeld => ?_)
        ·first | exact hHeld.alloc hHeld.size _ | exact hHeld.grown g49 hHeld.size (fun k e => (o47.lt k e).1) | exact hHeld.grown g47 hHeld.size (fun k e => (o41.lt k e).1) | exact hHeld.grown g41 hHeld.size (fun k e => by have := Option.some.inj e; subst this; simp) | exact hHeld.grown g41 hHeld.size (fun k e => by have := Option.some.inj e; subst this; exact Nat.le_refl _)
        clear hKc Kc
        refine wpAnyH_ready (rs := [4]) (by kernel_rfl) (by simp) ?_
        refine AllReadyH.cons rfl (fun Kc hKc => ?_) AllReadyH.nil
        first | (refine wp_append_lit _ _ 54 rfl w5.heap.size 2 i0 (.int .i64 0) 8 Tryz.underlying54 hi hz0 hz1 hz2 rfl _ 0 rfl (by first | exact World.ownsRow_lit (base := w5.heap.size) (e := 2) (size := 1) _ #[] 0 (by first | exact Nat.le_refl _ | simp) (by unfold maxLen; omega) (by simp) | exact (World.ownsRow_lit (base := w5.heap.size) (e := 2) (size := 1) _ #[] 0 (by first | exact Nat.le_refl _ | simp) (by unfold maxLen; omega) (by simp)).alloc _ | exact HLB.out) (some ⟨go, 0, none⟩) a cpo ((o.take a).map (Value.int .i64)) rfl HT1.out (HT2.out _ hHeld) HT3.out m3 (by omega) hHeld.size ?_; intro v41 w41 o41 g41 n41 q41) | (refine wp_append_own_at _ _ 54 rfl w5.heap.size 2 i0 (.int .i64 0) 1 8 Tryz.underlying54 hi hz0 hz1 hz2 rfl (by decide) _ a ((o.take a).map (Value.int .i64)) rfl (by first | exact o41 | exact o41.alloc _) _ 1 1 [.int .i64 x] rfl rfl (by first | exact cell_one_new _ _ _ | exact one_cells (g41.cell HA2.out (by simp)) | exact one_cells (g41.cell HBB.out (by simp))) (by simp [Value.oneCell']) m1 (by omega) hHeld.size ?_; intro v47 w47 o47 g47 n47 q47) | (refine wp_append_own_at _ _ 54 rfl w5.heap.size 2 i0 (.int .i64 0) 1 8 Tryz.underlying54 hi hz0 hz1 hz2 rfl (by decide) _ (a + 1) ((o.take a).map (Value.int .i64) ++ [.int .i64 x]) rfl (by exact o47) ⟨gr, 0, none⟩ (j - a) cpr ((o.drop a).map (Value.int .i64)) rfl HR1'.out (HRN.out _ hHeld) HR3.out m2 (by omega) hHeld.size ?_; intro v49 w49 o49 g49 n49 q49)
        refine hKc.out _ _ ?_ (fun hHeld => ?_)
        ·first | exact hHeld.alloc hHeld.size _ | exact hHeld.grown g49 hHeld.size (fun k e => (o47.lt k e).1) | exact hHeld.grown g47 hHeld.size (fun k e => (o41.lt k e).1) | exact hHeld.grown g41 hHeld.size (fun k e => by have := Option.some.inj e; subst this; simp) | exact hHeld.grown g41 hHeld.size (fun k e => by have := Option.some.inj e; subst this; exact Nat.le_refl _)
        clear hKc Kc
        refine wpAnyH_ready (rs := [10]) (by kernel_rfl) (by simp) ?_
        refine AllReadyH.cons rfl (fun Kc hKc => ?_) AllReadyH.nil
        first | (refine wp_append_lit _ _ 54 rfl w5.heap.size 2 i0 (.int .i64 0) 8 Tryz.underlying54 hi hz0 hz1 hz2 rfl _ 0 rfl (by first | exact World.ownsRow_lit (base := w5.heap.size) (e := 2) (size := 1) _ #[] 0 (by first | exact Nat.le_refl _ | simp) (by unfold maxLen; omega) (by simp) | exact (World.ownsRow_lit (base := w5.heap.size) (e := 2) (size := 1) _ #[] 0 (by first | exact Nat.le_refl _ | simp) (by unfold maxLen; omega) (by simp)).alloc _ | exact HLB.out) (some ⟨go, 0, none⟩) a cpo ((o.take a).map (Value.int .i64)) rfl HT1.out (HT2.out _ hHeld) HT3.out m3 (by omega) hHeld.size ?_; intro v41 w41 o41 g41 n41 q41) | (refine wp_append_own_at _ _ 54 rfl w5.heap.size 2 i0 (.int .i64 0) 1 8 Tryz.underlying54 hi hz0 hz1 hz2 rfl (by decide) _ a ((o.take a).map (Value.int .i64)) rfl (by first | exact o41 | exact o41.alloc _) _ 1 1 [.int .i64 x] rfl rfl (by first | exact cell_one_new _ _ _ | exact one_cells (g41.cell HA2.out (by simp)) | exact one_cells (g41.cell HBB.out (by simp))) (by simp [Value.oneCell']) m1 (by omega) hHeld.size ?_; intro v47 w47 o47 g47 n47 q47) | (refine wp_append_own_at _ _ 54 rfl w5.heap.size 2 i0 (.int .i64 0) 1 8 Tryz.underlying54 hi hz0 hz1 hz2 rfl (by decide) _ (a + 1) ((o.take a).map (Value.int .i64) ++ [.int .i64 x]) rfl (by exact o47) ⟨gr, 0, none⟩ (j - a) cpr ((o.drop a).map (Value.int .i64)) rfl HR1'.out (HRN.out _ hHeld) HR3.out m2 (by omega) hHeld.size ?_; intro v49 w49 o49 g49 n49 q49)
        refine hKc.out _ _ ?_ (fun hHeld => ?_)
        ·first | exact hHeld.alloc hHeld.size _ | exact hHeld.grown g49 hHeld.size (fun k e => (o47.lt k e).1) | exact hHeld.grown g47 hHeld.size (fun k e => (o41.lt k e).1) | exact hHeld.grown g41 hHeld.size (fun k e => by have := Option.some.inj e; subst this; simp) | exact hHeld.grown g41 hHeld.size (fun k e => by have := Option.some.inj e; subst this; exact Nat.le_refl _)
        clear hKc Kc
        refine wpAnyH_ready (rs := [12]) (by kernel_rfl) (by simp) ?_
        refine AllReadyH.cons rfl (fun Kc hKc => ?_) AllReadyH.nil
        first | (refine wp_append_lit _ _ 54 rfl w5.heap.size 2 i0 (.int .i64 0) 8 Tryz.underlying54 hi hz0 hz1 hz2 rfl _ 0 rfl (by first | exact World.ownsRow_lit (base := w5.heap.size) (e := 2) (size := 1) _ #[] 0 (by first | exact Nat.le_refl _ | simp) (by unfold maxLen; omega) (by simp) | exact (World.ownsRow_lit (base := w5.heap.size) (e := 2) (size := 1) _ #[] 0 (by first | exact Nat.le_refl _ | simp) (by unfold maxLen; omega) (by simp)).alloc _ | exact HLB.out) (some ⟨go, 0, none⟩) a cpo ((o.take a).map (Value.int .i64)) rfl HT1.out (HT2.out _ hHeld) HT3.out m3 (by omega) hHeld.size ?_; intro v41 w41 o41 g41 n41 q41) | (refine wp_append_own_at _ _ 54 rfl w5.heap.size 2 i0 (.int .i64 0) 1 8 Tryz.underlying54 hi hz0 hz1 hz2 rfl (by decide) _ a ((o.take a).map (Value.int .i64)) rfl (by first | exact o41 | exact o41.alloc _) _ 1 1 [.int .i64 x] rfl rfl (by first | exact cell_one_new _ _ _ | exact one_cells (g41.cell HA2.out (by simp)) | exact one_cells (g41.cell HBB.out (by simp))) (by simp [Value.oneCell']) m1 (by omega) hHeld.size ?_; intro v47 w47 o47 g47 n47 q47) | (refine wp_append_own_at _ _ 54 rfl w5.heap.size 2 i0 (.int .i64 0) 1 8 Tryz.underlying54 hi hz0 hz1 hz2 rfl (by decide) _ (a + 1) ((o.take a).map (Value.int .i64) ++ [.int .i64 x]) rfl (by exact o47) ⟨gr, 0, none⟩ (j - a) cpr ((o.drop a).map (Value.int .i64)) rfl HR1'.out (HRN.out _ hHeld) HR3.out m2 (by omega) hHeld.size ?_; intro v49 w49 o49 g49 n49 q49)
        refine hKc.out _ _ ?_ (fun hHeld => ?_)
        ·first | exact hHeld.alloc hHeld.size _ | exact hHeld.grown g49 hHeld.size (fun k e => (o47.lt k e).1) | exact hHeld.grown g47 hHeld.size (fun k e => (o41.lt k e).1) | exact hHeld.grown g41 hHeld.size (fun k e => by have := Option.some.inj e; subst this; simp) | exact hHeld.grown g41 hHeld.size (fun k e => by have := Option.some.inj e; subst this; exact Nat.le_refl _)
        clear hKc Kc
        refine tkH (i := 13) (v := ?_) rfl (by kernel_rfl) (fun _ _ _ h => h) (Or.inl ⟨by rfl, ?_⟩) (by assumption) ?_
        rotate_left
        ·intro w hSw
         try dsimp only at hSw
         go_simp
         try with_reducible rfl
        simp only [Act.put, z1, z2, z3, z4, z5, z6]
        refine wpAnyH_done (by kernel_rfl) ?_ _
        have HNIL' : Hid (v49 ≠ .slice none 0 0) := Lib.hid (fun h => by have := (n47.1 (n49.1 h).1).2; omega)
        have HO' : Hid (w49.ownsRow w.heap.size 2 1 v49 (j + 1) ((insZ o a x).map (Value.int .i64))) := Lib.hid (ins_own o49 HW5.out.size ha (by omega))
        have HB' := Lib.hid (btr HW5.out hHeld)
        have HLN : Hid ((insZ o a x).length = j + 1) := Lib.hid (by rw [insZ_len, HOL.out])
        have HPN : Hid ((insZ o a x).Perm (zs.take (j + 1))) := Lib.hid ((insZ_perm o a x).trans (by rw [HTK.out]; exact HPO.out.append_right [x]))
        clear hHeld n47 n49 o47 o49 g47 g49
        go_wp2
        go_roundw
        case rel => exact ⟨j + 1, insZ o a x, by omega, by go_num, HNIL'.out, HO'.out, HLN.out, HINS.out, HPN.out, HB'.out⟩
        case measure => simp [intOf]; omega
  ·obtain rfl : j = n := by omega
   have hi2 := IntsAt.of_own (e := 2) (base := w.heap.size) HO.out HOL.out
   have HI : Hid (IntsAt wr (.slice (some ⟨go, 0, none⟩) j cpo) o) := Lib.hid (by first | exact hi2 | (rw [HOL.out] at hi2; exact hi2))
   have HP : Hid (o.Perm zs) := Lib.hid (by have := HPO.out; rwa [List.take_of_length_le (by have := HLEN.out; omega)] at this)
   clear hi2
   go_wp2
   go_ret
   exact ⟨go, cpo, o, rfl, by omega, HI.out, HOL.out, HSO.out, HP.out, HB.out⟩
end Go.Proofs.YthbkljeibmkimaaGreat


namespace Go.Proofs.YthbkljeibmkimaaGreat
open Go.RowKit
set_option linter.unusedVariables false
set_option linter.unusedSimpArgs false

set_option maxRecDepth 100000 in
set_option maxHeartbeats 4000000 in
theorem rmedian_any (v : Value) (zs : List Int) (w : World) (hv : IntsAt w v zs) (hk : 0 < zs.length) (hn : zs.length ≤ 1000) :
    Calls Tryz.prog 86 #[v] w fun e w' => ∃ u, e = .returned (.tuple #[.int .i64 u, .bool true]) ∧ IsKth zs ((zs.length - 1) / 2) u ∧ Below w.heap.size w w' := by
  have P1 := sorted_any v zs w hv hn
  unfold SortedPost at P1
  obtain ⟨ao, cap, rfl, hcap, hcells⟩ := hv
  clear hcells
  obtain ⟨n, hlen⟩ : ∃ n, n = zs.length := ⟨_, rfl⟩
  rw [← hlen] at hcap hk hn P1 ⊢
  have P1 := Lib.hid P1
  have HLEN := Lib.hid hlen
  clear hlen
  obtain ⟨q, hq⟩ : ∃ q, q = (n - 1) / 2 := ⟨_, rfl⟩
  rw [← hq]
  have d0 : ((n : Int) == 0) = false := by simp; omega
  have d1 : (n == 0) = false := by simp; omega
  have d2 : decide ((n : Int) = 0) = false := by simp; omega
  have d3 : decide (n = 0) = false := by simp; omega
  have e1 : wrap64 ((n : Int) - 1) = (n : Int) - 1 := by unfold wrap64; omega
  have e2 : Int.tdiv ((n : Int) - 1) 2 = (q : Int) := by rw [Int.tdiv_eq_ediv_of_nonneg (by omega)]; omega
  have e3 : ((n : Int) - 1) / 2 = (q : Int) := by omega
  have e4 : (0 : Int) ≤ (q : Int) := by omega
  have e5 : (q : Int) < (n : Int) := by omega
  have HQ : Hid (q < n) := Lib.hid (by omega)
  clear hq
  go_enter Tryz.func86, Tryz.ntmps86
  go_wp2_with fail
  with_reducible refine P1.out.mono ?_
  rintro e w2 ⟨g, cp, o, rfl, hcp, hi, hol, hso, hpo, hb⟩
  have HB := Lib.hid hb
  have HOL := Lib.hid hol
  have HSO := Lib.hid hso
  have HPO := Lib.hid hpo
  obtain ⟨ao3, cap3, e3', hcap3, hcells3⟩ := hi
  simp only [Value.slice.injEq] at e3'
  obtain ⟨rfl, -, rfl⟩ := e3'
  obtain ⟨g3, e3'', hg3, hc3⟩ := hcells3 (by have := HOL.out; omega)
  simp only [Option.some.injEq, Addr.mk.injEq] at e3''
  obtain ⟨rfl, -, -⟩ := e3''
  have HKU := Lib.hid (kth_perm HPO.out (sorted_kth HSO.out (k := q) (by have := HOL.out; have := HQ.out; omega)))
  have cx := hc3 q (cellD o q) (by have : q < o.length := by have := HOL.out; have := HQ.out; omega
                                   simp [cellD, this])
  clear hol hso hpo hb hc3 hcells3 hcap3 hg3 hcp
  generalize cellD o q = u at *
  go_wp2
  go_ret2
  exact ⟨u, rfl, HKU.out, HB.out⟩

theorem rmiddle_yes (w : World) (N G : Nat) (v : Value) (B K : Nat → Nat) (R W : Nat) (zs cs : List Int) (vc : Value) (h : RefIs w N G v B K R W zs) (hv : IntsAt w vc cs) (hm : meetB R W cs = true) :
  Calls Tryz.prog 80 #[.pointer (some ⟨G, 0, none⟩), vc] w (TellPost w W zs cs ((cs.length - 1) / 2)) := by
 obtain ⟨h0R, hlR, hcol⟩ := meetB_of hm
 have hR8 := h.rows
 have P1 := rread_yes w N G v B K R W zs cs vc h hv hm
 have hrl : (readZ W zs cs).length = cs.length := by rw [readZ, List.length_map, List.length_range]
 obtain ⟨ao, cap, rfl, hcap, hcells⟩ := hv
 clear hcells hcol h
 unfold RReadPost at P1
 obtain ⟨n, hlen⟩ : ∃ n, n = cs.length := ⟨_, rfl⟩
 rw [← hlen] at hcap hlR hrl P1 ⊢
 have hn0 : 0 < n := by omega
 have hn8 : n ≤ 8 := by omega
 have HRL := Lib.hid hrl
 have P1 := Lib.hid P1
 clear hlen hlR hrl
 go_enter Tryz.func80, Tryz.ntmps80
 go_wp2_with fail
 with_reducible refine P1.out.mono ?_
 rintro e w2 ⟨g, cp, rfl, hg, hi, hb⟩
 have HB := Lib.hid hb
 have P2 := Lib.hid (rmedian_any _ _ w2 hi (by have := HRL.out; omega) (by have := HRL.out; omega))
 clear hb hi
 go_wp2_with fail
 with_reducible refine P2.out.mono ?_
 rintro e w3 ⟨u, rfl, hu, hb⟩
 have HU := Lib.hid hu
 have HB3 := Lib.hid (btr HB.out hb)
 clear hu hb
 go_wp2
 go_ret2
 exact ⟨u, rfl, by have := HU.out; rwa [HRL.out] at this, HB3.out⟩
def TSpec (R W : Nat) (zs cs : List Int) (k : Nat) (u err : Int) : Prop :=
  (meetB R W cs = true ∧ err = 0 ∧ IsKth (readZ W zs cs) k u) ∨ (meetB R W cs = false ∧ err = 1 ∧ u = 0)
theorem TSpec.unique {R W : Nat} {zs cs : List Int} {k : Nat} {u1 e1 u2 e2 : Int} (h1 : TSpec R W zs cs k u1 e1) (h2 : TSpec R W zs cs k u2 e2) : u2 = u1 ∧ e2 = e1 := by
  rcases h1 with ⟨m1, rfl, k1⟩ | ⟨m1, rfl, rfl⟩ <;> rcases h2 with ⟨m2, rfl, k2⟩ | ⟨m2, rfl, rfl⟩
  · exact ⟨k2.unique k1, rfl⟩
  · rw [m1] at m2; cases m2
  · rw [m1] at m2; cases m2
  · exact ⟨rfl, rfl⟩
end Go.Proofs.YthbkljeibmkimaaGreat


namespace Go.Proofs.YthbkljeibmkimaaGreat
open Go.RowKit
set_option linter.unusedVariables false
set_option linter.unusedSimpArgs false

set_option maxRecDepth 100000 in
set_option maxHeartbeats 8000000 in
theorem rskpoint (w : World) (SA N G : Nat) (v : Value) (B K : Nat → Nat) (b m s l : Int) (R W : Nat) (zs : List Int) (hSA : Blk w SA 118 #[.int .i64 b, .int .i64 (R : Int), .int .i64 (W : Int), .int .i64 m, .int .u64 s, .int .i64 l, .pointer (some ⟨G, 0, none⟩)]) (hG : RefIs w N G v B K R W zs)
  (hR : 0 < R) (hW : 0 < W) (he : exactB b R W m l = false) (s0 : 0 ≤ s) (s1 : s ≤ 18446744073709551615) (k : Nat) (k1 : k < 18446744073709551616) (hk : (k : Int) < keysI b R W m l) :
  Calls Tryz.prog 73 #[.pointer (some ⟨SA, 0, none⟩), .int .u64 (k : Int)] w fun e w' => e = .returned (.tuple #[.int .i64 (lvPt b R W m s l zs k), .int .i64 0]) ∧ Below w.heap.size w w' := by
 have PK := Lib.hid (fun w => rkeys_any b R W m s l w)
 have PC := Lib.hid (fun w => rcols_rowI b W m s l k R hR s0 s1 (by omega) (by omega) hk w)
 have HM : Hid (meetB R W (colsZ W s l k R) = true) := Lib.hid (by have := colsZ_meet (d := (W : Int)) (s := s) (l := l) (k := (k : Int)) hR (by omega); simpa using this)
 have HV : Hid (lvPt b R W m s l zs k = kthL (readZ W zs (colsZ W s l k R)) (if m = 3 then (R - 1) / 2 else 0)) := Lib.hid (by unfold lvPt; rw [he]; simp)
 have HCLn := Lib.hid (colsZ_len (W : Int) s l k R)
 have e1 : decide (keysI b R W m l ≤ (k : Int)) = false := decide_eq_false (by omega)
 have HSA := Lib.hid hSA
 have HG := Lib.hid hG
 clear hSA hk hG he
 go_enter Tryz.func73, Tryz.ntmps73
 go_wp2_with fail
 refine wp_region_held_drew (S := fun w' => Below w.heap.size w w') (by kernel_rfl) (by exact below_drewN (Below.refl _ _) 1) (fun hHeld => ?_)
 refine tkH (i := 0) (v := ?_) rfl (by kernel_rfl) (fun _ _ _ h => h) (Or.inl ⟨by rfl, ?_⟩) (by assumption) ?_
 rotate_left
 ·intro w hSw
  try dsimp only at hSw
  go_simp
  try with_reducible rfl
 simp only [Act.put, z1, z2, z3, z4, z5, z6]
 refine tkH (i := 1) (v := ?_) rfl (by kernel_rfl) (fun _ _ _ h => h) (Or.inl ⟨by rfl, ?_⟩) (by assumption) ?_
 rotate_left
 ·intro w hSw
  try dsimp only at hSw
  go_simp
  try with_reducible rfl
 simp only [Act.put, z1, z2, z3, z4, z5, z6]
 refine tkH (i := 2) (v := ?_) rfl (by kernel_rfl) (fun _ _ _ h => h) (Or.inl ⟨by rfl, ?_⟩) (by assumption) ?_
 rotate_left
 ·intro w hSw
  try dsimp only at hSw
  go_simp
  try with_reducible rfl
 simp only [Act.put, z1, z2, z3, z4, z5, z6]
 refine tkH (i := 3) (v := ?_) rfl (by kernel_rfl) (fun _ _ _ h => h) (Or.inl ⟨by rfl, ?_⟩) (by assumption) ?_
 rotate_left
 ·intro w hSw
  try dsimp only at hSw
  go_simp
  try with_reducible rfl
 simp only [Act.put, z1, z2, z3, z4, z5, z6]
 refine tkH (i := 4) (v := ?_) rfl (by kernel_rfl) (fun _ _ _ h => h) (Or.inl ⟨by rfl, ?_⟩) (by assumption) ?_
 rotate_left
 ·intro w hSw
  have q0 := (HSA.out.kept hSw).cell 0
  have q1 := (HSA.out.kept hSw).cell 1
  have q2 := (HSA.out.kept hSw).cell 2
  have q3 := (HSA.out.kept hSw).cell 3
  have q4 := (HSA.out.kept hSw).cell 4
  have q5 := (HSA.out.kept hSw).cell 5
  simp at q0 q1 q2 q3 q4 q5
  go_simp
  try with_reducible rfl
 simp only [Act.put, z1, z2, z3, z4, z5, z6]
 refine tkH (i := 5) (v := ?_) rfl (by kernel_rfl) (fun _ _ _ h => h) (Or.inl ⟨by rfl, ?_⟩) (by assumption) ?_
 rotate_left
 ·intro w hSw
  try dsimp only at hSw
  go_simp
  try with_reducible rfl
 simp only [Act.put, z1, z2, z3, z4, z5, z6]
 refine tkH (i := 6) (v := ?_) rfl (by kernel_rfl) (fun _ _ _ h => h) (Or.inl ⟨by rfl, ?_⟩) (by assumption) ?_
 rotate_left
 ·intro w hSw
  try dsimp only at hSw
  go_simp
  try with_reducible rfl
 simp only [Act.put, z1, z2, z3, z4, z5, z6]
 refine tkH (i := 7) (v := ?_) rfl (by kernel_rfl) (fun _ _ _ h => h) (Or.inl ⟨by rfl, ?_⟩) (by assumption) ?_
 rotate_left
 ·intro w hSw
  try dsimp only at hSw
  go_simp
  try with_reducible rfl
 simp only [Act.put, z1, z2, z3, z4, z5, z6]
 refine tkH (i := 8) (v := ?_) rfl (by kernel_rfl) (fun _ _ _ h => h) (Or.inl ⟨by rfl, ?_⟩) (by assumption) ?_
 rotate_left
 ·intro w hSw
  have q0 := (HSA.out.kept hSw).cell 0
  have q1 := (HSA.out.kept hSw).cell 1
  have q2 := (HSA.out.kept hSw).cell 2
  have q3 := (HSA.out.kept hSw).cell 3
  have q4 := (HSA.out.kept hSw).cell 4
  have q5 := (HSA.out.kept hSw).cell 5
  simp at q0 q1 q2 q3 q4 q5
  go_simp
  try with_reducible rfl
 simp only [Act.put, z1, z2, z3, z4, z5, z6]
 refine wpAnyH_ready (rs := [9]) (by kernel_rfl) (by simp) ?_
 refine AllReadyH.cons rfl (fun Kc hKc => ?_) AllReadyH.nil
 go_simp
 go_wp2_with (go_at_call 26; refine (PK.out _).mono ?_; rintro e w4 ⟨rfl, hb'⟩)
 refine hKc.out _ _ ?_ (fun hHeld => ?_)
 ·first | exact btr hHeld hb' | exact hHeld
 clear hKc Kc
 refine tkH (i := 10) (v := ?_) rfl (by kernel_rfl) (fun _ _ _ h => h) (Or.inl ⟨by rfl, ?_⟩) (by assumption) ?_
 rotate_left
 ·intro w hSw
  try dsimp only at hSw
  go_simp
  try with_reducible rfl
 simp only [Act.put, z1, z2, z3, z4, z5, z6]
 refine wpAnyH_done (by kernel_rfl) ?_ _
 have HB4 := Lib.hid hHeld
 clear hHeld hb'
 go_wp2_with fail
 refine wp_region_still_tail 9 (by kernel_rfl) (by kernel_rfl) ?_
 simp only [List.take_succ_cons, List.take_zero, List.drop_succ_cons, List.drop_zero]
 have HB5 : Hid (Below w.heap.size w { heap := w4.heap, tape := w4.tape, drawn := w4.drawn + 1, os := w4.os, output := w4.output }) := Lib.hid (below_drewN HB4.out 1)
 generalize ({ heap := w4.heap, tape := w4.tape, drawn := w4.drawn + 1, os := w4.os, output := w4.output } : World) = wd at *
 have q0 := (HSA.out.kept HB5.out).cell 0
 have q1 := (HSA.out.kept HB5.out).cell 1
 have q2 := (HSA.out.kept HB5.out).cell 2
 have q3 := (HSA.out.kept HB5.out).cell 3
 have q4 := (HSA.out.kept HB5.out).cell 4
 have q5 := (HSA.out.kept HB5.out).cell 5
 simp at q0 q1 q2 q3 q4 q5
 repeat still_step
 refine wpStill_nil ?_
 go_wp2_with fail
 with_reducible refine (PC.out _).mono ?_
 rintro e w5 ⟨gc, cc, rfl, hrow, hb⟩
 have HB6 := Lib.hid (btr HB5.out hb)
 have HG6 : Hid (RefIs w5 N G v B K R W zs) := Lib.hid (HG.out.kept HB6.out)
 have HROW := Lib.hid hrow.ints
 clear hrow hb q0 q1 q2 q3 q4 q5
 have q3 := (HSA.out.kept HB6.out).cell 3
 have q6 := (HSA.out.kept HB6.out).cell 6
 simp at q3 q6
 by_cases hm : m = 3
 ·subst hm
  have PR := Lib.hid (rmiddle_yes w5 N G v B K R W zs (colsZ W s l k R) _ HG6.out HROW.out HM.out)
  go_wp2_with fail
  with_reducible refine PR.out.mono ?_
  rintro e w6 ⟨u, rfl, hu, hb⟩
  have HU : Hid (u = lvPt b R W 3 s l zs k) := Lib.hid (by rw [HCLn.out] at hu; have h1 := kthL_of hu; have h2 := HV.out; simp only [if_true] at h2; rw [h2]; simpa using h1.symm)
  have HB7 := Lib.hid (btr HB6.out hb)
  clear hu hb q3 q6
  go_wp2
  go_ret2
  first | exact ⟨rfl, HB7.out⟩ | exact ⟨by rw [HU.out]; rfl, HB7.out⟩
 ·have PR := Lib.hid (rleast_yes w5 N G v B K R W zs (colsZ W s l k R) _ HG6.out HROW.out HM.out)
  have em : (m == 3) = false := by simp [hm]
  have em' : decide (m = 3) = false := by simp [hm]
  go_wp2_with fail
  with_reducible refine PR.out.mono ?_
  rintro e w6 ⟨u, rfl, hu, hb⟩
  have HU : Hid (u = lvPt b R W m s l zs k) := Lib.hid (by rw [HV.out, if_neg hm]; exact (kthL_of hu).symm)
  have HB7 := Lib.hid (btr HB6.out hb)
  clear hu hb q3 q6
  go_wp2
  go_ret2
  first | exact ⟨rfl, HB7.out⟩ | exact ⟨by rw [HU.out]; rfl, HB7.out⟩
set_option maxRecDepth 100000 in
set_option maxHeartbeats 4000000 in
theorem rlvpoint (w : World) (F : Nat → Prop) (P : Nat) (b r d m s l : Int) (zs : List Int) (h : RLevIs w F P b r d m s l zs) (hr : rightB b r d m = true) (s0 : 0 ≤ s) (s1 : s ≤ 18446744073709551615) (k : Nat) (k1 : k < 18446744073709551616) (hk : (k : Int) < keysI b r d m l) :
  Calls Tryz.prog 60 #[.pointer (some ⟨P, 0, none⟩), .int .u64 (k : Int)] w fun e w' => e = .returned (.tuple #[.int .i64 (lvPt b r d m s l zs k), .int .i64 0]) ∧ Below w.heap.size w w' := by
 rcases h with ⟨hex, RA, LA, hP, hA, hlen, f1, f2, f3⟩ | ⟨hex, SA, G, v, B, K, N, hP, hS, hG, f1, f2, f3, f4, f5⟩
 ·have hK : zs.length ≤ 128 := by
   have := of_decide_eq_true hex
   have := right_of hr
   omega
  have HV : Hid (lvPt b r d m s l zs k = cellD zs k) := Lib.hid (by unfold lvPt; rw [if_pos hex])
  have PU := Lib.hid (rxpoint_yes w RA LA b r d m s l zs k hA hK (by omega))
  have c0 := hP.cell 0
  simp at c0
  clear hex hlen hP hA hK hr hk
  go_enter Tryz.func60, Tryz.ntmps60
  go_wp2_with fail
  with_reducible refine PU.out.mono ?_
  rintro e w4 ⟨rfl, hw⟩
  subst hw
  go_wp2
  go_ret2
  exact ⟨by rw [HV.out]; rfl, Below.refl _ _⟩
 ·obtain ⟨R, W, rfl, rfl, h1, h2, h3, h4⟩ := nat_of_right hr
  rw [Int.toNat_natCast, Int.toNat_natCast] at hG
  have c0 := hP.cell 0
  have c1 := hP.cell 1
  simp at c0 c1
  have PU := Lib.hid (rskpoint w SA N G v B K b m s l R W zs hS hG h1 h3 hex s0 s1 k k1 hk)
  clear hex hP hS hG hr hk
  go_enter Tryz.func60, Tryz.ntmps60
  go_wp2_with fail
  with_reducible refine PU.out.mono ?_
  rintro e w4 ⟨rfl, hb⟩
  have HB := Lib.hid hb
  clear hb
  go_wp2
  go_ret2
  exact ⟨rfl, HB.out⟩
set_option maxRecDepth 100000 in
set_option maxHeartbeats 4000000 in
theorem rstpoint (w : World) (base RS RL : Nat) (b r d m s : Int) (P : Nat → Nat) (F : Nat → Nat → Prop) (Z : Nat → List Int) (h : RStIs w base RS RL b r d m s P F Z) (s0 : 0 ≤ s) (s1 : s ≤ 18446744073709551615) (n : Nat) (hn : n ≤ b.toNat) (k : Nat) (k1 : k < 18446744073709551616) (hk : (k : Int) < keysI b r d m (n : Int)) :
  Calls Tryz.prog 32 #[.pointer (some ⟨RS, 0, none⟩), .agg #[.int .i64 (n : Int), .int .u64 (k : Int)]] w fun e w' => e = .returned (.tuple #[.int .i64 (lvPt b r d m s (n : Int) (Z n) k), .int .i64 0]) ∧ Below w.heap.size w w' := by
 have HS := Lib.hid h
 have hrt := right_of h.right
 have PL := Lib.hid (fun wq hq => rlvpoint wq (F n) (P n) b r d m s (n : Int) (Z n) hq h.right s0 s1 k k1 hk)
 obtain ⟨g1, hb1, hsz1⟩ := news1 w (.cells #[.int .i64 (n : Int), .int .u64 (k : Int)] 64)
 have HX1 : Hid (Blk _ w.heap.size 64 #[.int .i64 (n : Int), .int .u64 (k : Int)]) := Lib.hid g1
 have HB1 := Lib.hid hb1
 have HS1 := Lib.hid (h.kept hb1)
 obtain ⟨cap, hbx, hcap⟩ := HS1.out.box
 have HBX := Lib.hid hbx
 obtain ⟨cur, hrow, hcur⟩ := HS1.out.row
 have HROW := Lib.hid hrow
 have HCUR := Lib.hid (hcur n hn)
 obtain ⟨q, hq⟩ : ∃ q : Nat, b = (q : Int) := ⟨b.toNat, by omega⟩
 subst hq
 rw [Int.toNat_natCast] at hn HBX hcap
 have hn0 : decide ((n : Int) < 0) = false := decide_eq_false (by omega)
 have hn1 : decide (((q + 1 : Nat) : Int) ≤ (n : Int)) = false := decide_eq_false (by omega)
 have hn2 : decide (q + 1 ≤ n) = false := decide_eq_false (by omega)
 have hn3 : decide ((q : Int) + 1 ≤ (n : Int)) = false := decide_eq_false (by omega)
 have hn4 : (n : Int) < ((q + 1 : Nat) : Int) := by omega
 have hn5 : (n : Int) < (q : Int) + 1 := by omega
 have hn6 : (0 : Int) ≤ (n : Int) := by omega
 clear g1 hb1 hsz1 h hk hbx hrow hcur hrt
 go_enter Tryz.func32, Tryz.ntmps32
 go_wp2_with fail
 generalize (w.alloc (.cells #[.int .i64 (n : Int), .int .u64 (k : Int)] 64)) = w1 at *
 obtain ⟨A, hA⟩ : ∃ A, A = w.heap.size := ⟨_, rfl⟩
 rw [← hA] at HX1 HB1 ⊢
 have HAW := Lib.hid hA
 clear hA
 refine wp_region_held_drew (S := fun w' => Below w1.heap.size w1 w') (by kernel_rfl) (by exact below_drewN (Below.refl _ _) 1) (fun hHeld => ?_)
 refine tkH (i := 0) (v := ?_) rfl (by kernel_rfl) (fun _ _ _ h => h) (Or.inl ⟨by rfl, ?_⟩) (by assumption) ?_
 rotate_left
 ·intro w hSw
  try dsimp only at hSw
  go_simp
  try with_reducible rfl
 simp only [Act.put, z1, z2, z3, z4, z5, z6]
 refine tkH (i := 1) (v := ?_) rfl (by kernel_rfl) (fun _ _ _ h => h) (Or.inl ⟨by rfl, ?_⟩) (by assumption) ?_
 rotate_left
 ·intro w hSw
  have q0 := (HX1.out.kept hSw).cell 0
  have q5 := (HBX.out.kept hSw).cell 5
  simp at q0 q5
  go_simp
  try with_reducible rfl
 simp only [Act.put, z1, z2, z3, z4, z5, z6]
 refine tkH (i := 2) (v := ?_) rfl (by kernel_rfl) (fun _ _ _ h => h) (Or.inl ⟨by rfl, ?_⟩) (by assumption) ?_
 rotate_left
 ·intro w hSw
  try dsimp only at hSw
  go_simp
  try with_reducible rfl
 simp only [Act.put, z1, z2, z3, z4, z5, z6]
 refine tkH (i := 3) (v := ?_) rfl (by kernel_rfl) (fun _ _ _ h => h) (Or.inl ⟨by rfl, ?_⟩) (by assumption) ?_
 rotate_left
 ·intro w hSw
  try dsimp only at hSw
  go_simp
  try with_reducible rfl
 simp only [Act.put, z1, z2, z3, z4, z5, z6]
 refine tkH (i := 4) (v := ?_) rfl (by kernel_rfl) (fun _ _ _ h => h) (Or.inl ⟨by rfl, ?_⟩) (by assumption) ?_
 rotate_left
 ·intro w hSw
  try dsimp only at hSw
  go_simp
  try with_reducible rfl
 simp only [Act.put, z1, z2, z3, z4, z5, z6]
 refine tkH (i := 5) (v := ?_) rfl (by kernel_rfl) (fun _ _ _ h => h) (Or.inl ⟨by rfl, ?_⟩) (by assumption) ?_
 rotate_left
 ·intro w hSw
  have q0 := (HX1.out.kept hSw).cell 0
  have q5 := (HBX.out.kept hSw).cell 5
  simp at q0 q5
  go_simp
  try with_reducible rfl
 simp only [Act.put, z1, z2, z3, z4, z5, z6]
 refine tkH (i := 6) (v := ?_) rfl (by kernel_rfl) (fun _ _ _ h => h) (Or.inl ⟨by rfl, ?_⟩) (by assumption) ?_
 rotate_left
 ·intro w hSw
  try dsimp only at hSw
  go_simp
  try with_reducible rfl
 simp only [Act.put, z1, z2, z3, z4, z5, z6]
 refine tkH (i := 7) (v := ?_) rfl (by kernel_rfl) (fun _ _ _ h => h) (Or.inl ⟨by rfl, ?_⟩) (by assumption) ?_
 rotate_left
 ·intro w hSw
  try dsimp only at hSw
  go_simp
  try with_reducible rfl
 simp only [Act.put, z1, z2, z3, z4, z5, z6]
 refine tkH (i := 8) (v := ?_) rfl (by kernel_rfl) (fun _ _ _ h => h) (Or.inl ⟨by rfl, ?_⟩) (by assumption) ?_
 rotate_left
 ·intro w hSw
  try dsimp only at hSw
  go_simp
  try with_reducible rfl
 simp only [Act.put, z1, z2, z3, z4, z5, z6]
 refine tkH (i := 9) (v := ?_) rfl (by kernel_rfl) (fun _ _ _ h => h) (Or.inl ⟨by rfl, ?_⟩) (by assumption) ?_
 rotate_left
 ·intro w hSw
  have q0 := (HX1.out.kept hSw).cell 0
  have q5 := (HBX.out.kept hSw).cell 5
  simp at q0 q5
  go_simp
  try with_reducible rfl
 simp only [Act.put, z1, z2, z3, z4, z5, z6]
 refine tkH (i := 10) (v := ?_) rfl (by kernel_rfl) (fun _ _ _ h => h) (Or.inl ⟨by rfl, ?_⟩) (by assumption) ?_
 rotate_left
 ·intro w hSw
  try dsimp only at hSw
  go_simp
  try with_reducible rfl
 simp only [Act.put, z1, z2, z3, z4, z5, z6]
 refine tkH (i := 11) (v := ?_) rfl (by kernel_rfl) (fun _ _ _ h => h) (Or.inl ⟨by rfl, ?_⟩) (by assumption) ?_
 rotate_left
 ·intro w hSw
  try dsimp only at hSw
  go_simp
  try with_reducible rfl
 simp only [Act.put, z1, z2, z3, z4, z5, z6]
 refine tkH (i := 12) (v := ?_) rfl (by kernel_rfl) (fun _ _ _ h => h) (Or.inl ⟨by rfl, ?_⟩) (by assumption) ?_
 rotate_left
 ·intro w hSw
  try dsimp only at hSw
  go_simp
  try with_reducible rfl
 simp only [Act.put, z1, z2, z3, z4, z5, z6]
 refine wpAnyH_done (by kernel_rfl) ?_ _
 have HB2 := Lib.hid hHeld
 clear hHeld
 generalize w1.drew = w2 at *
 go_wp2_with fail
 have HLV : Hid (∀ wq, Below w1.heap.size w1 wq → RLevIs wq (F n) (P n) (q : Int) r d m s (n : Int) (Z n)) := Lib.hid (fun wq hq => (HS1.out.lev n (by rw [Int.toNat_natCast]; exact hn)).frame (fun k hk => hq.block k (HS1.out.fin n k (by rw [Int.toNat_natCast]; exact hn) hk).2))
 refine wp_region_held_drew (S := fun w' => Below w1.heap.size w1 w') (by kernel_rfl) (by exact below_drewN HB2.out 1) (fun hHeld => ?_)
 refine tkH (i := 0) (v := ?_) rfl (by kernel_rfl) (fun _ _ _ h => h) (Or.inl ⟨by rfl, ?_⟩) (by assumption) ?_
 rotate_left
 ·intro w hSw
  try dsimp only at hSw
  go_simp
  try with_reducible rfl
 simp only [Act.put, z1, z2, z3, z4, z5, z6]
 refine tkH (i := 1) (v := ?_) rfl (by kernel_rfl) (fun _ _ _ h => h) (Or.inl ⟨by rfl, ?_⟩) (by assumption) ?_
 rotate_left
 ·intro w hSw
  try dsimp only at hSw
  go_simp
  try with_reducible rfl
 simp only [Act.put, z1, z2, z3, z4, z5, z6]
 refine tkH (i := 2) (v := ?_) rfl (by kernel_rfl) (fun _ _ _ h => h) (Or.inl ⟨by rfl, ?_⟩) (by assumption) ?_
 rotate_left
 ·intro w hSw
  try dsimp only at hSw
  go_simp
  try with_reducible rfl
 simp only [Act.put, z1, z2, z3, z4, z5, z6]
 refine tkH (i := 3) (v := ?_) rfl (by kernel_rfl) (fun _ _ _ h => h) (Or.inl ⟨by rfl, ?_⟩) (by assumption) ?_
 rotate_left
 ·intro w hSw
  have q0 := (HX1.out.kept hSw).cell 0
  have q1 := (HX1.out.kept hSw).cell 1
  have q5 := (HBX.out.kept hSw).cell 5
  have qn := ((HROW.out.kept hSw).cell n).trans HCUR.out
  simp at q0 q1 q5
  go_simp
  try with_reducible rfl
 simp only [Act.put, z1, z2, z3, z4, z5, z6]
 refine tkH (i := 4) (v := ?_) rfl (by kernel_rfl) (fun _ _ _ h => h) (Or.inl ⟨by rfl, ?_⟩) (by assumption) ?_
 rotate_left
 ·intro w hSw
  try dsimp only at hSw
  go_simp
  try with_reducible rfl
 simp only [Act.put, z1, z2, z3, z4, z5, z6]
 refine tkH (i := 5) (v := ?_) rfl (by kernel_rfl) (fun _ _ _ h => h) (Or.inl ⟨by rfl, ?_⟩) (by assumption) ?_
 rotate_left
 ·intro w hSw
  have q0 := (HX1.out.kept hSw).cell 0
  have q1 := (HX1.out.kept hSw).cell 1
  have q5 := (HBX.out.kept hSw).cell 5
  have qn := ((HROW.out.kept hSw).cell n).trans HCUR.out
  simp at q0 q1 q5
  go_simp
  try with_reducible rfl
 simp only [Act.put, z1, z2, z3, z4, z5, z6]
 refine tkH (i := 6) (v := ?_) rfl (by kernel_rfl) (fun _ _ _ h => h) (Or.inl ⟨by rfl, ?_⟩) (by assumption) ?_
 rotate_left
 ·intro w hSw
  try dsimp only at hSw
  go_simp
  try with_reducible rfl
 simp only [Act.put, z1, z2, z3, z4, z5, z6]
 refine tkH (i := 7) (v := ?_) rfl (by kernel_rfl) (fun _ _ _ h => h) (Or.inl ⟨by rfl, ?_⟩) (by assumption) ?_
 rotate_left
 ·intro w hSw
  have q0 := (HX1.out.kept hSw).cell 0
  have q1 := (HX1.out.kept hSw).cell 1
  have q5 := (HBX.out.kept hSw).cell 5
  have qn := ((HROW.out.kept hSw).cell n).trans HCUR.out
  simp at q0 q1 q5
  go_simp
  try with_reducible rfl
 simp only [Act.put, z1, z2, z3, z4, z5, z6]
 refine tkH (i := 8) (v := ?_) rfl (by kernel_rfl) (fun _ _ _ h => h) (Or.inl ⟨by rfl, ?_⟩) (by assumption) ?_
 rotate_left
 ·intro w hSw
  try dsimp only at hSw
  go_simp
  try with_reducible rfl
 simp only [Act.put, z1, z2, z3, z4, z5, z6]
 refine tkH (i := 9) (v := ?_) rfl (by kernel_rfl) (fun _ _ _ h => h) (Or.inl ⟨by rfl, ?_⟩) (by assumption) ?_
 rotate_left
 ·intro w hSw
  have q0 := (HX1.out.kept hSw).cell 0
  have q1 := (HX1.out.kept hSw).cell 1
  have q5 := (HBX.out.kept hSw).cell 5
  have qn := ((HROW.out.kept hSw).cell n).trans HCUR.out
  simp at q0 q1 q5
  go_simp
  try with_reducible rfl
 simp only [Act.put, z1, z2, z3, z4, z5, z6]
 refine wpAnyH_ready (rs := [10]) (by kernel_rfl) (by simp) ?_
 refine AllReadyH.cons rfl (fun Kc hKc => ?_) AllReadyH.nil
 go_simp
 go_wp2_with ((with_reducible refine (PL.out _ (HLV.out _ hHeld)).mono ?_; rintro e wq ⟨rfl, hb'⟩))
 refine hKc.out _ _ ?_ (fun hHeld => ?_)
 ·first | assumption | exact hHeld | exact btr hHeld hb'
 clear hKc Kc
 refine tkH (i := 11) (v := ?_) rfl (by kernel_rfl) (fun _ _ _ h => h) (Or.inl ⟨by rfl, ?_⟩) (by assumption) ?_
 rotate_left
 ·intro w hSw
  try dsimp only at hSw
  go_simp
  try with_reducible rfl
 simp only [Act.put, z1, z2, z3, z4, z5, z6]
 refine tkH (i := 12) (v := ?_) rfl (by kernel_rfl) (fun _ _ _ h => h) (Or.inl ⟨by rfl, ?_⟩) (by assumption) ?_
 rotate_left
 ·intro w hSw
  try dsimp only at hSw
  go_simp
  try with_reducible rfl
 simp only [Act.put, z1, z2, z3, z4, z5, z6]
 refine tkH (i := 13) (v := ?_) rfl (by kernel_rfl) (fun _ _ _ h => h) (Or.inl ⟨by rfl, ?_⟩) (by assumption) ?_
 rotate_left
 ·intro w hSw
  try dsimp only at hSw
  go_simp
  try with_reducible rfl
 simp only [Act.put, z1, z2, z3, z4, z5, z6]
 refine tkH (i := 14) (v := ?_) rfl (by kernel_rfl) (fun _ _ _ h => h) (Or.inl ⟨by rfl, ?_⟩) (by assumption) ?_
 rotate_left
 ·intro w hSw
  try dsimp only at hSw
  go_simp
  try with_reducible rfl
 simp only [Act.put, z1, z2, z3, z4, z5, z6]
 refine wpAnyH_done (by kernel_rfl) ?_ _
 have HB6 := Lib.hid (HB1.out.trans (hHeld.mono (by have := HX1.out.lt; omega)))
 clear hHeld
 go_wp2_with fail
 go_ret2
 exact ⟨rfl, by rw [← HAW.out]; exact HB6.out⟩
end Go.Proofs.YthbkljeibmkimaaGreat


namespace Go.Proofs.YthbkljeibmkimaaGreat
open Go.RowKit
set_option linter.unusedVariables false
set_option linter.unusedSimpArgs false

def qcCells (l : List (Nat × Nat)) : List Value := l.flatMap fun p => [.int .i64 (p.1 : Int), .int .u64 (p.2 : Int)]
theorem qcCells_append (l m : List (Nat × Nat)) : qcCells (l ++ m) = qcCells l ++ qcCells m := by simp [qcCells]
theorem qcCells_get : ∀ {l : List (Nat × Nat)} {t : Nat} {p : Nat × Nat}, l[t]? = some p → (qcCells l)[2 * t]? = some (.int .i64 (p.1 : Int)) ∧ (qcCells l)[2 * t + 1]? = some (.int .u64 (p.2 : Int))
  | [], t, p, h => by simp at h
  | a :: l, 0, p, h => by simp at h; subst h; simp [qcCells]
  | a :: l, t + 1, p, h => by
    have := qcCells_get (l := l) (t := t) (p := p) (by simpa using h)
    rw [show 2 * (t + 1) = 2 * t + 2 by omega, show 2 * t + 2 + 1 = 2 * t + 1 + 2 by omega]
    have e : qcCells (a :: l) = [.int .i64 (a.1 : Int), .int .u64 (a.2 : Int)] ++ qcCells l := by simp [qcCells]
    rw [e, List.getElem?_append_right (by simp), List.getElem?_append_right (by simp)]
    simpa using this
def QcOwn (w : World) (base : Nat) (v : Value) (l : List (Nat × Nat)) : Prop := w.ownsRow base 64 2 v l.length (qcCells l)
def RfOwn (w : World) (base : Nat) (v : Value) (pt : Nat → Nat → Int) (l : List (Nat × Nat)) : Prop := w.ownsRow base 90 3 v l.length (fdCells pt l)
theorem QcOwn.kept {w w' : World} {base : Nat} {v : Value} {l : List (Nat × Nat)} (h : QcOwn w base v l) (hb : Below w.heap.size w w') : QcOwn w' base v l := own_kept h hb
theorem RfOwn.kept {w w' : World} {base : Nat} {v : Value} {pt : Nat → Nat → Int} {l : List (Nat × Nat)} (h : RfOwn w base v pt l) (hb : Below w.heap.size w w') : RfOwn w' base v pt l := own_kept h hb
theorem QcOwn.range {w : World} {base : Nat} {v : Value} {l : List (Nat × Nat)} (h : QcOwn w base v l) {t : Nat} {p : Nat × Nat} (ht : l[t]? = some p) : ∃ g cap, v = .slice (some ⟨g, 0, none⟩) l.length cap ∧ base ≤ g ∧ g < w.heap.size ∧ l.length ≤ cap ∧ cap ≤ maxLen ∧ w.rangeAt g (t * 2) [.int .i64 (p.1 : Int), .int .u64 (p.2 : Int)] := by
  have hl : t < l.length := (List.getElem?_eq_some_iff.1 ht).1
  obtain ⟨g, cap, h1, h2, h3, h4, h5, h6⟩ := own_cells h (by omega)
  obtain ⟨g0, g1⟩ := qcCells_get ht
  rw [Nat.mul_comm 2 t] at g0 g1
  refine ⟨g, cap, h1, h2, h3, h4, h5, fun j u hu => ?_⟩
  match j, hu with
  | 0, hu => simp at hu; subst hu; simpa using h6 _ _ g0
  | 1, hu => simp at hu; subst hu; exact h6 _ _ g1
  | j + 2, hu => simp at hu
theorem RfOwn.range {w : World} {base : Nat} {v : Value} {pt : Nat → Nat → Int} {l : List (Nat × Nat)} (h : RfOwn w base v pt l) {t : Nat} {p : Nat × Nat} (ht : l[t]? = some p) : ∃ g cap, v = .slice (some ⟨g, 0, none⟩) l.length cap ∧ base ≤ g ∧ g < w.heap.size ∧ l.length ≤ cap ∧ cap ≤ maxLen ∧ w.rangeAt g (t * 3) [.int .i64 (p.1 : Int), .int .u64 (p.2 : Int), .int .i64 (pt p.1 p.2)] := by
  have hl : t < l.length := (List.getElem?_eq_some_iff.1 ht).1
  obtain ⟨g, cap, h1, h2, h3, h4, h5, h6⟩ := own_cells h (by omega)
  obtain ⟨g0, g1, g2⟩ := fdCells_get (pt := pt) ht
  rw [Nat.mul_comm 3 t] at g0 g1 g2
  refine ⟨g, cap, h1, h2, h3, h4, h5, fun j u hu => ?_⟩
  match j, hu with
  | 0, hu => simp at hu; subst hu; simpa using h6 _ _ g0
  | 1, hu => simp at hu; subst hu; exact h6 _ _ g1
  | 2, hu => simp at hu; subst hu; exact h6 _ _ g2
  | j + 3, hu => simp at hu
theorem RfOwn.push {w : World} {base : Nat} {v : Value} {pt : Nat → Nat → Int} {l l' : List (Nat × Nat)} {n x N : Nat} (hl : l' = l ++ [(n, x)]) (hN : N = l.length) (h : w.ownsRow base 90 3 v (N + 1) (fdCells pt l ++ [.int .i64 (n : Int), .int .u64 (x : Int), .int .i64 (pt n x)])) : RfOwn w base v pt l' := by
  subst hl hN
  unfold RfOwn
  rw [fdCells_append, List.length_append]
  exact h
theorem QcOwn.push2 {w : World} {base : Nat} {v : Value} {l l' : List (Nat × Nat)} {n x y N : Nat} (hl : l' = l ++ [(n, x), (n, y)]) (hN : N = l.length) (h : w.ownsRow base 64 2 v (N + 2) (qcCells l ++ [.int .i64 (n : Int), .int .u64 (x : Int), .int .i64 (n : Int), .int .u64 (y : Int)])) : QcOwn w base v l' := by
  subst hl hN
  unfold QcOwn
  rw [qcCells_append, List.length_append]
  exact h
theorem Tryz.infoRf : (Tryz.prog.info? 90).map (fun i => (i.zero, i.size, i.bytes)) = some (some (.agg #[.int .i64 0, .int .u64 0, .int .i64 0]), 3, 24) := by kernel_rfl
def RHvPost (w : World) (pt : Nat → Nat → Int) (least budget : Int) (b : Nat) (e : Ending) (w' : World) : Prop :=
  ∃ v, e = .returned (.tuple #[v, .int .i64 (hvErr pt least budget b)]) ∧ (hvErr pt least budget b = 0 → RfOwn w' w.heap.size v pt (hvOut pt least b (b + 1))) ∧ (hvErr pt least budget b ≠ 0 → v = .slice none 0 0) ∧ Below w.heap.size w w'
def RPtIs (w : World) (RS : Nat) (b : Nat) (pt : Nat → Nat → Int) : Prop :=
  (∀ wq, Below w.heap.size w wq → wq.cell? ⟨RS, 0, none⟩ = some (.int .i64 (b : Int))) ∧
  ∀ wq, Below w.heap.size w wq → ∀ n i : Nat, n ≤ b → i < 2 ^ (b - n) → Calls Tryz.prog 32 #[.pointer (some ⟨RS, 0, none⟩), .agg #[.int .i64 (n : Int), .int .u64 (i : Int)]] wq fun e w' => e = .returned (.tuple #[.int .i64 (pt n i), .int .i64 0]) ∧ Below wq.heap.size wq w'
structure RhI (w wr : World) (pt : Nat → Nat → Int) (least : Int) (b t : Nat) (a o : Value) : Prop where
  ask : QcOwn wr w.heap.size a (qSt pt least b t).1
  out : RfOwn wr w.heap.size o pt (qSt pt least b t).2
  ne : ∀ k, a.ownBlock = some k → o.ownBlock ≠ some k
  bel : Below w.heap.size w wr
set_option maxRecDepth 100000 in
set_option maxHeartbeats 8000000 in
theorem rhheavy (w : World) (RS b : Nat) (pt : Nat → Nat → Int) (hp : RPtIs w RS b pt) (hb1 : 1 ≤ b) (hb : b ≤ 59) (least budget : Int) (hl : In64 least) (hbu : In64 budget) :
  Calls Tryz.prog 12 #[.pointer (some ⟨RS, 0, none⟩), .int .i64 least, .int .i64 budget] w (RHvPost w pt least budget b) := by
 obtain ⟨iF, hF, hF0, hF1, hF2⟩ := info_parts Tryz.infoRf
 obtain ⟨iP, hP, hP0, hP1, hP2⟩ := info_parts Tryz.infoPc
 obtain ⟨hcf, hpt⟩ := hp
 have HCF := Lib.hid hcf
 have HPT := Lib.hid hpt
 clear hcf hpt
 by_cases h1 : least < 1 ∨ 4096 < budget
 ·have HQ : Hid (RHvPost w pt least budget b (.returned (.tuple #[.slice none 0 0, .int .i64 1])) w) := Lib.hid (by
   have he : hvErr pt least budget b = 1 := by unfold hvErr; rw [if_pos h1]
   exact ⟨_, by rw [he], fun h => absurd h (by rw [he]; decide), fun _ => rfl, Below.refl _ _⟩)
  go_enter Tryz.func12, Tryz.ntmps12
  by_cases hl1 : least < 1
  ·go_wp2
   go_ret2
   exact HQ.out
  ·have hb4 : 4096 < budget := by omega
   go_wp2
   go_ret2
   exact HQ.out
 ·have l1 : 1 ≤ least := by omega
  have l2 : budget ≤ 4096 := by omega
  have HE : Hid (hvErr pt least budget b = if budget < (askedUp pt least b (b + 1) : Int) then 7 else 0) := Lib.hid (by unfold hvErr; rw [if_neg h1])
  have HQ7 : Hid (∀ w', Below w.heap.size w w' → budget < (askedUp pt least b (b + 1) : Int) → RHvPost w pt least budget b (.returned (.tuple #[.slice none 0 0, .int .i64 7])) w') := Lib.hid (fun w' hb' hh => by
   have he : hvErr pt least budget b = 7 := by rw [HE.out, if_pos hh]
   exact ⟨_, by rw [he], fun h => absurd h (by rw [he]; decide), fun _ => rfl, hb'⟩)
  have HQ0 : Hid (∀ w' v, Below w.heap.size w w' → ¬ budget < (askedUp pt least b (b + 1) : Int) → RfOwn w' w.heap.size v pt (hvOut pt least b (b + 1)) → RHvPost w pt least budget b (.returned (.tuple #[v, .int .i64 0])) w') := Lib.hid (fun w' v hb' hh hf => by
   have he : hvErr pt least budget b = 0 := by rw [HE.out, if_neg hh]
   exact ⟨_, by rw [he], fun _ => hf, fun h => absurd he h, hb'⟩)
  have c0 := HCF.out w (Below.refl _ _)
  clear h1
  go_enter Tryz.func12, Tryz.ntmps12
  go_wp2_with fail
  clear c0
  go_loopw [8, 9, 10] (fun a o i wr => ∃ t : Nat, i = .int .i64 (t : Int) ∧ t ≤ (qSt pt least b t).1.length ∧ (qSt pt least b t).1.length ≤ 4098 ∧ RhI w wr pt least b t a o) (fun _ _ i _ => 4098 - (intOf i).toNat)
  case atStart =>
   have hB0 : Below w.heap.size w (w.alloc (.cells #[.int .i64 (b : Int), .int .u64 0] 64)) := (Below.refl _ _).alloc (Nat.le_refl _) _
   refine ⟨0, rfl, Nat.zero_le _, by simp [qSt], ⟨?_, ?_, ?_, hB0.alloc hB0.size _⟩⟩
   ·exact World.ownsRow.alloc (World.ownsRow_lit (base := w.heap.size) (e := 64) (size := 2) w #[.int .i64 (b : Int), .int .u64 0] 1 (Nat.le_refl _) (by unfold maxLen; omega) (by simp)) _
   ·have h1 := World.ownsRow_lit (base := w.heap.size) (e := 90) (size := 3) (w.alloc (.cells #[.int .i64 (b : Int), .int .u64 0] 64)) #[] 0 (by simp) (by unfold maxLen; omega) (by simp)
    have e : (w.alloc (.cells #[.int .i64 (b : Int), .int .u64 0] 64)).heap.size = w.heap.size + 1 := by simp
    rw [e] at h1
    exact h1
   ·simp [Value.ownBlock]
  case round =>
   obtain ⟨t, rfl, htl, hL8, hI⟩ := hrel
   have HI := Lib.hid hI
   have HMO := Lib.hid (q_most pt least b t)
   obtain ⟨L, hL⟩ : ∃ L, L = (qSt pt least b t).1.length := ⟨_, rfl⟩
   have HL := Lib.hid hL
   obtain ⟨aao, acap, ha, -, -⟩ := own_open hI.ask
   rw [← hL] at ha htl hL8
   subst ha
   clear hL hI
   generalize wr = wo at *
   by_cases hlt : t < L
   ·have hlz : (t : Int) < (L : Int) := by omega
    by_cases hov : budget < (L : Int)
    ·have HF := Lib.hid (HQ7.out wo HI.out.bel (by have := HMO.out; have := HL.out; omega))
     go_wp2_with fail
     go_ret2
     exact HF.out
    ·have hovz : (L : Int) ≤ budget := by omega
     have hL4 : L ≤ 4096 := by omega
     obtain ⟨⟨n, x⟩, hpx⟩ : ∃ p, (qSt pt least b t).1[t]? = some p := ⟨_, List.getElem?_eq_getElem (by rw [← HL.out]; exact hlt)⟩
     have HNX := Lib.hid (qSt_next hpx)
     have hin : n ≤ b ∧ x < 2 ^ (b - n) := q_in pt least b t (n, x) (List.mem_of_getElem? hpx)
     obtain ⟨g, cp, e, hg1, hg2, -, -, hrg⟩ := HI.out.ask.range hpx
     simp only [Value.slice.injEq] at e
     obtain ⟨rfl, -, rfl⟩ := e
     have HRG := Lib.hid hrg
     have HOL := Lib.hid (q_lens pt least b t).1
     have PPT := Lib.hid (fun wq hq => HPT.out wq hq n x hin.1 hin.2)
     have hx58 : 0 < n → x < 288230376151711744 := fun h0 => by
      have h2 : (2 : Nat) ^ (b - n) ≤ 2 ^ 58 := Nat.pow_le_pow_right (by decide) (by omega)
      have h3 : (2 : Nat) ^ 58 = 288230376151711744 := by decide
      omega
     have HX58 := Lib.hid hx58
     have hnb : n ≤ 59 := by omega
     have HBN := Lib.hid (HI.out.bel.alloc HI.out.bel.size (.cells #[.int .i64 (n : Int), .int .u64 (x : Int)] 64))
     have hsz := HI.out.bel.size
     clear hpx hrg hin hx58 hov
     have hrg := HRG.out
     go_wp2_with (refine wpList_load_mid rfl 64 _ rfl g (t * 2) rfl [.int .i64 (n : Int), .int .u64 (x : Int)] _ hrg Tryz.underlying64 rfl (by kernel_rfl) ?_)
     with_reducible refine (PPT.out _ HBN.out).mono ?_
     rintro e wa ⟨rfl, hb⟩
     have HAB := Lib.hid (btr ((Below.refl wo.heap.size wo).alloc (Nat.le_refl _) (.cells #[.int .i64 (n : Int), .int .u64 (x : Int)] 64)) hb)
     have hpx : Blk wa wo.heap.size 64 #[.int .i64 (n : Int), .int .u64 (x : Int)] := (Blk.new wo _ _).kept hb
     have HPX := Lib.hid hpx
     have HASK := Lib.hid (HI.out.ask.kept HAB.out)
     have HOUT := Lib.hid (HI.out.out.kept HAB.out)
     have HNE := Lib.hid HI.out.ne
     have HBA := Lib.hid (btr HI.out.bel HAB.out)
     have hsza := HAB.out.size
     clear hb hrg hsz
     by_cases hlt3 : pt n x < least
     ·have HN2 : Hid (qSt pt least b (t + 1) = qSt pt least b t) := Lib.hid (by rw [HNX.out, if_neg (by simp; omega)])
      have HI2 : Hid (RhI w wa pt least b (t + 1) (.slice (some ⟨g, 0, none⟩) L acap) u9) := Lib.hid ⟨by rw [HN2.out]; exact HASK.out, by rw [HN2.out]; exact HOUT.out, HNE.out, HBA.out⟩
      clear hpx hsza
      go_wp2_with fail
      go_roundw
      case rel => exact ⟨t + 1, by go_num, by rw [HN2.out, ← HL.out]; omega, by rw [HN2.out, ← HL.out]; omega, HI2.out⟩
      case measure => simp [intOf]; omega
     ·have hge : least ≤ pt n x := by omega
      have HN2 : Hid (qSt pt least b (t + 1) = ((qSt pt least b t).1 ++ kidsP (n, x), (qSt pt least b t).2 ++ [(n, x)])) := Lib.hid (by rw [HNX.out, if_pos hge])
      obtain ⟨N, hN⟩ : ∃ N, N = (qSt pt least b t).2.length := ⟨_, rfl⟩
      have HLN := Lib.hid hN
      have hNb : N ≤ 4098 := by rw [hN]; have := HOL.out; omega
      have HFA : Hid (wa.ownsRow w.heap.size 90 3 u9 N (fdCells pt (qSt pt least b t).2)) := Lib.hid (by rw [hN]; exact HOUT.out)
      have hc1 : N + 1 ≤ maxLen := by unfold maxLen; omega
      have hc4 : (N + 1) * 24 ≤ 140737488355328 := by omega
      have HBA2 := Lib.hid (HBA.out.alloc HBA.out.size (.cells #[.int .i64 (n : Int), .int .u64 (x : Int), .int .i64 (pt n x)] 90))
      obtain ⟨oao, ocap, ho10, -, -⟩ := own_open HFA.out
      subst ho10
      clear hN
      go_wp2_with (first | refine wpList_load_row rfl 64 _ rfl wo.heap.size rfl 64 _ (0, 0) _ hpx Tryz.underlying64 rfl (by kernel_rfl) ?_ | (at_builtin; go_loud (refine wpList_append_own_at _ rfl _ _ 42 rfl w.heap.size 90 iF (.agg #[.int .i64 0, .int .u64 0, .int .i64 0]) 3 24 Tryz.underlying42 hF hF0 hF1 hF2 rfl (by decide) _ N _ rfl (World.ownsRow.alloc HFA.out _) ⟨wa.heap.size, 0, none⟩ 1 1 [.int .i64 (n : Int), .int .u64 (x : Int), .int .i64 (pt n x)] rfl rfl (cells_new _ rfl) ?c2 hc1 hc4 ?c5 ?_)))
      case c2 => simp [Value.oneCell']
      case c5 => exact HBA2.out.size
      intro v5 w5 hown' hgrow hnil' hq5
      have HFD5 : Hid (RfOwn w5 w.heap.size v5 pt ((qSt pt least b t).2 ++ [(n, x)])) := Lib.hid (RfOwn.push rfl HLN.out hown')
      have HAS5 : Hid (QcOwn w5 w.heap.size (.slice (some ⟨g, 0, none⟩) L acap) (qSt pt least b t).1) := Lib.hid (own_gr (World.ownsRow.alloc HASK.out _) hgrow (fun k e => HNE.out k e))
      have HNE5 : Hid (∀ k, (Value.slice (some ⟨g, 0, none⟩) L acap).ownBlock = some k → v5.ownBlock ≠ some k) := Lib.hid (fun k e => by
       rcases hq5 with h | h
       ·rw [h]; exact HNE.out k e
       ·rw [h]
        intro e2
        have := (HASK.out.lt k e).2
        have := Option.some.inj e2
        omega)
      have HPX5 : Hid (Blk w5 wo.heap.size 64 #[.int .i64 (n : Int), .int .u64 (x : Int)]) := Lib.hid ((HPX.out.alloc _).grown hgrow (own_far HFA.out HPX.out (by decide)))
      have HB5 := Lib.hid (HBA2.out.grown hgrow HBA2.out.size (fun k e => (HFA.out.lt k e).1))
      have hs5 := hgrow.size
      obtain ⟨pao, pcap, hv5, -, -⟩ := own_open hown'
      subst hv5
      clear hown' hgrow hnil' hq5 hs5 hc1 hc4 hpx
      have p0 := HPX5.out.cell 0
      have p1 := HPX5.out.cell 1
      simp at p0 p1
      by_cases hn0 : 0 < n
      ·obtain ⟨m', hm'⟩ : ∃ m', n = m' + 1 := ⟨n - 1, by omega⟩
       have hx58 := HX58.out hn0
       obtain ⟨y1, hy1⟩ : ∃ y1, y1 = 2 * x := ⟨_, rfl⟩
       obtain ⟨y2, hy2⟩ : ∃ y2, y2 = 2 * x + 1 := ⟨_, rfl⟩
       have hz1 : 2 * (x : Int) = (y1 : Int) := by omega
       have hz2 : (y1 : Int) + 1 = (y2 : Int) := by omega
       have hz3 : (n : Int) - 1 = (m' : Int) := by omega
       have hw1 : IntKind.u64.wrap (y1 : Int) = (y1 : Int) := by rw [wrapU_mod]; omega
       have hw2 : IntKind.u64.wrap (y2 : Int) = (y2 : Int) := by rw [wrapU_mod]; omega
       have hw3 : IntKind.i64.wrap (m' : Int) = (m' : Int) := wrapI_of _ (by omega) (by omega)
       have hnz : (0 : Int) < (n : Int) := by omega
       have HKP : Hid (kidsP (n, x) = [(m', y1), (m', y2)]) := Lib.hid (by
        unfold kidsP
        rw [if_pos (by simpa using hn0), hy1, hy2]
        simp [hm'])
       have HPA : Hid (w5.ownsRow w.heap.size 64 2 (.slice (some ⟨g, 0, none⟩) L acap) L (qcCells (qSt pt least b t).1)) := Lib.hid (by
        have h1 := HAS5.out
        unfold QcOwn at h1
        rw [← HL.out] at h1
        exact h1)
       have hc1 : L + 2 ≤ maxLen := by unfold maxLen; omega
       have hc4 : (L + 2) * 16 ≤ 140737488355328 := by omega
       have HB8 := Lib.hid (HB5.out.alloc HB5.out.size (.cells #[.int .i64 (m' : Int), .int .u64 (y1 : Int), .int .i64 (m' : Int), .int .u64 (y2 : Int)] 64))
       clear hm' hy1 hy2 hx58 hn0
       go_wp2_with (at_builtin; go_loud (refine wpList_append_own_at _ rfl _ _ 85 rfl w.heap.size 64 iP (.agg #[.int .i64 0, .int .u64 0]) 2 16 Tryz.underlying85 hP hP0 hP1 hP2 rfl (by decide) _ L _ rfl (World.ownsRow.alloc HPA.out _) ⟨w5.heap.size, 0, none⟩ 2 2 [.int .i64 (m' : Int), .int .u64 (y1 : Int), .int .i64 (m' : Int), .int .u64 (y2 : Int)] rfl rfl (cells_new _ rfl) ?c2 hc1 hc4 ?c5 ?_))
       case c2 => simp [Value.oneCell']
       case c5 => exact HB8.out.size
       intro v7 w7 hown' hgrow hnil' hq7
       have HAS7 : Hid (QcOwn w7 w.heap.size v7 ((qSt pt least b t).1 ++ [(m', y1), (m', y2)])) := Lib.hid (QcOwn.push2 rfl HL.out hown')
       have HFD7 : Hid (RfOwn w7 w.heap.size (.slice pao (N + 1) pcap) pt ((qSt pt least b t).2 ++ [(n, x)])) := Lib.hid (own_gr (World.ownsRow.alloc HFD5.out _) hgrow (fun k e => fun e2 => HNE5.out k e2 e))
       have HNE7 : Hid (∀ k, v7.ownBlock = some k → (Value.slice pao (N + 1) pcap).ownBlock ≠ some k) := Lib.hid (fun k e => by
        rcases hq7 with h | h
        ·rw [h] at e; exact HNE5.out k e
        ·rw [h] at e
         intro e2
         have h1 := (HFD5.out.lt k e2).2
         have := Option.some.inj e
         omega)
       have HB7 := Lib.hid (HB8.out.grown hgrow HB8.out.size (fun k e => (HPA.out.lt k e).1))
       have HI2 : Hid (RhI w w7 pt least b (t + 1) v7 (.slice pao (N + 1) pcap)) := Lib.hid ⟨by rw [HN2.out, HKP.out]; exact HAS7.out, by rw [HN2.out]; exact HFD7.out, HNE7.out, HB7.out⟩
       have HLL : Hid ((qSt pt least b (t + 1)).1.length = L + 2) := Lib.hid (by rw [HN2.out, HKP.out, List.length_append, ← HL.out]; rfl)
       obtain ⟨vao, vcap, hv7, -, -⟩ := own_open hown'
       subst hv7
       clear hown' hgrow hnil' hq7 hc1 hc4 p0 p1
       go_wp2_with fail
       go_roundw
       case rel => exact ⟨t + 1, by go_num, by rw [HLL.out]; omega, by rw [HLL.out]; omega, HI2.out⟩
       case measure => simp [intOf]; omega
      ·have hnz : ¬ (0 : Int) < (n : Int) := by omega
       have HKP : Hid (kidsP (n, x) = []) := Lib.hid (by unfold kidsP; rw [if_neg (by simpa using hn0)])
       have HI2 : Hid (RhI w w5 pt least b (t + 1) (.slice (some ⟨g, 0, none⟩) L acap) (.slice pao (N + 1) pcap)) := Lib.hid ⟨by rw [HN2.out, HKP.out, List.append_nil]; exact HAS5.out, by rw [HN2.out]; exact HFD5.out, HNE5.out, HB5.out⟩
       have HLL : Hid ((qSt pt least b (t + 1)).1.length = L) := Lib.hid (by rw [HN2.out, HKP.out, List.append_nil, ← HL.out])
       clear hn0
       go_wp2_with fail
       go_roundw
       case rel => exact ⟨t + 1, by go_num, by rw [HLL.out]; omega, by rw [HLL.out]; omega, HI2.out⟩
       case measure => simp [intOf]; omega
   ·have hlz : ¬ (t : Int) < (L : Int) := by omega
    have HLA := Lib.hid (q_last (pt := pt) (least := least) (b := b) (t := t) (by have := HL.out; omega))
    have HLE : Hid (L = askedUp pt least b (b + 1)) := Lib.hid (by rw [HL.out, HLA.out, rowsP_len])
    have HOO : Hid (RfOwn wo w.heap.size u9 pt (hvOut pt least b (b + 1))) := Lib.hid (by
     have h2 := HI.out.out
     rw [HLA.out] at h2
     exact h2)
    by_cases hov : budget < (L : Int)
    ·have HF := Lib.hid (HQ7.out wo HI.out.bel (by have := HLE.out; omega))
     go_wp2_with fail
     go_ret2
     exact HF.out
    ·have hovz : (L : Int) ≤ budget := by omega
     have HF := Lib.hid (HQ0.out wo u9 HI.out.bel (by have := HLE.out; omega) HOO.out)
     go_wp2_with fail
     go_ret2
     exact HF.out
end Go.Proofs.YthbkljeibmkimaaGreat


namespace Go.Proofs.YthbkljeibmkimaaGreat
open Go.RowKit
set_option linter.unusedVariables false
set_option linter.unusedSimpArgs false

end Go.Proofs.YthbkljeibmkimaaGreat


namespace Go.Proofs.YthbkljeibmkimaaGreat
open Go.RowKit
set_option linter.unusedVariables false
set_option linter.unusedSimpArgs false

theorem lies_far {p1 p2 q1 q2 : Nat} (h : ¬ p1 ≤ q1) : liesB (p1, p2) (q1, q2) = false := by unfold liesB; simp [h]
theorem lies_near {p1 p2 q1 q2 t : Nat} (h : p1 + t = q1) : liesB (p1, p2) (q1, q2) = ((p2 : Int) / 2 ^ t == (q2 : Int)) := by
  have e : (p2 : Int) / 2 ^ t = ((p2 / 2 ^ t : Nat) : Int) := by rw [Int.natCast_ediv, Int.natCast_pow]; rfl
  rw [e]
  unfold liesB
  have h1 : p1 ≤ q1 := by omega
  have h2 : q1 - p1 = t := by omega
  simp only [h1, h2, decide_true, Bool.true_and]
  by_cases h3 : p2 / 2 ^ t = q2
  · rw [h3]; simp
  · rw [decide_eq_false h3]
    symm
    rw [beq_eq_false_iff_ne]
    intro h4
    exact h3 (by exact_mod_cast h4)
set_option maxRecDepth 100000 in
set_option maxHeartbeats 4000000 in
theorem in_any (p1 p2 q1 q2 : Nat) (h1 : p1 ≤ 59) (h2 : p2 < 18446744073709551616) (h3 : q1 ≤ 59) (h4 : q2 < 18446744073709551616) (w : World) :
  Calls Tryz.prog 41 #[.agg #[.int .i64 (p1 : Int), .int .u64 (p2 : Int)], .agg #[.int .i64 (q1 : Int), .int .u64 (q2 : Int)]] w fun e w' => e = .returned (.bool (liesB (p1, p2) (q1, q2))) ∧ Below w.heap.size w w' := by
 obtain ⟨g1, g2, hb1, hsz1⟩ := news2 w (.cells #[.int .i64 (p1 : Int), .int .u64 (p2 : Int)] 64) (.cells #[.int .i64 (q1 : Int), .int .u64 (q2 : Int)] 64)
 have HX1 : Hid (Blk _ w.heap.size 64 #[.int .i64 (p1 : Int), .int .u64 (p2 : Int)]) := Lib.hid g1
 have HX2 : Hid (Blk _ (w.heap.size + 1) 64 #[.int .i64 (q1 : Int), .int .u64 (q2 : Int)]) := Lib.hid g2
 have HB1 := Lib.hid hb1
 have u0 := HX1.out.cell 0
 have u1 := HX1.out.cell 1
 have v0 := HX2.out.cell 0
 have v1 := HX2.out.cell 1
 simp at u0 u1 v0 v1
 clear g1 g2 hb1 hsz1
 by_cases hpq : p1 ≤ q1
 ·obtain ⟨t, ht⟩ : ∃ t, p1 + t = q1 := ⟨q1 - p1, by omega⟩
  have HR := Lib.hid (lies_near (p2 := p2) (q2 := q2) ht)
  have htz : (q1 : Int) - (p1 : Int) = (t : Int) := by omega
  have htb : t ≤ 59 := by omega
  have ew : IntKind.u64.wrap (t : Int) = (t : Int) := by rw [wrapU_mod]; omega
  have ei : IntKind.i64.wrap (t : Int) = (t : Int) := wrapI_of _ (by omega) (by omega)
  have hpz : (p1 : Int) ≤ (q1 : Int) := by omega
  clear ht
  rw [HR.out]
  go_enter Tryz.func41, Tryz.ntmps41
  go_wp2_with fail
  go_ret
  exact ⟨rfl, HB1.out⟩
 ·have HR := Lib.hid (lies_far (p2 := p2) (q2 := q2) hpq)
  have hpz : ¬ (p1 : Int) ≤ (q1 : Int) := by omega
  rw [HR.out]
  go_enter Tryz.func41, Tryz.ntmps41
  go_wp2_with fail
  go_ret
  exact ⟨rfl, HB1.out⟩
end Go.Proofs.YthbkljeibmkimaaGreat

