/-
  The walks of gaugerref05.Sorted, Median. Conditions: none beyond those stated at each theorem.
-/
import Derived.Test.YtcinlcbmjboaaaaRfE
import Derived.Test.YtcinlcbmjboaaaaConP
namespace Go.Proofs.Ytcinlcbmjboaaaa
open Go.RowKit
set_option linter.unusedVariables false
set_option linter.unusedSimpArgs false

section
variable {P : Program}
theorem wpList_append_lit {ops : Array Oper} {rest : List Oper} {o : Oper} {w : World} {a : Act} {Q : Exit → Act → World → Prop} (hgd : o.guard = none) (s x : Operand) (t : TypeId)
    (ho : o.op = .call { callee := .builtin .append, args := #[s, x], argTypes := #[t, t] })
    (base : Nat) (e : TypeId) (i : TypeInfo) (z : Value) (bytes : Nat) (ht : P.underlying t = some (.slice e)) (hi : P.info? e = some i) (hz : i.zero = some z)
    (hsize : i.size = 1) (hby : i.bytes = bytes) (hzs : z.cells.size = 1)
    (g cap : Nat) (hs : a.eval s = .slice (some ⟨g, 0, none⟩) 0 cap) (hown : w.ownsRow base e 1 (.slice (some ⟨g, 0, none⟩) 0 cap) 0 [])
    (ao : Option Addr) (m c : Nat) (news : List Value) (hx : a.eval x = .slice ao m c) (hl : news.length = m) (hnews : 0 < m → ∃ ad, ao = some ad ∧ ∀ j u, news[j]? = some u → w.cell? (ad.add j) = some u) (h1 : ∀ u ∈ news, u.oneCell' = true)
    (h63 : m ≤ maxLen) (hbytes : m * bytes ≤ 140737488355328) (hbase : base ≤ w.heap.size)
    (h : ∀ v' w', w'.ownsRow base e 1 v' m news → w.grownBy w' (some g) → v' ≠ .slice none 0 0 → (v'.ownBlock = some g ∨ v'.ownBlock = some w.heap.size) → wpList P ops Q rest (a.put o.dst v') w') :
    wpList P ops Q (o :: rest) a w :=
  wpList_plain hgd fun K hK => wp_append_lit s x t ho base e i z bytes ht hi hz hsize hby hzs g cap hs hown ao m c news hx hl hnews h1 h63 hbytes hbase fun v' w' h2 h3 h4 h5 => hK _ _ (h v' w' h2 h3 h4 h5)
end

theorem one_cells {w : World} {g : Nat} {x : Value} (h : w.cell? ⟨g, 0, none⟩ = some x) : ∀ j u, [x][j]? = some u → w.cell? ((⟨g, 0, none⟩ : Addr).add j) = some u := by
  intro j u hj
  match j, hj with
  | 0, hj =>
    simp at hj
    subst hj
    rw [addr_add]
    exact h
theorem own_mono {w : World} {b b' : Nat} {e : TypeId} {v : Value} {n : Nat} {xs : List Value} (h : w.ownsRow b e 1 v n xs) (hb : b' ≤ b) : w.ownsRow b' e 1 v n xs := by
  refine ⟨h.1, ?_⟩
  rcases h.2 with h | ⟨g, cap, cur, e1, e2, e3⟩
  · exact .inl h
  · exact .inr ⟨g, cap, cur, e1, Nat.le_trans hb e2, e3⟩
theorem ins_own {w : World} {b b' : Nat} {e : TypeId} {v : Value} {a j m : Nat} {o : List Int} {x : Int} (h : w.ownsRow b e 1 v (a + 1 + m) ((o.take a).map (Value.int .i64) ++ [.int .i64 x] ++ (o.drop a).map (Value.int .i64))) (hb : b' ≤ b) (ha : a ≤ j) (hm : m = j - a) : w.ownsRow b' e 1 v (j + 1) ((insZ o a x).map (Value.int .i64)) := by
  have h1 : a + 1 + m = j + 1 := by omega
  rw [h1] at h
  have h2 : (insZ o a x).map (Value.int .i64) = (o.take a).map (Value.int .i64) ++ [.int .i64 x] ++ (o.drop a).map (Value.int .i64) := by simp [insZ]
  rw [h2]
  exact own_mono h hb
theorem drop_news {w w' : World} {go a j : Nat} {o : List Int} (hc : ∀ k, k < j → w.cell? ⟨go, k, none⟩ = some (.int .i64 (cellD o k))) (hl : o.length = j) (hg : go < w.heap.size) (hb : Below w.heap.size w w') {k : Nat} {u : Value} (hu : ((o.drop a).map (Value.int .i64))[k]? = some u) : w'.cell? ⟨go, a + k, none⟩ = some u := by
  rw [List.getElem?_map, List.getElem?_drop] at hu
  cases hz : o[a + k]? with
  | none => rw [hz] at hu; simp at hu
  | some z =>
    rw [hz] at hu
    simp at hu
    subst hu
    have hk : a + k < j := by have := (List.getElem?_eq_some_iff.1 hz).1; omega
    have := hc (a + k) hk
    rw [show cellD o (a + k) = z by simp [cellD, hz]] at this
    exact (hb.cell (p := ⟨go, a + k, none⟩) hg).trans this
theorem take_news {w w' : World} {go a j : Nat} {o : List Int} (hc : ∀ k, k < j → w.cell? ⟨go, k, none⟩ = some (.int .i64 (cellD o k))) (hl : o.length = j) (hg : go < w.heap.size) (hb : Below w.heap.size w w') {k : Nat} {u : Value} (hu : ((o.take a).map (Value.int .i64))[k]? = some u) : w'.cell? ⟨go, k, none⟩ = some u := by
  rw [List.getElem?_map, List.getElem?_take] at hu
  split at hu
  · cases hz : o[k]? with
    | none => rw [hz] at hu; simp at hu
    | some z =>
      rw [hz] at hu
      simp at hu
      subst hu
      have hk : k < j := by have := (List.getElem?_eq_some_iff.1 hz).1; omega
      have := hc k hk
      rw [show cellD o k = z by simp [cellD, hz]] at this
      exact (hb.cell (p := ⟨go, k, none⟩) hg).trans this
  · simp at hu

def SortedPost (w : World) (zs : List Int) (e : Ending) (w' : World) : Prop :=
  ∃ g cap o, e = .returned (.slice (some ⟨g, 0, none⟩) zs.length cap) ∧ zs.length ≤ cap ∧ IntsAt w' (.slice (some ⟨g, 0, none⟩) zs.length cap) o ∧ o.length = zs.length ∧ SortedL o ∧ o.Perm zs ∧ Below w.heap.size w w'
set_option maxRecDepth 100000 in
set_option maxHeartbeats 8000000 in
theorem sorted_any (v : Value) (zs : List Int) (w : World) (hv : IntsAt w v zs) (hn : zs.length ≤ 1000) :
    Calls Try.prog 64 #[v] w (SortedPost w zs) := by
  obtain ⟨ao, cap, rfl, hcap, hcells⟩ := hv
  have HC := Lib.hid hcells
  clear hcells
  obtain ⟨n, hlen⟩ : ∃ n, n = zs.length := ⟨_, rfl⟩
  have HLEN := Lib.hid hlen
  unfold SortedPost
  rw [← hlen] at hcap hn HC
  simp only [← hlen]
  obtain ⟨i0, hi, hz0, hz1, hz2⟩ := info_parts Try.info64
  have hown0 := World.ownsRow_lit (base := w.heap.size) (e := 2) (size := 1) w #[] 0 (by exact Nat.le_refl _) (by unfold maxLen; omega) (by simp)
  have HO1 := Lib.hid hown0
  have HB1 : Hid (Below w.heap.size w (w.alloc (.cells #[] 2))) := Lib.hid ((Below.refl _ _).alloc (Nat.le_refl _) _)
  clear hlen hown0
  go_enter Try.func64, Try.ntmps64
  go_wp2_with fail
  go_loopw [3, 4] (fun y i wr => ∃ (j : Nat) (o : List Int), j ≤ n ∧ i = .int .i64 (j : Int) ∧ y ≠ .slice none 0 0 ∧ wr.ownsRow w.heap.size 2 1 y j (o.map (Value.int .i64)) ∧ o.length = j ∧ SortedL o ∧ o.Perm (zs.take j) ∧ Below w.heap.size w wr) (fun _ i _ => n - (intOf i).toNat)
  case atStart => exact ⟨0, [], by omega, rfl, by simp, HO1.out, rfl, fun i k _ hk => by simp at hk, by simp, HB1.out⟩
  case round =>
    obtain ⟨j, o, hj, rfl, hnil, hown, hol, hso, hpo, hbel⟩ := hrel
    clear HO1 HB1
    have HB := Lib.hid hbel
    have HO := Lib.hid hown
    have HOL := Lib.hid hol
    have HSO := Lib.hid hso
    have HPO := Lib.hid hpo
    have hown2 : wr.ownsRow w.heap.size 2 1 u3 o.length (o.map (Value.int .i64)) := by rw [hol]; exact hown
    obtain ⟨go, cpo, rfl, hgo, hcpo, curo, hco, hcoz⟩ := own_row hown2 hnil
    rw [hol] at hcpo HO ⊢
    have HOC := Lib.hid (show ∀ k, k < j → wr.cell? ⟨go, k, none⟩ = some (.int .i64 (cellD o k)) from fun k hk => (hco.cell k).trans (hcoz k _ (by have := HOL.out; simp [cellD, this, hk])))
    have HGO := Lib.hid hco.lt
    clear hown hown2 hnil hso hpo hbel hco hcoz hol
    by_cases hlt : j < n
    · obtain ⟨gz, rfl, hgz, hcz⟩ := HC.out (by have := HLEN.out; omega)
      have hzj : zs[j]? = some (cellD zs j) := by
        have : j < zs.length := by have := HLEN.out; omega
        simp [cellD, this]
      have HZ := Lib.hid (hcz j _ hzj)
      have HZL := Lib.hid (cell_block (hcz j _ hzj))
      have HTK : Hid (zs.take (j + 1) = zs.take j ++ [cellD zs j]) := Lib.hid (by rw [List.take_add_one, hzj]; rfl)
      clear hcz hzj
      generalize cellD zs j = x at *
      have j0 : (0 : Int) ≤ (j : Int) := by omega
      have j1 : (j : Int) < (n : Int) := by omega
      generalize wr = wo at *
      go_wp2_with fail
      go_loopw [5] (fun p wr => ∃ a : Nat, a ≤ j ∧ p = .int .i64 (a : Int) ∧ (∀ k, a ≤ k → k < j → x < cellD o k) ∧ Below wo.heap.size wo wr) (fun p _ => (intOf p).toNat)
      case atStart => exact ⟨j, by omega, rfl, fun k h1 h2 => by omega, Below.refl _ _⟩
      case round =>
        obtain ⟨a, ha, rfl, hgt, hbel⟩ := hrel
        have HGT := Lib.hid hgt
        have HBI := Lib.hid hbel
        have HBID := Lib.hid (fun k => below_drewN hbel k)
        have cz := (hbel.cell (p := ⟨gz, j, none⟩) (Nat.lt_of_lt_of_le HZL.out HB.out.size)).trans ((HB.out.cell (p := ⟨gz, j, none⟩) HZL.out).trans HZ.out)
        clear hgt hbel
        by_cases hmore : 0 < a ∧ x < cellD o (a - 1)
        · obtain ⟨ha0, hxa⟩ := hmore
          have co := (HBI.out.cell (p := ⟨go, a - 1, none⟩) HGO.out).trans (HOC.out (a - 1) (by omega))
          have e1 : wrap64 ((a : Int) - 1) = ((a - 1 : Nat) : Int) := by unfold wrap64; omega
          have e2 : decide ((0 : Int) < (a : Int)) = true := decide_eq_true (by omega)
          have e2' : decide (0 < a) = true := decide_eq_true (by omega)
          have e3 : (0 : Int) ≤ ((a - 1 : Nat) : Int) := by omega
          have e4 : ((a - 1 : Nat) : Int) < (j : Int) := by omega
          have HGT2 : Hid (∀ k, a - 1 ≤ k → k < j → x < cellD o k) := Lib.hid (fun k h1 h2 => by
            by_cases e : k = a - 1
            · subst e; exact hxa
            · exact HGT.out k (by omega) h2)
          generalize cellD o (a - 1) = y at *
          have e5 : decide (x < y) = true := decide_eq_true hxa
          clear hxa
          go_wp2_with fail
          go_quiet (fail)
          go_wp2
          go_roundw
          case rel => exact ⟨a - 1, by omega, by go_num, HGT2.out, HBID.out _⟩
          case measure => simp [intOf]; omega
        · have HEND : Hid (a = 0 ∨ cellD o (a - 1) ≤ x) := Lib.hid (by
            by_cases h0 : a = 0
            · exact .inl h0
            · exact .inr (by rcases Int.lt_or_le x (cellD o (a - 1)) with h | h; exact absurd ⟨by omega, h⟩ hmore; exact h))
          have HINS := Lib.hid (insZ_sorted (x := x) HSO.out (by have := HOL.out; omega : a ≤ o.length) HEND.out (fun k h1 h2 => HGT.out k h1 (by have := HOL.out; omega)))
          have hcase : (decide ((0 : Int) < (a : Int)) = false ∧ decide (0 < a) = false) ∨ (decide ((0 : Int) < (a : Int)) = true ∧ decide (0 < a) = true ∧ 0 < a ∧ decide (x < cellD o (a - 1)) = false) := by
            by_cases h0 : a = 0
            · exact .inl ⟨decide_eq_false (by omega), decide_eq_false (by omega)⟩
            · refine .inr ⟨decide_eq_true (by omega), decide_eq_true (by omega), by omega, decide_eq_false (fun h => hmore ⟨by omega, h⟩)⟩
          clear hmore
          by_cases hca : cpo = a
          · obtain rfl : a = j := by omega
            obtain rfl : a = cpo := hca.symm
            clear hca
            rcases hcase with ⟨e1, e2⟩ | ⟨e1, e2, ha0, e3⟩
            · go_wp2_with fail
              go_quiet (fail)
              have HBW := Lib.hid (HBID.out nq)
              generalize wr.drewN nq = wi at *
              have HW := Lib.hid (btr HB.out HBW.out)
              have HGI : Hid (go < wi.heap.size) := Lib.hid (Nat.lt_of_lt_of_le HGO.out HBW.out.size)
              have HOCI := Lib.hid (show ∀ k, k < a → wi.cell? ⟨go, k, none⟩ = some (.int .i64 (cellD o k)) from fun k hk => (HBW.out.cell (p := ⟨go, k, none⟩) HGO.out).trans (HOC.out k hk))
              have HZI := Lib.hid ((HW.out.cell (p := ⟨gz, a, none⟩) HZL.out).trans HZ.out)
              have hown0 := World.ownsRow_lit (base := wi.heap.size) (e := 2) (size := 1) wi #[] 0 (by exact Nat.le_refl _) (by unfold maxLen; omega) (by simp)
              have HL0 := Lib.hid hown0
              have hai : Below wi.heap.size wi (wi.alloc (.cells #[] 2)) := (Below.refl _ _).alloc (Nat.le_refl _) _
              have HR1 : Hid (((o.drop a).map (Value.int .i64)).length = 0) := Lib.hid (by have := HOL.out; simp; omega)
              have HR2 : Hid (0 < 0 → ∃ ad, (some ⟨go, 0, none⟩ : Option Addr) = some ad ∧ ∀ j' u, ((o.drop a).map (Value.int .i64))[j']? = some u → (wi.alloc (.cells #[] 2)).cell? (ad.add j') = some u) := Lib.hid (fun h => absurd h (Nat.lt_irrefl _))
              have HR3 : Hid (∀ u ∈ (o.drop a).map (Value.int .i64), u.oneCell' = true) := Lib.hid (fun u hu => by obtain ⟨z, -, rfl⟩ := List.mem_map.1 hu; rfl)
              have HT1 : Hid (((o.take a).map (Value.int .i64)).length = a) := Lib.hid (by have := HOL.out; simp; omega)
              have HT3 : Hid (∀ u ∈ (o.take a).map (Value.int .i64), u.oneCell' = true) := Lib.hid (fun u hu => by obtain ⟨z, -, rfl⟩ := List.mem_map.1 hu; rfl)
              clear hown0 hai
              go_wp2_with (at_builtin; refine wpList_append_lit rfl _ _ 39 rfl wi.heap.size 2 i0 (.int .i64 0) 8 Try.underlying39 hi hz0 hz1 hz2 rfl wi.heap.size 0 rfl HL0.out (some ⟨go, 0, none⟩) 0 0 ((o.drop a).map (Value.int .i64)) rfl HR1.out HR2.out HR3.out (by unfold maxLen; omega) (by omega) (by simp) ?_)
              intro v5 w5 o5 g5 n5 q5
              have HB5 : Hid (Below wi.heap.size wi w5) := Lib.hid (((Below.refl _ _).alloc (Nat.le_refl _) _).grown g5 (by simp) (fun k e => by have := Option.some.inj e; omega))
              have o5b : w5.ownsRow wi.heap.size 2 1 v5 (o.drop a).length ((o.drop a).map (Value.int .i64)) := by
                have := HR1.out
                rw [List.length_map] at this
                rw [this]; first | exact o5 | (rw [List.map_drop]; exact o5)
              obtain ⟨gr, cpr, rfl, hgr, hcpr, curr, hcr, hcrz⟩ := own_row o5b n5
              have hdl : (o.drop a).length = 0 := by have := HR1.out; rwa [List.length_map] at this
              rw [hdl] at hcpr ⊢
              have HRN := Lib.hid (show ∀ w', Below w5.heap.size w5 w' → ∀ j' u, ((o.drop a).map (Value.int .i64))[j']? = some u → w'.cell? ((⟨gr, 0, none⟩ : Addr).add j') = some u from fun w' hb j' u hu => by
                rw [addr_add, Nat.zero_add]
                rw [List.getElem?_map] at hu
                cases hz : (o.drop a)[j']? with
                | none => rw [hz] at hu; simp at hu
                | some z =>
                  rw [hz] at hu
                  simp at hu
                  subst hu
                  exact (hb.cell (p := ⟨gr, j', none⟩) hcr.lt).trans ((hcr.cell j').trans (hcrz j' z hz)))
              have HZ5 := Lib.hid ((HB5.out.cell (p := ⟨gz, a, none⟩) (Nat.lt_of_lt_of_le HZL.out HW.out.size)).trans HZI.out)
              have HZ5L : Hid (gz < w5.heap.size) := Lib.hid (Nat.lt_of_lt_of_le HZL.out (Nat.le_trans HW.out.size HB5.out.size))
              have HW5 := Lib.hid (btr HW.out HB5.out)
              have HT2 := Lib.hid (show ∀ w', Below w5.heap.size w5 w' → (0 < a → ∃ ad, (some ⟨go, 0, none⟩ : Option Addr) = some ad ∧ ∀ j' u, ((o.take a).map (Value.int .i64))[j']? = some u → w'.cell? (ad.add j') = some u) from fun w' hb _ => ⟨_, rfl, fun j' u hu => by
                rw [addr_add, Nat.zero_add]
                exact take_news HOCI.out HOL.out HGI.out (btr HB5.out hb) hu⟩)
              have hR1' : ((o.drop a).map (Value.int .i64)).length = 0 * 1 := by rw [HR1.out]; first | done | omega
              have HR1' := Lib.hid hR1'
              have a0 : (0 : Int) ≤ (a : Int) := by omega
              have a1 : (a : Int) ≤ (a : Int) := by omega
              have m1 : a + 1 ≤ maxLen := by unfold maxLen; omega
              have m2 : a + 1 + 0 ≤ maxLen := by unfold maxLen; omega
              have m3 : a ≤ maxLen := by unfold maxLen; omega
              have HA2 : Hid (((w5.alloc (.cells #[] 2)).alloc (.cells #[.int .i64 x] 2)).drew.cell? ⟨w5.heap.size + 1, 0, none⟩ = some (.int .i64 x)) := Lib.hid (by simp)
              have HLB : Hid (World.ownsRow ((w5.alloc (.cells #[.int .i64 x] 2)).alloc (.cells #[] 2)).drew w5.heap.size 2 1 (.slice (some ⟨w5.heap.size + 1, 0, none⟩) 0 0) 0 []) := Lib.hid (by
                have := World.ownsRow_lit (base := w5.heap.size) (e := 2) (size := 1) (w5.alloc (.cells #[.int .i64 x] 2)) #[] 0 (by simp) (by unfold maxLen; omega) (by simp)
                rw [show (w5.alloc (.cells #[.int .i64 x] 2)).heap.size = w5.heap.size + 1 by simp] at this
                exact this)
              have HBB : Hid (((w5.alloc (.cells #[.int .i64 x] 2)).alloc (.cells #[] 2)).drew.cell? ⟨w5.heap.size, 0, none⟩ = some (.int .i64 x)) := Lib.hid (by simp)
              clear o5 g5 n5 q5 o5b hcr hcrz hdl hgr hR1' HL0 HR2 HOCI HZI
              go_wp2_with fail
              refine wp_region_held_drew (S := fun w' => Below w5.heap.size w5 w') (by kernel_rfl) (by exact below_drewN (Below.refl _ _) 1) (fun hHeld => ?_)
              refine wpAnyH_take (i := 1) (v := ?_) rfl (by kernel_rfl) (by kernel_rfl) (by kernel_rfl) (fun _ _ _ h => h) (Or.inl ⟨by rfl, ?_⟩) (by assumption) ?_
              rotate_left
              · intro w hSw
                try dsimp only at hSw
                go_simp
                try with_reducible rfl
              simp only [Act.put, List.setIfInBounds_toArray, List.set_cons_zero, List.set_cons_succ, List.getElem_toArray, List.getElem_cons_zero, List.getElem_cons_succ]
              refine wpAnyH_take (i := 2) (v := ?_) rfl (by kernel_rfl) (by kernel_rfl) (by kernel_rfl) (fun _ _ _ h => h) (Or.inl ⟨by rfl, ?_⟩) (by assumption) ?_
              rotate_left
              · intro w hSw
                try dsimp only at hSw
                go_simp
                try with_reducible rfl
              simp only [Act.put, List.setIfInBounds_toArray, List.set_cons_zero, List.set_cons_succ, List.getElem_toArray, List.getElem_cons_zero, List.getElem_cons_succ]
              refine wpAnyH_take (i := 3) (v := ?_) rfl (by kernel_rfl) (by kernel_rfl) (by kernel_rfl) (fun _ _ _ h => h) (Or.inl ⟨by rfl, ?_⟩) (by assumption) ?_
              rotate_left
              · intro w hSw
                try dsimp only at hSw
                go_simp
                try with_reducible rfl
              simp only [Act.put, List.setIfInBounds_toArray, List.set_cons_zero, List.set_cons_succ, List.getElem_toArray, List.getElem_cons_zero, List.getElem_cons_succ]
              refine wpAnyH_take (i := 5) (v := ?_) rfl (by kernel_rfl) (by kernel_rfl) (by kernel_rfl) (fun _ _ _ h => h) (Or.inl ⟨by rfl, ?_⟩) (by assumption) ?_
              rotate_left
              · intro w hSw
                try dsimp only at hSw
                go_simp
                try with_reducible rfl
              simp only [Act.put, List.setIfInBounds_toArray, List.set_cons_zero, List.set_cons_succ, List.getElem_toArray, List.getElem_cons_zero, List.getElem_cons_succ]
              refine wpAnyH_take (i := 6) (v := ?_) rfl (by kernel_rfl) (by kernel_rfl) (by kernel_rfl) (fun _ _ _ h => h) (Or.inl ⟨by rfl, ?_⟩) (by assumption) ?_
              rotate_left
              · intro w hSw
                try dsimp only at hSw
                go_simp
                try with_reducible rfl
              simp only [Act.put, List.setIfInBounds_toArray, List.set_cons_zero, List.set_cons_succ, List.getElem_toArray, List.getElem_cons_zero, List.getElem_cons_succ]
              refine wpAnyH_take (i := 7) (v := ?_) rfl (by kernel_rfl) (by kernel_rfl) (by kernel_rfl) (fun _ _ _ h => h) (Or.inl ⟨by rfl, ?_⟩) (by assumption) ?_
              rotate_left
              · intro w hSw
                try dsimp only at hSw
                go_simp
                try with_reducible rfl
              simp only [Act.put, List.setIfInBounds_toArray, List.set_cons_zero, List.set_cons_succ, List.getElem_toArray, List.getElem_cons_zero, List.getElem_cons_succ]
              refine wpAnyH_take (i := 8) (v := ?_) rfl (by kernel_rfl) (by kernel_rfl) (by kernel_rfl) (fun _ _ _ h => h) (Or.inl ⟨by rfl, ?_⟩) (by assumption) ?_
              rotate_left
              · intro w hSw
                have q := (hSw.cell (p := ⟨gz, a, none⟩) HZ5L.out).trans HZ5.out
                go_simp
                try with_reducible rfl
              simp only [Act.put, List.setIfInBounds_toArray, List.set_cons_zero, List.set_cons_succ, List.getElem_toArray, List.getElem_cons_zero, List.getElem_cons_succ]
              refine wpAnyH_take (i := 11) (v := ?_) rfl (by kernel_rfl) (by kernel_rfl) (by kernel_rfl) (fun _ _ _ h => h) (Or.inl ⟨by rfl, ?_⟩) (by assumption) ?_
              rotate_left
              · intro w hSw
                try dsimp only at hSw
                go_simp
                try with_reducible rfl
              simp only [Act.put, List.setIfInBounds_toArray, List.set_cons_zero, List.set_cons_succ, List.getElem_toArray, List.getElem_cons_zero, List.getElem_cons_succ]
              refine wpAnyH_ready (rs := [0, 9]) (by kernel_rfl) (by simp) ?_
              refine AllReadyH.cons rfl (fun Kc hKc => ?_) (AllReadyH.cons rfl (fun Kc hKc => ?_) AllReadyH.nil)
              · go_simp
                refine hKc.out _ _ ?_ (fun hHeld => ?_)
                · first | exact hHeld.alloc hHeld.size _ | exact hHeld.grown g49 hHeld.size (fun k e => (o47.lt k e).1) | exact hHeld.grown g47 hHeld.size (fun k e => (o41.lt k e).1) | exact hHeld.grown g41 hHeld.size (fun k e => by have := Option.some.inj e; subst this; simp) | exact hHeld.grown g41 hHeld.size (fun k e => by have := Option.some.inj e; subst this; exact Nat.le_refl _)
                clear hKc Kc
                refine wpAnyH_ready (rs := [4, 9]) (by kernel_rfl) (by simp) ?_
                refine AllReadyH.cons rfl (fun Kc hKc => ?_) (AllReadyH.cons rfl (fun Kc hKc => ?_) AllReadyH.nil)
                · first | (refine wp_append_lit _ _ 39 rfl w5.heap.size 2 i0 (.int .i64 0) 8 Try.underlying39 hi hz0 hz1 hz2 rfl _ 0 rfl (by first | exact World.ownsRow_lit (base := w5.heap.size) (e := 2) (size := 1) _ #[] 0 (by first | exact Nat.le_refl _ | simp) (by unfold maxLen; omega) (by simp) | exact (World.ownsRow_lit (base := w5.heap.size) (e := 2) (size := 1) _ #[] 0 (by first | exact Nat.le_refl _ | simp) (by unfold maxLen; omega) (by simp)).alloc _ | exact HLB.out) (some ⟨go, 0, none⟩) a a ((o.take a).map (Value.int .i64)) rfl HT1.out (HT2.out _ hHeld) HT3.out m3 (by omega) hHeld.size ?_; intro v41 w41 o41 g41 n41 q41) | (refine wp_append_own_at _ _ 39 rfl w5.heap.size 2 i0 (.int .i64 0) 1 8 Try.underlying39 hi hz0 hz1 hz2 rfl (by decide) _ a ((o.take a).map (Value.int .i64)) rfl (by first | exact o41 | exact o41.alloc _) _ 1 1 [.int .i64 x] rfl rfl (by first | exact cell_one_new _ _ _ | exact one_cells (g41.cell HA2.out (by simp)) | exact one_cells (g41.cell HBB.out (by simp))) (by simp [Value.oneCell']) m1 (by omega) hHeld.size ?_; intro v47 w47 o47 g47 n47 q47) | (refine wp_append_own_at _ _ 39 rfl w5.heap.size 2 i0 (.int .i64 0) 1 8 Try.underlying39 hi hz0 hz1 hz2 rfl (by decide) _ (a + 1) ((o.take a).map (Value.int .i64) ++ [.int .i64 x]) rfl (by exact o47) ⟨gr, 0, none⟩ 0 cpr ((o.drop a).map (Value.int .i64)) rfl HR1'.out (HRN.out _ hHeld) HR3.out m2 (by omega) hHeld.size ?_; intro v49 w49 o49 g49 n49 q49)
                  refine hKc.out _ _ ?_ (fun hHeld => ?_)
                  · first | exact hHeld.alloc hHeld.size _ | exact hHeld.grown g49 hHeld.size (fun k e => (o47.lt k e).1) | exact hHeld.grown g47 hHeld.size (fun k e => (o41.lt k e).1) | exact hHeld.grown g41 hHeld.size (fun k e => by have := Option.some.inj e; subst this; simp) | exact hHeld.grown g41 hHeld.size (fun k e => by have := Option.some.inj e; subst this; exact Nat.le_refl _)
                  clear hKc Kc
                  refine wpAnyH_ready (rs := [9]) (by kernel_rfl) (by simp) ?_
                  refine AllReadyH.cons rfl (fun Kc hKc => ?_) AllReadyH.nil
                  go_simp
                  refine hKc.out _ _ ?_ (fun hHeld => ?_)
                  · first | exact hHeld.alloc hHeld.size _ | exact hHeld.grown g49 hHeld.size (fun k e => (o47.lt k e).1) | exact hHeld.grown g47 hHeld.size (fun k e => (o41.lt k e).1) | exact hHeld.grown g41 hHeld.size (fun k e => by have := Option.some.inj e; subst this; simp) | exact hHeld.grown g41 hHeld.size (fun k e => by have := Option.some.inj e; subst this; exact Nat.le_refl _)
                  clear hKc Kc
                  refine wpAnyH_ready (rs := [10]) (by kernel_rfl) (by simp) ?_
                  refine AllReadyH.cons rfl (fun Kc hKc => ?_) AllReadyH.nil
                  first | (refine wp_append_lit _ _ 39 rfl w5.heap.size 2 i0 (.int .i64 0) 8 Try.underlying39 hi hz0 hz1 hz2 rfl _ 0 rfl (by first | exact World.ownsRow_lit (base := w5.heap.size) (e := 2) (size := 1) _ #[] 0 (by first | exact Nat.le_refl _ | simp) (by unfold maxLen; omega) (by simp) | exact (World.ownsRow_lit (base := w5.heap.size) (e := 2) (size := 1) _ #[] 0 (by first | exact Nat.le_refl _ | simp) (by unfold maxLen; omega) (by simp)).alloc _ | exact HLB.out) (some ⟨go, 0, none⟩) a a ((o.take a).map (Value.int .i64)) rfl HT1.out (HT2.out _ hHeld) HT3.out m3 (by omega) hHeld.size ?_; intro v41 w41 o41 g41 n41 q41) | (refine wp_append_own_at _ _ 39 rfl w5.heap.size 2 i0 (.int .i64 0) 1 8 Try.underlying39 hi hz0 hz1 hz2 rfl (by decide) _ a ((o.take a).map (Value.int .i64)) rfl (by first | exact o41 | exact o41.alloc _) _ 1 1 [.int .i64 x] rfl rfl (by first | exact cell_one_new _ _ _ | exact one_cells (g41.cell HA2.out (by simp)) | exact one_cells (g41.cell HBB.out (by simp))) (by simp [Value.oneCell']) m1 (by omega) hHeld.size ?_; intro v47 w47 o47 g47 n47 q47) | (refine wp_append_own_at _ _ 39 rfl w5.heap.size 2 i0 (.int .i64 0) 1 8 Try.underlying39 hi hz0 hz1 hz2 rfl (by decide) _ (a + 1) ((o.take a).map (Value.int .i64) ++ [.int .i64 x]) rfl (by exact o47) ⟨gr, 0, none⟩ 0 cpr ((o.drop a).map (Value.int .i64)) rfl HR1'.out (HRN.out _ hHeld) HR3.out m2 (by omega) hHeld.size ?_; intro v49 w49 o49 g49 n49 q49)
                  refine hKc.out _ _ ?_ (fun hHeld => ?_)
                  · first | exact hHeld.alloc hHeld.size _ | exact hHeld.grown g49 hHeld.size (fun k e => (o47.lt k e).1) | exact hHeld.grown g47 hHeld.size (fun k e => (o41.lt k e).1) | exact hHeld.grown g41 hHeld.size (fun k e => by have := Option.some.inj e; subst this; simp) | exact hHeld.grown g41 hHeld.size (fun k e => by have := Option.some.inj e; subst this; exact Nat.le_refl _)
                  clear hKc Kc
                  refine wpAnyH_ready (rs := [12]) (by kernel_rfl) (by simp) ?_
                  refine AllReadyH.cons rfl (fun Kc hKc => ?_) AllReadyH.nil
                  first | (refine wp_append_lit _ _ 39 rfl w5.heap.size 2 i0 (.int .i64 0) 8 Try.underlying39 hi hz0 hz1 hz2 rfl _ 0 rfl (by first | exact World.ownsRow_lit (base := w5.heap.size) (e := 2) (size := 1) _ #[] 0 (by first | exact Nat.le_refl _ | simp) (by unfold maxLen; omega) (by simp) | exact (World.ownsRow_lit (base := w5.heap.size) (e := 2) (size := 1) _ #[] 0 (by first | exact Nat.le_refl _ | simp) (by unfold maxLen; omega) (by simp)).alloc _ | exact HLB.out) (some ⟨go, 0, none⟩) a a ((o.take a).map (Value.int .i64)) rfl HT1.out (HT2.out _ hHeld) HT3.out m3 (by omega) hHeld.size ?_; intro v41 w41 o41 g41 n41 q41) | (refine wp_append_own_at _ _ 39 rfl w5.heap.size 2 i0 (.int .i64 0) 1 8 Try.underlying39 hi hz0 hz1 hz2 rfl (by decide) _ a ((o.take a).map (Value.int .i64)) rfl (by first | exact o41 | exact o41.alloc _) _ 1 1 [.int .i64 x] rfl rfl (by first | exact cell_one_new _ _ _ | exact one_cells (g41.cell HA2.out (by simp)) | exact one_cells (g41.cell HBB.out (by simp))) (by simp [Value.oneCell']) m1 (by omega) hHeld.size ?_; intro v47 w47 o47 g47 n47 q47) | (refine wp_append_own_at _ _ 39 rfl w5.heap.size 2 i0 (.int .i64 0) 1 8 Try.underlying39 hi hz0 hz1 hz2 rfl (by decide) _ (a + 1) ((o.take a).map (Value.int .i64) ++ [.int .i64 x]) rfl (by exact o47) ⟨gr, 0, none⟩ 0 cpr ((o.drop a).map (Value.int .i64)) rfl HR1'.out (HRN.out _ hHeld) HR3.out m2 (by omega) hHeld.size ?_; intro v49 w49 o49 g49 n49 q49)
                  refine hKc.out _ _ ?_ (fun hHeld => ?_)
                  · first | exact hHeld.alloc hHeld.size _ | exact hHeld.grown g49 hHeld.size (fun k e => (o47.lt k e).1) | exact hHeld.grown g47 hHeld.size (fun k e => (o41.lt k e).1) | exact hHeld.grown g41 hHeld.size (fun k e => by have := Option.some.inj e; subst this; simp) | exact hHeld.grown g41 hHeld.size (fun k e => by have := Option.some.inj e; subst this; exact Nat.le_refl _)
                  clear hKc Kc
                  refine wpAnyH_take (i := 13) (v := ?_) rfl (by kernel_rfl) (by kernel_rfl) (by kernel_rfl) (fun _ _ _ h => h) (Or.inl ⟨by rfl, ?_⟩) (by assumption) ?_
                  rotate_left
                  · intro w hSw
                    try dsimp only at hSw
                    go_simp
                    try with_reducible rfl
                  simp only [Act.put, List.setIfInBounds_toArray, List.set_cons_zero, List.set_cons_succ, List.getElem_toArray, List.getElem_cons_zero, List.getElem_cons_succ]
                  refine wpAnyH_done (by kernel_rfl) ?_ _
                  have HNIL' : Hid (v49 ≠ .slice none 0 0) := Lib.hid (fun h => by have := (n47.1 (n49.1 h).1).2; omega)
                  have HO' : Hid (w49.ownsRow w.heap.size 2 1 v49 (a + 1) ((insZ o a x).map (Value.int .i64))) := Lib.hid (ins_own o49 HW5.out.size ha (by omega))
                  have HB' := Lib.hid (btr HW5.out hHeld)
                  have HLN : Hid ((insZ o a x).length = a + 1) := Lib.hid (by rw [insZ_len, HOL.out])
                  have HPN : Hid ((insZ o a x).Perm (zs.take (a + 1))) := Lib.hid ((insZ_perm o a x).trans (by rw [HTK.out]; exact HPO.out.append_right [x]))
                  clear hHeld n47 n49 o47 o49 g47 g49
                  go_wp2
                  go_roundw
                  case rel => exact ⟨a + 1, insZ o a x, by omega, by go_num, HNIL'.out, HO'.out, HLN.out, HINS.out, HPN.out, HB'.out⟩
                  case measure => simp [intOf]; omega
                · go_simp
                  refine hKc.out _ _ ?_ (fun hHeld => ?_)
                  · first | exact hHeld.alloc hHeld.size _ | exact hHeld.grown g49 hHeld.size (fun k e => (o47.lt k e).1) | exact hHeld.grown g47 hHeld.size (fun k e => (o41.lt k e).1) | exact hHeld.grown g41 hHeld.size (fun k e => by have := Option.some.inj e; subst this; simp) | exact hHeld.grown g41 hHeld.size (fun k e => by have := Option.some.inj e; subst this; exact Nat.le_refl _)
                  clear hKc Kc
                  refine wpAnyH_ready (rs := [4]) (by kernel_rfl) (by simp) ?_
                  refine AllReadyH.cons rfl (fun Kc hKc => ?_) AllReadyH.nil
                  first | (refine wp_append_lit _ _ 39 rfl w5.heap.size 2 i0 (.int .i64 0) 8 Try.underlying39 hi hz0 hz1 hz2 rfl _ 0 rfl (by first | exact World.ownsRow_lit (base := w5.heap.size) (e := 2) (size := 1) _ #[] 0 (by first | exact Nat.le_refl _ | simp) (by unfold maxLen; omega) (by simp) | exact (World.ownsRow_lit (base := w5.heap.size) (e := 2) (size := 1) _ #[] 0 (by first | exact Nat.le_refl _ | simp) (by unfold maxLen; omega) (by simp)).alloc _ | exact HLB.out) (some ⟨go, 0, none⟩) a a ((o.take a).map (Value.int .i64)) rfl HT1.out (HT2.out _ hHeld) HT3.out m3 (by omega) hHeld.size ?_; intro v41 w41 o41 g41 n41 q41) | (refine wp_append_own_at _ _ 39 rfl w5.heap.size 2 i0 (.int .i64 0) 1 8 Try.underlying39 hi hz0 hz1 hz2 rfl (by decide) _ a ((o.take a).map (Value.int .i64)) rfl (by first | exact o41 | exact o41.alloc _) _ 1 1 [.int .i64 x] rfl rfl (by first | exact cell_one_new _ _ _ | exact one_cells (g41.cell HA2.out (by simp)) | exact one_cells (g41.cell HBB.out (by simp))) (by simp [Value.oneCell']) m1 (by omega) hHeld.size ?_; intro v47 w47 o47 g47 n47 q47) | (refine wp_append_own_at _ _ 39 rfl w5.heap.size 2 i0 (.int .i64 0) 1 8 Try.underlying39 hi hz0 hz1 hz2 rfl (by decide) _ (a + 1) ((o.take a).map (Value.int .i64) ++ [.int .i64 x]) rfl (by exact o47) ⟨gr, 0, none⟩ 0 cpr ((o.drop a).map (Value.int .i64)) rfl HR1'.out (HRN.out _ hHeld) HR3.out m2 (by omega) hHeld.size ?_; intro v49 w49 o49 g49 n49 q49)
                  refine hKc.out _ _ ?_ (fun hHeld => ?_)
                  · first | exact hHeld.alloc hHeld.size _ | exact hHeld.grown g49 hHeld.size (fun k e => (o47.lt k e).1) | exact hHeld.grown g47 hHeld.size (fun k e => (o41.lt k e).1) | exact hHeld.grown g41 hHeld.size (fun k e => by have := Option.some.inj e; subst this; simp) | exact hHeld.grown g41 hHeld.size (fun k e => by have := Option.some.inj e; subst this; exact Nat.le_refl _)
                  clear hKc Kc
                  refine wpAnyH_ready (rs := [10]) (by kernel_rfl) (by simp) ?_
                  refine AllReadyH.cons rfl (fun Kc hKc => ?_) AllReadyH.nil
                  first | (refine wp_append_lit _ _ 39 rfl w5.heap.size 2 i0 (.int .i64 0) 8 Try.underlying39 hi hz0 hz1 hz2 rfl _ 0 rfl (by first | exact World.ownsRow_lit (base := w5.heap.size) (e := 2) (size := 1) _ #[] 0 (by first | exact Nat.le_refl _ | simp) (by unfold maxLen; omega) (by simp) | exact (World.ownsRow_lit (base := w5.heap.size) (e := 2) (size := 1) _ #[] 0 (by first | exact Nat.le_refl _ | simp) (by unfold maxLen; omega) (by simp)).alloc _ | exact HLB.out) (some ⟨go, 0, none⟩) a a ((o.take a).map (Value.int .i64)) rfl HT1.out (HT2.out _ hHeld) HT3.out m3 (by omega) hHeld.size ?_; intro v41 w41 o41 g41 n41 q41) | (refine wp_append_own_at _ _ 39 rfl w5.heap.size 2 i0 (.int .i64 0) 1 8 Try.underlying39 hi hz0 hz1 hz2 rfl (by decide) _ a ((o.take a).map (Value.int .i64)) rfl (by first | exact o41 | exact o41.alloc _) _ 1 1 [.int .i64 x] rfl rfl (by first | exact cell_one_new _ _ _ | exact one_cells (g41.cell HA2.out (by simp)) | exact one_cells (g41.cell HBB.out (by simp))) (by simp [Value.oneCell']) m1 (by omega) hHeld.size ?_; intro v47 w47 o47 g47 n47 q47) | (refine wp_append_own_at _ _ 39 rfl w5.heap.size 2 i0 (.int .i64 0) 1 8 Try.underlying39 hi hz0 hz1 hz2 rfl (by decide) _ (a + 1) ((o.take a).map (Value.int .i64) ++ [.int .i64 x]) rfl (by exact o47) ⟨gr, 0, none⟩ 0 cpr ((o.drop a).map (Value.int .i64)) rfl HR1'.out (HRN.out _ hHeld) HR3.out m2 (by omega) hHeld.size ?_; intro v49 w49 o49 g49 n49 q49)
                  refine hKc.out _ _ ?_ (fun hHeld => ?_)
                  · first | exact hHeld.alloc hHeld.size _ | exact hHeld.grown g49 hHeld.size (fun k e => (o47.lt k e).1) | exact hHeld.grown g47 hHeld.size (fun k e => (o41.lt k e).1) | exact hHeld.grown g41 hHeld.size (fun k e => by have := Option.some.inj e; subst this; simp) | exact hHeld.grown g41 hHeld.size (fun k e => by have := Option.some.inj e; subst this; exact Nat.le_refl _)
                  clear hKc Kc
                  refine wpAnyH_ready (rs := [12]) (by kernel_rfl) (by simp) ?_
                  refine AllReadyH.cons rfl (fun Kc hKc => ?_) AllReadyH.nil
                  first | (refine wp_append_lit _ _ 39 rfl w5.heap.size 2 i0 (.int .i64 0) 8 Try.underlying39 hi hz0 hz1 hz2 rfl _ 0 rfl (by first | exact World.ownsRow_lit (base := w5.heap.size) (e := 2) (size := 1) _ #[] 0 (by first | exact Nat.le_refl _ | simp) (by unfold maxLen; omega) (by simp) | exact (World.ownsRow_lit (base := w5.heap.size) (e := 2) (size := 1) _ #[] 0 (by first | exact Nat.le_refl _ | simp) (by unfold maxLen; omega) (by simp)).alloc _ | exact HLB.out) (some ⟨go, 0, none⟩) a a ((o.take a).map (Value.int .i64)) rfl HT1.out (HT2.out _ hHeld) HT3.out m3 (by omega) hHeld.size ?_; intro v41 w41 o41 g41 n41 q41) | (refine wp_append_own_at _ _ 39 rfl w5.heap.size 2 i0 (.int .i64 0) 1 8 Try.underlying39 hi hz0 hz1 hz2 rfl (by decide) _ a ((o.take a).map (Value.int .i64)) rfl (by first | exact o41 | exact o41.alloc _) _ 1 1 [.int .i64 x] rfl rfl (by first | exact cell_one_new _ _ _ | exact one_cells (g41.cell HA2.out (by simp)) | exact one_cells (g41.cell HBB.out (by simp))) (by simp [Value.oneCell']) m1 (by omega) hHeld.size ?_; intro v47 w47 o47 g47 n47 q47) | (refine wp_append_own_at _ _ 39 rfl w5.heap.size 2 i0 (.int .i64 0) 1 8 Try.underlying39 hi hz0 hz1 hz2 rfl (by decide) _ (a + 1) ((o.take a).map (Value.int .i64) ++ [.int .i64 x]) rfl (by exact o47) ⟨gr, 0, none⟩ 0 cpr ((o.drop a).map (Value.int .i64)) rfl HR1'.out (HRN.out _ hHeld) HR3.out m2 (by omega) hHeld.size ?_; intro v49 w49 o49 g49 n49 q49)
                  refine hKc.out _ _ ?_ (fun hHeld => ?_)
                  · first | exact hHeld.alloc hHeld.size _ | exact hHeld.grown g49 hHeld.size (fun k e => (o47.lt k e).1) | exact hHeld.grown g47 hHeld.size (fun k e => (o41.lt k e).1) | exact hHeld.grown g41 hHeld.size (fun k e => by have := Option.some.inj e; subst this; simp) | exact hHeld.grown g41 hHeld.size (fun k e => by have := Option.some.inj e; subst this; exact Nat.le_refl _)
                  clear hKc Kc
                  refine wpAnyH_take (i := 13) (v := ?_) rfl (by kernel_rfl) (by kernel_rfl) (by kernel_rfl) (fun _ _ _ h => h) (Or.inl ⟨by rfl, ?_⟩) (by assumption) ?_
                  rotate_left
                  · intro w hSw
                    try dsimp only at hSw
                    go_simp
                    try with_reducible rfl
                  simp only [Act.put, List.setIfInBounds_toArray, List.set_cons_zero, List.set_cons_succ, List.getElem_toArray, List.getElem_cons_zero, List.getElem_cons_succ]
                  refine wpAnyH_done (by kernel_rfl) ?_ _
                  have HNIL' : Hid (v49 ≠ .slice none 0 0) := Lib.hid (fun h => by have := (n47.1 (n49.1 h).1).2; omega)
                  have HO' : Hid (w49.ownsRow w.heap.size 2 1 v49 (a + 1) ((insZ o a x).map (Value.int .i64))) := Lib.hid (ins_own o49 HW5.out.size ha (by omega))
                  have HB' := Lib.hid (btr HW5.out hHeld)
                  have HLN : Hid ((insZ o a x).length = a + 1) := Lib.hid (by rw [insZ_len, HOL.out])
                  have HPN : Hid ((insZ o a x).Perm (zs.take (a + 1))) := Lib.hid ((insZ_perm o a x).trans (by rw [HTK.out]; exact HPO.out.append_right [x]))
                  clear hHeld n47 n49 o47 o49 g47 g49
                  go_wp2
                  go_roundw
                  case rel => exact ⟨a + 1, insZ o a x, by omega, by go_num, HNIL'.out, HO'.out, HLN.out, HINS.out, HPN.out, HB'.out⟩
                  case measure => simp [intOf]; omega
              · go_simp
                refine hKc.out _ _ ?_ (fun hHeld => ?_)
                · first | exact hHeld.alloc hHeld.size _ | exact hHeld.grown g49 hHeld.size (fun k e => (o47.lt k e).1) | exact hHeld.grown g47 hHeld.size (fun k e => (o41.lt k e).1) | exact hHeld.grown g41 hHeld.size (fun k e => by have := Option.some.inj e; subst this; simp) | exact hHeld.grown g41 hHeld.size (fun k e => by have := Option.some.inj e; subst this; exact Nat.le_refl _)
                clear hKc Kc
                refine wpAnyH_ready (rs := [0]) (by kernel_rfl) (by simp) ?_
                refine AllReadyH.cons rfl (fun Kc hKc => ?_) AllReadyH.nil
                go_simp
                refine hKc.out _ _ ?_ (fun hHeld => ?_)
                · first | exact hHeld.alloc hHeld.size _ | exact hHeld.grown g49 hHeld.size (fun k e => (o47.lt k e).1) | exact hHeld.grown g47 hHeld.size (fun k e => (o41.lt k e).1) | exact hHeld.grown g41 hHeld.size (fun k e => by have := Option.some.inj e; subst this; simp) | exact hHeld.grown g41 hHeld.size (fun k e => by have := Option.some.inj e; subst this; exact Nat.le_refl _)
                clear hKc Kc
                refine wpAnyH_ready (rs := [4]) (by kernel_rfl) (by simp) ?_
                refine AllReadyH.cons rfl (fun Kc hKc => ?_) AllReadyH.nil
                first | (refine wp_append_lit _ _ 39 rfl w5.heap.size 2 i0 (.int .i64 0) 8 Try.underlying39 hi hz0 hz1 hz2 rfl _ 0 rfl (by first | exact World.ownsRow_lit (base := w5.heap.size) (e := 2) (size := 1) _ #[] 0 (by first | exact Nat.le_refl _ | simp) (by unfold maxLen; omega) (by simp) | exact (World.ownsRow_lit (base := w5.heap.size) (e := 2) (size := 1) _ #[] 0 (by first | exact Nat.le_refl _ | simp) (by unfold maxLen; omega) (by simp)).alloc _ | exact HLB.out) (some ⟨go, 0, none⟩) a a ((o.take a).map (Value.int .i64)) rfl HT1.out (HT2.out _ hHeld) HT3.out m3 (by omega) hHeld.size ?_; intro v41 w41 o41 g41 n41 q41) | (refine wp_append_own_at _ _ 39 rfl w5.heap.size 2 i0 (.int .i64 0) 1 8 Try.underlying39 hi hz0 hz1 hz2 rfl (by decide) _ a ((o.take a).map (Value.int .i64)) rfl (by first | exact o41 | exact o41.alloc _) _ 1 1 [.int .i64 x] rfl rfl (by first | exact cell_one_new _ _ _ | exact one_cells (g41.cell HA2.out (by simp)) | exact one_cells (g41.cell HBB.out (by simp))) (by simp [Value.oneCell']) m1 (by omega) hHeld.size ?_; intro v47 w47 o47 g47 n47 q47) | (refine wp_append_own_at _ _ 39 rfl w5.heap.size 2 i0 (.int .i64 0) 1 8 Try.underlying39 hi hz0 hz1 hz2 rfl (by decide) _ (a + 1) ((o.take a).map (Value.int .i64) ++ [.int .i64 x]) rfl (by exact o47) ⟨gr, 0, none⟩ 0 cpr ((o.drop a).map (Value.int .i64)) rfl HR1'.out (HRN.out _ hHeld) HR3.out m2 (by omega) hHeld.size ?_; intro v49 w49 o49 g49 n49 q49)
                refine hKc.out _ _ ?_ (fun hHeld => ?_)
                · first | exact hHeld.alloc hHeld.size _ | exact hHeld.grown g49 hHeld.size (fun k e => (o47.lt k e).1) | exact hHeld.grown g47 hHeld.size (fun k e => (o41.lt k e).1) | exact hHeld.grown g41 hHeld.size (fun k e => by have := Option.some.inj e; subst this; simp) | exact hHeld.grown g41 hHeld.size (fun k e => by have := Option.some.inj e; subst this; exact Nat.le_refl _)
                clear hKc Kc
                refine wpAnyH_ready (rs := [10]) (by kernel_rfl) (by simp) ?_
                refine AllReadyH.cons rfl (fun Kc hKc => ?_) AllReadyH.nil
                first | (refine wp_append_lit _ _ 39 rfl w5.heap.size 2 i0 (.int .i64 0) 8 Try.underlying39 hi hz0 hz1 hz2 rfl _ 0 rfl (by first | exact World.ownsRow_lit (base := w5.heap.size) (e := 2) (size := 1) _ #[] 0 (by first | exact Nat.le_refl _ | simp) (by unfold maxLen; omega) (by simp) | exact (World.ownsRow_lit (base := w5.heap.size) (e := 2) (size := 1) _ #[] 0 (by first | exact Nat.le_refl _ | simp) (by unfold maxLen; omega) (by simp)).alloc _ | exact HLB.out) (some ⟨go, 0, none⟩) a a ((o.take a).map (Value.int .i64)) rfl HT1.out (HT2.out _ hHeld) HT3.out m3 (by omega) hHeld.size ?_; intro v41 w41 o41 g41 n41 q41) | (refine wp_append_own_at _ _ 39 rfl w5.heap.size 2 i0 (.int .i64 0) 1 8 Try.underlying39 hi hz0 hz1 hz2 rfl (by decide) _ a ((o.take a).map (Value.int .i64)) rfl (by first | exact o41 | exact o41.alloc _) _ 1 1 [.int .i64 x] rfl rfl (by first | exact cell_one_new _ _ _ | exact one_cells (g41.cell HA2.out (by simp)) | exact one_cells (g41.cell HBB.out (by simp))) (by simp [Value.oneCell']) m1 (by omega) hHeld.size ?_; intro v47 w47 o47 g47 n47 q47) | (refine wp_append_own_at _ _ 39 rfl w5.heap.size 2 i0 (.int .i64 0) 1 8 Try.underlying39 hi hz0 hz1 hz2 rfl (by decide) _ (a + 1) ((o.take a).map (Value.int .i64) ++ [.int .i64 x]) rfl (by exact o47) ⟨gr, 0, none⟩ 0 cpr ((o.drop a).map (Value.int .i64)) rfl HR1'.out (HRN.out _ hHeld) HR3.out m2 (by omega) hHeld.size ?_; intro v49 w49 o49 g49 n49 q49)
                refine hKc.out _ _ ?_ (fun hHeld => ?_)
                · first | exact hHeld.alloc hHeld.size _ | exact hHeld.grown g49 hHeld.size (fun k e => (o47.lt k e).1) | exact hHeld.grown g47 hHeld.size (fun k e => (o41.lt k e).1) | exact hHeld.grown g41 hHeld.size (fun k e => by have := Option.some.inj e; subst this; simp) | exact hHeld.grown g41 hHeld.size (fun k e => by have := Option.some.inj e; subst this; exact Nat.le_refl _)
                clear hKc Kc
                refine wpAnyH_ready (rs := [12]) (by kernel_rfl) (by simp) ?_
                refine AllReadyH.cons rfl (fun Kc hKc => ?_) AllReadyH.nil
                first | (refine wp_append_lit _ _ 39 rfl w5.heap.size 2 i0 (.int .i64 0) 8 Try.underlying39 hi hz0 hz1 hz2 rfl _ 0 rfl (by first | exact World.ownsRow_lit (base := w5.heap.size) (e := 2) (size := 1) _ #[] 0 (by first | exact Nat.le_refl _ | simp) (by unfold maxLen; omega) (by simp) | exact (World.ownsRow_lit (base := w5.heap.size) (e := 2) (size := 1) _ #[] 0 (by first | exact Nat.le_refl _ | simp) (by unfold maxLen; omega) (by simp)).alloc _ | exact HLB.out) (some ⟨go, 0, none⟩) a a ((o.take a).map (Value.int .i64)) rfl HT1.out (HT2.out _ hHeld) HT3.out m3 (by omega) hHeld.size ?_; intro v41 w41 o41 g41 n41 q41) | (refine wp_append_own_at _ _ 39 rfl w5.heap.size 2 i0 (.int .i64 0) 1 8 Try.underlying39 hi hz0 hz1 hz2 rfl (by decide) _ a ((o.take a).map (Value.int .i64)) rfl (by first | exact o41 | exact o41.alloc _) _ 1 1 [.int .i64 x] rfl rfl (by first | exact cell_one_new _ _ _ | exact one_cells (g41.cell HA2.out (by simp)) | exact one_cells (g41.cell HBB.out (by simp))) (by simp [Value.oneCell']) m1 (by omega) hHeld.size ?_; intro v47 w47 o47 g47 n47 q47) | (refine wp_append_own_at _ _ 39 rfl w5.heap.size 2 i0 (.int .i64 0) 1 8 Try.underlying39 hi hz0 hz1 hz2 rfl (by decide) _ (a + 1) ((o.take a).map (Value.int .i64) ++ [.int .i64 x]) rfl (by exact o47) ⟨gr, 0, none⟩ 0 cpr ((o.drop a).map (Value.int .i64)) rfl HR1'.out (HRN.out _ hHeld) HR3.out m2 (by omega) hHeld.size ?_; intro v49 w49 o49 g49 n49 q49)
                refine hKc.out _ _ ?_ (fun hHeld => ?_)
                · first | exact hHeld.alloc hHeld.size _ | exact hHeld.grown g49 hHeld.size (fun k e => (o47.lt k e).1) | exact hHeld.grown g47 hHeld.size (fun k e => (o41.lt k e).1) | exact hHeld.grown g41 hHeld.size (fun k e => by have := Option.some.inj e; subst this; simp) | exact hHeld.grown g41 hHeld.size (fun k e => by have := Option.some.inj e; subst this; exact Nat.le_refl _)
                clear hKc Kc
                refine wpAnyH_take (i := 13) (v := ?_) rfl (by kernel_rfl) (by kernel_rfl) (by kernel_rfl) (fun _ _ _ h => h) (Or.inl ⟨by rfl, ?_⟩) (by assumption) ?_
                rotate_left
                · intro w hSw
                  try dsimp only at hSw
                  go_simp
                  try with_reducible rfl
                simp only [Act.put, List.setIfInBounds_toArray, List.set_cons_zero, List.set_cons_succ, List.getElem_toArray, List.getElem_cons_zero, List.getElem_cons_succ]
                refine wpAnyH_done (by kernel_rfl) ?_ _
                have HNIL' : Hid (v49 ≠ .slice none 0 0) := Lib.hid (fun h => by have := (n47.1 (n49.1 h).1).2; omega)
                have HO' : Hid (w49.ownsRow w.heap.size 2 1 v49 (a + 1) ((insZ o a x).map (Value.int .i64))) := Lib.hid (ins_own o49 HW5.out.size ha (by omega))
                have HB' := Lib.hid (btr HW5.out hHeld)
                have HLN : Hid ((insZ o a x).length = a + 1) := Lib.hid (by rw [insZ_len, HOL.out])
                have HPN : Hid ((insZ o a x).Perm (zs.take (a + 1))) := Lib.hid ((insZ_perm o a x).trans (by rw [HTK.out]; exact HPO.out.append_right [x]))
                clear hHeld n47 n49 o47 o49 g47 g49
                go_wp2
                go_roundw
                case rel => exact ⟨a + 1, insZ o a x, by omega, by go_num, HNIL'.out, HO'.out, HLN.out, HINS.out, HPN.out, HB'.out⟩
                case measure => simp [intOf]; omega
            · have co := (HBI.out.cell (p := ⟨go, a - 1, none⟩) HGO.out).trans (HOC.out (a - 1) (by omega))
              have e4 : wrap64 ((a : Int) - 1) = ((a - 1 : Nat) : Int) := by unfold wrap64; omega
              have e5 : (0 : Int) ≤ ((a - 1 : Nat) : Int) := by omega
              have e6 : ((a - 1 : Nat) : Int) < (a : Int) := by omega
              generalize cellD o (a - 1) = y at *
              go_wp2_with fail
              go_quiet (fail)
              have HBW := Lib.hid (HBID.out nq)
              generalize wr.drewN nq = wi at *
              have HW := Lib.hid (btr HB.out HBW.out)
              have HGI : Hid (go < wi.heap.size) := Lib.hid (Nat.lt_of_lt_of_le HGO.out HBW.out.size)
              have HOCI := Lib.hid (show ∀ k, k < a → wi.cell? ⟨go, k, none⟩ = some (.int .i64 (cellD o k)) from fun k hk => (HBW.out.cell (p := ⟨go, k, none⟩) HGO.out).trans (HOC.out k hk))
              have HZI := Lib.hid ((HW.out.cell (p := ⟨gz, a, none⟩) HZL.out).trans HZ.out)
              have hown0 := World.ownsRow_lit (base := wi.heap.size) (e := 2) (size := 1) wi #[] 0 (by exact Nat.le_refl _) (by unfold maxLen; omega) (by simp)
              have HL0 := Lib.hid hown0
              have hai : Below wi.heap.size wi (wi.alloc (.cells #[] 2)) := (Below.refl _ _).alloc (Nat.le_refl _) _
              have HR1 : Hid (((o.drop a).map (Value.int .i64)).length = 0) := Lib.hid (by have := HOL.out; simp; omega)
              have HR2 : Hid (0 < 0 → ∃ ad, (some ⟨go, 0, none⟩ : Option Addr) = some ad ∧ ∀ j' u, ((o.drop a).map (Value.int .i64))[j']? = some u → (wi.alloc (.cells #[] 2)).cell? (ad.add j') = some u) := Lib.hid (fun h => absurd h (Nat.lt_irrefl _))
              have HR3 : Hid (∀ u ∈ (o.drop a).map (Value.int .i64), u.oneCell' = true) := Lib.hid (fun u hu => by obtain ⟨z, -, rfl⟩ := List.mem_map.1 hu; rfl)
              have HT1 : Hid (((o.take a).map (Value.int .i64)).length = a) := Lib.hid (by have := HOL.out; simp; omega)
              have HT3 : Hid (∀ u ∈ (o.take a).map (Value.int .i64), u.oneCell' = true) := Lib.hid (fun u hu => by obtain ⟨z, -, rfl⟩ := List.mem_map.1 hu; rfl)
              clear hown0 hai
              go_wp2_with (at_builtin; refine wpList_append_lit rfl _ _ 39 rfl wi.heap.size 2 i0 (.int .i64 0) 8 Try.underlying39 hi hz0 hz1 hz2 rfl wi.heap.size 0 rfl HL0.out (some ⟨go, 0, none⟩) 0 0 ((o.drop a).map (Value.int .i64)) rfl HR1.out HR2.out HR3.out (by unfold maxLen; omega) (by omega) (by simp) ?_)
              intro v5 w5 o5 g5 n5 q5
              have HB5 : Hid (Below wi.heap.size wi w5) := Lib.hid (((Below.refl _ _).alloc (Nat.le_refl _) _).grown g5 (by simp) (fun k e => by have := Option.some.inj e; omega))
              have o5b : w5.ownsRow wi.heap.size 2 1 v5 (o.drop a).length ((o.drop a).map (Value.int .i64)) := by
                have := HR1.out
                rw [List.length_map] at this
                rw [this]; first | exact o5 | (rw [List.map_drop]; exact o5)
              obtain ⟨gr, cpr, rfl, hgr, hcpr, curr, hcr, hcrz⟩ := own_row o5b n5
              have hdl : (o.drop a).length = 0 := by have := HR1.out; rwa [List.length_map] at this
              rw [hdl] at hcpr ⊢
              have HRN := Lib.hid (show ∀ w', Below w5.heap.size w5 w' → ∀ j' u, ((o.drop a).map (Value.int .i64))[j']? = some u → w'.cell? ((⟨gr, 0, none⟩ : Addr).add j') = some u from fun w' hb j' u hu => by
                rw [addr_add, Nat.zero_add]
                rw [List.getElem?_map] at hu
                cases hz : (o.drop a)[j']? with
                | none => rw [hz] at hu; simp at hu
                | some z =>
                  rw [hz] at hu
                  simp at hu
                  subst hu
                  exact (hb.cell (p := ⟨gr, j', none⟩) hcr.lt).trans ((hcr.cell j').trans (hcrz j' z hz)))
              have HZ5 := Lib.hid ((HB5.out.cell (p := ⟨gz, a, none⟩) (Nat.lt_of_lt_of_le HZL.out HW.out.size)).trans HZI.out)
              have HZ5L : Hid (gz < w5.heap.size) := Lib.hid (Nat.lt_of_lt_of_le HZL.out (Nat.le_trans HW.out.size HB5.out.size))
              have HW5 := Lib.hid (btr HW.out HB5.out)
              have HT2 := Lib.hid (show ∀ w', Below w5.heap.size w5 w' → (0 < a → ∃ ad, (some ⟨go, 0, none⟩ : Option Addr) = some ad ∧ ∀ j' u, ((o.take a).map (Value.int .i64))[j']? = some u → w'.cell? (ad.add j') = some u) from fun w' hb _ => ⟨_, rfl, fun j' u hu => by
                rw [addr_add, Nat.zero_add]
                exact take_news HOCI.out HOL.out HGI.out (btr HB5.out hb) hu⟩)
              have hR1' : ((o.drop a).map (Value.int .i64)).length = 0 * 1 := by rw [HR1.out]; first | done | omega
              have HR1' := Lib.hid hR1'
              have a0 : (0 : Int) ≤ (a : Int) := by omega
              have a1 : (a : Int) ≤ (a : Int) := by omega
              have m1 : a + 1 ≤ maxLen := by unfold maxLen; omega
              have m2 : a + 1 + 0 ≤ maxLen := by unfold maxLen; omega
              have m3 : a ≤ maxLen := by unfold maxLen; omega
              have HA2 : Hid (((w5.alloc (.cells #[] 2)).alloc (.cells #[.int .i64 x] 2)).drew.cell? ⟨w5.heap.size + 1, 0, none⟩ = some (.int .i64 x)) := Lib.hid (by simp)
              have HLB : Hid (World.ownsRow ((w5.alloc (.cells #[.int .i64 x] 2)).alloc (.cells #[] 2)).drew w5.heap.size 2 1 (.slice (some ⟨w5.heap.size + 1, 0, none⟩) 0 0) 0 []) := Lib.hid (by
                have := World.ownsRow_lit (base := w5.heap.size) (e := 2) (size := 1) (w5.alloc (.cells #[.int .i64 x] 2)) #[] 0 (by simp) (by unfold maxLen; omega) (by simp)
                rw [show (w5.alloc (.cells #[.int .i64 x] 2)).heap.size = w5.heap.size + 1 by simp] at this
                exact this)
              have HBB : Hid (((w5.alloc (.cells #[.int .i64 x] 2)).alloc (.cells #[] 2)).drew.cell? ⟨w5.heap.size, 0, none⟩ = some (.int .i64 x)) := Lib.hid (by simp)
              clear o5 g5 n5 q5 o5b hcr hcrz hdl hgr hR1' HL0 HR2 HOCI HZI
              go_wp2_with fail
              refine wp_region_held_drew (S := fun w' => Below w5.heap.size w5 w') (by kernel_rfl) (by exact below_drewN (Below.refl _ _) 1) (fun hHeld => ?_)
              refine wpAnyH_take (i := 1) (v := ?_) rfl (by kernel_rfl) (by kernel_rfl) (by kernel_rfl) (fun _ _ _ h => h) (Or.inl ⟨by rfl, ?_⟩) (by assumption) ?_
              rotate_left
              · intro w hSw
                try dsimp only at hSw
                go_simp
                try with_reducible rfl
              simp only [Act.put, List.setIfInBounds_toArray, List.set_cons_zero, List.set_cons_succ, List.getElem_toArray, List.getElem_cons_zero, List.getElem_cons_succ]
              refine wpAnyH_take (i := 2) (v := ?_) rfl (by kernel_rfl) (by kernel_rfl) (by kernel_rfl) (fun _ _ _ h => h) (Or.inl ⟨by rfl, ?_⟩) (by assumption) ?_
              rotate_left
              · intro w hSw
                try dsimp only at hSw
                go_simp
                try with_reducible rfl
              simp only [Act.put, List.setIfInBounds_toArray, List.set_cons_zero, List.set_cons_succ, List.getElem_toArray, List.getElem_cons_zero, List.getElem_cons_succ]
              refine wpAnyH_take (i := 3) (v := ?_) rfl (by kernel_rfl) (by kernel_rfl) (by kernel_rfl) (fun _ _ _ h => h) (Or.inl ⟨by rfl, ?_⟩) (by assumption) ?_
              rotate_left
              · intro w hSw
                try dsimp only at hSw
                go_simp
                try with_reducible rfl
              simp only [Act.put, List.setIfInBounds_toArray, List.set_cons_zero, List.set_cons_succ, List.getElem_toArray, List.getElem_cons_zero, List.getElem_cons_succ]
              refine wpAnyH_take (i := 5) (v := ?_) rfl (by kernel_rfl) (by kernel_rfl) (by kernel_rfl) (fun _ _ _ h => h) (Or.inl ⟨by rfl, ?_⟩) (by assumption) ?_
              rotate_left
              · intro w hSw
                try dsimp only at hSw
                go_simp
                try with_reducible rfl
              simp only [Act.put, List.setIfInBounds_toArray, List.set_cons_zero, List.set_cons_succ, List.getElem_toArray, List.getElem_cons_zero, List.getElem_cons_succ]
              refine wpAnyH_take (i := 6) (v := ?_) rfl (by kernel_rfl) (by kernel_rfl) (by kernel_rfl) (fun _ _ _ h => h) (Or.inl ⟨by rfl, ?_⟩) (by assumption) ?_
              rotate_left
              · intro w hSw
                try dsimp only at hSw
                go_simp
                try with_reducible rfl
              simp only [Act.put, List.setIfInBounds_toArray, List.set_cons_zero, List.set_cons_succ, List.getElem_toArray, List.getElem_cons_zero, List.getElem_cons_succ]
              refine wpAnyH_take (i := 7) (v := ?_) rfl (by kernel_rfl) (by kernel_rfl) (by kernel_rfl) (fun _ _ _ h => h) (Or.inl ⟨by rfl, ?_⟩) (by assumption) ?_
              rotate_left
              · intro w hSw
                try dsimp only at hSw
                go_simp
                try with_reducible rfl
              simp only [Act.put, List.setIfInBounds_toArray, List.set_cons_zero, List.set_cons_succ, List.getElem_toArray, List.getElem_cons_zero, List.getElem_cons_succ]
              refine wpAnyH_take (i := 8) (v := ?_) rfl (by kernel_rfl) (by kernel_rfl) (by kernel_rfl) (fun _ _ _ h => h) (Or.inl ⟨by rfl, ?_⟩) (by assumption) ?_
              rotate_left
              · intro w hSw
                have q := (hSw.cell (p := ⟨gz, a, none⟩) HZ5L.out).trans HZ5.out
                go_simp
                try with_reducible rfl
              simp only [Act.put, List.setIfInBounds_toArray, List.set_cons_zero, List.set_cons_succ, List.getElem_toArray, List.getElem_cons_zero, List.getElem_cons_succ]
              refine wpAnyH_take (i := 11) (v := ?_) rfl (by kernel_rfl) (by kernel_rfl) (by kernel_rfl) (fun _ _ _ h => h) (Or.inl ⟨by rfl, ?_⟩) (by assumption) ?_
              rotate_left
              · intro w hSw
                try dsimp only at hSw
                go_simp
                try with_reducible rfl
              simp only [Act.put, List.setIfInBounds_toArray, List.set_cons_zero, List.set_cons_succ, List.getElem_toArray, List.getElem_cons_zero, List.getElem_cons_succ]
              refine wpAnyH_ready (rs := [0, 9]) (by kernel_rfl) (by simp) ?_
              refine AllReadyH.cons rfl (fun Kc hKc => ?_) (AllReadyH.cons rfl (fun Kc hKc => ?_) AllReadyH.nil)
              · go_simp
                refine hKc.out _ _ ?_ (fun hHeld => ?_)
                · first | exact hHeld.alloc hHeld.size _ | exact hHeld.grown g49 hHeld.size (fun k e => (o47.lt k e).1) | exact hHeld.grown g47 hHeld.size (fun k e => (o41.lt k e).1) | exact hHeld.grown g41 hHeld.size (fun k e => by have := Option.some.inj e; subst this; simp) | exact hHeld.grown g41 hHeld.size (fun k e => by have := Option.some.inj e; subst this; exact Nat.le_refl _)
                clear hKc Kc
                refine wpAnyH_ready (rs := [4, 9]) (by kernel_rfl) (by simp) ?_
                refine AllReadyH.cons rfl (fun Kc hKc => ?_) (AllReadyH.cons rfl (fun Kc hKc => ?_) AllReadyH.nil)
                · first | (refine wp_append_lit _ _ 39 rfl w5.heap.size 2 i0 (.int .i64 0) 8 Try.underlying39 hi hz0 hz1 hz2 rfl _ 0 rfl (by first | exact World.ownsRow_lit (base := w5.heap.size) (e := 2) (size := 1) _ #[] 0 (by first | exact Nat.le_refl _ | simp) (by unfold maxLen; omega) (by simp) | exact (World.ownsRow_lit (base := w5.heap.size) (e := 2) (size := 1) _ #[] 0 (by first | exact Nat.le_refl _ | simp) (by unfold maxLen; omega) (by simp)).alloc _ | exact HLB.out) (some ⟨go, 0, none⟩) a a ((o.take a).map (Value.int .i64)) rfl HT1.out (HT2.out _ hHeld) HT3.out m3 (by omega) hHeld.size ?_; intro v41 w41 o41 g41 n41 q41) | (refine wp_append_own_at _ _ 39 rfl w5.heap.size 2 i0 (.int .i64 0) 1 8 Try.underlying39 hi hz0 hz1 hz2 rfl (by decide) _ a ((o.take a).map (Value.int .i64)) rfl (by first | exact o41 | exact o41.alloc _) _ 1 1 [.int .i64 x] rfl rfl (by first | exact cell_one_new _ _ _ | exact one_cells (g41.cell HA2.out (by simp)) | exact one_cells (g41.cell HBB.out (by simp))) (by simp [Value.oneCell']) m1 (by omega) hHeld.size ?_; intro v47 w47 o47 g47 n47 q47) | (refine wp_append_own_at _ _ 39 rfl w5.heap.size 2 i0 (.int .i64 0) 1 8 Try.underlying39 hi hz0 hz1 hz2 rfl (by decide) _ (a + 1) ((o.take a).map (Value.int .i64) ++ [.int .i64 x]) rfl (by exact o47) ⟨gr, 0, none⟩ 0 cpr ((o.drop a).map (Value.int .i64)) rfl HR1'.out (HRN.out _ hHeld) HR3.out m2 (by omega) hHeld.size ?_; intro v49 w49 o49 g49 n49 q49)
                  refine hKc.out _ _ ?_ (fun hHeld => ?_)
                  · first | exact hHeld.alloc hHeld.size _ | exact hHeld.grown g49 hHeld.size (fun k e => (o47.lt k e).1) | exact hHeld.grown g47 hHeld.size (fun k e => (o41.lt k e).1) | exact hHeld.grown g41 hHeld.size (fun k e => by have := Option.some.inj e; subst this; simp) | exact hHeld.grown g41 hHeld.size (fun k e => by have := Option.some.inj e; subst this; exact Nat.le_refl _)
                  clear hKc Kc
                  refine wpAnyH_ready (rs := [9]) (by kernel_rfl) (by simp) ?_
                  refine AllReadyH.cons rfl (fun Kc hKc => ?_) AllReadyH.nil
                  go_simp
                  refine hKc.out _ _ ?_ (fun hHeld => ?_)
                  · first | exact hHeld.alloc hHeld.size _ | exact hHeld.grown g49 hHeld.size (fun k e => (o47.lt k e).1) | exact hHeld.grown g47 hHeld.size (fun k e => (o41.lt k e).1) | exact hHeld.grown g41 hHeld.size (fun k e => by have := Option.some.inj e; subst this; simp) | exact hHeld.grown g41 hHeld.size (fun k e => by have := Option.some.inj e; subst this; exact Nat.le_refl _)
                  clear hKc Kc
                  refine wpAnyH_ready (rs := [10]) (by kernel_rfl) (by simp) ?_
                  refine AllReadyH.cons rfl (fun Kc hKc => ?_) AllReadyH.nil
                  first | (refine wp_append_lit _ _ 39 rfl w5.heap.size 2 i0 (.int .i64 0) 8 Try.underlying39 hi hz0 hz1 hz2 rfl _ 0 rfl (by first | exact World.ownsRow_lit (base := w5.heap.size) (e := 2) (size := 1) _ #[] 0 (by first | exact Nat.le_refl _ | simp) (by unfold maxLen; omega) (by simp) | exact (World.ownsRow_lit (base := w5.heap.size) (e := 2) (size := 1) _ #[] 0 (by first | exact Nat.le_refl _ | simp) (by unfold maxLen; omega) (by simp)).alloc _ | exact HLB.out) (some ⟨go, 0, none⟩) a a ((o.take a).map (Value.int .i64)) rfl HT1.out (HT2.out _ hHeld) HT3.out m3 (by omega) hHeld.size ?_; intro v41 w41 o41 g41 n41 q41) | (refine wp_append_own_at _ _ 39 rfl w5.heap.size 2 i0 (.int .i64 0) 1 8 Try.underlying39 hi hz0 hz1 hz2 rfl (by decide) _ a ((o.take a).map (Value.int .i64)) rfl (by first | exact o41 | exact o41.alloc _) _ 1 1 [.int .i64 x] rfl rfl (by first | exact cell_one_new _ _ _ | exact one_cells (g41.cell HA2.out (by simp)) | exact one_cells (g41.cell HBB.out (by simp))) (by simp [Value.oneCell']) m1 (by omega) hHeld.size ?_; intro v47 w47 o47 g47 n47 q47) | (refine wp_append_own_at _ _ 39 rfl w5.heap.size 2 i0 (.int .i64 0) 1 8 Try.underlying39 hi hz0 hz1 hz2 rfl (by decide) _ (a + 1) ((o.take a).map (Value.int .i64) ++ [.int .i64 x]) rfl (by exact o47) ⟨gr, 0, none⟩ 0 cpr ((o.drop a).map (Value.int .i64)) rfl HR1'.out (HRN.out _ hHeld) HR3.out m2 (by omega) hHeld.size ?_; intro v49 w49 o49 g49 n49 q49)
                  refine hKc.out _ _ ?_ (fun hHeld => ?_)
                  · first | exact hHeld.alloc hHeld.size _ | exact hHeld.grown g49 hHeld.size (fun k e => (o47.lt k e).1) | exact hHeld.grown g47 hHeld.size (fun k e => (o41.lt k e).1) | exact hHeld.grown g41 hHeld.size (fun k e => by have := Option.some.inj e; subst this; simp) | exact hHeld.grown g41 hHeld.size (fun k e => by have := Option.some.inj e; subst this; exact Nat.le_refl _)
                  clear hKc Kc
                  refine wpAnyH_ready (rs := [12]) (by kernel_rfl) (by simp) ?_
                  refine AllReadyH.cons rfl (fun Kc hKc => ?_) AllReadyH.nil
                  first | (refine wp_append_lit _ _ 39 rfl w5.heap.size 2 i0 (.int .i64 0) 8 Try.underlying39 hi hz0 hz1 hz2 rfl _ 0 rfl (by first | exact World.ownsRow_lit (base := w5.heap.size) (e := 2) (size := 1) _ #[] 0 (by first | exact Nat.le_refl _ | simp) (by unfold maxLen; omega) (by simp) | exact (World.ownsRow_lit (base := w5.heap.size) (e := 2) (size := 1) _ #[] 0 (by first | exact Nat.le_refl _ | simp) (by unfold maxLen; omega) (by simp)).alloc _ | exact HLB.out) (some ⟨go, 0, none⟩) a a ((o.take a).map (Value.int .i64)) rfl HT1.out (HT2.out _ hHeld) HT3.out m3 (by omega) hHeld.size ?_; intro v41 w41 o41 g41 n41 q41) | (refine wp_append_own_at _ _ 39 rfl w5.heap.size 2 i0 (.int .i64 0) 1 8 Try.underlying39 hi hz0 hz1 hz2 rfl (by decide) _ a ((o.take a).map (Value.int .i64)) rfl (by first | exact o41 | exact o41.alloc _) _ 1 1 [.int .i64 x] rfl rfl (by first | exact cell_one_new _ _ _ | exact one_cells (g41.cell HA2.out (by simp)) | exact one_cells (g41.cell HBB.out (by simp))) (by simp [Value.oneCell']) m1 (by omega) hHeld.size ?_; intro v47 w47 o47 g47 n47 q47) | (refine wp_append_own_at _ _ 39 rfl w5.heap.size 2 i0 (.int .i64 0) 1 8 Try.underlying39 hi hz0 hz1 hz2 rfl (by decide) _ (a + 1) ((o.take a).map (Value.int .i64) ++ [.int .i64 x]) rfl (by exact o47) ⟨gr, 0, none⟩ 0 cpr ((o.drop a).map (Value.int .i64)) rfl HR1'.out (HRN.out _ hHeld) HR3.out m2 (by omega) hHeld.size ?_; intro v49 w49 o49 g49 n49 q49)
                  refine hKc.out _ _ ?_ (fun hHeld => ?_)
                  · first | exact hHeld.alloc hHeld.size _ | exact hHeld.grown g49 hHeld.size (fun k e => (o47.lt k e).1) | exact hHeld.grown g47 hHeld.size (fun k e => (o41.lt k e).1) | exact hHeld.grown g41 hHeld.size (fun k e => by have := Option.some.inj e; subst this; simp) | exact hHeld.grown g41 hHeld.size (fun k e => by have := Option.some.inj e; subst this; exact Nat.le_refl _)
                  clear hKc Kc
                  refine wpAnyH_take (i := 13) (v := ?_) rfl (by kernel_rfl) (by kernel_rfl) (by kernel_rfl) (fun _ _ _ h => h) (Or.inl ⟨by rfl, ?_⟩) (by assumption) ?_
                  rotate_left
                  · intro w hSw
                    try dsimp only at hSw
                    go_simp
                    try with_reducible rfl
                  simp only [Act.put, List.setIfInBounds_toArray, List.set_cons_zero, List.set_cons_succ, List.getElem_toArray, List.getElem_cons_zero, List.getElem_cons_succ]
                  refine wpAnyH_done (by kernel_rfl) ?_ _
                  have HNIL' : Hid (v49 ≠ .slice none 0 0) := Lib.hid (fun h => by have := (n47.1 (n49.1 h).1).2; omega)
                  have HO' : Hid (w49.ownsRow w.heap.size 2 1 v49 (a + 1) ((insZ o a x).map (Value.int .i64))) := Lib.hid (ins_own o49 HW5.out.size ha (by omega))
                  have HB' := Lib.hid (btr HW5.out hHeld)
                  have HLN : Hid ((insZ o a x).length = a + 1) := Lib.hid (by rw [insZ_len, HOL.out])
                  have HPN : Hid ((insZ o a x).Perm (zs.take (a + 1))) := Lib.hid ((insZ_perm o a x).trans (by rw [HTK.out]; exact HPO.out.append_right [x]))
                  clear hHeld n47 n49 o47 o49 g47 g49
                  go_wp2
                  go_roundw
                  case rel => exact ⟨a + 1, insZ o a x, by omega, by go_num, HNIL'.out, HO'.out, HLN.out, HINS.out, HPN.out, HB'.out⟩
                  case measure => simp [intOf]; omega
                · go_simp
                  refine hKc.out _ _ ?_ (fun hHeld => ?_)
                  · first | exact hHeld.alloc hHeld.size _ | exact hHeld.grown g49 hHeld.size (fun k e => (o47.lt k e).1) | exact hHeld.grown g47 hHeld.size (fun k e => (o41.lt k e).1) | exact hHeld.grown g41 hHeld.size (fun k e => by have := Option.some.inj e; subst this; simp) | exact hHeld.grown g41 hHeld.size (fun k e => by have := Option.some.inj e; subst this; exact Nat.le_refl _)
                  clear hKc Kc
                  refine wpAnyH_ready (rs := [4]) (by kernel_rfl) (by simp) ?_
                  refine AllReadyH.cons rfl (fun Kc hKc => ?_) AllReadyH.nil
                  first | (refine wp_append_lit _ _ 39 rfl w5.heap.size 2 i0 (.int .i64 0) 8 Try.underlying39 hi hz0 hz1 hz2 rfl _ 0 rfl (by first | exact World.ownsRow_lit (base := w5.heap.size) (e := 2) (size := 1) _ #[] 0 (by first | exact Nat.le_refl _ | simp) (by unfold maxLen; omega) (by simp) | exact (World.ownsRow_lit (base := w5.heap.size) (e := 2) (size := 1) _ #[] 0 (by first | exact Nat.le_refl _ | simp) (by unfold maxLen; omega) (by simp)).alloc _ | exact HLB.out) (some ⟨go, 0, none⟩) a a ((o.take a).map (Value.int .i64)) rfl HT1.out (HT2.out _ hHeld) HT3.out m3 (by omega) hHeld.size ?_; intro v41 w41 o41 g41 n41 q41) | (refine wp_append_own_at _ _ 39 rfl w5.heap.size 2 i0 (.int .i64 0) 1 8 Try.underlying39 hi hz0 hz1 hz2 rfl (by decide) _ a ((o.take a).map (Value.int .i64)) rfl (by first | exact o41 | exact o41.alloc _) _ 1 1 [.int .i64 x] rfl rfl (by first | exact cell_one_new _ _ _ | exact one_cells (g41.cell HA2.out (by simp)) | exact one_cells (g41.cell HBB.out (by simp))) (by simp [Value.oneCell']) m1 (by omega) hHeld.size ?_; intro v47 w47 o47 g47 n47 q47) | (refine wp_append_own_at _ _ 39 rfl w5.heap.size 2 i0 (.int .i64 0) 1 8 Try.underlying39 hi hz0 hz1 hz2 rfl (by decide) _ (a + 1) ((o.take a).map (Value.int .i64) ++ [.int .i64 x]) rfl (by exact o47) ⟨gr, 0, none⟩ 0 cpr ((o.drop a).map (Value.int .i64)) rfl HR1'.out (HRN.out _ hHeld) HR3.out m2 (by omega) hHeld.size ?_; intro v49 w49 o49 g49 n49 q49)
                  refine hKc.out _ _ ?_ (fun hHeld => ?_)
                  · first | exact hHeld.alloc hHeld.size _ | exact hHeld.grown g49 hHeld.size (fun k e => (o47.lt k e).1) | exact hHeld.grown g47 hHeld.size (fun k e => (o41.lt k e).1) | exact hHeld.grown g41 hHeld.size (fun k e => by have := Option.some.inj e; subst this; simp) | exact hHeld.grown g41 hHeld.size (fun k e => by have := Option.some.inj e; subst this; exact Nat.le_refl _)
                  clear hKc Kc
                  refine wpAnyH_ready (rs := [10]) (by kernel_rfl) (by simp) ?_
                  refine AllReadyH.cons rfl (fun Kc hKc => ?_) AllReadyH.nil
                  first | (refine wp_append_lit _ _ 39 rfl w5.heap.size 2 i0 (.int .i64 0) 8 Try.underlying39 hi hz0 hz1 hz2 rfl _ 0 rfl (by first | exact World.ownsRow_lit (base := w5.heap.size) (e := 2) (size := 1) _ #[] 0 (by first | exact Nat.le_refl _ | simp) (by unfold maxLen; omega) (by simp) | exact (World.ownsRow_lit (base := w5.heap.size) (e := 2) (size := 1) _ #[] 0 (by first | exact Nat.le_refl _ | simp) (by unfold maxLen; omega) (by simp)).alloc _ | exact HLB.out) (some ⟨go, 0, none⟩) a a ((o.take a).map (Value.int .i64)) rfl HT1.out (HT2.out _ hHeld) HT3.out m3 (by omega) hHeld.size ?_; intro v41 w41 o41 g41 n41 q41) | (refine wp_append_own_at _ _ 39 rfl w5.heap.size 2 i0 (.int .i64 0) 1 8 Try.underlying39 hi hz0 hz1 hz2 rfl (by decide) _ a ((o.take a).map (Value.int .i64)) rfl (by first | exact o41 | exact o41.alloc _) _ 1 1 [.int .i64 x] rfl rfl (by first | exact cell_one_new _ _ _ | exact one_cells (g41.cell HA2.out (by simp)) | exact one_cells (g41.cell HBB.out (by simp))) (by simp [Value.oneCell']) m1 (by omega) hHeld.size ?_; intro v47 w47 o47 g47 n47 q47) | (refine wp_append_own_at _ _ 39 rfl w5.heap.size 2 i0 (.int .i64 0) 1 8 Try.underlying39 hi hz0 hz1 hz2 rfl (by decide) _ (a + 1) ((o.take a).map (Value.int .i64) ++ [.int .i64 x]) rfl (by exact o47) ⟨gr, 0, none⟩ 0 cpr ((o.drop a).map (Value.int .i64)) rfl HR1'.out (HRN.out _ hHeld) HR3.out m2 (by omega) hHeld.size ?_; intro v49 w49 o49 g49 n49 q49)
                  refine hKc.out _ _ ?_ (fun hHeld => ?_)
                  · first | exact hHeld.alloc hHeld.size _ | exact hHeld.grown g49 hHeld.size (fun k e => (o47.lt k e).1) | exact hHeld.grown g47 hHeld.size (fun k e => (o41.lt k e).1) | exact hHeld.grown g41 hHeld.size (fun k e => by have := Option.some.inj e; subst this; simp) | exact hHeld.grown g41 hHeld.size (fun k e => by have := Option.some.inj e; subst this; exact Nat.le_refl _)
                  clear hKc Kc
                  refine wpAnyH_ready (rs := [12]) (by kernel_rfl) (by simp) ?_
                  refine AllReadyH.cons rfl (fun Kc hKc => ?_) AllReadyH.nil
                  first | (refine wp_append_lit _ _ 39 rfl w5.heap.size 2 i0 (.int .i64 0) 8 Try.underlying39 hi hz0 hz1 hz2 rfl _ 0 rfl (by first | exact World.ownsRow_lit (base := w5.heap.size) (e := 2) (size := 1) _ #[] 0 (by first | exact Nat.le_refl _ | simp) (by unfold maxLen; omega) (by simp) | exact (World.ownsRow_lit (base := w5.heap.size) (e := 2) (size := 1) _ #[] 0 (by first | exact Nat.le_refl _ | simp) (by unfold maxLen; omega) (by simp)).alloc _ | exact HLB.out) (some ⟨go, 0, none⟩) a a ((o.take a).map (Value.int .i64)) rfl HT1.out (HT2.out _ hHeld) HT3.out m3 (by omega) hHeld.size ?_; intro v41 w41 o41 g41 n41 q41) | (refine wp_append_own_at _ _ 39 rfl w5.heap.size 2 i0 (.int .i64 0) 1 8 Try.underlying39 hi hz0 hz1 hz2 rfl (by decide) _ a ((o.take a).map (Value.int .i64)) rfl (by first | exact o41 | exact o41.alloc _) _ 1 1 [.int .i64 x] rfl rfl (by first | exact cell_one_new _ _ _ | exact one_cells (g41.cell HA2.out (by simp)) | exact one_cells (g41.cell HBB.out (by simp))) (by simp [Value.oneCell']) m1 (by omega) hHeld.size ?_; intro v47 w47 o47 g47 n47 q47) | (refine wp_append_own_at _ _ 39 rfl w5.heap.size 2 i0 (.int .i64 0) 1 8 Try.underlying39 hi hz0 hz1 hz2 rfl (by decide) _ (a + 1) ((o.take a).map (Value.int .i64) ++ [.int .i64 x]) rfl (by exact o47) ⟨gr, 0, none⟩ 0 cpr ((o.drop a).map (Value.int .i64)) rfl HR1'.out (HRN.out _ hHeld) HR3.out m2 (by omega) hHeld.size ?_; intro v49 w49 o49 g49 n49 q49)
                  refine hKc.out _ _ ?_ (fun hHeld => ?_)
                  · first | exact hHeld.alloc hHeld.size _ | exact hHeld.grown g49 hHeld.size (fun k e => (o47.lt k e).1) | exact hHeld.grown g47 hHeld.size (fun k e => (o41.lt k e).1) | exact hHeld.grown g41 hHeld.size (fun k e => by have := Option.some.inj e; subst this; simp) | exact hHeld.grown g41 hHeld.size (fun k e => by have := Option.some.inj e; subst this; exact Nat.le_refl _)
                  clear hKc Kc
                  refine wpAnyH_take (i := 13) (v := ?_) rfl (by kernel_rfl) (by kernel_rfl) (by kernel_rfl) (fun _ _ _ h => h) (Or.inl ⟨by rfl, ?_⟩) (by assumption) ?_
                  rotate_left
                  · intro w hSw
                    try dsimp only at hSw
                    go_simp
                    try with_reducible rfl
                  simp only [Act.put, List.setIfInBounds_toArray, List.set_cons_zero, List.set_cons_succ, List.getElem_toArray, List.getElem_cons_zero, List.getElem_cons_succ]
                  refine wpAnyH_done (by kernel_rfl) ?_ _
                  have HNIL' : Hid (v49 ≠ .slice none 0 0) := Lib.hid (fun h => by have := (n47.1 (n49.1 h).1).2; omega)
                  have HO' : Hid (w49.ownsRow w.heap.size 2 1 v49 (a + 1) ((insZ o a x).map (Value.int .i64))) := Lib.hid (ins_own o49 HW5.out.size ha (by omega))
                  have HB' := Lib.hid (btr HW5.out hHeld)
                  have HLN : Hid ((insZ o a x).length = a + 1) := Lib.hid (by rw [insZ_len, HOL.out])
                  have HPN : Hid ((insZ o a x).Perm (zs.take (a + 1))) := Lib.hid ((insZ_perm o a x).trans (by rw [HTK.out]; exact HPO.out.append_right [x]))
                  clear hHeld n47 n49 o47 o49 g47 g49
                  go_wp2
                  go_roundw
                  case rel => exact ⟨a + 1, insZ o a x, by omega, by go_num, HNIL'.out, HO'.out, HLN.out, HINS.out, HPN.out, HB'.out⟩
                  case measure => simp [intOf]; omega
              · go_simp
                refine hKc.out _ _ ?_ (fun hHeld => ?_)
                · first | exact hHeld.alloc hHeld.size _ | exact hHeld.grown g49 hHeld.size (fun k e => (o47.lt k e).1) | exact hHeld.grown g47 hHeld.size (fun k e => (o41.lt k e).1) | exact hHeld.grown g41 hHeld.size (fun k e => by have := Option.some.inj e; subst this; simp) | exact hHeld.grown g41 hHeld.size (fun k e => by have := Option.some.inj e; subst this; exact Nat.le_refl _)
                clear hKc Kc
                refine wpAnyH_ready (rs := [0]) (by kernel_rfl) (by simp) ?_
                refine AllReadyH.cons rfl (fun Kc hKc => ?_) AllReadyH.nil
                go_simp
                refine hKc.out _ _ ?_ (fun hHeld => ?_)
                · first | exact hHeld.alloc hHeld.size _ | exact hHeld.grown g49 hHeld.size (fun k e => (o47.lt k e).1) | exact hHeld.grown g47 hHeld.size (fun k e => (o41.lt k e).1) | exact hHeld.grown g41 hHeld.size (fun k e => by have := Option.some.inj e; subst this; simp) | exact hHeld.grown g41 hHeld.size (fun k e => by have := Option.some.inj e; subst this; exact Nat.le_refl _)
                clear hKc Kc
                refine wpAnyH_ready (rs := [4]) (by kernel_rfl) (by simp) ?_
                refine AllReadyH.cons rfl (fun Kc hKc => ?_) AllReadyH.nil
                first | (refine wp_append_lit _ _ 39 rfl w5.heap.size 2 i0 (.int .i64 0) 8 Try.underlying39 hi hz0 hz1 hz2 rfl _ 0 rfl (by first | exact World.ownsRow_lit (base := w5.heap.size) (e := 2) (size := 1) _ #[] 0 (by first | exact Nat.le_refl _ | simp) (by unfold maxLen; omega) (by simp) | exact (World.ownsRow_lit (base := w5.heap.size) (e := 2) (size := 1) _ #[] 0 (by first | exact Nat.le_refl _ | simp) (by unfold maxLen; omega) (by simp)).alloc _ | exact HLB.out) (some ⟨go, 0, none⟩) a a ((o.take a).map (Value.int .i64)) rfl HT1.out (HT2.out _ hHeld) HT3.out m3 (by omega) hHeld.size ?_; intro v41 w41 o41 g41 n41 q41) | (refine wp_append_own_at _ _ 39 rfl w5.heap.size 2 i0 (.int .i64 0) 1 8 Try.underlying39 hi hz0 hz1 hz2 rfl (by decide) _ a ((o.take a).map (Value.int .i64)) rfl (by first | exact o41 | exact o41.alloc _) _ 1 1 [.int .i64 x] rfl rfl (by first | exact cell_one_new _ _ _ | exact one_cells (g41.cell HA2.out (by simp)) | exact one_cells (g41.cell HBB.out (by simp))) (by simp [Value.oneCell']) m1 (by omega) hHeld.size ?_; intro v47 w47 o47 g47 n47 q47) | (refine wp_append_own_at _ _ 39 rfl w5.heap.size 2 i0 (.int .i64 0) 1 8 Try.underlying39 hi hz0 hz1 hz2 rfl (by decide) _ (a + 1) ((o.take a).map (Value.int .i64) ++ [.int .i64 x]) rfl (by exact o47) ⟨gr, 0, none⟩ 0 cpr ((o.drop a).map (Value.int .i64)) rfl HR1'.out (HRN.out _ hHeld) HR3.out m2 (by omega) hHeld.size ?_; intro v49 w49 o49 g49 n49 q49)
                refine hKc.out _ _ ?_ (fun hHeld => ?_)
                · first | exact hHeld.alloc hHeld.size _ | exact hHeld.grown g49 hHeld.size (fun k e => (o47.lt k e).1) | exact hHeld.grown g47 hHeld.size (fun k e => (o41.lt k e).1) | exact hHeld.grown g41 hHeld.size (fun k e => by have := Option.some.inj e; subst this; simp) | exact hHeld.grown g41 hHeld.size (fun k e => by have := Option.some.inj e; subst this; exact Nat.le_refl _)
                clear hKc Kc
                refine wpAnyH_ready (rs := [10]) (by kernel_rfl) (by simp) ?_
                refine AllReadyH.cons rfl (fun Kc hKc => ?_) AllReadyH.nil
                first | (refine wp_append_lit _ _ 39 rfl w5.heap.size 2 i0 (.int .i64 0) 8 Try.underlying39 hi hz0 hz1 hz2 rfl _ 0 rfl (by first | exact World.ownsRow_lit (base := w5.heap.size) (e := 2) (size := 1) _ #[] 0 (by first | exact Nat.le_refl _ | simp) (by unfold maxLen; omega) (by simp) | exact (World.ownsRow_lit (base := w5.heap.size) (e := 2) (size := 1) _ #[] 0 (by first | exact Nat.le_refl _ | simp) (by unfold maxLen; omega) (by simp)).alloc _ | exact HLB.out) (some ⟨go, 0, none⟩) a a ((o.take a).map (Value.int .i64)) rfl HT1.out (HT2.out _ hHeld) HT3.out m3 (by omega) hHeld.size ?_; intro v41 w41 o41 g41 n41 q41) | (refine wp_append_own_at _ _ 39 rfl w5.heap.size 2 i0 (.int .i64 0) 1 8 Try.underlying39 hi hz0 hz1 hz2 rfl (by decide) _ a ((o.take a).map (Value.int .i64)) rfl (by first | exact o41 | exact o41.alloc _) _ 1 1 [.int .i64 x] rfl rfl (by first | exact cell_one_new _ _ _ | exact one_cells (g41.cell HA2.out (by simp)) | exact one_cells (g41.cell HBB.out (by simp))) (by simp [Value.oneCell']) m1 (by omega) hHeld.size ?_; intro v47 w47 o47 g47 n47 q47) | (refine wp_append_own_at _ _ 39 rfl w5.heap.size 2 i0 (.int .i64 0) 1 8 Try.underlying39 hi hz0 hz1 hz2 rfl (by decide) _ (a + 1) ((o.take a).map (Value.int .i64) ++ [.int .i64 x]) rfl (by exact o47) ⟨gr, 0, none⟩ 0 cpr ((o.drop a).map (Value.int .i64)) rfl HR1'.out (HRN.out _ hHeld) HR3.out m2 (by omega) hHeld.size ?_; intro v49 w49 o49 g49 n49 q49)
                refine hKc.out _ _ ?_ (fun hHeld => ?_)
                · first | exact hHeld.alloc hHeld.size _ | exact hHeld.grown g49 hHeld.size (fun k e => (o47.lt k e).1) | exact hHeld.grown g47 hHeld.size (fun k e => (o41.lt k e).1) | exact hHeld.grown g41 hHeld.size (fun k e => by have := Option.some.inj e; subst this; simp) | exact hHeld.grown g41 hHeld.size (fun k e => by have := Option.some.inj e; subst this; exact Nat.le_refl _)
                clear hKc Kc
                refine wpAnyH_ready (rs := [12]) (by kernel_rfl) (by simp) ?_
                refine AllReadyH.cons rfl (fun Kc hKc => ?_) AllReadyH.nil
                first | (refine wp_append_lit _ _ 39 rfl w5.heap.size 2 i0 (.int .i64 0) 8 Try.underlying39 hi hz0 hz1 hz2 rfl _ 0 rfl (by first | exact World.ownsRow_lit (base := w5.heap.size) (e := 2) (size := 1) _ #[] 0 (by first | exact Nat.le_refl _ | simp) (by unfold maxLen; omega) (by simp) | exact (World.ownsRow_lit (base := w5.heap.size) (e := 2) (size := 1) _ #[] 0 (by first | exact Nat.le_refl _ | simp) (by unfold maxLen; omega) (by simp)).alloc _ | exact HLB.out) (some ⟨go, 0, none⟩) a a ((o.take a).map (Value.int .i64)) rfl HT1.out (HT2.out _ hHeld) HT3.out m3 (by omega) hHeld.size ?_; intro v41 w41 o41 g41 n41 q41) | (refine wp_append_own_at _ _ 39 rfl w5.heap.size 2 i0 (.int .i64 0) 1 8 Try.underlying39 hi hz0 hz1 hz2 rfl (by decide) _ a ((o.take a).map (Value.int .i64)) rfl (by first | exact o41 | exact o41.alloc _) _ 1 1 [.int .i64 x] rfl rfl (by first | exact cell_one_new _ _ _ | exact one_cells (g41.cell HA2.out (by simp)) | exact one_cells (g41.cell HBB.out (by simp))) (by simp [Value.oneCell']) m1 (by omega) hHeld.size ?_; intro v47 w47 o47 g47 n47 q47) | (refine wp_append_own_at _ _ 39 rfl w5.heap.size 2 i0 (.int .i64 0) 1 8 Try.underlying39 hi hz0 hz1 hz2 rfl (by decide) _ (a + 1) ((o.take a).map (Value.int .i64) ++ [.int .i64 x]) rfl (by exact o47) ⟨gr, 0, none⟩ 0 cpr ((o.drop a).map (Value.int .i64)) rfl HR1'.out (HRN.out _ hHeld) HR3.out m2 (by omega) hHeld.size ?_; intro v49 w49 o49 g49 n49 q49)
                refine hKc.out _ _ ?_ (fun hHeld => ?_)
                · first | exact hHeld.alloc hHeld.size _ | exact hHeld.grown g49 hHeld.size (fun k e => (o47.lt k e).1) | exact hHeld.grown g47 hHeld.size (fun k e => (o41.lt k e).1) | exact hHeld.grown g41 hHeld.size (fun k e => by have := Option.some.inj e; subst this; simp) | exact hHeld.grown g41 hHeld.size (fun k e => by have := Option.some.inj e; subst this; exact Nat.le_refl _)
                clear hKc Kc
                refine wpAnyH_take (i := 13) (v := ?_) rfl (by kernel_rfl) (by kernel_rfl) (by kernel_rfl) (fun _ _ _ h => h) (Or.inl ⟨by rfl, ?_⟩) (by assumption) ?_
                rotate_left
                · intro w hSw
                  try dsimp only at hSw
                  go_simp
                  try with_reducible rfl
                simp only [Act.put, List.setIfInBounds_toArray, List.set_cons_zero, List.set_cons_succ, List.getElem_toArray, List.getElem_cons_zero, List.getElem_cons_succ]
                refine wpAnyH_done (by kernel_rfl) ?_ _
                have HNIL' : Hid (v49 ≠ .slice none 0 0) := Lib.hid (fun h => by have := (n47.1 (n49.1 h).1).2; omega)
                have HO' : Hid (w49.ownsRow w.heap.size 2 1 v49 (a + 1) ((insZ o a x).map (Value.int .i64))) := Lib.hid (ins_own o49 HW5.out.size ha (by omega))
                have HB' := Lib.hid (btr HW5.out hHeld)
                have HLN : Hid ((insZ o a x).length = a + 1) := Lib.hid (by rw [insZ_len, HOL.out])
                have HPN : Hid ((insZ o a x).Perm (zs.take (a + 1))) := Lib.hid ((insZ_perm o a x).trans (by rw [HTK.out]; exact HPO.out.append_right [x]))
                clear hHeld n47 n49 o47 o49 g47 g49
                go_wp2
                go_roundw
                case rel => exact ⟨a + 1, insZ o a x, by omega, by go_num, HNIL'.out, HO'.out, HLN.out, HINS.out, HPN.out, HB'.out⟩
                case measure => simp [intOf]; omega
          · have hca2 : ¬ a = cpo := fun h => hca h.symm
            rcases hcase with ⟨e1, e2⟩ | ⟨e1, e2, ha0, e3⟩
            · go_wp2_with fail
              go_quiet (fail)
              have HBW := Lib.hid (HBID.out nq)
              generalize wr.drewN nq = wi at *
              have HW := Lib.hid (btr HB.out HBW.out)
              have HGI : Hid (go < wi.heap.size) := Lib.hid (Nat.lt_of_lt_of_le HGO.out HBW.out.size)
              have HOCI := Lib.hid (show ∀ k, k < j → wi.cell? ⟨go, k, none⟩ = some (.int .i64 (cellD o k)) from fun k hk => (HBW.out.cell (p := ⟨go, k, none⟩) HGO.out).trans (HOC.out k hk))
              have HZI := Lib.hid ((HW.out.cell (p := ⟨gz, j, none⟩) HZL.out).trans HZ.out)
              have hown0 := World.ownsRow_lit (base := wi.heap.size) (e := 2) (size := 1) wi #[] 0 (by exact Nat.le_refl _) (by unfold maxLen; omega) (by simp)
              have HL0 := Lib.hid hown0
              have hai : Below wi.heap.size wi (wi.alloc (.cells #[] 2)) := (Below.refl _ _).alloc (Nat.le_refl _) _
              have HR1 : Hid (((o.drop a).map (Value.int .i64)).length = (j - a)) := Lib.hid (by have := HOL.out; simp; omega)
              have HR2 : Hid (0 < (j - a) → ∃ ad, (some ⟨go, a, none⟩ : Option Addr) = some ad ∧ ∀ j' u, ((o.drop a).map (Value.int .i64))[j']? = some u → (wi.alloc (.cells #[] 2)).cell? (ad.add j') = some u) := Lib.hid (fun _ => ⟨_, rfl, fun j' u hu => by rw [addr_add]; exact drop_news HOCI.out HOL.out HGI.out hai hu⟩)
              have HR3 : Hid (∀ u ∈ (o.drop a).map (Value.int .i64), u.oneCell' = true) := Lib.hid (fun u hu => by obtain ⟨z, -, rfl⟩ := List.mem_map.1 hu; rfl)
              have HT1 : Hid (((o.take a).map (Value.int .i64)).length = a) := Lib.hid (by have := HOL.out; simp; omega)
              have HT3 : Hid (∀ u ∈ (o.take a).map (Value.int .i64), u.oneCell' = true) := Lib.hid (fun u hu => by obtain ⟨z, -, rfl⟩ := List.mem_map.1 hu; rfl)
              clear hown0 hai
              go_wp2_with (at_builtin; refine wpList_append_lit rfl _ _ 39 rfl wi.heap.size 2 i0 (.int .i64 0) 8 Try.underlying39 hi hz0 hz1 hz2 rfl wi.heap.size 0 rfl HL0.out (some ⟨go, a, none⟩) (j - a) (cpo - a) ((o.drop a).map (Value.int .i64)) rfl HR1.out HR2.out HR3.out (by unfold maxLen; omega) (by omega) (by simp) ?_)
              intro v5 w5 o5 g5 n5 q5
              have HB5 : Hid (Below wi.heap.size wi w5) := Lib.hid (((Below.refl _ _).alloc (Nat.le_refl _) _).grown g5 (by simp) (fun k e => by have := Option.some.inj e; omega))
              have o5b : w5.ownsRow wi.heap.size 2 1 v5 (o.drop a).length ((o.drop a).map (Value.int .i64)) := by
                have := HR1.out
                rw [List.length_map] at this
                rw [this]; first | exact o5 | (rw [List.map_drop]; exact o5)
              obtain ⟨gr, cpr, rfl, hgr, hcpr, curr, hcr, hcrz⟩ := own_row o5b n5
              have hdl : (o.drop a).length = (j - a) := by have := HR1.out; rwa [List.length_map] at this
              rw [hdl] at hcpr ⊢
              have HRN := Lib.hid (show ∀ w', Below w5.heap.size w5 w' → ∀ j' u, ((o.drop a).map (Value.int .i64))[j']? = some u → w'.cell? ((⟨gr, 0, none⟩ : Addr).add j') = some u from fun w' hb j' u hu => by
                rw [addr_add, Nat.zero_add]
                rw [List.getElem?_map] at hu
                cases hz : (o.drop a)[j']? with
                | none => rw [hz] at hu; simp at hu
                | some z =>
                  rw [hz] at hu
                  simp at hu
                  subst hu
                  exact (hb.cell (p := ⟨gr, j', none⟩) hcr.lt).trans ((hcr.cell j').trans (hcrz j' z hz)))
              have HZ5 := Lib.hid ((HB5.out.cell (p := ⟨gz, j, none⟩) (Nat.lt_of_lt_of_le HZL.out HW.out.size)).trans HZI.out)
              have HZ5L : Hid (gz < w5.heap.size) := Lib.hid (Nat.lt_of_lt_of_le HZL.out (Nat.le_trans HW.out.size HB5.out.size))
              have HW5 := Lib.hid (btr HW.out HB5.out)
              have HT2 := Lib.hid (show ∀ w', Below w5.heap.size w5 w' → (0 < a → ∃ ad, (some ⟨go, 0, none⟩ : Option Addr) = some ad ∧ ∀ j' u, ((o.take a).map (Value.int .i64))[j']? = some u → w'.cell? (ad.add j') = some u) from fun w' hb _ => ⟨_, rfl, fun j' u hu => by
                rw [addr_add, Nat.zero_add]
                exact take_news HOCI.out HOL.out HGI.out (btr HB5.out hb) hu⟩)
              have hR1' : ((o.drop a).map (Value.int .i64)).length = (j - a) * 1 := by rw [HR1.out]; first | done | omega
              have HR1' := Lib.hid hR1'
              have a0 : (0 : Int) ≤ (a : Int) := by omega
              have a1 : (a : Int) ≤ (cpo : Int) := by omega
              have m1 : a + 1 ≤ maxLen := by unfold maxLen; omega
              have m2 : a + 1 + (j - a) ≤ maxLen := by unfold maxLen; omega
              have m3 : a ≤ maxLen := by unfold maxLen; omega
              have HA2 : Hid (((w5.alloc (.cells #[] 2)).alloc (.cells #[.int .i64 x] 2)).drew.cell? ⟨w5.heap.size + 1, 0, none⟩ = some (.int .i64 x)) := Lib.hid (by simp)
              have HLB : Hid (World.ownsRow ((w5.alloc (.cells #[.int .i64 x] 2)).alloc (.cells #[] 2)).drew w5.heap.size 2 1 (.slice (some ⟨w5.heap.size + 1, 0, none⟩) 0 0) 0 []) := Lib.hid (by
                have := World.ownsRow_lit (base := w5.heap.size) (e := 2) (size := 1) (w5.alloc (.cells #[.int .i64 x] 2)) #[] 0 (by simp) (by unfold maxLen; omega) (by simp)
                rw [show (w5.alloc (.cells #[.int .i64 x] 2)).heap.size = w5.heap.size + 1 by simp] at this
                exact this)
              have HBB : Hid (((w5.alloc (.cells #[.int .i64 x] 2)).alloc (.cells #[] 2)).drew.cell? ⟨w5.heap.size, 0, none⟩ = some (.int .i64 x)) := Lib.hid (by simp)
              clear o5 g5 n5 q5 o5b hcr hcrz hdl hgr hR1' HL0 HR2 HOCI HZI
              go_wp2_with fail
              refine wp_region_held_drew (S := fun w' => Below w5.heap.size w5 w') (by kernel_rfl) (by exact below_drewN (Below.refl _ _) 1) (fun hHeld => ?_)
              refine wpAnyH_take (i := 1) (v := ?_) rfl (by kernel_rfl) (by kernel_rfl) (by kernel_rfl) (fun _ _ _ h => h) (Or.inl ⟨by rfl, ?_⟩) (by assumption) ?_
              rotate_left
              · intro w hSw
                try dsimp only at hSw
                go_simp
                try with_reducible rfl
              simp only [Act.put, List.setIfInBounds_toArray, List.set_cons_zero, List.set_cons_succ, List.getElem_toArray, List.getElem_cons_zero, List.getElem_cons_succ]
              refine wpAnyH_take (i := 2) (v := ?_) rfl (by kernel_rfl) (by kernel_rfl) (by kernel_rfl) (fun _ _ _ h => h) (Or.inl ⟨by rfl, ?_⟩) (by assumption) ?_
              rotate_left
              · intro w hSw
                try dsimp only at hSw
                go_simp
                try with_reducible rfl
              simp only [Act.put, List.setIfInBounds_toArray, List.set_cons_zero, List.set_cons_succ, List.getElem_toArray, List.getElem_cons_zero, List.getElem_cons_succ]
              refine wpAnyH_take (i := 3) (v := ?_) rfl (by kernel_rfl) (by kernel_rfl) (by kernel_rfl) (fun _ _ _ h => h) (Or.inl ⟨by rfl, ?_⟩) (by assumption) ?_
              rotate_left
              · intro w hSw
                try dsimp only at hSw
                go_simp
                try with_reducible rfl
              simp only [Act.put, List.setIfInBounds_toArray, List.set_cons_zero, List.set_cons_succ, List.getElem_toArray, List.getElem_cons_zero, List.getElem_cons_succ]
              refine wpAnyH_take (i := 5) (v := ?_) rfl (by kernel_rfl) (by kernel_rfl) (by kernel_rfl) (fun _ _ _ h => h) (Or.inl ⟨by rfl, ?_⟩) (by assumption) ?_
              rotate_left
              · intro w hSw
                try dsimp only at hSw
                go_simp
                try with_reducible rfl
              simp only [Act.put, List.setIfInBounds_toArray, List.set_cons_zero, List.set_cons_succ, List.getElem_toArray, List.getElem_cons_zero, List.getElem_cons_succ]
              refine wpAnyH_take (i := 6) (v := ?_) rfl (by kernel_rfl) (by kernel_rfl) (by kernel_rfl) (fun _ _ _ h => h) (Or.inl ⟨by rfl, ?_⟩) (by assumption) ?_
              rotate_left
              · intro w hSw
                try dsimp only at hSw
                go_simp
                try with_reducible rfl
              simp only [Act.put, List.setIfInBounds_toArray, List.set_cons_zero, List.set_cons_succ, List.getElem_toArray, List.getElem_cons_zero, List.getElem_cons_succ]
              refine wpAnyH_take (i := 7) (v := ?_) rfl (by kernel_rfl) (by kernel_rfl) (by kernel_rfl) (fun _ _ _ h => h) (Or.inl ⟨by rfl, ?_⟩) (by assumption) ?_
              rotate_left
              · intro w hSw
                try dsimp only at hSw
                go_simp
                try with_reducible rfl
              simp only [Act.put, List.setIfInBounds_toArray, List.set_cons_zero, List.set_cons_succ, List.getElem_toArray, List.getElem_cons_zero, List.getElem_cons_succ]
              refine wpAnyH_take (i := 8) (v := ?_) rfl (by kernel_rfl) (by kernel_rfl) (by kernel_rfl) (fun _ _ _ h => h) (Or.inl ⟨by rfl, ?_⟩) (by assumption) ?_
              rotate_left
              · intro w hSw
                have q := (hSw.cell (p := ⟨gz, j, none⟩) HZ5L.out).trans HZ5.out
                go_simp
                try with_reducible rfl
              simp only [Act.put, List.setIfInBounds_toArray, List.set_cons_zero, List.set_cons_succ, List.getElem_toArray, List.getElem_cons_zero, List.getElem_cons_succ]
              refine wpAnyH_take (i := 11) (v := ?_) rfl (by kernel_rfl) (by kernel_rfl) (by kernel_rfl) (fun _ _ _ h => h) (Or.inl ⟨by rfl, ?_⟩) (by assumption) ?_
              rotate_left
              · intro w hSw
                try dsimp only at hSw
                go_simp
                try with_reducible rfl
              simp only [Act.put, List.setIfInBounds_toArray, List.set_cons_zero, List.set_cons_succ, List.getElem_toArray, List.getElem_cons_zero, List.getElem_cons_succ]
              refine wpAnyH_ready (rs := [0, 9]) (by kernel_rfl) (by simp) ?_
              refine AllReadyH.cons rfl (fun Kc hKc => ?_) (AllReadyH.cons rfl (fun Kc hKc => ?_) AllReadyH.nil)
              · go_simp
                refine hKc.out _ _ ?_ (fun hHeld => ?_)
                · first | exact hHeld.alloc hHeld.size _ | exact hHeld.grown g49 hHeld.size (fun k e => (o47.lt k e).1) | exact hHeld.grown g47 hHeld.size (fun k e => (o41.lt k e).1) | exact hHeld.grown g41 hHeld.size (fun k e => by have := Option.some.inj e; subst this; simp) | exact hHeld.grown g41 hHeld.size (fun k e => by have := Option.some.inj e; subst this; exact Nat.le_refl _)
                clear hKc Kc
                refine wpAnyH_ready (rs := [4, 9]) (by kernel_rfl) (by simp) ?_
                refine AllReadyH.cons rfl (fun Kc hKc => ?_) (AllReadyH.cons rfl (fun Kc hKc => ?_) AllReadyH.nil)
                · first | (refine wp_append_lit _ _ 39 rfl w5.heap.size 2 i0 (.int .i64 0) 8 Try.underlying39 hi hz0 hz1 hz2 rfl _ 0 rfl (by first | exact World.ownsRow_lit (base := w5.heap.size) (e := 2) (size := 1) _ #[] 0 (by first | exact Nat.le_refl _ | simp) (by unfold maxLen; omega) (by simp) | exact (World.ownsRow_lit (base := w5.heap.size) (e := 2) (size := 1) _ #[] 0 (by first | exact Nat.le_refl _ | simp) (by unfold maxLen; omega) (by simp)).alloc _ | exact HLB.out) (some ⟨go, 0, none⟩) a cpo ((o.take a).map (Value.int .i64)) rfl HT1.out (HT2.out _ hHeld) HT3.out m3 (by omega) hHeld.size ?_; intro v41 w41 o41 g41 n41 q41) | (refine wp_append_own_at _ _ 39 rfl w5.heap.size 2 i0 (.int .i64 0) 1 8 Try.underlying39 hi hz0 hz1 hz2 rfl (by decide) _ a ((o.take a).map (Value.int .i64)) rfl (by first | exact o41 | exact o41.alloc _) _ 1 1 [.int .i64 x] rfl rfl (by first | exact cell_one_new _ _ _ | exact one_cells (g41.cell HA2.out (by simp)) | exact one_cells (g41.cell HBB.out (by simp))) (by simp [Value.oneCell']) m1 (by omega) hHeld.size ?_; intro v47 w47 o47 g47 n47 q47) | (refine wp_append_own_at _ _ 39 rfl w5.heap.size 2 i0 (.int .i64 0) 1 8 Try.underlying39 hi hz0 hz1 hz2 rfl (by decide) _ (a + 1) ((o.take a).map (Value.int .i64) ++ [.int .i64 x]) rfl (by exact o47) ⟨gr, 0, none⟩ (j - a) cpr ((o.drop a).map (Value.int .i64)) rfl HR1'.out (HRN.out _ hHeld) HR3.out m2 (by omega) hHeld.size ?_; intro v49 w49 o49 g49 n49 q49)
                  refine hKc.out _ _ ?_ (fun hHeld => ?_)
                  · first | exact hHeld.alloc hHeld.size _ | exact hHeld.grown g49 hHeld.size (fun k e => (o47.lt k e).1) | exact hHeld.grown g47 hHeld.size (fun k e => (o41.lt k e).1) | exact hHeld.grown g41 hHeld.size (fun k e => by have := Option.some.inj e; subst this; simp) | exact hHeld.grown g41 hHeld.size (fun k e => by have := Option.some.inj e; subst this; exact Nat.le_refl _)
                  clear hKc Kc
                  refine wpAnyH_ready (rs := [9]) (by kernel_rfl) (by simp) ?_
                  refine AllReadyH.cons rfl (fun Kc hKc => ?_) AllReadyH.nil
                  go_simp
                  refine hKc.out _ _ ?_ (fun hHeld => ?_)
                  · first | exact hHeld.alloc hHeld.size _ | exact hHeld.grown g49 hHeld.size (fun k e => (o47.lt k e).1) | exact hHeld.grown g47 hHeld.size (fun k e => (o41.lt k e).1) | exact hHeld.grown g41 hHeld.size (fun k e => by have := Option.some.inj e; subst this; simp) | exact hHeld.grown g41 hHeld.size (fun k e => by have := Option.some.inj e; subst this; exact Nat.le_refl _)
                  clear hKc Kc
                  refine wpAnyH_ready (rs := [10]) (by kernel_rfl) (by simp) ?_
                  refine AllReadyH.cons rfl (fun Kc hKc => ?_) AllReadyH.nil
                  first | (refine wp_append_lit _ _ 39 rfl w5.heap.size 2 i0 (.int .i64 0) 8 Try.underlying39 hi hz0 hz1 hz2 rfl _ 0 rfl (by first | exact World.ownsRow_lit (base := w5.heap.size) (e := 2) (size := 1) _ #[] 0 (by first | exact Nat.le_refl _ | simp) (by unfold maxLen; omega) (by simp) | exact (World.ownsRow_lit (base := w5.heap.size) (e := 2) (size := 1) _ #[] 0 (by first | exact Nat.le_refl _ | simp) (by unfold maxLen; omega) (by simp)).alloc _ | exact HLB.out) (some ⟨go, 0, none⟩) a cpo ((o.take a).map (Value.int .i64)) rfl HT1.out (HT2.out _ hHeld) HT3.out m3 (by omega) hHeld.size ?_; intro v41 w41 o41 g41 n41 q41) | (refine wp_append_own_at _ _ 39 rfl w5.heap.size 2 i0 (.int .i64 0) 1 8 Try.underlying39 hi hz0 hz1 hz2 rfl (by decide) _ a ((o.take a).map (Value.int .i64)) rfl (by first | exact o41 | exact o41.alloc _) _ 1 1 [.int .i64 x] rfl rfl (by first | exact cell_one_new _ _ _ | exact one_cells (g41.cell HA2.out (by simp)) | exact one_cells (g41.cell HBB.out (by simp))) (by simp [Value.oneCell']) m1 (by omega) hHeld.size ?_; intro v47 w47 o47 g47 n47 q47) | (refine wp_append_own_at _ _ 39 rfl w5.heap.size 2 i0 (.int .i64 0) 1 8 Try.underlying39 hi hz0 hz1 hz2 rfl (by decide) _ (a + 1) ((o.take a).map (Value.int .i64) ++ [.int .i64 x]) rfl (by exact o47) ⟨gr, 0, none⟩ (j - a) cpr ((o.drop a).map (Value.int .i64)) rfl HR1'.out (HRN.out _ hHeld) HR3.out m2 (by omega) hHeld.size ?_; intro v49 w49 o49 g49 n49 q49)
                  refine hKc.out _ _ ?_ (fun hHeld => ?_)
                  · first | exact hHeld.alloc hHeld.size _ | exact hHeld.grown g49 hHeld.size (fun k e => (o47.lt k e).1) | exact hHeld.grown g47 hHeld.size (fun k e => (o41.lt k e).1) | exact hHeld.grown g41 hHeld.size (fun k e => by have := Option.some.inj e; subst this; simp) | exact hHeld.grown g41 hHeld.size (fun k e => by have := Option.some.inj e; subst this; exact Nat.le_refl _)
                  clear hKc Kc
                  refine wpAnyH_ready (rs := [12]) (by kernel_rfl) (by simp) ?_
                  refine AllReadyH.cons rfl (fun Kc hKc => ?_) AllReadyH.nil
                  first | (refine wp_append_lit _ _ 39 rfl w5.heap.size 2 i0 (.int .i64 0) 8 Try.underlying39 hi hz0 hz1 hz2 rfl _ 0 rfl (by first | exact World.ownsRow_lit (base := w5.heap.size) (e := 2) (size := 1) _ #[] 0 (by first | exact Nat.le_refl _ | simp) (by unfold maxLen; omega) (by simp) | exact (World.ownsRow_lit (base := w5.heap.size) (e := 2) (size := 1) _ #[] 0 (by first | exact Nat.le_refl _ | simp) (by unfold maxLen; omega) (by simp)).alloc _ | exact HLB.out) (some ⟨go, 0, none⟩) a cpo ((o.take a).map (Value.int .i64)) rfl HT1.out (HT2.out _ hHeld) HT3.out m3 (by omega) hHeld.size ?_; intro v41 w41 o41 g41 n41 q41) | (refine wp_append_own_at _ _ 39 rfl w5.heap.size 2 i0 (.int .i64 0) 1 8 Try.underlying39 hi hz0 hz1 hz2 rfl (by decide) _ a ((o.take a).map (Value.int .i64)) rfl (by first | exact o41 | exact o41.alloc _) _ 1 1 [.int .i64 x] rfl rfl (by first | exact cell_one_new _ _ _ | exact one_cells (g41.cell HA2.out (by simp)) | exact one_cells (g41.cell HBB.out (by simp))) (by simp [Value.oneCell']) m1 (by omega) hHeld.size ?_; intro v47 w47 o47 g47 n47 q47) | (refine wp_append_own_at _ _ 39 rfl w5.heap.size 2 i0 (.int .i64 0) 1 8 Try.underlying39 hi hz0 hz1 hz2 rfl (by decide) _ (a + 1) ((o.take a).map (Value.int .i64) ++ [.int .i64 x]) rfl (by exact o47) ⟨gr, 0, none⟩ (j - a) cpr ((o.drop a).map (Value.int .i64)) rfl HR1'.out (HRN.out _ hHeld) HR3.out m2 (by omega) hHeld.size ?_; intro v49 w49 o49 g49 n49 q49)
                  refine hKc.out _ _ ?_ (fun hHeld => ?_)
                  · first | exact hHeld.alloc hHeld.size _ | exact hHeld.grown g49 hHeld.size (fun k e => (o47.lt k e).1) | exact hHeld.grown g47 hHeld.size (fun k e => (o41.lt k e).1) | exact hHeld.grown g41 hHeld.size (fun k e => by have := Option.some.inj e; subst this; simp) | exact hHeld.grown g41 hHeld.size (fun k e => by have := Option.some.inj e; subst this; exact Nat.le_refl _)
                  clear hKc Kc
                  refine wpAnyH_take (i := 13) (v := ?_) rfl (by kernel_rfl) (by kernel_rfl) (by kernel_rfl) (fun _ _ _ h => h) (Or.inl ⟨by rfl, ?_⟩) (by assumption) ?_
                  rotate_left
                  · intro w hSw
                    try dsimp only at hSw
                    go_simp
                    try with_reducible rfl
                  simp only [Act.put, List.setIfInBounds_toArray, List.set_cons_zero, List.set_cons_succ, List.getElem_toArray, List.getElem_cons_zero, List.getElem_cons_succ]
                  refine wpAnyH_done (by kernel_rfl) ?_ _
                  have HNIL' : Hid (v49 ≠ .slice none 0 0) := Lib.hid (fun h => by have := (n47.1 (n49.1 h).1).2; omega)
                  have HO' : Hid (w49.ownsRow w.heap.size 2 1 v49 (j + 1) ((insZ o a x).map (Value.int .i64))) := Lib.hid (ins_own o49 HW5.out.size ha (by omega))
                  have HB' := Lib.hid (btr HW5.out hHeld)
                  have HLN : Hid ((insZ o a x).length = j + 1) := Lib.hid (by rw [insZ_len, HOL.out])
                  have HPN : Hid ((insZ o a x).Perm (zs.take (j + 1))) := Lib.hid ((insZ_perm o a x).trans (by rw [HTK.out]; exact HPO.out.append_right [x]))
                  clear hHeld n47 n49 o47 o49 g47 g49
                  go_wp2
                  go_roundw
                  case rel => exact ⟨j + 1, insZ o a x, by omega, by go_num, HNIL'.out, HO'.out, HLN.out, HINS.out, HPN.out, HB'.out⟩
                  case measure => simp [intOf]; omega
                · go_simp
                  refine hKc.out _ _ ?_ (fun hHeld => ?_)
                  · first | exact hHeld.alloc hHeld.size _ | exact hHeld.grown g49 hHeld.size (fun k e => (o47.lt k e).1) | exact hHeld.grown g47 hHeld.size (fun k e => (o41.lt k e).1) | exact hHeld.grown g41 hHeld.size (fun k e => by have := Option.some.inj e; subst this; simp) | exact hHeld.grown g41 hHeld.size (fun k e => by have := Option.some.inj e; subst this; exact Nat.le_refl _)
                  clear hKc Kc
                  refine wpAnyH_ready (rs := [4]) (by kernel_rfl) (by simp) ?_
                  refine AllReadyH.cons rfl (fun Kc hKc => ?_) AllReadyH.nil
                  first | (refine wp_append_lit _ _ 39 rfl w5.heap.size 2 i0 (.int .i64 0) 8 Try.underlying39 hi hz0 hz1 hz2 rfl _ 0 rfl (by first | exact World.ownsRow_lit (base := w5.heap.size) (e := 2) (size := 1) _ #[] 0 (by first | exact Nat.le_refl _ | simp) (by unfold maxLen; omega) (by simp) | exact (World.ownsRow_lit (base := w5.heap.size) (e := 2) (size := 1) _ #[] 0 (by first | exact Nat.le_refl _ | simp) (by unfold maxLen; omega) (by simp)).alloc _ | exact HLB.out) (some ⟨go, 0, none⟩) a cpo ((o.take a).map (Value.int .i64)) rfl HT1.out (HT2.out _ hHeld) HT3.out m3 (by omega) hHeld.size ?_; intro v41 w41 o41 g41 n41 q41) | (refine wp_append_own_at _ _ 39 rfl w5.heap.size 2 i0 (.int .i64 0) 1 8 Try.underlying39 hi hz0 hz1 hz2 rfl (by decide) _ a ((o.take a).map (Value.int .i64)) rfl (by first | exact o41 | exact o41.alloc _) _ 1 1 [.int .i64 x] rfl rfl (by first | exact cell_one_new _ _ _ | exact one_cells (g41.cell HA2.out (by simp)) | exact one_cells (g41.cell HBB.out (by simp))) (by simp [Value.oneCell']) m1 (by omega) hHeld.size ?_; intro v47 w47 o47 g47 n47 q47) | (refine wp_append_own_at _ _ 39 rfl w5.heap.size 2 i0 (.int .i64 0) 1 8 Try.underlying39 hi hz0 hz1 hz2 rfl (by decide) _ (a + 1) ((o.take a).map (Value.int .i64) ++ [.int .i64 x]) rfl (by exact o47) ⟨gr, 0, none⟩ (j - a) cpr ((o.drop a).map (Value.int .i64)) rfl HR1'.out (HRN.out _ hHeld) HR3.out m2 (by omega) hHeld.size ?_; intro v49 w49 o49 g49 n49 q49)
                  refine hKc.out _ _ ?_ (fun hHeld => ?_)
                  · first | exact hHeld.alloc hHeld.size _ | exact hHeld.grown g49 hHeld.size (fun k e => (o47.lt k e).1) | exact hHeld.grown g47 hHeld.size (fun k e => (o41.lt k e).1) | exact hHeld.grown g41 hHeld.size (fun k e => by have := Option.some.inj e; subst this; simp) | exact hHeld.grown g41 hHeld.size (fun k e => by have := Option.some.inj e; subst this; exact Nat.le_refl _)
                  clear hKc Kc
                  refine wpAnyH_ready (rs := [10]) (by kernel_rfl) (by simp) ?_
                  refine AllReadyH.cons rfl (fun Kc hKc => ?_) AllReadyH.nil
                  first | (refine wp_append_lit _ _ 39 rfl w5.heap.size 2 i0 (.int .i64 0) 8 Try.underlying39 hi hz0 hz1 hz2 rfl _ 0 rfl (by first | exact World.ownsRow_lit (base := w5.heap.size) (e := 2) (size := 1) _ #[] 0 (by first | exact Nat.le_refl _ | simp) (by unfold maxLen; omega) (by simp) | exact (World.ownsRow_lit (base := w5.heap.size) (e := 2) (size := 1) _ #[] 0 (by first | exact Nat.le_refl _ | simp) (by unfold maxLen; omega) (by simp)).alloc _ | exact HLB.out) (some ⟨go, 0, none⟩) a cpo ((o.take a).map (Value.int .i64)) rfl HT1.out (HT2.out _ hHeld) HT3.out m3 (by omega) hHeld.size ?_; intro v41 w41 o41 g41 n41 q41) | (refine wp_append_own_at _ _ 39 rfl w5.heap.size 2 i0 (.int .i64 0) 1 8 Try.underlying39 hi hz0 hz1 hz2 rfl (by decide) _ a ((o.take a).map (Value.int .i64)) rfl (by first | exact o41 | exact o41.alloc _) _ 1 1 [.int .i64 x] rfl rfl (by first | exact cell_one_new _ _ _ | exact one_cells (g41.cell HA2.out (by simp)) | exact one_cells (g41.cell HBB.out (by simp))) (by simp [Value.oneCell']) m1 (by omega) hHeld.size ?_; intro v47 w47 o47 g47 n47 q47) | (refine wp_append_own_at _ _ 39 rfl w5.heap.size 2 i0 (.int .i64 0) 1 8 Try.underlying39 hi hz0 hz1 hz2 rfl (by decide) _ (a + 1) ((o.take a).map (Value.int .i64) ++ [.int .i64 x]) rfl (by exact o47) ⟨gr, 0, none⟩ (j - a) cpr ((o.drop a).map (Value.int .i64)) rfl HR1'.out (HRN.out _ hHeld) HR3.out m2 (by omega) hHeld.size ?_; intro v49 w49 o49 g49 n49 q49)
                  refine hKc.out _ _ ?_ (fun hHeld => ?_)
                  · first | exact hHeld.alloc hHeld.size _ | exact hHeld.grown g49 hHeld.size (fun k e => (o47.lt k e).1) | exact hHeld.grown g47 hHeld.size (fun k e => (o41.lt k e).1) | exact hHeld.grown g41 hHeld.size (fun k e => by have := Option.some.inj e; subst this; simp) | exact hHeld.grown g41 hHeld.size (fun k e => by have := Option.some.inj e; subst this; exact Nat.le_refl _)
                  clear hKc Kc
                  refine wpAnyH_ready (rs := [12]) (by kernel_rfl) (by simp) ?_
                  refine AllReadyH.cons rfl (fun Kc hKc => ?_) AllReadyH.nil
                  first | (refine wp_append_lit _ _ 39 rfl w5.heap.size 2 i0 (.int .i64 0) 8 Try.underlying39 hi hz0 hz1 hz2 rfl _ 0 rfl (by first | exact World.ownsRow_lit (base := w5.heap.size) (e := 2) (size := 1) _ #[] 0 (by first | exact Nat.le_refl _ | simp) (by unfold maxLen; omega) (by simp) | exact (World.ownsRow_lit (base := w5.heap.size) (e := 2) (size := 1) _ #[] 0 (by first | exact Nat.le_refl _ | simp) (by unfold maxLen; omega) (by simp)).alloc _ | exact HLB.out) (some ⟨go, 0, none⟩) a cpo ((o.take a).map (Value.int .i64)) rfl HT1.out (HT2.out _ hHeld) HT3.out m3 (by omega) hHeld.size ?_; intro v41 w41 o41 g41 n41 q41) | (refine wp_append_own_at _ _ 39 rfl w5.heap.size 2 i0 (.int .i64 0) 1 8 Try.underlying39 hi hz0 hz1 hz2 rfl (by decide) _ a ((o.take a).map (Value.int .i64)) rfl (by first | exact o41 | exact o41.alloc _) _ 1 1 [.int .i64 x] rfl rfl (by first | exact cell_one_new _ _ _ | exact one_cells (g41.cell HA2.out (by simp)) | exact one_cells (g41.cell HBB.out (by simp))) (by simp [Value.oneCell']) m1 (by omega) hHeld.size ?_; intro v47 w47 o47 g47 n47 q47) | (refine wp_append_own_at _ _ 39 rfl w5.heap.size 2 i0 (.int .i64 0) 1 8 Try.underlying39 hi hz0 hz1 hz2 rfl (by decide) _ (a + 1) ((o.take a).map (Value.int .i64) ++ [.int .i64 x]) rfl (by exact o47) ⟨gr, 0, none⟩ (j - a) cpr ((o.drop a).map (Value.int .i64)) rfl HR1'.out (HRN.out _ hHeld) HR3.out m2 (by omega) hHeld.size ?_; intro v49 w49 o49 g49 n49 q49)
                  refine hKc.out _ _ ?_ (fun hHeld => ?_)
                  · first | exact hHeld.alloc hHeld.size _ | exact hHeld.grown g49 hHeld.size (fun k e => (o47.lt k e).1) | exact hHeld.grown g47 hHeld.size (fun k e => (o41.lt k e).1) | exact hHeld.grown g41 hHeld.size (fun k e => by have := Option.some.inj e; subst this; simp) | exact hHeld.grown g41 hHeld.size (fun k e => by have := Option.some.inj e; subst this; exact Nat.le_refl _)
                  clear hKc Kc
                  refine wpAnyH_take (i := 13) (v := ?_) rfl (by kernel_rfl) (by kernel_rfl) (by kernel_rfl) (fun _ _ _ h => h) (Or.inl ⟨by rfl, ?_⟩) (by assumption) ?_
                  rotate_left
                  · intro w hSw
                    try dsimp only at hSw
                    go_simp
                    try with_reducible rfl
                  simp only [Act.put, List.setIfInBounds_toArray, List.set_cons_zero, List.set_cons_succ, List.getElem_toArray, List.getElem_cons_zero, List.getElem_cons_succ]
                  refine wpAnyH_done (by kernel_rfl) ?_ _
                  have HNIL' : Hid (v49 ≠ .slice none 0 0) := Lib.hid (fun h => by have := (n47.1 (n49.1 h).1).2; omega)
                  have HO' : Hid (w49.ownsRow w.heap.size 2 1 v49 (j + 1) ((insZ o a x).map (Value.int .i64))) := Lib.hid (ins_own o49 HW5.out.size ha (by omega))
                  have HB' := Lib.hid (btr HW5.out hHeld)
                  have HLN : Hid ((insZ o a x).length = j + 1) := Lib.hid (by rw [insZ_len, HOL.out])
                  have HPN : Hid ((insZ o a x).Perm (zs.take (j + 1))) := Lib.hid ((insZ_perm o a x).trans (by rw [HTK.out]; exact HPO.out.append_right [x]))
                  clear hHeld n47 n49 o47 o49 g47 g49
                  go_wp2
                  go_roundw
                  case rel => exact ⟨j + 1, insZ o a x, by omega, by go_num, HNIL'.out, HO'.out, HLN.out, HINS.out, HPN.out, HB'.out⟩
                  case measure => simp [intOf]; omega
              · go_simp
                refine hKc.out _ _ ?_ (fun hHeld => ?_)
                · first | exact hHeld.alloc hHeld.size _ | exact hHeld.grown g49 hHeld.size (fun k e => (o47.lt k e).1) | exact hHeld.grown g47 hHeld.size (fun k e => (o41.lt k e).1) | exact hHeld.grown g41 hHeld.size (fun k e => by have := Option.some.inj e; subst this; simp) | exact hHeld.grown g41 hHeld.size (fun k e => by have := Option.some.inj e; subst this; exact Nat.le_refl _)
                clear hKc Kc
                refine wpAnyH_ready (rs := [0]) (by kernel_rfl) (by simp) ?_
                refine AllReadyH.cons rfl (fun Kc hKc => ?_) AllReadyH.nil
                go_simp
                refine hKc.out _ _ ?_ (fun hHeld => ?_)
                · first | exact hHeld.alloc hHeld.size _ | exact hHeld.grown g49 hHeld.size (fun k e => (o47.lt k e).1) | exact hHeld.grown g47 hHeld.size (fun k e => (o41.lt k e).1) | exact hHeld.grown g41 hHeld.size (fun k e => by have := Option.some.inj e; subst this; simp) | exact hHeld.grown g41 hHeld.size (fun k e => by have := Option.some.inj e; subst this; exact Nat.le_refl _)
                clear hKc Kc
                refine wpAnyH_ready (rs := [4]) (by kernel_rfl) (by simp) ?_
                refine AllReadyH.cons rfl (fun Kc hKc => ?_) AllReadyH.nil
                first | (refine wp_append_lit _ _ 39 rfl w5.heap.size 2 i0 (.int .i64 0) 8 Try.underlying39 hi hz0 hz1 hz2 rfl _ 0 rfl (by first | exact World.ownsRow_lit (base := w5.heap.size) (e := 2) (size := 1) _ #[] 0 (by first | exact Nat.le_refl _ | simp) (by unfold maxLen; omega) (by simp) | exact (World.ownsRow_lit (base := w5.heap.size) (e := 2) (size := 1) _ #[] 0 (by first | exact Nat.le_refl _ | simp) (by unfold maxLen; omega) (by simp)).alloc _ | exact HLB.out) (some ⟨go, 0, none⟩) a cpo ((o.take a).map (Value.int .i64)) rfl HT1.out (HT2.out _ hHeld) HT3.out m3 (by omega) hHeld.size ?_; intro v41 w41 o41 g41 n41 q41) | (refine wp_append_own_at _ _ 39 rfl w5.heap.size 2 i0 (.int .i64 0) 1 8 Try.underlying39 hi hz0 hz1 hz2 rfl (by decide) _ a ((o.take a).map (Value.int .i64)) rfl (by first | exact o41 | exact o41.alloc _) _ 1 1 [.int .i64 x] rfl rfl (by first | exact cell_one_new _ _ _ | exact one_cells (g41.cell HA2.out (by simp)) | exact one_cells (g41.cell HBB.out (by simp))) (by simp [Value.oneCell']) m1 (by omega) hHeld.size ?_; intro v47 w47 o47 g47 n47 q47) | (refine wp_append_own_at _ _ 39 rfl w5.heap.size 2 i0 (.int .i64 0) 1 8 Try.underlying39 hi hz0 hz1 hz2 rfl (by decide) _ (a + 1) ((o.take a).map (Value.int .i64) ++ [.int .i64 x]) rfl (by exact o47) ⟨gr, 0, none⟩ (j - a) cpr ((o.drop a).map (Value.int .i64)) rfl HR1'.out (HRN.out _ hHeld) HR3.out m2 (by omega) hHeld.size ?_; intro v49 w49 o49 g49 n49 q49)
                refine hKc.out _ _ ?_ (fun hHeld => ?_)
                · first | exact hHeld.alloc hHeld.size _ | exact hHeld.grown g49 hHeld.size (fun k e => (o47.lt k e).1) | exact hHeld.grown g47 hHeld.size (fun k e => (o41.lt k e).1) | exact hHeld.grown g41 hHeld.size (fun k e => by have := Option.some.inj e; subst this; simp) | exact hHeld.grown g41 hHeld.size (fun k e => by have := Option.some.inj e; subst this; exact Nat.le_refl _)
                clear hKc Kc
                refine wpAnyH_ready (rs := [10]) (by kernel_rfl) (by simp) ?_
                refine AllReadyH.cons rfl (fun Kc hKc => ?_) AllReadyH.nil
                first | (refine wp_append_lit _ _ 39 rfl w5.heap.size 2 i0 (.int .i64 0) 8 Try.underlying39 hi hz0 hz1 hz2 rfl _ 0 rfl (by first | exact World.ownsRow_lit (base := w5.heap.size) (e := 2) (size := 1) _ #[] 0 (by first | exact Nat.le_refl _ | simp) (by unfold maxLen; omega) (by simp) | exact (World.ownsRow_lit (base := w5.heap.size) (e := 2) (size := 1) _ #[] 0 (by first | exact Nat.le_refl _ | simp) (by unfold maxLen; omega) (by simp)).alloc _ | exact HLB.out) (some ⟨go, 0, none⟩) a cpo ((o.take a).map (Value.int .i64)) rfl HT1.out (HT2.out _ hHeld) HT3.out m3 (by omega) hHeld.size ?_; intro v41 w41 o41 g41 n41 q41) | (refine wp_append_own_at _ _ 39 rfl w5.heap.size 2 i0 (.int .i64 0) 1 8 Try.underlying39 hi hz0 hz1 hz2 rfl (by decide) _ a ((o.take a).map (Value.int .i64)) rfl (by first | exact o41 | exact o41.alloc _) _ 1 1 [.int .i64 x] rfl rfl (by first | exact cell_one_new _ _ _ | exact one_cells (g41.cell HA2.out (by simp)) | exact one_cells (g41.cell HBB.out (by simp))) (by simp [Value.oneCell']) m1 (by omega) hHeld.size ?_; intro v47 w47 o47 g47 n47 q47) | (refine wp_append_own_at _ _ 39 rfl w5.heap.size 2 i0 (.int .i64 0) 1 8 Try.underlying39 hi hz0 hz1 hz2 rfl (by decide) _ (a + 1) ((o.take a).map (Value.int .i64) ++ [.int .i64 x]) rfl (by exact o47) ⟨gr, 0, none⟩ (j - a) cpr ((o.drop a).map (Value.int .i64)) rfl HR1'.out (HRN.out _ hHeld) HR3.out m2 (by omega) hHeld.size ?_; intro v49 w49 o49 g49 n49 q49)
                refine hKc.out _ _ ?_ (fun hHeld => ?_)
                · first | exact hHeld.alloc hHeld.size _ | exact hHeld.grown g49 hHeld.size (fun k e => (o47.lt k e).1) | exact hHeld.grown g47 hHeld.size (fun k e => (o41.lt k e).1) | exact hHeld.grown g41 hHeld.size (fun k e => by have := Option.some.inj e; subst this; simp) | exact hHeld.grown g41 hHeld.size (fun k e => by have := Option.some.inj e; subst this; exact Nat.le_refl _)
                clear hKc Kc
                refine wpAnyH_ready (rs := [12]) (by kernel_rfl) (by simp) ?_
                refine AllReadyH.cons rfl (fun Kc hKc => ?_) AllReadyH.nil
                first | (refine wp_append_lit _ _ 39 rfl w5.heap.size 2 i0 (.int .i64 0) 8 Try.underlying39 hi hz0 hz1 hz2 rfl _ 0 rfl (by first | exact World.ownsRow_lit (base := w5.heap.size) (e := 2) (size := 1) _ #[] 0 (by first | exact Nat.le_refl _ | simp) (by unfold maxLen; omega) (by simp) | exact (World.ownsRow_lit (base := w5.heap.size) (e := 2) (size := 1) _ #[] 0 (by first | exact Nat.le_refl _ | simp) (by unfold maxLen; omega) (by simp)).alloc _ | exact HLB.out) (some ⟨go, 0, none⟩) a cpo ((o.take a).map (Value.int .i64)) rfl HT1.out (HT2.out _ hHeld) HT3.out m3 (by omega) hHeld.size ?_; intro v41 w41 o41 g41 n41 q41) | (refine wp_append_own_at _ _ 39 rfl w5.heap.size 2 i0 (.int .i64 0) 1 8 Try.underlying39 hi hz0 hz1 hz2 rfl (by decide) _ a ((o.take a).map (Value.int .i64)) rfl (by first | exact o41 | exact o41.alloc _) _ 1 1 [.int .i64 x] rfl rfl (by first | exact cell_one_new _ _ _ | exact one_cells (g41.cell HA2.out (by simp)) | exact one_cells (g41.cell HBB.out (by simp))) (by simp [Value.oneCell']) m1 (by omega) hHeld.size ?_; intro v47 w47 o47 g47 n47 q47) | (refine wp_append_own_at _ _ 39 rfl w5.heap.size 2 i0 (.int .i64 0) 1 8 Try.underlying39 hi hz0 hz1 hz2 rfl (by decide) _ (a + 1) ((o.take a).map (Value.int .i64) ++ [.int .i64 x]) rfl (by exact o47) ⟨gr, 0, none⟩ (j - a) cpr ((o.drop a).map (Value.int .i64)) rfl HR1'.out (HRN.out _ hHeld) HR3.out m2 (by omega) hHeld.size ?_; intro v49 w49 o49 g49 n49 q49)
                refine hKc.out _ _ ?_ (fun hHeld => ?_)
                · first | exact hHeld.alloc hHeld.size _ | exact hHeld.grown g49 hHeld.size (fun k e => (o47.lt k e).1) | exact hHeld.grown g47 hHeld.size (fun k e => (o41.lt k e).1) | exact hHeld.grown g41 hHeld.size (fun k e => by have := Option.some.inj e; subst this; simp) | exact hHeld.grown g41 hHeld.size (fun k e => by have := Option.some.inj e; subst this; exact Nat.le_refl _)
                clear hKc Kc
                refine wpAnyH_take (i := 13) (v := ?_) rfl (by kernel_rfl) (by kernel_rfl) (by kernel_rfl) (fun _ _ _ h => h) (Or.inl ⟨by rfl, ?_⟩) (by assumption) ?_
                rotate_left
                · intro w hSw
                  try dsimp only at hSw
                  go_simp
                  try with_reducible rfl
                simp only [Act.put, List.setIfInBounds_toArray, List.set_cons_zero, List.set_cons_succ, List.getElem_toArray, List.getElem_cons_zero, List.getElem_cons_succ]
                refine wpAnyH_done (by kernel_rfl) ?_ _
                have HNIL' : Hid (v49 ≠ .slice none 0 0) := Lib.hid (fun h => by have := (n47.1 (n49.1 h).1).2; omega)
                have HO' : Hid (w49.ownsRow w.heap.size 2 1 v49 (j + 1) ((insZ o a x).map (Value.int .i64))) := Lib.hid (ins_own o49 HW5.out.size ha (by omega))
                have HB' := Lib.hid (btr HW5.out hHeld)
                have HLN : Hid ((insZ o a x).length = j + 1) := Lib.hid (by rw [insZ_len, HOL.out])
                have HPN : Hid ((insZ o a x).Perm (zs.take (j + 1))) := Lib.hid ((insZ_perm o a x).trans (by rw [HTK.out]; exact HPO.out.append_right [x]))
                clear hHeld n47 n49 o47 o49 g47 g49
                go_wp2
                go_roundw
                case rel => exact ⟨j + 1, insZ o a x, by omega, by go_num, HNIL'.out, HO'.out, HLN.out, HINS.out, HPN.out, HB'.out⟩
                case measure => simp [intOf]; omega
            · have co := (HBI.out.cell (p := ⟨go, a - 1, none⟩) HGO.out).trans (HOC.out (a - 1) (by omega))
              have e4 : wrap64 ((a : Int) - 1) = ((a - 1 : Nat) : Int) := by unfold wrap64; omega
              have e5 : (0 : Int) ≤ ((a - 1 : Nat) : Int) := by omega
              have e6 : ((a - 1 : Nat) : Int) < (j : Int) := by omega
              generalize cellD o (a - 1) = y at *
              go_wp2_with fail
              go_quiet (fail)
              have HBW := Lib.hid (HBID.out nq)
              generalize wr.drewN nq = wi at *
              have HW := Lib.hid (btr HB.out HBW.out)
              have HGI : Hid (go < wi.heap.size) := Lib.hid (Nat.lt_of_lt_of_le HGO.out HBW.out.size)
              have HOCI := Lib.hid (show ∀ k, k < j → wi.cell? ⟨go, k, none⟩ = some (.int .i64 (cellD o k)) from fun k hk => (HBW.out.cell (p := ⟨go, k, none⟩) HGO.out).trans (HOC.out k hk))
              have HZI := Lib.hid ((HW.out.cell (p := ⟨gz, j, none⟩) HZL.out).trans HZ.out)
              have hown0 := World.ownsRow_lit (base := wi.heap.size) (e := 2) (size := 1) wi #[] 0 (by exact Nat.le_refl _) (by unfold maxLen; omega) (by simp)
              have HL0 := Lib.hid hown0
              have hai : Below wi.heap.size wi (wi.alloc (.cells #[] 2)) := (Below.refl _ _).alloc (Nat.le_refl _) _
              have HR1 : Hid (((o.drop a).map (Value.int .i64)).length = (j - a)) := Lib.hid (by have := HOL.out; simp; omega)
              have HR2 : Hid (0 < (j - a) → ∃ ad, (some ⟨go, a, none⟩ : Option Addr) = some ad ∧ ∀ j' u, ((o.drop a).map (Value.int .i64))[j']? = some u → (wi.alloc (.cells #[] 2)).cell? (ad.add j') = some u) := Lib.hid (fun _ => ⟨_, rfl, fun j' u hu => by rw [addr_add]; exact drop_news HOCI.out HOL.out HGI.out hai hu⟩)
              have HR3 : Hid (∀ u ∈ (o.drop a).map (Value.int .i64), u.oneCell' = true) := Lib.hid (fun u hu => by obtain ⟨z, -, rfl⟩ := List.mem_map.1 hu; rfl)
              have HT1 : Hid (((o.take a).map (Value.int .i64)).length = a) := Lib.hid (by have := HOL.out; simp; omega)
              have HT3 : Hid (∀ u ∈ (o.take a).map (Value.int .i64), u.oneCell' = true) := Lib.hid (fun u hu => by obtain ⟨z, -, rfl⟩ := List.mem_map.1 hu; rfl)
              clear hown0 hai
              go_wp2_with (at_builtin; refine wpList_append_lit rfl _ _ 39 rfl wi.heap.size 2 i0 (.int .i64 0) 8 Try.underlying39 hi hz0 hz1 hz2 rfl wi.heap.size 0 rfl HL0.out (some ⟨go, a, none⟩) (j - a) (cpo - a) ((o.drop a).map (Value.int .i64)) rfl HR1.out HR2.out HR3.out (by unfold maxLen; omega) (by omega) (by simp) ?_)
              intro v5 w5 o5 g5 n5 q5
              have HB5 : Hid (Below wi.heap.size wi w5) := Lib.hid (((Below.refl _ _).alloc (Nat.le_refl _) _).grown g5 (by simp) (fun k e => by have := Option.some.inj e; omega))
              have o5b : w5.ownsRow wi.heap.size 2 1 v5 (o.drop a).length ((o.drop a).map (Value.int .i64)) := by
                have := HR1.out
                rw [List.length_map] at this
                rw [this]; first | exact o5 | (rw [List.map_drop]; exact o5)
              obtain ⟨gr, cpr, rfl, hgr, hcpr, curr, hcr, hcrz⟩ := own_row o5b n5
              have hdl : (o.drop a).length = (j - a) := by have := HR1.out; rwa [List.length_map] at this
              rw [hdl] at hcpr ⊢
              have HRN := Lib.hid (show ∀ w', Below w5.heap.size w5 w' → ∀ j' u, ((o.drop a).map (Value.int .i64))[j']? = some u → w'.cell? ((⟨gr, 0, none⟩ : Addr).add j') = some u from fun w' hb j' u hu => by
                rw [addr_add, Nat.zero_add]
                rw [List.getElem?_map] at hu
                cases hz : (o.drop a)[j']? with
                | none => rw [hz] at hu; simp at hu
                | some z =>
                  rw [hz] at hu
                  simp at hu
                  subst hu
                  exact (hb.cell (p := ⟨gr, j', none⟩) hcr.lt).trans ((hcr.cell j').trans (hcrz j' z hz)))
              have HZ5 := Lib.hid ((HB5.out.cell (p := ⟨gz, j, none⟩) (Nat.lt_of_lt_of_le HZL.out HW.out.size)).trans HZI.out)
              have HZ5L : Hid (gz < w5.heap.size) := Lib.hid (Nat.lt_of_lt_of_le HZL.out (Nat.le_trans HW.out.size HB5.out.size))
              have HW5 := Lib.hid (btr HW.out HB5.out)
              have HT2 := Lib.hid (show ∀ w', Below w5.heap.size w5 w' → (0 < a → ∃ ad, (some ⟨go, 0, none⟩ : Option Addr) = some ad ∧ ∀ j' u, ((o.take a).map (Value.int .i64))[j']? = some u → w'.cell? (ad.add j') = some u) from fun w' hb _ => ⟨_, rfl, fun j' u hu => by
                rw [addr_add, Nat.zero_add]
                exact take_news HOCI.out HOL.out HGI.out (btr HB5.out hb) hu⟩)
              have hR1' : ((o.drop a).map (Value.int .i64)).length = (j - a) * 1 := by rw [HR1.out]; first | done | omega
              have HR1' := Lib.hid hR1'
              have a0 : (0 : Int) ≤ (a : Int) := by omega
              have a1 : (a : Int) ≤ (cpo : Int) := by omega
              have m1 : a + 1 ≤ maxLen := by unfold maxLen; omega
              have m2 : a + 1 + (j - a) ≤ maxLen := by unfold maxLen; omega
              have m3 : a ≤ maxLen := by unfold maxLen; omega
              have HA2 : Hid (((w5.alloc (.cells #[] 2)).alloc (.cells #[.int .i64 x] 2)).drew.cell? ⟨w5.heap.size + 1, 0, none⟩ = some (.int .i64 x)) := Lib.hid (by simp)
              have HLB : Hid (World.ownsRow ((w5.alloc (.cells #[.int .i64 x] 2)).alloc (.cells #[] 2)).drew w5.heap.size 2 1 (.slice (some ⟨w5.heap.size + 1, 0, none⟩) 0 0) 0 []) := Lib.hid (by
                have := World.ownsRow_lit (base := w5.heap.size) (e := 2) (size := 1) (w5.alloc (.cells #[.int .i64 x] 2)) #[] 0 (by simp) (by unfold maxLen; omega) (by simp)
                rw [show (w5.alloc (.cells #[.int .i64 x] 2)).heap.size = w5.heap.size + 1 by simp] at this
                exact this)
              have HBB : Hid (((w5.alloc (.cells #[.int .i64 x] 2)).alloc (.cells #[] 2)).drew.cell? ⟨w5.heap.size, 0, none⟩ = some (.int .i64 x)) := Lib.hid (by simp)
              clear o5 g5 n5 q5 o5b hcr hcrz hdl hgr hR1' HL0 HR2 HOCI HZI
              go_wp2_with fail
              refine wp_region_held_drew (S := fun w' => Below w5.heap.size w5 w') (by kernel_rfl) (by exact below_drewN (Below.refl _ _) 1) (fun hHeld => ?_)
              refine wpAnyH_take (i := 1) (v := ?_) rfl (by kernel_rfl) (by kernel_rfl) (by kernel_rfl) (fun _ _ _ h => h) (Or.inl ⟨by rfl, ?_⟩) (by assumption) ?_
              rotate_left
              · intro w hSw
                try dsimp only at hSw
                go_simp
                try with_reducible rfl
              simp only [Act.put, List.setIfInBounds_toArray, List.set_cons_zero, List.set_cons_succ, List.getElem_toArray, List.getElem_cons_zero, List.getElem_cons_succ]
              refine wpAnyH_take (i := 2) (v := ?_) rfl (by kernel_rfl) (by kernel_rfl) (by kernel_rfl) (fun _ _ _ h => h) (Or.inl ⟨by rfl, ?_⟩) (by assumption) ?_
              rotate_left
              · intro w hSw
                try dsimp only at hSw
                go_simp
                try with_reducible rfl
              simp only [Act.put, List.setIfInBounds_toArray, List.set_cons_zero, List.set_cons_succ, List.getElem_toArray, List.getElem_cons_zero, List.getElem_cons_succ]
              refine wpAnyH_take (i := 3) (v := ?_) rfl (by kernel_rfl) (by kernel_rfl) (by kernel_rfl) (fun _ _ _ h => h) (Or.inl ⟨by rfl, ?_⟩) (by assumption) ?_
              rotate_left
              · intro w hSw
                try dsimp only at hSw
                go_simp
                try with_reducible rfl
              simp only [Act.put, List.setIfInBounds_toArray, List.set_cons_zero, List.set_cons_succ, List.getElem_toArray, List.getElem_cons_zero, List.getElem_cons_succ]
              refine wpAnyH_take (i := 5) (v := ?_) rfl (by kernel_rfl) (by kernel_rfl) (by kernel_rfl) (fun _ _ _ h => h) (Or.inl ⟨by rfl, ?_⟩) (by assumption) ?_
              rotate_left
              · intro w hSw
                try dsimp only at hSw
                go_simp
                try with_reducible rfl
              simp only [Act.put, List.setIfInBounds_toArray, List.set_cons_zero, List.set_cons_succ, List.getElem_toArray, List.getElem_cons_zero, List.getElem_cons_succ]
              refine wpAnyH_take (i := 6) (v := ?_) rfl (by kernel_rfl) (by kernel_rfl) (by kernel_rfl) (fun _ _ _ h => h) (Or.inl ⟨by rfl, ?_⟩) (by assumption) ?_
              rotate_left
              · intro w hSw
                try dsimp only at hSw
                go_simp
                try with_reducible rfl
              simp only [Act.put, List.setIfInBounds_toArray, List.set_cons_zero, List.set_cons_succ, List.getElem_toArray, List.getElem_cons_zero, List.getElem_cons_succ]
              refine wpAnyH_take (i := 7) (v := ?_) rfl (by kernel_rfl) (by kernel_rfl) (by kernel_rfl) (fun _ _ _ h => h) (Or.inl ⟨by rfl, ?_⟩) (by assumption) ?_
              rotate_left
              · intro w hSw
                try dsimp only at hSw
                go_simp
                try with_reducible rfl
              simp only [Act.put, List.setIfInBounds_toArray, List.set_cons_zero, List.set_cons_succ, List.getElem_toArray, List.getElem_cons_zero, List.getElem_cons_succ]
              refine wpAnyH_take (i := 8) (v := ?_) rfl (by kernel_rfl) (by kernel_rfl) (by kernel_rfl) (fun _ _ _ h => h) (Or.inl ⟨by rfl, ?_⟩) (by assumption) ?_
              rotate_left
              · intro w hSw
                have q := (hSw.cell (p := ⟨gz, j, none⟩) HZ5L.out).trans HZ5.out
                go_simp
                try with_reducible rfl
              simp only [Act.put, List.setIfInBounds_toArray, List.set_cons_zero, List.set_cons_succ, List.getElem_toArray, List.getElem_cons_zero, List.getElem_cons_succ]
              refine wpAnyH_take (i := 11) (v := ?_) rfl (by kernel_rfl) (by kernel_rfl) (by kernel_rfl) (fun _ _ _ h => h) (Or.inl ⟨by rfl, ?_⟩) (by assumption) ?_
              rotate_left
              · intro w hSw
                try dsimp only at hSw
                go_simp
                try with_reducible rfl
              simp only [Act.put, List.setIfInBounds_toArray, List.set_cons_zero, List.set_cons_succ, List.getElem_toArray, List.getElem_cons_zero, List.getElem_cons_succ]
              refine wpAnyH_ready (rs := [0, 9]) (by kernel_rfl) (by simp) ?_
              refine AllReadyH.cons rfl (fun Kc hKc => ?_) (AllReadyH.cons rfl (fun Kc hKc => ?_) AllReadyH.nil)
              · go_simp
                refine hKc.out _ _ ?_ (fun hHeld => ?_)
                · first | exact hHeld.alloc hHeld.size _ | exact hHeld.grown g49 hHeld.size (fun k e => (o47.lt k e).1) | exact hHeld.grown g47 hHeld.size (fun k e => (o41.lt k e).1) | exact hHeld.grown g41 hHeld.size (fun k e => by have := Option.some.inj e; subst this; simp) | exact hHeld.grown g41 hHeld.size (fun k e => by have := Option.some.inj e; subst this; exact Nat.le_refl _)
                clear hKc Kc
                refine wpAnyH_ready (rs := [4, 9]) (by kernel_rfl) (by simp) ?_
                refine AllReadyH.cons rfl (fun Kc hKc => ?_) (AllReadyH.cons rfl (fun Kc hKc => ?_) AllReadyH.nil)
                · first | (refine wp_append_lit _ _ 39 rfl w5.heap.size 2 i0 (.int .i64 0) 8 Try.underlying39 hi hz0 hz1 hz2 rfl _ 0 rfl (by first | exact World.ownsRow_lit (base := w5.heap.size) (e := 2) (size := 1) _ #[] 0 (by first | exact Nat.le_refl _ | simp) (by unfold maxLen; omega) (by simp) | exact (World.ownsRow_lit (base := w5.heap.size) (e := 2) (size := 1) _ #[] 0 (by first | exact Nat.le_refl _ | simp) (by unfold maxLen; omega) (by simp)).alloc _ | exact HLB.out) (some ⟨go, 0, none⟩) a cpo ((o.take a).map (Value.int .i64)) rfl HT1.out (HT2.out _ hHeld) HT3.out m3 (by omega) hHeld.size ?_; intro v41 w41 o41 g41 n41 q41) | (refine wp_append_own_at _ _ 39 rfl w5.heap.size 2 i0 (.int .i64 0) 1 8 Try.underlying39 hi hz0 hz1 hz2 rfl (by decide) _ a ((o.take a).map (Value.int .i64)) rfl (by first | exact o41 | exact o41.alloc _) _ 1 1 [.int .i64 x] rfl rfl (by first | exact cell_one_new _ _ _ | exact one_cells (g41.cell HA2.out (by simp)) | exact one_cells (g41.cell HBB.out (by simp))) (by simp [Value.oneCell']) m1 (by omega) hHeld.size ?_; intro v47 w47 o47 g47 n47 q47) | (refine wp_append_own_at _ _ 39 rfl w5.heap.size 2 i0 (.int .i64 0) 1 8 Try.underlying39 hi hz0 hz1 hz2 rfl (by decide) _ (a + 1) ((o.take a).map (Value.int .i64) ++ [.int .i64 x]) rfl (by exact o47) ⟨gr, 0, none⟩ (j - a) cpr ((o.drop a).map (Value.int .i64)) rfl HR1'.out (HRN.out _ hHeld) HR3.out m2 (by omega) hHeld.size ?_; intro v49 w49 o49 g49 n49 q49)
                  refine hKc.out _ _ ?_ (fun hHeld => ?_)
                  · first | exact hHeld.alloc hHeld.size _ | exact hHeld.grown g49 hHeld.size (fun k e => (o47.lt k e).1) | exact hHeld.grown g47 hHeld.size (fun k e => (o41.lt k e).1) | exact hHeld.grown g41 hHeld.size (fun k e => by have := Option.some.inj e; subst this; simp) | exact hHeld.grown g41 hHeld.size (fun k e => by have := Option.some.inj e; subst this; exact Nat.le_refl _)
                  clear hKc Kc
                  refine wpAnyH_ready (rs := [9]) (by kernel_rfl) (by simp) ?_
                  refine AllReadyH.cons rfl (fun Kc hKc => ?_) AllReadyH.nil
                  go_simp
                  refine hKc.out _ _ ?_ (fun hHeld => ?_)
                  · first | exact hHeld.alloc hHeld.size _ | exact hHeld.grown g49 hHeld.size (fun k e => (o47.lt k e).1) | exact hHeld.grown g47 hHeld.size (fun k e => (o41.lt k e).1) | exact hHeld.grown g41 hHeld.size (fun k e => by have := Option.some.inj e; subst this; simp) | exact hHeld.grown g41 hHeld.size (fun k e => by have := Option.some.inj e; subst this; exact Nat.le_refl _)
                  clear hKc Kc
                  refine wpAnyH_ready (rs := [10]) (by kernel_rfl) (by simp) ?_
                  refine AllReadyH.cons rfl (fun Kc hKc => ?_) AllReadyH.nil
                  first | (refine wp_append_lit _ _ 39 rfl w5.heap.size 2 i0 (.int .i64 0) 8 Try.underlying39 hi hz0 hz1 hz2 rfl _ 0 rfl (by first | exact World.ownsRow_lit (base := w5.heap.size) (e := 2) (size := 1) _ #[] 0 (by first | exact Nat.le_refl _ | simp) (by unfold maxLen; omega) (by simp) | exact (World.ownsRow_lit (base := w5.heap.size) (e := 2) (size := 1) _ #[] 0 (by first | exact Nat.le_refl _ | simp) (by unfold maxLen; omega) (by simp)).alloc _ | exact HLB.out) (some ⟨go, 0, none⟩) a cpo ((o.take a).map (Value.int .i64)) rfl HT1.out (HT2.out _ hHeld) HT3.out m3 (by omega) hHeld.size ?_; intro v41 w41 o41 g41 n41 q41) | (refine wp_append_own_at _ _ 39 rfl w5.heap.size 2 i0 (.int .i64 0) 1 8 Try.underlying39 hi hz0 hz1 hz2 rfl (by decide) _ a ((o.take a).map (Value.int .i64)) rfl (by first | exact o41 | exact o41.alloc _) _ 1 1 [.int .i64 x] rfl rfl (by first | exact cell_one_new _ _ _ | exact one_cells (g41.cell HA2.out (by simp)) | exact one_cells (g41.cell HBB.out (by simp))) (by simp [Value.oneCell']) m1 (by omega) hHeld.size ?_; intro v47 w47 o47 g47 n47 q47) | (refine wp_append_own_at _ _ 39 rfl w5.heap.size 2 i0 (.int .i64 0) 1 8 Try.underlying39 hi hz0 hz1 hz2 rfl (by decide) _ (a + 1) ((o.take a).map (Value.int .i64) ++ [.int .i64 x]) rfl (by exact o47) ⟨gr, 0, none⟩ (j - a) cpr ((o.drop a).map (Value.int .i64)) rfl HR1'.out (HRN.out _ hHeld) HR3.out m2 (by omega) hHeld.size ?_; intro v49 w49 o49 g49 n49 q49)
                  refine hKc.out _ _ ?_ (fun hHeld => ?_)
                  · first | exact hHeld.alloc hHeld.size _ | exact hHeld.grown g49 hHeld.size (fun k e => (o47.lt k e).1) | exact hHeld.grown g47 hHeld.size (fun k e => (o41.lt k e).1) | exact hHeld.grown g41 hHeld.size (fun k e => by have := Option.some.inj e; subst this; simp) | exact hHeld.grown g41 hHeld.size (fun k e => by have := Option.some.inj e; subst this; exact Nat.le_refl _)
                  clear hKc Kc
                  refine wpAnyH_ready (rs := [12]) (by kernel_rfl) (by simp) ?_
                  refine AllReadyH.cons rfl (fun Kc hKc => ?_) AllReadyH.nil
                  first | (refine wp_append_lit _ _ 39 rfl w5.heap.size 2 i0 (.int .i64 0) 8 Try.underlying39 hi hz0 hz1 hz2 rfl _ 0 rfl (by first | exact World.ownsRow_lit (base := w5.heap.size) (e := 2) (size := 1) _ #[] 0 (by first | exact Nat.le_refl _ | simp) (by unfold maxLen; omega) (by simp) | exact (World.ownsRow_lit (base := w5.heap.size) (e := 2) (size := 1) _ #[] 0 (by first | exact Nat.le_refl _ | simp) (by unfold maxLen; omega) (by simp)).alloc _ | exact HLB.out) (some ⟨go, 0, none⟩) a cpo ((o.take a).map (Value.int .i64)) rfl HT1.out (HT2.out _ hHeld) HT3.out m3 (by omega) hHeld.size ?_; intro v41 w41 o41 g41 n41 q41) | (refine wp_append_own_at _ _ 39 rfl w5.heap.size 2 i0 (.int .i64 0) 1 8 Try.underlying39 hi hz0 hz1 hz2 rfl (by decide) _ a ((o.take a).map (Value.int .i64)) rfl (by first | exact o41 | exact o41.alloc _) _ 1 1 [.int .i64 x] rfl rfl (by first | exact cell_one_new _ _ _ | exact one_cells (g41.cell HA2.out (by simp)) | exact one_cells (g41.cell HBB.out (by simp))) (by simp [Value.oneCell']) m1 (by omega) hHeld.size ?_; intro v47 w47 o47 g47 n47 q47) | (refine wp_append_own_at _ _ 39 rfl w5.heap.size 2 i0 (.int .i64 0) 1 8 Try.underlying39 hi hz0 hz1 hz2 rfl (by decide) _ (a + 1) ((o.take a).map (Value.int .i64) ++ [.int .i64 x]) rfl (by exact o47) ⟨gr, 0, none⟩ (j - a) cpr ((o.drop a).map (Value.int .i64)) rfl HR1'.out (HRN.out _ hHeld) HR3.out m2 (by omega) hHeld.size ?_; intro v49 w49 o49 g49 n49 q49)
                  refine hKc.out _ _ ?_ (fun hHeld => ?_)
                  · first | exact hHeld.alloc hHeld.size _ | exact hHeld.grown g49 hHeld.size (fun k e => (o47.lt k e).1) | exact hHeld.grown g47 hHeld.size (fun k e => (o41.lt k e).1) | exact hHeld.grown g41 hHeld.size (fun k e => by have := Option.some.inj e; subst this; simp) | exact hHeld.grown g41 hHeld.size (fun k e => by have := Option.some.inj e; subst this; exact Nat.le_refl _)
                  clear hKc Kc
                  refine wpAnyH_take (i := 13) (v := ?_) rfl (by kernel_rfl) (by kernel_rfl) (by kernel_rfl) (fun _ _ _ h => h) (Or.inl ⟨by rfl, ?_⟩) (by assumption) ?_
                  rotate_left
                  · intro w hSw
                    try dsimp only at hSw
                    go_simp
                    try with_reducible rfl
                  simp only [Act.put, List.setIfInBounds_toArray, List.set_cons_zero, List.set_cons_succ, List.getElem_toArray, List.getElem_cons_zero, List.getElem_cons_succ]
                  refine wpAnyH_done (by kernel_rfl) ?_ _
                  have HNIL' : Hid (v49 ≠ .slice none 0 0) := Lib.hid (fun h => by have := (n47.1 (n49.1 h).1).2; omega)
                  have HO' : Hid (w49.ownsRow w.heap.size 2 1 v49 (j + 1) ((insZ o a x).map (Value.int .i64))) := Lib.hid (ins_own o49 HW5.out.size ha (by omega))
                  have HB' := Lib.hid (btr HW5.out hHeld)
                  have HLN : Hid ((insZ o a x).length = j + 1) := Lib.hid (by rw [insZ_len, HOL.out])
                  have HPN : Hid ((insZ o a x).Perm (zs.take (j + 1))) := Lib.hid ((insZ_perm o a x).trans (by rw [HTK.out]; exact HPO.out.append_right [x]))
                  clear hHeld n47 n49 o47 o49 g47 g49
                  go_wp2
                  go_roundw
                  case rel => exact ⟨j + 1, insZ o a x, by omega, by go_num, HNIL'.out, HO'.out, HLN.out, HINS.out, HPN.out, HB'.out⟩
                  case measure => simp [intOf]; omega
                · go_simp
                  refine hKc.out _ _ ?_ (fun hHeld => ?_)
                  · first | exact hHeld.alloc hHeld.size _ | exact hHeld.grown g49 hHeld.size (fun k e => (o47.lt k e).1) | exact hHeld.grown g47 hHeld.size (fun k e => (o41.lt k e).1) | exact hHeld.grown g41 hHeld.size (fun k e => by have := Option.some.inj e; subst this; simp) | exact hHeld.grown g41 hHeld.size (fun k e => by have := Option.some.inj e; subst this; exact Nat.le_refl _)
                  clear hKc Kc
                  refine wpAnyH_ready (rs := [4]) (by kernel_rfl) (by simp) ?_
                  refine AllReadyH.cons rfl (fun Kc hKc => ?_) AllReadyH.nil
                  first | (refine wp_append_lit _ _ 39 rfl w5.heap.size 2 i0 (.int .i64 0) 8 Try.underlying39 hi hz0 hz1 hz2 rfl _ 0 rfl (by first | exact World.ownsRow_lit (base := w5.heap.size) (e := 2) (size := 1) _ #[] 0 (by first | exact Nat.le_refl _ | simp) (by unfold maxLen; omega) (by simp) | exact (World.ownsRow_lit (base := w5.heap.size) (e := 2) (size := 1) _ #[] 0 (by first | exact Nat.le_refl _ | simp) (by unfold maxLen; omega) (by simp)).alloc _ | exact HLB.out) (some ⟨go, 0, none⟩) a cpo ((o.take a).map (Value.int .i64)) rfl HT1.out (HT2.out _ hHeld) HT3.out m3 (by omega) hHeld.size ?_; intro v41 w41 o41 g41 n41 q41) | (refine wp_append_own_at _ _ 39 rfl w5.heap.size 2 i0 (.int .i64 0) 1 8 Try.underlying39 hi hz0 hz1 hz2 rfl (by decide) _ a ((o.take a).map (Value.int .i64)) rfl (by first | exact o41 | exact o41.alloc _) _ 1 1 [.int .i64 x] rfl rfl (by first | exact cell_one_new _ _ _ | exact one_cells (g41.cell HA2.out (by simp)) | exact one_cells (g41.cell HBB.out (by simp))) (by simp [Value.oneCell']) m1 (by omega) hHeld.size ?_; intro v47 w47 o47 g47 n47 q47) | (refine wp_append_own_at _ _ 39 rfl w5.heap.size 2 i0 (.int .i64 0) 1 8 Try.underlying39 hi hz0 hz1 hz2 rfl (by decide) _ (a + 1) ((o.take a).map (Value.int .i64) ++ [.int .i64 x]) rfl (by exact o47) ⟨gr, 0, none⟩ (j - a) cpr ((o.drop a).map (Value.int .i64)) rfl HR1'.out (HRN.out _ hHeld) HR3.out m2 (by omega) hHeld.size ?_; intro v49 w49 o49 g49 n49 q49)
                  refine hKc.out _ _ ?_ (fun hHeld => ?_)
                  · first | exact hHeld.alloc hHeld.size _ | exact hHeld.grown g49 hHeld.size (fun k e => (o47.lt k e).1) | exact hHeld.grown g47 hHeld.size (fun k e => (o41.lt k e).1) | exact hHeld.grown g41 hHeld.size (fun k e => by have := Option.some.inj e; subst this; simp) | exact hHeld.grown g41 hHeld.size (fun k e => by have := Option.some.inj e; subst this; exact Nat.le_refl _)
                  clear hKc Kc
                  refine wpAnyH_ready (rs := [10]) (by kernel_rfl) (by simp) ?_
                  refine AllReadyH.cons rfl (fun Kc hKc => ?_) AllReadyH.nil
                  first | (refine wp_append_lit _ _ 39 rfl w5.heap.size 2 i0 (.int .i64 0) 8 Try.underlying39 hi hz0 hz1 hz2 rfl _ 0 rfl (by first | exact World.ownsRow_lit (base := w5.heap.size) (e := 2) (size := 1) _ #[] 0 (by first | exact Nat.le_refl _ | simp) (by unfold maxLen; omega) (by simp) | exact (World.ownsRow_lit (base := w5.heap.size) (e := 2) (size := 1) _ #[] 0 (by first | exact Nat.le_refl _ | simp) (by unfold maxLen; omega) (by simp)).alloc _ | exact HLB.out) (some ⟨go, 0, none⟩) a cpo ((o.take a).map (Value.int .i64)) rfl HT1.out (HT2.out _ hHeld) HT3.out m3 (by omega) hHeld.size ?_; intro v41 w41 o41 g41 n41 q41) | (refine wp_append_own_at _ _ 39 rfl w5.heap.size 2 i0 (.int .i64 0) 1 8 Try.underlying39 hi hz0 hz1 hz2 rfl (by decide) _ a ((o.take a).map (Value.int .i64)) rfl (by first | exact o41 | exact o41.alloc _) _ 1 1 [.int .i64 x] rfl rfl (by first | exact cell_one_new _ _ _ | exact one_cells (g41.cell HA2.out (by simp)) | exact one_cells (g41.cell HBB.out (by simp))) (by simp [Value.oneCell']) m1 (by omega) hHeld.size ?_; intro v47 w47 o47 g47 n47 q47) | (refine wp_append_own_at _ _ 39 rfl w5.heap.size 2 i0 (.int .i64 0) 1 8 Try.underlying39 hi hz0 hz1 hz2 rfl (by decide) _ (a + 1) ((o.take a).map (Value.int .i64) ++ [.int .i64 x]) rfl (by exact o47) ⟨gr, 0, none⟩ (j - a) cpr ((o.drop a).map (Value.int .i64)) rfl HR1'.out (HRN.out _ hHeld) HR3.out m2 (by omega) hHeld.size ?_; intro v49 w49 o49 g49 n49 q49)
                  refine hKc.out _ _ ?_ (fun hHeld => ?_)
                  · first | exact hHeld.alloc hHeld.size _ | exact hHeld.grown g49 hHeld.size (fun k e => (o47.lt k e).1) | exact hHeld.grown g47 hHeld.size (fun k e => (o41.lt k e).1) | exact hHeld.grown g41 hHeld.size (fun k e => by have := Option.some.inj e; subst this; simp) | exact hHeld.grown g41 hHeld.size (fun k e => by have := Option.some.inj e; subst this; exact Nat.le_refl _)
                  clear hKc Kc
                  refine wpAnyH_ready (rs := [12]) (by kernel_rfl) (by simp) ?_
                  refine AllReadyH.cons rfl (fun Kc hKc => ?_) AllReadyH.nil
                  first | (refine wp_append_lit _ _ 39 rfl w5.heap.size 2 i0 (.int .i64 0) 8 Try.underlying39 hi hz0 hz1 hz2 rfl _ 0 rfl (by first | exact World.ownsRow_lit (base := w5.heap.size) (e := 2) (size := 1) _ #[] 0 (by first | exact Nat.le_refl _ | simp) (by unfold maxLen; omega) (by simp) | exact (World.ownsRow_lit (base := w5.heap.size) (e := 2) (size := 1) _ #[] 0 (by first | exact Nat.le_refl _ | simp) (by unfold maxLen; omega) (by simp)).alloc _ | exact HLB.out) (some ⟨go, 0, none⟩) a cpo ((o.take a).map (Value.int .i64)) rfl HT1.out (HT2.out _ hHeld) HT3.out m3 (by omega) hHeld.size ?_; intro v41 w41 o41 g41 n41 q41) | (refine wp_append_own_at _ _ 39 rfl w5.heap.size 2 i0 (.int .i64 0) 1 8 Try.underlying39 hi hz0 hz1 hz2 rfl (by decide) _ a ((o.take a).map (Value.int .i64)) rfl (by first | exact o41 | exact o41.alloc _) _ 1 1 [.int .i64 x] rfl rfl (by first | exact cell_one_new _ _ _ | exact one_cells (g41.cell HA2.out (by simp)) | exact one_cells (g41.cell HBB.out (by simp))) (by simp [Value.oneCell']) m1 (by omega) hHeld.size ?_; intro v47 w47 o47 g47 n47 q47) | (refine wp_append_own_at _ _ 39 rfl w5.heap.size 2 i0 (.int .i64 0) 1 8 Try.underlying39 hi hz0 hz1 hz2 rfl (by decide) _ (a + 1) ((o.take a).map (Value.int .i64) ++ [.int .i64 x]) rfl (by exact o47) ⟨gr, 0, none⟩ (j - a) cpr ((o.drop a).map (Value.int .i64)) rfl HR1'.out (HRN.out _ hHeld) HR3.out m2 (by omega) hHeld.size ?_; intro v49 w49 o49 g49 n49 q49)
                  refine hKc.out _ _ ?_ (fun hHeld => ?_)
                  · first | exact hHeld.alloc hHeld.size _ | exact hHeld.grown g49 hHeld.size (fun k e => (o47.lt k e).1) | exact hHeld.grown g47 hHeld.size (fun k e => (o41.lt k e).1) | exact hHeld.grown g41 hHeld.size (fun k e => by have := Option.some.inj e; subst this; simp) | exact hHeld.grown g41 hHeld.size (fun k e => by have := Option.some.inj e; subst this; exact Nat.le_refl _)
                  clear hKc Kc
                  refine wpAnyH_take (i := 13) (v := ?_) rfl (by kernel_rfl) (by kernel_rfl) (by kernel_rfl) (fun _ _ _ h => h) (Or.inl ⟨by rfl, ?_⟩) (by assumption) ?_
                  rotate_left
                  · intro w hSw
                    try dsimp only at hSw
                    go_simp
                    try with_reducible rfl
                  simp only [Act.put, List.setIfInBounds_toArray, List.set_cons_zero, List.set_cons_succ, List.getElem_toArray, List.getElem_cons_zero, List.getElem_cons_succ]
                  refine wpAnyH_done (by kernel_rfl) ?_ _
                  have HNIL' : Hid (v49 ≠ .slice none 0 0) := Lib.hid (fun h => by have := (n47.1 (n49.1 h).1).2; omega)
                  have HO' : Hid (w49.ownsRow w.heap.size 2 1 v49 (j + 1) ((insZ o a x).map (Value.int .i64))) := Lib.hid (ins_own o49 HW5.out.size ha (by omega))
                  have HB' := Lib.hid (btr HW5.out hHeld)
                  have HLN : Hid ((insZ o a x).length = j + 1) := Lib.hid (by rw [insZ_len, HOL.out])
                  have HPN : Hid ((insZ o a x).Perm (zs.take (j + 1))) := Lib.hid ((insZ_perm o a x).trans (by rw [HTK.out]; exact HPO.out.append_right [x]))
                  clear hHeld n47 n49 o47 o49 g47 g49
                  go_wp2
                  go_roundw
                  case rel => exact ⟨j + 1, insZ o a x, by omega, by go_num, HNIL'.out, HO'.out, HLN.out, HINS.out, HPN.out, HB'.out⟩
                  case measure => simp [intOf]; omega
              · go_simp
                refine hKc.out _ _ ?_ (fun hHeld => ?_)
                · first | exact hHeld.alloc hHeld.size _ | exact hHeld.grown g49 hHeld.size (fun k e => (o47.lt k e).1) | exact hHeld.grown g47 hHeld.size (fun k e => (o41.lt k e).1) | exact hHeld.grown g41 hHeld.size (fun k e => by have := Option.some.inj e; subst this; simp) | exact hHeld.grown g41 hHeld.size (fun k e => by have := Option.some.inj e; subst this; exact Nat.le_refl _)
                clear hKc Kc
                refine wpAnyH_ready (rs := [0]) (by kernel_rfl) (by simp) ?_
                refine AllReadyH.cons rfl (fun Kc hKc => ?_) AllReadyH.nil
                go_simp
                refine hKc.out _ _ ?_ (fun hHeld => ?_)
                · first | exact hHeld.alloc hHeld.size _ | exact hHeld.grown g49 hHeld.size (fun k e => (o47.lt k e).1) | exact hHeld.grown g47 hHeld.size (fun k e => (o41.lt k e).1) | exact hHeld.grown g41 hHeld.size (fun k e => by have := Option.some.inj e; subst this; simp) | exact hHeld.grown g41 hHeld.size (fun k e => by have := Option.some.inj e; subst this; exact Nat.le_refl _)
                clear hKc Kc
                refine wpAnyH_ready (rs := [4]) (by kernel_rfl) (by simp) ?_
                refine AllReadyH.cons rfl (fun Kc hKc => ?_) AllReadyH.nil
                first | (refine wp_append_lit _ _ 39 rfl w5.heap.size 2 i0 (.int .i64 0) 8 Try.underlying39 hi hz0 hz1 hz2 rfl _ 0 rfl (by first | exact World.ownsRow_lit (base := w5.heap.size) (e := 2) (size := 1) _ #[] 0 (by first | exact Nat.le_refl _ | simp) (by unfold maxLen; omega) (by simp) | exact (World.ownsRow_lit (base := w5.heap.size) (e := 2) (size := 1) _ #[] 0 (by first | exact Nat.le_refl _ | simp) (by unfold maxLen; omega) (by simp)).alloc _ | exact HLB.out) (some ⟨go, 0, none⟩) a cpo ((o.take a).map (Value.int .i64)) rfl HT1.out (HT2.out _ hHeld) HT3.out m3 (by omega) hHeld.size ?_; intro v41 w41 o41 g41 n41 q41) | (refine wp_append_own_at _ _ 39 rfl w5.heap.size 2 i0 (.int .i64 0) 1 8 Try.underlying39 hi hz0 hz1 hz2 rfl (by decide) _ a ((o.take a).map (Value.int .i64)) rfl (by first | exact o41 | exact o41.alloc _) _ 1 1 [.int .i64 x] rfl rfl (by first | exact cell_one_new _ _ _ | exact one_cells (g41.cell HA2.out (by simp)) | exact one_cells (g41.cell HBB.out (by simp))) (by simp [Value.oneCell']) m1 (by omega) hHeld.size ?_; intro v47 w47 o47 g47 n47 q47) | (refine wp_append_own_at _ _ 39 rfl w5.heap.size 2 i0 (.int .i64 0) 1 8 Try.underlying39 hi hz0 hz1 hz2 rfl (by decide) _ (a + 1) ((o.take a).map (Value.int .i64) ++ [.int .i64 x]) rfl (by exact o47) ⟨gr, 0, none⟩ (j - a) cpr ((o.drop a).map (Value.int .i64)) rfl HR1'.out (HRN.out _ hHeld) HR3.out m2 (by omega) hHeld.size ?_; intro v49 w49 o49 g49 n49 q49)
                refine hKc.out _ _ ?_ (fun hHeld => ?_)
                · first | exact hHeld.alloc hHeld.size _ | exact hHeld.grown g49 hHeld.size (fun k e => (o47.lt k e).1) | exact hHeld.grown g47 hHeld.size (fun k e => (o41.lt k e).1) | exact hHeld.grown g41 hHeld.size (fun k e => by have := Option.some.inj e; subst this; simp) | exact hHeld.grown g41 hHeld.size (fun k e => by have := Option.some.inj e; subst this; exact Nat.le_refl _)
                clear hKc Kc
                refine wpAnyH_ready (rs := [10]) (by kernel_rfl) (by simp) ?_
                refine AllReadyH.cons rfl (fun Kc hKc => ?_) AllReadyH.nil
                first | (refine wp_append_lit _ _ 39 rfl w5.heap.size 2 i0 (.int .i64 0) 8 Try.underlying39 hi hz0 hz1 hz2 rfl _ 0 rfl (by first | exact World.ownsRow_lit (base := w5.heap.size) (e := 2) (size := 1) _ #[] 0 (by first | exact Nat.le_refl _ | simp) (by unfold maxLen; omega) (by simp) | exact (World.ownsRow_lit (base := w5.heap.size) (e := 2) (size := 1) _ #[] 0 (by first | exact Nat.le_refl _ | simp) (by unfold maxLen; omega) (by simp)).alloc _ | exact HLB.out) (some ⟨go, 0, none⟩) a cpo ((o.take a).map (Value.int .i64)) rfl HT1.out (HT2.out _ hHeld) HT3.out m3 (by omega) hHeld.size ?_; intro v41 w41 o41 g41 n41 q41) | (refine wp_append_own_at _ _ 39 rfl w5.heap.size 2 i0 (.int .i64 0) 1 8 Try.underlying39 hi hz0 hz1 hz2 rfl (by decide) _ a ((o.take a).map (Value.int .i64)) rfl (by first | exact o41 | exact o41.alloc _) _ 1 1 [.int .i64 x] rfl rfl (by first | exact cell_one_new _ _ _ | exact one_cells (g41.cell HA2.out (by simp)) | exact one_cells (g41.cell HBB.out (by simp))) (by simp [Value.oneCell']) m1 (by omega) hHeld.size ?_; intro v47 w47 o47 g47 n47 q47) | (refine wp_append_own_at _ _ 39 rfl w5.heap.size 2 i0 (.int .i64 0) 1 8 Try.underlying39 hi hz0 hz1 hz2 rfl (by decide) _ (a + 1) ((o.take a).map (Value.int .i64) ++ [.int .i64 x]) rfl (by exact o47) ⟨gr, 0, none⟩ (j - a) cpr ((o.drop a).map (Value.int .i64)) rfl HR1'.out (HRN.out _ hHeld) HR3.out m2 (by omega) hHeld.size ?_; intro v49 w49 o49 g49 n49 q49)
                refine hKc.out _ _ ?_ (fun hHeld => ?_)
                · first | exact hHeld.alloc hHeld.size _ | exact hHeld.grown g49 hHeld.size (fun k e => (o47.lt k e).1) | exact hHeld.grown g47 hHeld.size (fun k e => (o41.lt k e).1) | exact hHeld.grown g41 hHeld.size (fun k e => by have := Option.some.inj e; subst this; simp) | exact hHeld.grown g41 hHeld.size (fun k e => by have := Option.some.inj e; subst this; exact Nat.le_refl _)
                clear hKc Kc
                refine wpAnyH_ready (rs := [12]) (by kernel_rfl) (by simp) ?_
                refine AllReadyH.cons rfl (fun Kc hKc => ?_) AllReadyH.nil
                first | (refine wp_append_lit _ _ 39 rfl w5.heap.size 2 i0 (.int .i64 0) 8 Try.underlying39 hi hz0 hz1 hz2 rfl _ 0 rfl (by first | exact World.ownsRow_lit (base := w5.heap.size) (e := 2) (size := 1) _ #[] 0 (by first | exact Nat.le_refl _ | simp) (by unfold maxLen; omega) (by simp) | exact (World.ownsRow_lit (base := w5.heap.size) (e := 2) (size := 1) _ #[] 0 (by first | exact Nat.le_refl _ | simp) (by unfold maxLen; omega) (by simp)).alloc _ | exact HLB.out) (some ⟨go, 0, none⟩) a cpo ((o.take a).map (Value.int .i64)) rfl HT1.out (HT2.out _ hHeld) HT3.out m3 (by omega) hHeld.size ?_; intro v41 w41 o41 g41 n41 q41) | (refine wp_append_own_at _ _ 39 rfl w5.heap.size 2 i0 (.int .i64 0) 1 8 Try.underlying39 hi hz0 hz1 hz2 rfl (by decide) _ a ((o.take a).map (Value.int .i64)) rfl (by first | exact o41 | exact o41.alloc _) _ 1 1 [.int .i64 x] rfl rfl (by first | exact cell_one_new _ _ _ | exact one_cells (g41.cell HA2.out (by simp)) | exact one_cells (g41.cell HBB.out (by simp))) (by simp [Value.oneCell']) m1 (by omega) hHeld.size ?_; intro v47 w47 o47 g47 n47 q47) | (refine wp_append_own_at _ _ 39 rfl w5.heap.size 2 i0 (.int .i64 0) 1 8 Try.underlying39 hi hz0 hz1 hz2 rfl (by decide) _ (a + 1) ((o.take a).map (Value.int .i64) ++ [.int .i64 x]) rfl (by exact o47) ⟨gr, 0, none⟩ (j - a) cpr ((o.drop a).map (Value.int .i64)) rfl HR1'.out (HRN.out _ hHeld) HR3.out m2 (by omega) hHeld.size ?_; intro v49 w49 o49 g49 n49 q49)
                refine hKc.out _ _ ?_ (fun hHeld => ?_)
                · first | exact hHeld.alloc hHeld.size _ | exact hHeld.grown g49 hHeld.size (fun k e => (o47.lt k e).1) | exact hHeld.grown g47 hHeld.size (fun k e => (o41.lt k e).1) | exact hHeld.grown g41 hHeld.size (fun k e => by have := Option.some.inj e; subst this; simp) | exact hHeld.grown g41 hHeld.size (fun k e => by have := Option.some.inj e; subst this; exact Nat.le_refl _)
                clear hKc Kc
                refine wpAnyH_take (i := 13) (v := ?_) rfl (by kernel_rfl) (by kernel_rfl) (by kernel_rfl) (fun _ _ _ h => h) (Or.inl ⟨by rfl, ?_⟩) (by assumption) ?_
                rotate_left
                · intro w hSw
                  try dsimp only at hSw
                  go_simp
                  try with_reducible rfl
                simp only [Act.put, List.setIfInBounds_toArray, List.set_cons_zero, List.set_cons_succ, List.getElem_toArray, List.getElem_cons_zero, List.getElem_cons_succ]
                refine wpAnyH_done (by kernel_rfl) ?_ _
                have HNIL' : Hid (v49 ≠ .slice none 0 0) := Lib.hid (fun h => by have := (n47.1 (n49.1 h).1).2; omega)
                have HO' : Hid (w49.ownsRow w.heap.size 2 1 v49 (j + 1) ((insZ o a x).map (Value.int .i64))) := Lib.hid (ins_own o49 HW5.out.size ha (by omega))
                have HB' := Lib.hid (btr HW5.out hHeld)
                have HLN : Hid ((insZ o a x).length = j + 1) := Lib.hid (by rw [insZ_len, HOL.out])
                have HPN : Hid ((insZ o a x).Perm (zs.take (j + 1))) := Lib.hid ((insZ_perm o a x).trans (by rw [HTK.out]; exact HPO.out.append_right [x]))
                clear hHeld n47 n49 o47 o49 g47 g49
                go_wp2
                go_roundw
                case rel => exact ⟨j + 1, insZ o a x, by omega, by go_num, HNIL'.out, HO'.out, HLN.out, HINS.out, HPN.out, HB'.out⟩
                case measure => simp [intOf]; omega
    · obtain rfl : j = n := by omega
      have hi2 := IntsAt.of_own (e := 2) (base := w.heap.size) HO.out HOL.out
      have HI : Hid (IntsAt wr (.slice (some ⟨go, 0, none⟩) j cpo) o) := Lib.hid (by first | exact hi2 | (rw [HOL.out] at hi2; exact hi2))
      have HP : Hid (o.Perm zs) := Lib.hid (by have := HPO.out; rwa [List.take_of_length_le (by have := HLEN.out; omega)] at this)
      clear hi2
      go_wp2
      go_ret
      exact ⟨go, cpo, o, rfl, by omega, HI.out, HOL.out, HSO.out, HP.out, HB.out⟩
end Go.Proofs.Ytcinlcbmjboaaaa
