/-
  The walk of the reference's Take. Conditions: none beyond those stated at each theorem.
-/
import Derived.Test.YtbghchgmoiniiaaVarZ
namespace Go.Proofs.Ytbghchgmoiniiaa
open Go.RowKit
set_option linter.unusedVariables false
set_option linter.unusedSimpArgs false

def TakeResB (w : World) (bs : List Int) (e : Ending) (w' : World) : Prop := TakeRes bs e ∧ Below w.heap.size w w'
set_option maxRecDepth 100000 in
set_option maxHeartbeats 8000000 in
theorem rtake_any (w : World) (v : Value) (bs : List Int) (hv : BytesAt w v bs) (hb : Byts bs) (hlen : bs.length ≤ 100000) :
    Calls Try.prog 47 #[v] w (TakeResB w bs) := by
  have HV := Lib.hid hv
  have HB := Lib.hid hb
  obtain ⟨ao, cap, rfl, hcap, hmx, hc⟩ := hv
  obtain ⟨n, hn⟩ : ∃ n, n = bs.length := ⟨_, rfl⟩
  have HN := Lib.hid hn
  rw [← hn] at hcap hlen ⊢
  clear hc hn hb
  go_enter Try.func47, Try.ntmps47
  go_wp2_with fail
  go_loop [5] (fun i => ∃ j : Nat, j ≤ n ∧ i = .int .i64 (j : Int) ∧ (∀ k, k < j → 128 ≤ cellD bs k)) (fun i => n - (intOf i).toNat)
  case atStart => exact ⟨0, by omega, rfl, fun k hk => by omega⟩
  case round =>
    obtain ⟨j, hj, rfl, hmk⟩ := hrel
    have HMK := Lib.hid hmk
    clear hmk
    by_cases hlt : j < n
    · have hjl : j < bs.length := by have := HN.out; omega
      obtain ⟨g, off, rfl, hg, cx⟩ := HV.out.cell hjl
      have hb8 := HB.out.cellD j
      obtain ⟨x, hx⟩ : ∃ x, x = cellD bs j := ⟨_, rfl⟩
      rw [← hx] at cx hb8
      have HX := Lib.hid hx
      have i0 : (0 : Int) ≤ (j : Int) := by omega
      have i1 : (j : Int) < (n : Int) := by omega
      have d0 : decide ((j : Int) < (n : Int)) = true := decide_eq_true i1
      have d0' : decide (j < n) = true := decide_eq_true hlt
      clear hjl hx
      by_cases hx : 128 ≤ x
      · have d2 : decide ((128 : Int) ≤ x) = true := decide_eq_true hx
        have HMK2 : Hid (∀ k, k < j + 1 → 128 ≤ cellD bs k) := Lib.hid (fun k hk => by
          by_cases e : k = j
          · subst e; rw [← HX.out]; exact hx
          · exact HMK.out k (by omega))
        go_wp2
        go_round
        case rel => exact ⟨j + 1, by omega, by go_num, HMK2.out⟩
        case measure => simp [intOf]; omega
      · have d2 : decide ((128 : Int) ≤ x) = false := decide_eq_false hx
        have d3 : ((j : Int) == (n : Int)) = false := by simp; omega
        by_cases h9 : 9 < j
        · have d4 : decide ((9 : Int) < (j : Int)) = true := decide_eq_true (by omega)
          have d4' : decide (9 < j) = true := decide_eq_true h9
          have HP : Hid (TakeRes bs (.returned (.tuple #[.int .u64 0, .int .i64 0, .int .i64 8]))) := Lib.hid (.inr ⟨fun u m h => by have := take_mark h HMK.out; omega, rfl⟩)
          go_wp2
          go_ret3
          exact ⟨HP.out, Below.refl _ _⟩
        · have d4 : decide ((9 : Int) < (j : Int)) = false := decide_eq_false (by omega)
          have HLOW : Hid (cellD bs j < 128) := Lib.hid (by rw [← HX.out]; omega)
          have hj9 : j ≤ 9 := by omega
          have hjb : j < bs.length := by have := HN.out; omega
          have d9 : decide (9 < j) = false := decide_eq_false h9
          have HPICK := Lib.hid (fun h => take_differs (bs := bs) (n := j) HMK.out HLOW.out h)
          have HOF : Hid (putN (valL (bs.take (j + 1)) % 18446744073709551616) = bs.take (j + 1) → TakeS bs (valL (bs.take (j + 1)) % 18446744073709551616) (j + 1)) := Lib.hid (fun h => take_of (Nat.mod_lt _ (by decide)) hjb h)
          have HTL : Hid ((bs.take (j + 1)).length = j + 1) := Lib.hid (by simp; omega)
          have HCELL : Hid (∀ k, k < j + 1 → cellD (bs.take (j + 1)) k = cellD bs k) := Lib.hid (fun k hk => take_cell hk)
          clear hlt hjb h9
          generalize bs.take (j + 1) = l at *
          go_wp2_with fail
          go_loop [6, 7] (fun u i => ∃ m : Nat, m ≤ j + 1 ∧ i = .int .i64 ((m : Int) - 1) ∧ u = .int .u64 ((valL (l.drop m) % 18446744073709551616 : Nat) : Int)) (fun _ i => (intOf i + 1).toNat)
          case atStart => exact ⟨j + 1, by omega, by go_num, by rw [← HTL.out, List.drop_length]; rfl⟩
          case round =>
            obtain ⟨m, hm, rfl, rfl⟩ := hrel
            by_cases h0 : 0 < m
            · obtain ⟨k, rfl⟩ : ∃ k, m = k + 1 := ⟨m - 1, by omega⟩
              have e0 : (((k + 1 : Nat) : Int) - 1) = (k : Int) := by omega
              simp only [e0]
              have hkl : k < bs.length := by have := HN.out; omega
              obtain ⟨g2, off2, eg, hg2, cx⟩ := HV.out.cell hkl
              have eg2 := Option.some.inj eg
              have cx : w.cell? ⟨g, off + k, none⟩ = some (.int .u8 (cellD bs k)) := by cases eg2; exact cx
              have hb8 := HB.out.cellD k
              have HVD := Lib.hid (valL_drop (l := l) (k := k) (by rw [HTL.out]; omega))
              have HCK := Lib.hid (HCELL.out k (by omega))
              obtain ⟨y, hy⟩ : ∃ y, y = cellD bs k := ⟨_, rfl⟩
              have HY := Lib.hid hy
              rw [← hy] at cx hb8
              obtain ⟨U, hU⟩ : ∃ U, U = valL (l.drop (k + 1)) % 18446744073709551616 := ⟨_, rfl⟩
              have HU := Lib.hid hU
              rw [← hU]
              have hUb : U < 18446744073709551616 := by omega
              have HNX : Hid ((((U : Int) * 128) % 18446744073709551616 + y % 128) % 18446744073709551616 = ((valL (l.drop k) % 18446744073709551616 : Nat) : Int)) := Lib.hid (by rw [HVD.out, HCK.out, ← HY.out, HU.out]; omega)
              have ky : y.tmod 128 = y % 128 := Int.tmod_eq_emod_of_nonneg hb8.1
              have i0 : (0 : Int) ≤ (k : Int) := by omega
              have i1 : (k : Int) < (n : Int) := by omega
              clear e0 hkl eg eg2 hg2 hU hy h0
              go_wp2
              go_round
              case rel => exact ⟨k, by omega, by go_num, by rw [← HNX.out, wrapU_mod, wrapU_mod]⟩
              case measure => simp [intOf]
            · obtain rfl : m = 0 := by omega
              have e0 : (((0 : Nat) : Int) - 1) = -1 := by decide
              simp only [e0, List.drop_zero]
              obtain ⟨U, hU⟩ : ∃ U, U = valL l % 18446744073709551616 := ⟨_, rfl⟩
              have hUb : U < 18446744073709551616 := by omega
              have HU := Lib.hid hU
              rw [← hU] at HPICK HOF ⊢
              have HP : Hid (putN U ≠ l → TakeRes bs (.returned (.tuple #[.int .u64 0, .int .i64 0, .int .i64 8]))) := Lib.hid (fun h => .inr ⟨HPICK.out h, rfl⟩)
              have HY : Hid (putN U = l → TakeRes bs (.returned (.tuple #[.int .u64 (U : Int), .int .i64 ((j : Int) + 1), .int .i64 0]))) := Lib.hid (fun h => .inl ⟨U, j + 1, HOF.out h, rfl⟩)
              have PB := Lib.hid (rput_b w U hUb)
              have HLB := Lib.hid (putN_len10 hUb)
              have HBY := Lib.hid (putN_byts U)
              clear HPICK HOF HU hU e0 h0
              generalize putN U = q at *
              go_wp2_with fail
              with_reducible refine PB.out.mono ?_
              rintro e w2 ⟨v2, rfl, ho, hnil, hbel⟩
              have HBEL := Lib.hid hbel
              have HO := Lib.hid ho.at
              have HV2 := Lib.hid (HV.out.kept hbel)
              obtain ⟨ao2, cap2, rfl, hcap2, hmx2, -⟩ := ho.at
              have HQ10 := HLB.out
              clear ho hnil hbel PB
              obtain ⟨ql, hql⟩ : ∃ ql, ql = q.length := ⟨_, rfl⟩
              have HQL := Lib.hid hql
              rw [← hql] at hcap2 HQ10 HLB ⊢
              clear hql
              by_cases hl : ql = j + 1
              · have e5 : ((ql : Int) != (j : Int) + 1) = false := by simp; omega
                have HL := Lib.hid hl
                clear hl
                go_wp2_with fail
                go_loopw [9] (fun i wr => ∃ k : Nat, k ≤ j + 1 ∧ i = .int .i64 (k : Int) ∧ (∀ m, m < k → cellD q m = cellD l m) ∧ BytesAt wr (.slice (some ⟨g, off, none⟩) bs.length cap) bs ∧ BytesAt wr (.slice ao2 q.length cap2) q ∧ Below w.heap.size w wr) (fun i _ => j + 1 - (intOf i).toNat)
                case atStart => exact ⟨0, by omega, rfl, fun m hm => by omega, HV2.out, HO.out, HBEL.out⟩
                case round =>
                  obtain ⟨k, hk, rfl, hsame, ia, ib, hbl⟩ := hrel
                  have HS := Lib.hid hsame
                  have IA := Lib.hid ia
                  have IB := Lib.hid ib
                  have HBL := Lib.hid hbl
                  clear hsame ia ib hbl HBEL HV2 HO
                  by_cases hlt : k < j + 1
                  · have hkb : k < bs.length := by have := HN.out; omega
                    have hkq : k < q.length := by have := HQL.out; have := HL.out; omega
                    obtain ⟨g3, off3, eg3, hg3, cx3⟩ := IA.out.cell hkb
                    have cx3 : wr.cell? ⟨g, off + k, none⟩ = some (.int .u8 (cellD bs k)) := by have := Option.some.inj eg3; cases this; exact cx3
                    obtain ⟨g4, off4, rfl, hg4, cx4⟩ := IB.out.cell hkq
                    have HCK := Lib.hid (HCELL.out k (by omega))
                    have HX1 := Lib.hid (rfl : cellD bs k = cellD bs k)
                    have j0 : (0 : Int) ≤ (k : Int) := by omega
                    have j1 : (k : Int) < (n : Int) := by omega
                    have j2 : (k : Int) < (ql : Int) := by have := HL.out; omega
                    by_cases e : cellD q k = cellD bs k
                    · have HNX : Hid (∀ m, m < k + 1 → cellD q m = cellD l m) := Lib.hid (fun m hm => by
                        by_cases e2 : m = k
                        · rw [e2, e, HCK.out]
                        · exact HS.out m (by omega))
                      rw [e] at cx4
                      clear e hkb hkq eg3 hg3 hg4
                      generalize cellD bs k = X at cx3 cx4
                      go_wp2_with fail
                      go_quiet (fail)
                      go_wp2
                      go_roundw
                      case rel => exact ⟨k + 1, by omega, by go_num, HNX.out, IA.out.kept (below_drewN (Below.refl _ _) _), IB.out.kept (below_drewN (Below.refl _ _) _), below_drewN HBL.out _⟩
                      case measure => simp [intOf]; omega
                    · have e1 : (cellD q k != cellD bs k) = true := by simp [e]
                      have HNO := Lib.hid (HP.out (fun h => e (by rw [h, HCK.out])))
                      clear e hkb hkq eg3 hg3 hg4 HX1 HCK
                      generalize cellD bs k = X at *
                      generalize cellD q k = Y at *
                      go_wp2_with fail
                      go_quiet (fail)
                      go_wp2
                      go_ret3
                      exact ⟨HNO.out, below_drewN HBL.out _⟩
                  · obtain rfl : k = j + 1 := by omega
                    have HYES := Lib.hid (HY.out (eq_of_cells (by have := HQL.out; have := HL.out; have := HTL.out; omega) (fun m hm => HS.out m (by have := HQL.out; have := HL.out; omega))))
                    clear hlt
                    go_wp2
                    go_ret3
                    exact ⟨HYES.out, HBL.out⟩
              · have e5 : ((ql : Int) != (j : Int) + 1) = true := by simp; omega
                have HNO := Lib.hid (HP.out (fun h => hl (by rw [HQL.out, h, HTL.out])))
                clear hl
                go_wp2
                go_ret3
                exact ⟨HNO.out, HBEL.out⟩
    · obtain rfl : j = n := by omega
      have HP : Hid (TakeRes bs (.returned (.tuple #[.int .u64 0, .int .i64 0, .int .i64 8]))) := Lib.hid (.inr ⟨take_end (by rw [← HN.out]; exact HMK.out), rfl⟩)
      have d0 : decide ((j : Int) < (j : Int)) = false := by simp
      have d3 : ((j : Int) == (j : Int)) = true := by simp
      clear hlt
      go_wp2
      go_ret3
      exact ⟨HP.out, Below.refl _ _⟩
end Go.Proofs.Ytbghchgmoiniiaa
