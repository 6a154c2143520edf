import Derived.Test.YtfeficdndjiijaaGreatDoorQwo
import Derived.Test.YtfeficdndjiijaaGreatDoorQwn
import Derived.Test.YtfeficdndjiijaaGreatDoorQwm
import Derived.Test.YtfeficdndjiijaaGreatDoorQwi
import Derived.Test.YtfeficdndjiijaaGreatDoorQwl
/-
  Contracts of the functions that TopWire reaches, and the plain laws that it leans on. Conditions: none beyond those stated at each theorem.
-/
namespace Go.Proofs.YtfeficdndjiijaaGreatDoor
open Go.RowKit
set_option linter.unusedVariables false
set_option linter.unusedSimpArgs false

theorem pc_own {w : World} {base n : Nat} {v : Value} {l : List (Nat × Nat)} (h : w.ownsRow base 155 2 v n (pCells l)) (hn : 0 < n) : ∃ g cap, v = .slice (some ⟨g, 0, none⟩) n cap ∧ ∀ t p, l[t]? = some p → w.cell? ⟨g, t * 2, none⟩ = some (.int .i64 (p.1 : Int)) ∧ w.cell? ⟨g, t * 2 + 1, none⟩ = some (.int .u64 (p.2 : Int)) := by
  obtain ⟨g, cap, hv, -, -, -, -, hc⟩ := own_cells h hn
  exact ⟨g, cap, hv, fun t p ht => ⟨hc _ _ (pCells_at l t p ht 0 _ rfl), hc _ _ (pCells_at l t p ht 1 _ rfl)⟩⟩
set_option maxRecDepth 100000 in
set_option maxHeartbeats 4000000 in
theorem quantile_any (w : World) (base S L : Nat) (nb : Nat) (r d m s : Int) (X : Nat → Value) (A G C : Nat → Nat) (Z : Nat → List Int) (h : StIs w base S L (nb : Int) r d m s X A G C Z) (s0 : 0 ≤ s) (s1 : s ≤ 18446744073709551615) (hb1 : 1 ≤ nb) (hb : nb ≤ 59) (pt : Nat → Nat → Int) (hpt : ∀ n i, n ≤ nb → pt n i = lvPt (nb : Int) r d m s (n : Int) (Z n) i) (hpb : ∀ n i, 0 ≤ pt n i ∧ pt n i ≤ 9223372036854775807)
  (k : Int) (k0 : 1 ≤ k) (k1 : k ≤ pt nb 0) :
  Calls Tryz.prog 96 #[.pointer (some ⟨S, 0, none⟩), .int .i64 k] w fun e w' => e = .returned (.tuple #[.int .u64 (wayN pt nb 0 k : Nat), .int .i64 0]) ∧ Below w.heap.size w w' := by
 have PW := Lib.hid (way_any w base S L nb r d m s X A G C Z h s0 s1 hb1 hb pt hpt hpb k k0 k1)
 clear h hpt hpb
 go_enter Tryz.func96, Tryz.ntmps96
 go_wp2_with fail
 with_reducible refine PW.out.mono ?_
 rintro e w2 ⟨v, l, rfl, hown, hlen, hlast, hb2⟩
 obtain ⟨g, cap, hv, hc⟩ := pc_own hown (by omega)
 subst hv
 have HB2 := Lib.hid hb2
 have c1 := (hc nb _ hlast).2
 clear hown hlen hlast hc PW hb2
 have i0 : (0 : Int) ≤ (nb : Int) := by omega
 have hw : IntKind.i64.wrap (((nb + 1 : Nat) : Int) - 1) = (nb : Int) := by rw [wrapI_of _ (by omega) (by omega)]; omega
 go_wp2_with fail
 go_ret2
 exact ⟨rfl, HB2.out⟩
end Go.Proofs.YtfeficdndjiijaaGreatDoor


namespace Go.Proofs.YtfeficdndjiijaaGreatDoor
open Go.RowKit
set_option linter.unusedVariables false
set_option linter.unusedSimpArgs false

def hvErr (pt : Nat → Nat → Int) (least budget : Int) (b : Nat) : Int := if least < 1 ∨ 4096 < budget then 1 else if budget < (askedUp pt least b (b + 1) : Int) then 7 else 0
def HvPost (w : World) (pt : Nat → Nat → Int) (least budget : Int) (b : Nat) (e : Ending) (w' : World) : Prop :=
  ∃ v, e = .returned (.tuple #[v, .int .i64 (hvErr pt least budget b)]) ∧ (hvErr pt least budget b = 0 → FdOwn w' w.heap.size v pt (hvOut pt least b (b + 1))) ∧ (hvErr pt least budget b ≠ 0 → v = .slice none 0 0) ∧ Below w.heap.size w w'
def PtIs (w : World) (S : Nat) (b : Nat) (r d m s : Int) (pt : Nat → Nat → Int) : Prop :=
  (∀ wq, Below w.heap.size w wq → Calls Tryz.prog 84 #[.pointer (some ⟨S, 0, none⟩)] wq fun e w' => e = .returned (.agg #[.int .i64 (b : Int), .int .i64 r, .int .i64 d, .int .i64 m, .int .u64 s]) ∧ Below wq.heap.size wq w') ∧
  ∀ wq, Below w.heap.size w wq → ∀ n i : Nat, n ≤ b → i < 2 ^ (b - n) → Calls Tryz.prog 94 #[.pointer (some ⟨S, 0, none⟩), .agg #[.int .i64 (n : Int), .int .u64 (i : Int)]] wq fun e w' => e = .returned (.tuple #[.int .i64 (pt n i), .int .i64 0]) ∧ Below wq.heap.size wq w'
set_option maxRecDepth 100000 in
set_option maxHeartbeats 8000000 in
theorem hvheavy (w : World) (S b : Nat) (r d m s : Int) (pt : Nat → Nat → Int) (hp : PtIs w S b r d m s pt) (hb1 : 1 ≤ b) (hb : b ≤ 59) (least budget : Int) (hl : In64 least) (hbu : In64 budget) :
  Calls Tryz.prog 97 #[.pointer (some ⟨S, 0, none⟩), .int .i64 least, .int .i64 budget] w (HvPost w pt least budget b) := by
 obtain ⟨iF, hF, hF0, hF1, hF2⟩ := info_parts Tryz.infoFd
 obtain ⟨iP, hP, hP0, hP1, hP2⟩ := info_parts Tryz.infoPc
 obtain ⟨hcf, hpt⟩ := hp
 have HCF := Lib.hid hcf
 have HPT := Lib.hid hpt
 clear hcf hpt
 by_cases h1 : least < 1 ∨ 4096 < budget
 ·have HQ : Hid (HvPost w pt least budget b (.returned (.tuple #[.slice none 0 0, .int .i64 1])) w) := Lib.hid (by
   have he : hvErr pt least budget b = 1 := by unfold hvErr; rw [if_pos h1]
   exact ⟨_, by rw [he], fun h => absurd h (by rw [he]; decide), fun _ => rfl, Below.refl _ _⟩)
  have d1 : (decide (least < 1) || decide (4096 < budget)) = true := by simp; omega
  go_enter Tryz.func97, Tryz.ntmps97
  by_cases hl1 : least < 1
  ·go_wp2
   go_ret2
   exact HQ.out
  ·have hb4 : 4096 < budget := by omega
   go_wp2
   go_ret2
   exact HQ.out
 ·have l1 : 1 ≤ least := by omega
  have l2 : budget ≤ 4096 := by omega
  have HE : Hid (hvErr pt least budget b = if budget < (askedUp pt least b (b + 1) : Int) then 7 else 0) := Lib.hid (by unfold hvErr; rw [if_neg h1])
  have HQ7 : Hid (∀ w', Below w.heap.size w w' → budget < (askedUp pt least b (b + 1) : Int) → HvPost w pt least budget b (.returned (.tuple #[.slice none 0 0, .int .i64 7])) w') := Lib.hid (fun w' hb' hh => by
   have he : hvErr pt least budget b = 7 := by rw [HE.out, if_pos hh]
   exact ⟨_, by rw [he], fun h => absurd h (by rw [he]; decide), fun _ => rfl, hb'⟩)
  have HQ0 : Hid (∀ w' v, Below w.heap.size w w' → ¬ budget < (askedUp pt least b (b + 1) : Int) → FdOwn w' w.heap.size v pt (hvOut pt least b (b + 1)) → HvPost w pt least budget b (.returned (.tuple #[v, .int .i64 0])) w') := Lib.hid (fun w' v hb' hh hf => by
   have he : hvErr pt least budget b = 0 := by rw [HE.out, if_neg hh]
   exact ⟨_, by rw [he], fun _ => hf, fun h => absurd he h, hb'⟩)
  clear h1
  go_enter Tryz.func97, Tryz.ntmps97
  go_wp2_with fail
  have hfd : ∀ w : World, (Instr.field 24 (.agg #[.int .i64 (b : Int), .int .i64 r, .int .i64 d, .int .i64 m, .int .u64 s]) 0).run Tryz.prog w = .ok (.int .i64 (b : Int)) w := fun _ => by kernel_rfl
  with_reducible refine (HCF.out w (Below.refl _ _)).mono ?_
  rintro e w2 ⟨rfl, hb2⟩
  have HB2 := Lib.hid hb2
  clear hb2
  go_wp2_with fail
  go_loopw [9, 10, 11, 34] (fun a o rw i wr => ∃ j : Nat, j ≤ b + 1 ∧ i = .int .i64 (j : Int) ∧ a = .int .i64 (askedUp pt least b j : Int) ∧ FdOwn wr w.heap.size o pt (hvOut pt least b j) ∧ (j ≤ b → PcOwn wr w.heap.size rw (b - j) (rowAt pt least b j)) ∧ (∀ k, rw.ownBlock = some k → o.ownBlock ≠ some k) ∧ askedUp pt least b j ≤ 4096 ∧ (0 < j → (askedUp pt least b j : Int) ≤ budget) ∧ (rowAt pt least b j).length ≤ 8192 ∧ Below w.heap.size w wr) (fun _ _ _ i _ => b + 1 - (intOf i).toNat)
  case atStart =>
   refine ⟨0, by omega, rfl, rfl, World.ownsRow_nil _ _ _ _, fun _ => ?_, by simp [Value.ownBlock], by show 0 ≤ 4096; decide, fun h => absurd h (by decide), by show 1 ≤ 8192; decide, HB2.out.alloc HB2.out.size _⟩
   exact World.ownsRow_lit (base := w.heap.size) (e := 155) (size := 2) w2 #[.int .i64 (b : Int), .int .u64 0] 1 HB2.out.size (by unfold maxLen; omega) (by simp)
  case round =>
   obtain ⟨j, hj, rfl, rfl, hfd, hpc, hne, hak, hab, hrl, hbel⟩ := hrel
   by_cases hlt : j ≤ b
   ·have HPC := Lib.hid (hpc hlt)
    obtain ⟨rao, rcap, hre, hrc, hrm⟩ := own_open (hpc hlt)
    subst hre
    have HFD := Lib.hid hfd
    have HNE := Lib.hid hne
    have HBr := Lib.hid hbel
    have hnx : askedUp pt least b (j + 1) = askedUp pt least b j + (rowAt pt least b j).length := rfl
    have HMO := Lib.hid (askedUp_mono pt least b (j := j + 1) (k := b + 1) (by omega))
    have HNX := Lib.hid hnx
    obtain ⟨L, hL⟩ : ∃ L, L = (rowAt pt least b j).length := ⟨_, rfl⟩
    have HL := Lib.hid hL
    rw [← hL] at hrl hrc hnx ⊢
    obtain ⟨q, hq⟩ : ∃ q, q = askedUp pt least b j := ⟨_, rfl⟩
    have HQ := Lib.hid hq
    rw [← hq] at hak hnx ⊢
    have hjb : (j : Int) < (b : Int) + 1 := by omega
    have hql : (q : Int) + (L : Int) ≤ 20000 := by omega
    have hql0 : 0 ≤ (q : Int) + (L : Int) := by omega
    clear hfd hpc hne hbel hL hq hj hnx
    generalize wr = wo at *
    by_cases hov : budget < (q : Int) + (L : Int)
    ·have HOV : Hid (budget < (askedUp pt least b (b + 1) : Int)) := Lib.hid (by have h1 := HMO.out; have h2 := HNX.out; have h3 := HL.out; have h4 := HQ.out; omega)
     go_wp2
     go_ret2
     exact HQ7.out _ HBr.out HOV.out
    ·have hsz := HBr.out.size
     have HSZ := Lib.hid hsz
     clear hsz
     go_wp2_with fail
     go_loopw [10, 12, 45] (fun o nx i wi => ∃ t : Nat, t ≤ L ∧ i = .int .i64 (t : Int) ∧ FdOwn wi w.heap.size o pt (hvOut pt least b j ++ foundR pt least (b - j) ((rowAt pt least b j).take t)) ∧ (j < b → PcOwn wi wo.heap.size nx (b - j - 1) (kids (toldR pt least (b - j) ((rowAt pt least b j).take t)))) ∧ (¬ j < b → nx = .slice none 0 0) ∧ (∀ k, nx.ownBlock = some k → o.ownBlock ≠ some k) ∧ (∀ k, (Value.slice rao L rcap).ownBlock = some k → o.ownBlock ≠ some k) ∧ PcOwn wi w.heap.size (.slice rao L rcap) (b - j) (rowAt pt least b j) ∧ Below w.heap.size w wi ∧ wo.heap.size ≤ wi.heap.size) (fun _ _ i _ => L - (intOf i).toNat)
     case atStart => exact ⟨0, by omega, rfl, by simpa [foundR, toldR] using HFD.out, fun _ => World.ownsRow_nil _ _ _ _, fun _ => rfl, by simp [Value.ownBlock], by rw [HL.out]; exact HNE.out, by rw [HL.out]; exact HPC.out, HBr.out, Nat.le_refl _⟩
     case round =>
      obtain ⟨t, ht, rfl, hfd, hpc, hnl, hne, hno, hrow, hbel, hsz⟩ := hrel
      by_cases hlt2 : t < L
      ·obtain ⟨x, hx⟩ : ∃ x, (rowAt pt least b j)[t]? = some x := ⟨_, List.getElem?_eq_getElem (by rw [← HL.out]; exact hlt2)⟩
       obtain ⟨g, cp, e, hg1, hg2, -, -, hrg⟩ := hrow.range hx
       simp only [Value.slice.injEq] at e
       obtain ⟨rfl, -, rfl⟩ := e
       have HSZR : Hid (g < wo.heap.size) := Lib.hid (HPC.out.lt g (by simp [Value.ownBlock])).2
       have HX := Lib.hid hx
       have hx2 : x < 2 ^ j := rowAt_lt pt least b j x (List.mem_of_getElem? hx)
       have HFD2 := Lib.hid hfd
       have HPC2 := Lib.hid hpc
       have HNL2 := Lib.hid hnl
       have HNE2 := Lib.hid hne
       have HNO2 := Lib.hid hno
       have HROW := Lib.hid hrow
       have HB2' := Lib.hid hbel
       have HSZ2 := Lib.hid hsz
       have HRG := Lib.hid hrg
       have htL : (t : Int) < (L : Int) := by omega
       have ht0 : (0 : Int) ≤ (t : Int) := by omega
       clear hx hfd hpc hnl hne hno hrow hbel hsz hrg
       have hrg := HRG.out
       have PPT := Lib.hid (fun wq hq => HPT.out wq hq (b - j) x (by omega) (by rw [show b - (b - j) = j by omega]; exact hx2))
       obtain ⟨n, hn⟩ : ∃ n, n = b - j := ⟨_, rfl⟩
       have HNN := Lib.hid hn
       rw [← hn] at hrg PPT
       have HBN := Lib.hid (HB2'.out.alloc HB2'.out.size (.cells #[.int .i64 (n : Int), .int .u64 (x : Int)] 155))
       clear hn
       go_wp2_with (refine wpList_load_mid rfl 155 _ rfl g (t * 2) rfl [.int .i64 (n : Int), .int .u64 (x : Int)] _ hrg Tryz.underlying155 rfl (by kernel_rfl) ?_)
       with_reducible refine (PPT.out _ HBN.out).mono ?_
       rintro e wa ⟨rfl, hb⟩
       have HAB := Lib.hid (btr ((Below.refl wr.heap.size wr).alloc (Nat.le_refl _) (.cells #[.int .i64 (n : Int), .int .u64 (x : Int)] 155)) hb)
       have hpx : Blk wa wr.heap.size 155 #[.int .i64 (n : Int), .int .u64 (x : Int)] := (Blk.new wr _ _).kept hb
       have HPX := Lib.hid hpx
       have HFDA := Lib.hid (HFD2.out.kept HAB.out)
       have HROWA := Lib.hid (HROW.out.kept HAB.out)
       have HPCA : Hid (j < b → PcOwn wa wo.heap.size u12 (n - 1) (kids (toldR pt least n ((rowAt pt least b j).take t)))) := Lib.hid (fun h => by rw [HNN.out]; exact (HPC2.out h).kept HAB.out)
       have HBA := Lib.hid (btr HB2'.out HAB.out)
       have hsza := HAB.out.size
       have HSA : Hid (wo.heap.size ≤ wa.heap.size) := Lib.hid (by have := HSZ2.out; omega)
       clear hb hsza hrg
       by_cases hlt3 : pt n x < least
       ·have HTS : Hid (foundR pt least (b - j) ((rowAt pt least b j).take (t + 1)) = foundR pt least (b - j) ((rowAt pt least b j).take t) ∧ kids (toldR pt least (b - j) ((rowAt pt least b j).take (t + 1))) = kids (toldR pt least (b - j) ((rowAt pt least b j).take t))) := Lib.hid (by
         rw [foundR_snoc HX.out, kids_snoc HX.out, ← HNN.out, if_neg (by omega), if_neg (by omega), List.append_nil, List.append_nil]
         exact ⟨rfl, rfl⟩)
        go_wp2_with fail
        go_roundw
        case rel => exact ⟨t + 1, by omega, by go_num, by rw [HTS.out.1]; exact HFDA.out, by rw [HTS.out.2, ← HNN.out]; exact HPCA.out, HNL2.out, HNE2.out, HNO2.out, HROWA.out, HBA.out, HSA.out⟩
        case measure => simp [intOf]; omega
       ·have hge : least ≤ pt n x := by omega
        have hlo := (hvOut_len pt least b j)
        have hcap1 : (hvOut pt least b j ++ foundR pt least (b - j) ((rowAt pt least b j).take t)).length ≤ 20000 := by
         rw [List.length_append, foundR, List.length_map]
         have h1 := toldR_le pt least (b - j) ((rowAt pt least b j).take t)
         have h2 : ((rowAt pt least b j).take t).length ≤ L := by rw [List.length_take, ← HL.out]; omega
         have h3 := HQ.out
         omega
        obtain ⟨N, hN⟩ : ∃ N, N = (hvOut pt least b j ++ foundR pt least (b - j) ((rowAt pt least b j).take t)).length := ⟨_, rfl⟩
        have HLN := Lib.hid hN
        have HFA : Hid (wa.ownsRow w.heap.size 157 3 u10 N (fdCells pt (hvOut pt least b j ++ foundR pt least (b - j) ((rowAt pt least b j).take t)))) := Lib.hid (by rw [hN]; exact HFDA.out)
        have hc1 : N + 1 ≤ maxLen := by unfold maxLen; omega
        have hc4 : (N + 1) * 24 ≤ 140737488355328 := by omega
        have HBA2 := Lib.hid (HBA.out.alloc HBA.out.size (.cells #[.int .i64 (n : Int), .int .u64 (x : Int), .int .i64 (pt n x)] 157))
        obtain ⟨oao, ocap, ho10, -, -⟩ := own_open HFA.out
        subst ho10
        clear hlo hcap1 hN
        go_wp2_with (first | refine wpList_load_row rfl 155 _ rfl wr.heap.size rfl 155 _ (0, 0) _ hpx Tryz.underlying155 rfl (by kernel_rfl) ?_ | (at_builtin; go_loud (refine wpList_append_own_at _ rfl _ _ 147 rfl w.heap.size 157 iF (.agg #[.int .i64 0, .int .u64 0, .int .i64 0]) 3 24 Tryz.underlying147 hF hF0 hF1 hF2 rfl (by decide) _ N _ rfl (World.ownsRow.alloc HFA.out _) ⟨wa.heap.size, 0, none⟩ 1 1 [.int .i64 (n : Int), .int .u64 (x : Int), .int .i64 (pt n x)] rfl rfl (cells_new _ rfl) ?c2 hc1 hc4 ?c5 ?_)))
        case c2 => simp [Value.oneCell']
        case c5 => exact HBA2.out.size
        intro v5 w5 hown' hgrow hnil' hq5
        have HTS : Hid (hvOut pt least b j ++ foundR pt least (b - j) ((rowAt pt least b j).take (t + 1)) = hvOut pt least b j ++ foundR pt least (b - j) ((rowAt pt least b j).take t) ++ [(n, x)] ∧ kids (toldR pt least (b - j) ((rowAt pt least b j).take (t + 1))) = kids (toldR pt least (b - j) ((rowAt pt least b j).take t)) ++ [2 * x, 2 * x + 1]) := Lib.hid (by
         rw [foundR_snoc HX.out, kids_snoc HX.out, ← HNN.out, if_pos hge, if_pos hge, List.append_assoc]
         exact ⟨rfl, rfl⟩)
        have HFD5 : Hid (FdOwn w5 w.heap.size v5 pt (hvOut pt least b j ++ foundR pt least (b - j) ((rowAt pt least b j).take (t + 1)))) := Lib.hid (FdOwn.push HTS.out.1 HLN.out hown')
        have HROW5 : Hid (PcOwn w5 w.heap.size (.slice (some ⟨g, 0, none⟩) L rcap) (b - j) (rowAt pt least b j)) := Lib.hid (own_gr (World.ownsRow.alloc HROWA.out _) hgrow (fun k e => HNO2.out k e))
        have HPC5 : Hid (j < b → PcOwn w5 wo.heap.size u12 (n - 1) (kids (toldR pt least n ((rowAt pt least b j).take t)))) := Lib.hid (fun h => own_gr (World.ownsRow.alloc (HPCA.out h) _) hgrow (fun k e => HNE2.out k e))
        have HNO5 : Hid (∀ k, (Value.slice (some ⟨g, 0, none⟩) L rcap).ownBlock = some k → v5.ownBlock ≠ some k) := Lib.hid (fun k e => by
         rcases hq5 with h | h
         ·rw [h]; exact HNO2.out k e
         ·rw [h]
          intro e2
          have := (HROWA.out.lt k e).2
          have := Option.some.inj e2
          omega)
        have HNE5 : Hid (∀ k, u12.ownBlock = some k → v5.ownBlock ≠ some k) := Lib.hid (fun k e => by
         rcases hq5 with h | h
         ·rw [h]; exact HNE2.out k e
         ·rw [h]
          intro e2
          by_cases hjb2 : j < b
          ·have := ((HPCA.out hjb2).lt k e).2
           have := Option.some.inj e2
           omega
          ·rw [HNL2.out hjb2] at e
           simp [Value.ownBlock] at e)
        have HPX5 : Hid (Blk w5 wr.heap.size 155 #[.int .i64 (n : Int), .int .u64 (x : Int)]) := Lib.hid ((HPX.out.alloc _).grown hgrow (own_far HFA.out HPX.out (by decide)))
        have HB5 := Lib.hid (HBA2.out.grown hgrow HBA2.out.size (fun k e => (HFA.out.lt k e).1))
        have hs5 := hgrow.size
        have HS5 : Hid (wo.heap.size ≤ w5.heap.size) := Lib.hid (by have := HSA.out; simp at hs5; omega)
        obtain ⟨pao, pcap, hv5, -, -⟩ := own_open hown'
        subst hv5
        clear hown' hgrow hnil' hq5 hs5 hc1 hc4 hpx
        have hp5 := HPX5.out
        go_wp2_with (refine wpList_load_row rfl 155 _ rfl wr.heap.size rfl 155 _ (0, 0) _ hp5 Tryz.underlying155 rfl (by kernel_rfl) ?_)
        by_cases hn0 : n = 0
        ·have PH : Hid (Calls Tryz.prog 138 #[.int .i64 (b : Int), .agg #[.int .i64 (n : Int), .int .u64 (x : Int)]] w5 fun e w' => e = .returned (.tuple #[.agg #[.int .i64 0, .int .u64 0], .agg #[.int .i64 0, .int .u64 0], .bool false]) ∧ Below w5.heap.size w5 w') := Lib.hid (by
          rw [hn0]
          exact halves_no b x hb1 hb (by have := HNN.out; rwa [show b = j by omega]) w5)
         with_reducible refine PH.out.mono ?_
         rintro e w6 ⟨rfl, hb⟩
         have HFD6 := Lib.hid (HFD5.out.kept hb)
         have HROW6 := Lib.hid (HROW5.out.kept hb)
         have HB6 := Lib.hid (btr HB5.out hb)
         have hs6 := hb.size
         have HS6 : Hid (wo.heap.size ≤ w6.heap.size) := Lib.hid (by have := HS5.out; omega)
         obtain ⟨-, -, hb8, hsz8⟩ := news2 w6 (.cells #[.int .i64 0, .int .u64 0] 155) (.cells #[.int .i64 0, .int .u64 0] 155)
         have HFD8 := Lib.hid (HFD6.out.kept hb8)
         have HROW8 := Lib.hid (HROW6.out.kept hb8)
         have HB8 := Lib.hid (btr HB6.out hb8)
         have HS8 := Lib.hid (Nat.le_trans HS6.out hb8.size)
         clear hb hs6 hp5 hb8 hsz8
         go_wp2_with fail
         go_roundw
         case rel => exact ⟨t + 1, by omega, by go_num, HFD8.out, fun h => absurd h (by have := HNN.out; omega), HNL2.out, HNE5.out, HNO5.out, HROW8.out, HB8.out, HS8.out⟩
         case measure => simp [intOf]; omega
        ·obtain ⟨m', hm'⟩ : ∃ m', n = m' + 1 := ⟨n - 1, by omega⟩
         have PH : Hid (Calls Tryz.prog 138 #[.int .i64 (b : Int), .agg #[.int .i64 (n : Int), .int .u64 (x : Int)]] w5 fun e w' => e = .returned (.tuple #[.agg #[.int .i64 (m' : Int), .int .u64 ((2 * x : Nat) : Int)], .agg #[.int .i64 (m' : Int), .int .u64 ((2 * x + 1 : Nat) : Int)], .bool true]) ∧ Below w5.heap.size w5 w') := Lib.hid (by
          rw [hm']
          exact halves_yes b m' x hb1 hb (by have := HNN.out; omega) (by have := HNN.out; rwa [show b - (m' + 1) = j by omega]) w5)
         have HM' := Lib.hid hm'
         obtain ⟨y1, hy1⟩ : ∃ y1, y1 = 2 * x := ⟨_, rfl⟩
         obtain ⟨y2, hy2⟩ : ∃ y2, y2 = 2 * x + 1 := ⟨_, rfl⟩
         rw [← hy2, ← hy1] at PH HTS
         with_reducible refine PH.out.mono ?_
         rintro e w6 ⟨rfl, hb⟩
         have HFD6 := Lib.hid (HFD5.out.kept hb)
         have HROW6 := Lib.hid (HROW5.out.kept hb)
         have HPC6 : Hid (j < b → PcOwn w6 wo.heap.size u12 (n - 1) (kids (toldR pt least n ((rowAt pt least b j).take t)))) := Lib.hid (fun h => (HPC5.out h).kept hb)
         have HB6 := Lib.hid (btr HB5.out hb)
         have hs6 := hb.size
         have HS6 : Hid (wo.heap.size ≤ w6.heap.size) := Lib.hid (by have := HS5.out; omega)
         have hjb2 : j < b := by have := HNN.out; omega
         obtain ⟨M, hM⟩ : ∃ M, M = (kids (toldR pt least n ((rowAt pt least b j).take t))).length := ⟨_, rfl⟩
         have hMle : M ≤ 20000 := by
          rw [hM, kids_len]
          have h1 := toldR_le pt least n ((rowAt pt least b j).take t)
          have h2 : ((rowAt pt least b j).take t).length ≤ L := by rw [List.length_take, ← HL.out]; omega
          omega
         have HLM := Lib.hid hM
         obtain ⟨g8, g9, hb8, hsz8⟩ := news2 w6 (.cells #[.int .i64 (m' : Int), .int .u64 (y1 : Int)] 155) (.cells #[.int .i64 (m' : Int), .int .u64 (y2 : Int)] 155)
         have HX8 : Hid (Blk _ w6.heap.size 155 #[.int .i64 (m' : Int), .int .u64 (y1 : Int)]) := Lib.hid g8
         have HX9 : Hid (Blk _ (w6.heap.size + 1) 155 #[.int .i64 (m' : Int), .int .u64 (y2 : Int)]) := Lib.hid g9
         have HFD8 := Lib.hid (HFD6.out.kept hb8)
         have HROW8 := Lib.hid (HROW6.out.kept hb8)
         have HB8 := Lib.hid (btr HB6.out hb8)
         have HS8 := Lib.hid (Nat.le_trans HS6.out hb8.size)
         have HPA := Lib.hid ((HPC6.out hjb2).kept hb8)
         have HPA : Hid (World.ownsRow _ wo.heap.size 155 2 u12 M (pcCells m' (kids (toldR pt least n ((rowAt pt least b j).take t))))) := Lib.hid (by
          have h1 := HPA.out
          unfold PcOwn at h1
          rw [← hM, show n - 1 = m' by omega] at h1
          exact h1)
         obtain ⟨nao, ncap, ho12, -, -⟩ := own_open HPA.out
         subst ho12
         have HSZ8 := Lib.hid hsz8
         have hc1 : M + 2 ≤ maxLen := by unfold maxLen; omega
         have hc4 : (M + 2) * 16 ≤ 140737488355328 := by omega
         have HJB2 := Lib.hid hjb2
         clear hb hs6 hp5 hm' hy1 hy2 hn0 hM hMle hjb2 g8 g9 hb8 hsz8
         have hx8 := HX8.out
         have hx9 := HX9.out
         go_wp2_with (first | refine wpList_load_row rfl 155 _ rfl w6.heap.size rfl 155 _ (0, 0) _ hx8 Tryz.underlying155 rfl (by kernel_rfl) ?_ | refine wpList_load_row rfl 155 _ rfl (w6.heap.size + 1) rfl 155 _ (0, 0) _ hx9 Tryz.underlying155 rfl (by kernel_rfl) ?_ | (at_builtin; go_loud (refine wpList_append_own_at _ rfl _ _ 256 rfl wo.heap.size 155 iP (.agg #[.int .i64 0, .int .u64 0]) 2 16 Tryz.underlying256 hP hP0 hP1 hP2 rfl (by decide) _ M _ rfl (World.ownsRow.alloc HPA.out _) ⟨_, 0, none⟩ 2 2 [.int .i64 (m' : Int), .int .u64 (y1 : Int), .int .i64 (m' : Int), .int .u64 (y2 : Int)] rfl rfl (cells_new' _ rfl (by simp)) ?c2 hc1 hc4 ?c5 ?_)))
         case c2 => simp [Value.oneCell']
         case c5 => exact Nat.le_trans HS8.out (by simp)
         intro v7 w7 hown' hgrow hnil' hq7
         generalize ((w6.alloc (.cells #[.int .i64 (m' : Int), .int .u64 (y1 : Int)] 155)).alloc (.cells #[.int .i64 (m' : Int), .int .u64 (y2 : Int)] 155)) = w8 at *
         have HFD7 : Hid (FdOwn w7 w.heap.size (.slice pao (N + 1) pcap) pt (hvOut pt least b j ++ foundR pt least (b - j) ((rowAt pt least b j).take (t + 1)))) := Lib.hid (own_gr (World.ownsRow.alloc HFD8.out _) hgrow (fun k e => fun e2 => HNE5.out k e2 e))
         have HROW7 : Hid (PcOwn w7 w.heap.size (.slice (some ⟨g, 0, none⟩) L rcap) (b - j) (rowAt pt least b j)) := Lib.hid (own_gr (World.ownsRow.alloc HROW8.out _) hgrow (fun k e => fun e2 => by
          have h1 := (HPA.out.lt k e2).1
          have h2 : g = k := by simpa [Value.ownBlock] using e
          have h3 := HSZR.out
          omega))
         have HPC7 : Hid (j < b → PcOwn w7 wo.heap.size v7 (b - j - 1) (kids (toldR pt least (b - j) ((rowAt pt least b j).take (t + 1))))) := Lib.hid (fun _ => by
          have h1 := HTS.out.2
          have hm := HM'.out
          have e := HNN.out
          rw [e] at hown' hm
          rw [show b - j - 1 = m' by omega]
          exact PcOwn.push2 h1 (by rw [HLM.out, HNN.out]) hown')
         have HNE7 : Hid (∀ k, v7.ownBlock = some k → (Value.slice pao (N + 1) pcap).ownBlock ≠ some k) := Lib.hid (fun k e => by
          rcases hq7 with h | h
          ·rw [h] at e; exact HNE5.out k e
          ·rw [h] at e
           intro e2
           have h1 := (HFD8.out.lt k e2).2
           have h2 := Option.some.inj e
           have h4 := HSZ8.out
           try simp at h2
           omega)
         have HB7 := Lib.hid ((HB8.out.alloc HB8.out.size (.cells #[.int .i64 (m' : Int), .int .u64 (y1 : Int), .int .i64 (m' : Int), .int .u64 (y2 : Int)] 155)).grown hgrow (Nat.le_trans HB8.out.size (by simp)) (fun k e => Nat.le_trans HSZ.out (HPA.out.lt k e).1))
         have HS7 : Hid (wo.heap.size ≤ w7.heap.size) := Lib.hid (by have h1 := hgrow.size; have h2 := HS8.out; simp at h1; omega)
         obtain ⟨zao, zcap, hv7, -, -⟩ := own_open hown'
         subst hv7
         clear hown' hgrow hnil' hq7 hx8 hx9 hc1 hc4
         go_wp2_with fail
         go_roundw
         case rel => exact ⟨t + 1, by omega, by go_num, HFD7.out, HPC7.out, fun h => absurd HJB2.out h, HNE7.out, HNO5.out, HROW7.out, HB7.out, HS7.out⟩
         case measure => simp [intOf]; omega
      ·have htL : t = L := by omega
       have htz : ¬ (t : Int) < (L : Int) := by omega
       have ht2 : (rowAt pt least b j).take t = rowAt pt least b j := List.take_of_length_le (by rw [htL, ← HL.out]; exact Nat.le_refl _)
       rw [ht2] at hfd hpc
       have HFD9 := Lib.hid hfd
       have HPC9 : Hid (j + 1 ≤ b → PcOwn wr w.heap.size u12 (b - (j + 1)) (rowAt pt least b (j + 1))) := Lib.hid (fun h => own_mono (by
        have := hpc (by omega)
        unfold PcOwn at this
        rw [show b - j - 1 = b - (j + 1) by omega] at this
        exact this) HSZ.out)
       have HNE9 := Lib.hid hne
       have HB9 := Lib.hid hbel
       have HK9 : Hid ((askedUp pt least b (j + 1) : Int) = (q : Int) + (L : Int) ∧ askedUp pt least b (j + 1) ≤ 4096 ∧ (askedUp pt least b (j + 1) : Int) ≤ budget ∧ (rowAt pt least b (j + 1)).length ≤ 8192) := Lib.hid (by
        have h1 := HNX.out
        have h2 := HQ.out
        have h3 := HL.out
        refine ⟨by omega, by omega, by omega, ?_⟩
        show (kids (toldR pt least (b - j) (rowAt pt least b j))).length ≤ 8192
        rw [kids_len]
        have := toldR_le pt least (b - j) (rowAt pt least b j)
        omega)
       clear hfd hpc hnl hne hno hrow hbel hsz ht2
       go_wp2_with fail
       go_roundw
       case rel => exact ⟨j + 1, by omega, by go_num, by rw [HK9.out.1], HFD9.out, HPC9.out, HNE9.out, HK9.out.2.1, fun _ => HK9.out.2.2.1, HK9.out.2.2.2, HB9.out⟩
       case measure => simp [intOf]; omega
   ·have hjb : j = b + 1 := by omega
    have HF : Hid (FdOwn wr w.heap.size _ pt (hvOut pt least b (b + 1))) := Lib.hid (by rw [← hjb]; exact hfd)
    have HN : Hid (¬ budget < (askedUp pt least b (b + 1) : Int)) := Lib.hid (by rw [← hjb]; have := hab (by omega); omega)
    have HB := Lib.hid hbel
    have hjn : ¬ (j : Int) < (b : Int) + 1 := by omega
    clear hfd hpc hne hak hab hrl hbel
    go_wp2
    go_ret2
    exact HQ0.out _ _ HB.out HN.out HF.out
end Go.Proofs.YtfeficdndjiijaaGreatDoor


namespace Go.Proofs.YtfeficdndjiijaaGreatDoor
open Go.RowKit
set_option linter.unusedVariables false
set_option linter.unusedSimpArgs false

def wQuantile : List UInt8 := [113, 117, 97, 110, 116, 105, 108, 101]
def wHeavy : List UInt8 := [104, 101, 97, 118, 121]
def QryIs2 (V : ByteArray) (x0 x1 : Int) (lo : Nat) (c : Value) (w : World) : Prop :=
  ∃ g, lo ≤ g ∧ c = .iface 123 (.agg #[.string V, .int .i64 x0, .slice (some ⟨g, 1, none⟩) 1 1]) ∧ w.rowIs g 2 2 (fun j => .int .i64 (cellD [x0, x1] j))
theorem qry2_stays (V : ByteArray) (x0 x1 : Int) (lo : Nat) : Stays (QryIs2 V x0 x1 lo) := fun c w w' h hb => by
  obtain ⟨g, h0, h1, h2⟩ := h
  exact ⟨g, h0, h1, h2.of_block (hb.block g h2.lt)⟩
theorem line_quantile (w : World) (base A bm n : Nat) (nb : Nat) (r d m s : Int) (S L : Nat → Nat) (X : Nat → Nat → Value) (Ar G C : Nat → Nat → Nat) (Z : Nat → Nat → List Int) (h : AggSt w base A bm n (nb : Int) r d m s S L X Ar G C Z) (hn : n ≤ 32) (s0 : 0 ≤ s) (s1 : s ≤ 18446744073709551615)
  (i : Nat) (h1 : 1 ≤ i) (h2 : i ≤ n) (hb1 : 1 ≤ nb) (hb : nb ≤ 59) (pt : Nat → Nat → Int) (hpt : ∀ n j, n ≤ nb → pt n j = lvPt (nb : Int) r d m s (n : Int) (Z i n) j) (hpb : ∀ n j, 0 ≤ pt n j ∧ pt n j ≤ 9223372036854775807)
  (k : Int) (k0 : 1 ≤ k) (k1 : k ≤ pt nb 0) (hw : wayN pt nb 0 k < 100) :
  Calls Tryz.prog 8 #[.pointer (some ⟨A, 0, none⟩), .string (sB (joinW [wQuantile, Lib.itoa (i : Int), Lib.itoa k]))] w fun e w' => ∃ t, e = .returned (.tuple #[.string t, .bool true]) ∧ t = sB ([107, 101, 121, 32] ++ Lib.decDigits (wayN pt nb 0 k)) ∧
   AggSt w' base A bm n (nb : Int) r d m s S L X Ar G C Z ∧ Below w.heap.size w w' := by
 obtain ⟨T, hT1, hT2⟩ := h.agg
 have hsz := h.base_le
 have hi64 : In64 (i : Int) := by unfold In64; omega
 have hk64 : In64 k := by have := (hpb nb 0).2; unfold In64; omega
 refine line_of A _ w (QryIs2 (sB wQuantile) (i : Int) k 0)
  (fun rr w2 => rr = .iface 140 (.agg #[.int .u64 (wayN pt nb 0 k : Nat)]) ∧ AggSt w2 base A bm n (nb : Int) r d m s S L X Ar G C Z ∧ Below w.heap.size w w2)
  _ (fun c _ hc => by obtain ⟨g, -, hc, -⟩ := hc; exact ⟨_, _, hc⟩) ?_ ?_ ?_
 ·refine parse_ws _ (qry2_stays _ _ _ _) _ (fun a ha => ?_) (by simp) (by simp) w h.tab (fun w1 R v en hle hr1 hv ht1 => ?_)
  ·simp only [List.mem_cons, List.mem_nil_iff, or_false] at ha
   rcases ha with rfl | rfl | rfl
   ·exact plainLit _ (by decide)
   ·exact num_plain _ hi64.1 hi64.2
   ·exact num_plain _ hk64.1 hk64.2
  ·refine (cmd_quantile w1 R v _ en i k hr1 hv rfl (by simp) rfl rfl hi64 hk64 ht1).mono ?_
   rintro e w' ⟨⟨g, rfl, hg, hrow⟩, h2, h3⟩
   exact ⟨_, rfl, ⟨g, Nat.zero_le _, rfl, hrow⟩, h2, h3⟩
 ·rintro c w1 hb1' ⟨g, -, rfl, hrow⟩
  refine do_query w1 A (sB wQuantile) (i : Int) (some ⟨g, 1, none⟩) 1 1 _ (fun w2 hb2 => ?_)
  have hb12 := btr hb1' hb2
  have hk2 := hT1.kept hb12
  refine (agg_quantile w2 A bm n T i k (S i) g (wayN pt nb 0 k : Nat) hk2 (by omega) (by omega) (by omega) (by rw [Int.toNat_natCast]; exact hT2 i h1 h2) (hrow.of_block (hb2.block g hrow.lt)) (fun w3 hb3 => ?_)).mono ?_
  ·have h3 := h.kept (btr hb12 hb3)
   exact quantile_any w3 base (S i) (L i) nb r d m s (X i) (Ar i) (G i) (C i) (Z i) (h3.st i h1 h2) s0 s1 hb1 hb pt hpt hpb k k0 k1
  ·rintro e w4 ⟨rfl, hb4⟩
   exact ⟨_, rfl, rfl, h.kept (btr hb12 hb4), btr hb12 hb4⟩
 ·rintro rr w2 ⟨rfl, hA, hB⟩
  refine (text_key _ hw w2).mono ?_
  rintro e w3 ⟨rfl, hb3⟩
  exact ⟨_, rfl, rfl, hA.kept hb3, btr hB hb3⟩
theorem StIs.ptIs {w : World} {base S L nb : Nat} {r d m s : Int} {X : Nat → Value} {A G C : Nat → Nat} {Z : Nat → List Int} (h : StIs w base S L (nb : Int) r d m s X A G C Z) (s0 : 0 ≤ s) (s1 : s ≤ 18446744073709551615) (hb : nb ≤ 59) (pt : Nat → Nat → Int) (hpt : ∀ n i, n ≤ nb → pt n i = lvPt (nb : Int) r d m s (n : Int) (Z n) i) : PtIs w S nb r d m s pt := by
  refine ⟨fun wq hq => stconfig wq base S L (nb : Int) r d m s X A G C Z (h.kept hq), fun wq hq n i hn hi => ?_⟩
  have h60 : 2 ^ (nb - n) ≤ 2 ^ 59 := Nat.pow_le_pow_right (by decide) (by omega)
  have h59 : (2 : Nat) ^ 59 = 576460752303423488 := by decide
  rw [hpt n i hn]
  refine stpoint wq base S L (nb : Int) r d m s X A G C Z (h.kept hq) s0 s1 n (by simp; omega) i (by omega) ?_
  rw [keysI_yes h.right (by omega) (by omega), show ((nb : Int) - (n : Int)).toNat = nb - n by omega]
  have e : ((2 ^ (nb - n) : Nat) : Int) = (2 : Int) ^ (nb - n) := by simp
  rw [← e]
  omega
theorem line_heavy (w : World) (base A bm n : Nat) (nb : Nat) (r d m s : Int) (S L : Nat → Nat) (X : Nat → Nat → Value) (Ar G C : Nat → Nat → Nat) (Z : Nat → Nat → List Int) (h : AggSt w base A bm n (nb : Int) r d m s S L X Ar G C Z) (hn : n ≤ 32) (s0 : 0 ≤ s) (s1 : s ≤ 18446744073709551615)
  (i : Nat) (h1 : 1 ≤ i) (h2 : i ≤ n) (hb1 : 1 ≤ nb) (hb : nb ≤ 59) (pt : Nat → Nat → Int) (hpt : ∀ n j, n ≤ nb → pt n j = lvPt (nb : Int) r d m s (n : Int) (Z i n) j)
  (least budget : Int) (hl : In64 least) (hbu : In64 budget) (he : hvErr pt least budget nb = 0) (hlen : (hvOut pt least nb (nb + 1)).length ≤ 1000) (hall : ∀ p ∈ hvOut pt least nb (nb + 1), p.1 < 100 ∧ p.2 < 100 ∧ In64 (pt p.1 p.2)) :
  Calls Tryz.prog 8 #[.pointer (some ⟨A, 0, none⟩), .string (sB (joinW [wHeavy, Lib.itoa (i : Int), Lib.itoa least, Lib.itoa budget]))] w fun e w' => ∃ t, e = .returned (.tuple #[.string t, .bool true]) ∧ t = sB (listT pt (hvOut pt least nb (nb + 1))) ∧
   AggSt w' base A bm n (nb : Int) r d m s S L X Ar G C Z ∧ Below w.heap.size w w' := by
 obtain ⟨T, hT1, hT2⟩ := h.agg
 have hsz := h.base_le
 have hi64 : In64 (i : Int) := by unfold In64; omega
 refine line_of A _ w (QryIs (sB wHeavy) (i : Int) least budget 0)
  (fun rr w2 => (∃ ao k cp, rr = .iface 149 (.agg #[.slice ao k cp]) ∧ ∃ lo, FdOwn w2 lo (.slice ao k cp) pt (hvOut pt least nb (nb + 1))) ∧ AggSt w2 base A bm n (nb : Int) r d m s S L X Ar G C Z ∧ Below w.heap.size w w2)
  _ (fun c _ hc => by obtain ⟨g, -, hc, -⟩ := hc; exact ⟨_, _, hc⟩) ?_ ?_ ?_
 ·refine parse_ws _ (qry_stays _ _ _ _ _) _ (fun a ha => ?_) (by simp) (by simp) w h.tab (fun w1 R v en hle hr1 hv ht1 => ?_)
  ·simp only [List.mem_cons, List.mem_nil_iff, or_false] at ha
   rcases ha with rfl | rfl | rfl | rfl
   ·exact plainLit _ (by decide)
   ·exact num_plain _ hi64.1 hi64.2
   ·exact num_plain _ hl.1 hl.2
   ·exact num_plain _ hbu.1 hbu.2
  ·refine (cmd_heavy w1 R v _ en i least budget hr1 hv rfl (by simp) rfl rfl rfl hi64 hl hbu ht1).mono ?_
   rintro e w' ⟨⟨g, rfl, hg, hrow⟩, h2, h3⟩
   exact ⟨_, rfl, ⟨g, Nat.zero_le _, rfl, hrow⟩, h2, h3⟩
 ·rintro c w1 hb1' ⟨g, -, rfl, hrow⟩
  refine do_query w1 A (sB wHeavy) (i : Int) (some ⟨g, 1, none⟩) 2 2 _ (fun w2 hb2 => ?_)
  have hb12 := btr hb1' hb2
  have hk2 := hT1.kept hb12
  refine (agg_heavy w2 A bm n T i least budget (S i) g (fun v w' => ∃ lo, FdOwn w' lo v pt (hvOut pt least nb (nb + 1))) hk2 (by omega) (by omega) (by omega) (by rw [Int.toNat_natCast]; exact hT2 i h1 h2) (hrow.of_block (hb2.block g hrow.lt)) (fun w3 hb3 => ?_)).mono ?_
  ·have h3 := h.kept (btr hb12 hb3)
   refine (hvheavy w3 (S i) nb r d m s pt ((h3.st i h1 h2).ptIs s0 s1 hb pt hpt) hb1 hb least budget hl hbu).mono ?_
   rintro e w4 ⟨v, rfl, hf, -, hb4⟩
   rw [he]
   obtain ⟨ao, cap, hv, -, -⟩ := own_open (hf he)
   subst hv
   exact ⟨⟨_, _, _, rfl, _, hf he⟩, hb4⟩
  ·rintro e w4 ⟨⟨ao, k, cp, rfl, hf⟩, hb4⟩
   exact ⟨_, rfl, ⟨_, _, _, rfl, hf⟩, h.kept (btr hb12 hb4), btr hb12 hb4⟩
 ·rintro rr w2 ⟨⟨ao, k, cp, rfl, lo, hf⟩, hA, hB⟩
  refine (text_list w2 lo pt _ _ hf hlen hall hA.tab).mono ?_
  rintro e w3 ⟨rfl, hb3⟩
  exact ⟨_, rfl, rfl, hA.kept hb3, btr hB hb3⟩
end Go.Proofs.YtfeficdndjiijaaGreatDoor


namespace Go.Proofs.YtfeficdndjiijaaGreatDoor
open Go.RowKit
set_option linter.unusedVariables false
set_option linter.unusedSimpArgs false

def DigS (n X : Nat) (bs : List Int) : Prop := (bs = [] ∧ X = n) ∨ (bs ≠ [] ∧ (X = 0 → Lib.decDigits n = u8s bs.reverse) ∧ (X ≠ 0 → Lib.decDigits n = Lib.decDigits X ++ u8s bs.reverse))
theorem DigS.next {n X : Nat} {bs : List Int} (h : DigS n X bs) (hX : X ≠ 0 ∨ bs = []) : DigS n (X / 10) (bs ++ [48 + ((X % 10 : Nat) : Int)]) := by
  have h0 : Lib.decDigits n = Lib.decDigits X ++ u8s bs.reverse := by
    rcases h with ⟨rfl, rfl⟩ | ⟨h1, h2, h3⟩
    · simp [u8s]
    · rcases hX with hX | hX
      · exact h3 hX
      · exact absurd hX h1
  have hs := dec_step n X _ h0
  have e : u8s (bs ++ [48 + ((X % 10 : Nat) : Int)]).reverse = UInt8.ofNat (48 + X % 10) :: u8s bs.reverse := by
    simp only [u8s, List.reverse_append, List.reverse_singleton, List.singleton_append, List.map_cons]
    congr 1
  exact .inr ⟨by simp, fun h => by rw [e]; exact hs.1 h, fun h => by rw [e]; exact hs.2 h⟩
theorem DigS.len {n X : Nat} {bs : List Int} (h : DigS n X bs) : bs.length ≤ (Lib.decDigits n).length := by
  rcases h with ⟨rfl, rfl⟩ | ⟨h1, h2, h3⟩
  · simp
  · by_cases hX : X = 0
    · rw [h2 hX]; simp [u8s]
    · rw [h3 hX]; simp [u8s]
def nilN (v : Value) : Nat := match v with | .slice _ n _ => if n = 0 then 1 else 0 | _ => 0
set_option maxRecDepth 100000 in
set_option maxHeartbeats 8000000 in
theorem wtext (n : Nat) (hn0 : 1 ≤ n) (hn : n < 18446744073709551616) (w : World) : Calls Tryz.prog 55 #[.agg #[.int .i64 0, .int .u64 (n : Int)]] w fun e w' => e = .returned (.string (sB (Lib.decDigits n))) ∧ Below w.heap.size w w' := by
 obtain ⟨i0', hi, hz0, hz1, hz2⟩ := info_parts Tryz.info8
 have hx := Blk.new w 143 #[.int .i64 0, .int .u64 (n : Int)]
 have hb0 : Below w.heap.size w (w.alloc (.cells #[.int .i64 0, .int .u64 (n : Int)] 143)) := (Below.refl _ w).alloc (Nat.le_refl _) _
 have HX := Lib.hid hx
 have HB0 := Lib.hid hb0
 have PS := Lib.hid (wsize (n : Int) (by omega) (by omega) (w.alloc (.cells #[.int .i64 0, .int .u64 (n : Int)] 143)))
 clear hx hb0
 go_enter Tryz.func55, Tryz.ntmps55
 go_wp2_with (refine wpList_load_row rfl 143 _ rfl w.heap.size rfl 143 _ (0, 0) _ HX.out Tryz.underlying143 rfl (by kernel_rfl) ?_)
 with_reducible refine PS.out.mono ?_
 rintro e w1 ⟨rfl, hb1⟩
 have HX1 := Lib.hid (HX.out.kept hb1)
 have HB1 := Lib.hid (btr HB0.out hb1)
 clear hb1 PS HX HB0
 go_wp2_with fail
 go_loopw [3, 4, 5, 6] (fun hi lo l rest wr => ∃ (X : Nat) (bs : List Int), hi = .int .u64 0 ∧ lo = .int .u64 (X : Int) ∧ X ≤ n ∧ OwnB wr w.heap.size l bs ∧ DigS n X bs ∧ Blk wr w.heap.size 143 #[.int .i64 0, .int .u64 (n : Int)] ∧ Below w.heap.size w wr) (fun _ lo l _ _ => 2 * (intOf lo).toNat + nilN l)
 case atStart => exact ⟨n, [], rfl, rfl, Nat.le_refl _, World.ownsRow_nil _ _ _ _, .inl ⟨rfl, rfl⟩, HX1.out, HB1.out⟩
 case round =>
  obtain ⟨X, bs, rfl, rfl, hXn, hown, hdg, hx, hbel⟩ := hrel
  obtain ⟨ao, cap, rfl, -, -⟩ := hown.open_
  have HO := Lib.hid hown
  have HD := Lib.hid hdg
  have HXB := Lib.hid hx
  have HBL := Lib.hid hbel
  clear hown hdg hx hbel HX1
  obtain ⟨q, hq⟩ : ∃ q, q = bs.length := ⟨_, rfl⟩
  have HQ := Lib.hid hq
  rw [← hq]
  have hq41 : q ≤ 20 := by have h1 := HD.out.len; have h2 := dec_len n hn; omega
  by_cases hX : 0 < X
  ·have hgo : X ≠ 0 ∨ bs = [] := .inl (by omega)
   have PD := Lib.hid (div10 X (by omega) wr)
   have HNX := Lib.hid (HD.out.next hgo)
   obtain ⟨r, hr⟩ : ∃ r : Int, r = ((X % 10 : Nat) : Int) := ⟨_, rfl⟩
   have hr10 : 0 ≤ r ∧ r < 10 := by omega
   have HR := Lib.hid hr
   rw [← hr] at PD HNX
   have hX0 : (0 : Int) ≤ (X : Int) := by omega
   have HMS : Hid (X / 10 ≤ n ∧ (X ≠ 0 → X / 10 < X)) := Lib.hid ⟨by omega, by omega⟩
   have w8 : IntKind.u8.wrap (48 + IntKind.u8.wrap r) = 48 + r := by simp [IntKind.wrap, IntKind.bits, IntKind.signed]; omega
   have w8' : IntKind.u8.wrap (48 + r) = 48 + r := by simp [IntKind.wrap, IntKind.bits, IntKind.signed]; omega
   have hc1 : q + 1 ≤ maxLen := by unfold maxLen; omega
   have hsz := HBL.out.size
   clear hr
   go_wp2_with fail
   with_reducible refine PD.out.mono ?_
   rintro e w3 ⟨rfl, hb3⟩
   have HO3 := Lib.hid (HO.out.kept hb3)
   have HXB3 := Lib.hid (HXB.out.kept hb3)
   have HBL3 := Lib.hid (btr HBL.out hb3)
   have hsz3 := HBL3.out.size
   clear hb3 PD HXB hgo HD HO HBL
   rw [HQ.out] at hc1 hq41
   go_wp2_with (at_builtin; refine wpList_append_own_at _ rfl _ _ 41 rfl w.heap.size 5 i0' (.int .u8 0) 1 1 Tryz.underlying41 hi hz0 hz1 hz2 rfl (by decide) _ bs.length _ rfl (World.ownsRow.alloc HO3.out _) ⟨w3.heap.size, 0, none⟩ 1 1 [.int .u8 (48 + r)] rfl rfl (cell_one_new _ _ _) ?c2 hc1 ?c4 ?c5 ?_)
   case c2 => simp [Value.oneCell']
   case c4 => omega
   case c5 => simp; omega
   intro v5 w5 hown' hgrow hnil' hq9
   have HO5 : Hid (OwnB w5 w.heap.size v5 (bs ++ [48 + r])) := Lib.hid (by unfold OwnB; rw [List.length_append, List.map_append]; exact hown')
   obtain ⟨ao5, cap5, rfl, -, -⟩ := HO5.out.open_
   have hal : Below w3.heap.size w3 (w3.alloc (.cells #[.int .u8 (48 + r)] 5)) := (Below.refl _ _).alloc (Nat.le_refl _) _
   have HXB5 := Lib.hid ((HXB3.out.kept hal).grown hgrow (own_far (World.ownsRow.alloc HO3.out _) (HXB3.out.kept hal) (by decide)))
   have HBL5 : Hid (Below w.heap.size w w5) := Lib.hid ((btr HBL3.out hal).grown hgrow (by simp; omega) (fun k e => (World.ownsRow.lt HO3.out k e).1))
   clear hown' hgrow hnil' hq9 hal HO3 HXB3 HBL3
   go_wp2_with fail
   go_roundw
   case rel => exact ⟨X / 10, bs ++ [48 + r], rfl, by simp, HMS.out.1, HO5.out, HNX.out, HXB5.out, HBL5.out⟩
   case measure => simp [intOf, nilN]; omega
  ·obtain rfl : X = 0 := by omega
   have hbs : bs ≠ [] := by
    rcases HD.out with ⟨-, h⟩ | ⟨h, -⟩
    ·omega
    ·exact h
   have hdg : Lib.decDigits n = u8s bs.reverse := by
    rcases HD.out with ⟨-, h⟩ | ⟨-, h, -⟩
    ·omega
    ·exact h rfl
   have hq0 : 0 < bs.length := List.length_pos_iff.2 hbs
   have hq0' : ¬ ((q : Int) = 0) := by rw [hq]; omega
   have PV := Lib.hid (reversed_any wr w.heap.size _ bs HO.out hq0 (by rw [← hq]; omega))
   have HDG := Lib.hid hdg
   rw [← hq] at PV
   have c0 := HXB.out.cell 0
   simp at c0
   clear hbs hdg hq hq0 HD HO HQ
   go_wp2_with fail
   with_reducible refine PV.out.mono ?_
   rintro e w9 ⟨rfl, hb9⟩
   have HB9 := Lib.hid (HBL.out.trans (hb9 w.heap.size (Nat.le_refl _) HBL.out.size))
   clear hb9 c0
   go_wp2_with fail
   go_ret
   exact ⟨by rw [HDG.out]; rfl, HB9.out⟩
theorem taWideDone (a b : Int) (w : World) : (Instr.typeAssert (.iface 145 (.agg #[.int .i64 a, .int .u64 b])) 68 133 true).run Tryz.prog w = .ok (.tuple #[.agg #[], .bool false]) w := by kernel_rfl
theorem taWideHandle (a b : Int) (w : World) : (Instr.typeAssert (.iface 145 (.agg #[.int .i64 a, .int .u64 b])) 68 135 true).run Tryz.prog w = .ok (.tuple #[.agg #[.int .i64 0], .bool false]) w := by kernel_rfl
theorem taWideNumber (a b : Int) (w : World) : (Instr.typeAssert (.iface 145 (.agg #[.int .i64 a, .int .u64 b])) 68 137 true).run Tryz.prog w = .ok (.tuple #[.agg #[.int .i64 0], .bool false]) w := by kernel_rfl
theorem taWideKey (a b : Int) (w : World) : (Instr.typeAssert (.iface 145 (.agg #[.int .i64 a, .int .u64 b])) 68 140 true).run Tryz.prog w = .ok (.tuple #[.agg #[.int .u64 0], .bool false]) w := by kernel_rfl
theorem taWideWide (a b : Int) (w : World) : (Instr.typeAssert (.iface 145 (.agg #[.int .i64 a, .int .u64 b])) 68 145 true).run Tryz.prog w = .ok (.tuple #[.agg #[.int .i64 a, .int .u64 b], .bool true]) w := by kernel_rfl
set_option maxRecDepth 100000 in
set_option maxHeartbeats 4000000 in
theorem text_wide (n : Nat) (hn0 : 1 ≤ n) (hn : n < 18446744073709551616) (w : World) : Calls Tryz.prog 25 #[.iface 145 (.agg #[.int .i64 0, .int .u64 (n : Int)])] w fun e w' => e = .returned (.string (sB ([119, 105, 100, 101, 32] ++ Lib.decDigits n))) ∧ Below w.heap.size w w' := by
 have P := Lib.hid (fun w => wtext n hn0 hn w)
 have hsz : ¬ 9223372036854775807 < 5 + (sB (Lib.decDigits n)).size := by
  rw [sB_size]; have := dec_len n hn; omega
 have HAP := Lib.hid (sB_append [119, 105, 100, 101, 32] (Lib.decDigits n))
 have t0 := taWideDone 0 (n : Int)
 have t1 := taWideHandle 0 (n : Int)
 have t2 := taWideNumber 0 (n : Int)
 have t3 := taWideKey 0 (n : Int)
 have t4 := taWideWide 0 (n : Int)
 have HB1 : Hid (Below w.heap.size w ((w.alloc (.cells #[.pointer none, .slice none 0 0] 132)).alloc (.cells #[.int .i64 0, .int .u64 (n : Int)] 145))) := Lib.hid (((Below.refl _ w).alloc (Nat.le_refl _) _).alloc (by simp) _)
 have hxb : Blk ((w.alloc (.cells #[.pointer none, .slice none 0 0] 132)).alloc (.cells #[.int .i64 0, .int .u64 (n : Int)] 145)) (w.heap.size + 1) 145 #[.int .i64 0, .int .u64 (n : Int)] := by
  have := Blk.new (w.alloc (.cells #[.pointer none, .slice none 0 0] 132)) 145 #[.int .i64 0, .int .u64 (n : Int)]
  simpa using this
 have HXB := Lib.hid hxb
 clear hxb hn hn0
 generalize sB (Lib.decDigits n) = S at *
 go_enter Tryz.func25, Tryz.ntmps25
 go_wp2_with (refine wpList_load_row rfl 143 _ rfl (w.heap.size + 1) rfl 145 _ (0, 0) _ HXB.out Tryz.underlying143 rfl (by kernel_rfl) ?_)
 with_reducible refine (P.out _).mono ?_
 rintro e w2 ⟨rfl, hb2⟩
 have HB2 := Lib.hid (btr HB1.out hb2)
 clear hb2
 go_wp2_with fail
 go_ret
 exact ⟨congrArg (fun s => Ending.returned (Value.string s)) HAP.out, HB2.out⟩
set_option maxRecDepth 100000 in
set_option maxHeartbeats 4000000 in
theorem minner (w : World) (base1 S1 L1 base2 S2 L2 : Nat) (b r d s : Int) (X1 X2 : Nat → Value) (A1 G1 C1 A2 G2 C2 : Nat → Nat) (Z1 Z2 : Nat → List Int) (K : Nat) (h1 : StIs w base1 S1 L1 b r d 1 s X1 A1 G1 C1 Z1) (h2 : StIs w base2 S2 L2 b r d 1 s X2 A2 G2 C2 Z2) (he : exactB b r d 1 0 = true) (hK : K = (keysI b r d 1 0).toNat)
  (hz : ∀ x ∈ Z1 0, 0 ≤ x ∧ x ≤ 1000000) (hh : ∀ x ∈ Z2 0, 0 ≤ x ∧ x ≤ 1000000) :
  Calls Tryz.prog 98 #[.pointer (some ⟨S1, 0, none⟩), .pointer (some ⟨S2, 0, none⟩)] w fun e w' => e = .returned (.tuple #[.agg #[.int .i64 0, .int .u64 ((dotN (Z1 0) (Z2 0) K : Nat) : Int)], .int .i64 0]) ∧ Below w.heap.size w w' := by
 have hb1 : Below w.heap.size w (w.alloc (.cells #[.int .i64 0, .int .u64 0] 143)) := (Below.refl _ w).alloc (Nat.le_refl _) _
 have HRS := Lib.hid (Blk.new w 143 #[.int .i64 0, .int .u64 0])
 have HB1 := Lib.hid hb1
 have H1 := Lib.hid (h1.kept hb1)
 have H2 := Lib.hid (h2.kept hb1)
 have HZ := Lib.hid (And.intro hz hh)
 have HE := Lib.hid (And.intro he hK)
 clear h1 h2 hb1 hz hh he hK
 obtain ⟨P, hP⟩ : ∃ P, P = ((dotN (Z1 0) (Z2 0) K : Nat) : Int) := ⟨_, rfl⟩
 rw [← hP]
 have HP := Lib.hid hP
 clear hP
 go_enter Tryz.func98, Tryz.ntmps98
 go_wp2_with fail
 generalize (w.alloc (.cells #[.int .i64 0, .int .u64 0] 143)) = w1 at *
 refine (alike_yes w1 S1 S2 b r d 1 s (fun wq hq => stconfig wq base1 S1 L1 b r d 1 s X1 A1 G1 C1 Z1 (H1.out.kept hq)) (fun wq hq => stconfig wq base2 S2 L2 b r d 1 s X2 A2 G2 C2 Z2 (H2.out.kept hq))).mono ?_
 rintro e w2 ⟨rfl, hb2⟩
 have H1a := Lib.hid (H1.out.kept hb2)
 have H2a := Lib.hid (H2.out.kept hb2)
 have HB2 := Lib.hid (btr HB1.out hb2)
 have HR2 := Lib.hid ((show Blk w1 w.heap.size 143 #[.int .i64 0, .int .u64 0] from HRS.out).kept hb2)
 have PA := stAt w2 base1 S1 L1 b r d 1 s X1 A1 G1 C1 Z1 H1a.out 0 (by omega)
 rw [show ((0 : Nat) : Int) = 0 from rfl] at PA
 have PA := Lib.hid PA
 clear hb2 H1 H2 HB1 HRS
 go_wp2_with fail
 with_reducible refine PA.out.mono ?_
 rintro e w3 ⟨x, A, G, C, rfl, -, -, -, hlx, hb3⟩
 obtain ⟨tx, hx⟩ := hlx.open_
 subst hx
 have HLX := Lib.hid hlx
 have H2b := Lib.hid (H2a.out.kept hb3)
 have HB3 := Lib.hid (btr HB2.out hb3)
 have HR3 := Lib.hid (HR2.out.kept hb3)
 have PA := stAt w3 base2 S2 L2 b r d 1 s X2 A2 G2 C2 Z2 H2b.out 0 (by omega)
 rw [show ((0 : Nat) : Int) = 0 from rfl] at PA
 have PA := Lib.hid PA
 clear hb3 hlx H1a H2a HB2 HR2
 go_wp2_with fail
 with_reducible refine PA.out.mono ?_
 rintro e w4 ⟨y, B, H, D, rfl, -, -, -, hly, hb4⟩
 obtain ⟨ty, hy⟩ := hly.open_
 subst hy
 have HB4 := Lib.hid (btr HB3.out hb4)
 have HR4 := Lib.hid (HR3.out.kept hb4)
 have PI := lvinner w4 _ _ A G C B H D b r d s 0 (Z1 0) (Z2 0) K HE.out.2 (HLX.out.kept hb4) hly HE.out.1 HZ.out.1 HZ.out.2
 rw [← HP.out] at PI
 have PI := Lib.hid PI
 clear hb4 hly HB3 HR3 HLX H2b PA
 go_wp2_with fail
 with_reducible refine PI.out.mono ?_
 rintro e w5 ⟨rfl, hb5⟩
 have HB5 := Lib.hid (btr HB4.out hb5)
 have hr5 := HR4.out.kept hb5
 have HR5 := Lib.hid hr5
 clear hb5 PI HB4 HR4
 go_wp2_with (refine wpList_store_row rfl 143 _ _ rfl w.heap.size #[.int .i64 0, .int .u64 P] rfl (by rfl) 143 _ hr5 (by kernel_rfl) rfl (by simp [Value.oneCell']) ?_)
 have HF := Lib.hid (blkRowNew (cs' := #[.int .i64 0, .int .u64 P]) HR5.out)
 refine bodyPost_ret (results_row_tmp rfl _ _ w.heap.size 143 _ (0, 0) _ rfl HF.out Tryz.underlying143 rfl (by kernel_rfl)) rfl ?_
 exact ⟨rfl, below_setRow HB5.out (Nat.le_refl _) _⟩
end Go.Proofs.YtfeficdndjiijaaGreatDoor


namespace Go.Proofs.YtfeficdndjiijaaGreatDoor
open Go.RowKit
set_option linter.unusedVariables false
set_option linter.unusedSimpArgs false

theorem AggSt.onl {F : Nat → Prop} {w w' : World} {base A bm n : Nat} {b r d m s : Int} {S L : Nat → Nat} {X : Nat → Nat → Value} {Ar G C : Nat → Nat → Nat} {Z : Nat → Nat → List Int} (h : AggSt w base A bm n b r d m s S L X Ar G C Z) (ho : Onl F w w') (hF : ∀ k, F k → NoSt w k ∧ k ≠ A ∧ k ≠ bm ∧ k ≠ 4) : AggSt w' base A bm n b r d m s S L X Ar G C Z := by
  obtain ⟨T, h1, h2⟩ := h.agg
  exact ⟨⟨T, h1.onl ho (fun hf => (hF _ hf).2.1 rfl) (fun hf => (hF _ hf).2.2.1 rfl), h2⟩, fun i h3 h4 => (h.st i h3 h4).onl ho (fun k hk => .inl (hF k hk).1), h.apart, h.lo, h.tab.onl ho (fun k hk => (hF k hk).2.2.2)⟩
theorem AggSt.setZ {w : World} {base A bm n : Nat} {b r d m s : Int} {S L : Nat → Nat} {X : Nat → Nat → Value} {Ar G C : Nat → Nat → Nat} {Z Z' : Nat → Nat → List Int} (h : AggSt w base A bm n b r d m s S L X Ar G C Z) (hz : ∀ i p, 1 ≤ i → i ≤ n → p ≤ b.toNat → Z i p = Z' i p) : AggSt w base A bm n b r d m s S L X Ar G C Z' :=
  ⟨h.agg, fun i h1 h2 => (h.st i h1 h2).setC (fun p hp => hz i p h1 h2 hp), h.apart, h.lo, h.tab⟩
def wInner : List UInt8 := [105, 110, 110, 101, 114]
theorem line_inner (w : World) (base A bm n : Nat) (b r d s : Int) (S L : Nat → Nat) (X : Nat → Nat → Value) (Ar G C : Nat → Nat → Nat) (Z : Nat → Nat → List Int) (h : AggSt w base A bm n b r d 1 s S L X Ar G C Z) (hn : n ≤ 32)
  (i j : Nat) (h1 : 1 ≤ i) (h2 : i ≤ n) (h3 : 1 ≤ j) (h4 : j ≤ n) (he : exactB b r d 1 0 = true) (K : Nat) (hK : K = (keysI b r d 1 0).toNat) (hz : ∀ x ∈ Z i 0, 0 ≤ x ∧ x ≤ 1000000) (hh : ∀ x ∈ Z j 0, 0 ≤ x ∧ x ≤ 1000000) (hd1 : 1 ≤ dotN (Z i 0) (Z j 0) K) (hd2 : dotN (Z i 0) (Z j 0) K < 18446744073709551616) :
  Calls Tryz.prog 8 #[.pointer (some ⟨A, 0, none⟩), .string (sB (joinW [wInner, Lib.itoa (i : Int), Lib.itoa (j : Int)]))] w fun e w' => ∃ t, e = .returned (.tuple #[.string t, .bool true]) ∧ t = sB ([119, 105, 100, 101, 32] ++ Lib.decDigits (dotN (Z i 0) (Z j 0) K)) ∧
   AggSt w' base A bm n b r d 1 s S L X Ar G C Z ∧ Below w.heap.size w w' := by
 obtain ⟨T, hT1, hT2⟩ := h.agg
 have hsz := h.base_le
 have hi64 : In64 (i : Int) := by unfold In64; omega
 have hj64 : In64 (j : Int) := by unfold In64; omega
 refine line_of A _ w (fun c _ => c = .iface 126 (.agg #[.string (sB wInner), .int .i64 (i : Int), .int .i64 (j : Int)]))
  (fun rr w2 => rr = .iface 145 (.agg #[.int .i64 0, .int .u64 ((dotN (Z i 0) (Z j 0) K : Nat) : Int)]) ∧ AggSt w2 base A bm n b r d 1 s S L X Ar G C Z ∧ Below w.heap.size w w2)
  _ (fun c _ hc => ⟨_, _, hc⟩) ?_ ?_ ?_
 ·refine parse_ws _ (stays_eq _) _ (fun a ha => ?_) (by simp) (by simp) w h.tab (fun w1 R v en hle hr1 hv ht1 => ?_)
  ·simp only [List.mem_cons, List.mem_nil_iff, or_false] at ha
   rcases ha with rfl | rfl | rfl
   ·exact plainLit _ (by decide)
   ·exact num_plain _ hi64.1 hi64.2
   ·exact num_plain _ hj64.1 hj64.2
  ·refine (cmd_inner w1 R v _ en i j hr1 hv rfl (by simp) rfl rfl hi64 hj64 ht1).mono ?_
   rintro e w' ⟨rfl, h2, h3⟩
   exact ⟨_, rfl, rfl, h2, h3⟩
 ·rintro c w1 hb1' rfl
  refine do_pair w1 A (sB wInner) (i : Int) (j : Int) _ (fun w2 hb2 => ?_)
  have hb12 := btr hb1' hb2
  have hk2 := hT1.kept hb12
  refine (agg_inner w2 A bm n T i j (S i) (S j) 0 ((dotN (Z i 0) (Z j 0) K : Nat) : Int) hk2 (by omega) (by omega) (by omega) (by omega) (by omega) (by rw [Int.toNat_natCast]; exact hT2 i h1 h2) (by rw [Int.toNat_natCast]; exact hT2 j h3 h4) (fun w3 hb3 => ?_)).mono ?_
  ·have hq := h.kept (btr hb12 hb3)
   exact minner w3 base (S i) (L i) base (S j) (L j) b r d s (X i) (X j) (Ar i) (G i) (C i) (Ar j) (G j) (C j) (Z i) (Z j) K (hq.st i h1 h2) (hq.st j h3 h4) he hK hz hh
  ·rintro e w4 ⟨rfl, hb4⟩
   exact ⟨_, rfl, rfl, h.kept (btr hb12 hb4), btr hb12 hb4⟩
 ·rintro rr w2 ⟨rfl, hA, hB⟩
  refine (text_wide _ hd1 hd2 w2).mono ?_
  rintro e w3 ⟨rfl, hb3⟩
  exact ⟨_, rfl, rfl, hA.kept hb3, btr hB hb3⟩
end Go.Proofs.YtfeficdndjiijaaGreatDoor


namespace Go.Proofs.YtfeficdndjiijaaGreatDoor
open Go.RowKit
set_option linter.unusedVariables false
set_option linter.unusedSimpArgs false

def wkZ (j : Nat) : Nat → List Int
  | 0 => if j ≤ 1 then [0, 0, 0, 0] else if j = 2 then [0, 0, 0, 5] else [0, 2, 0, 5]
  | 1 => if j ≤ 1 then [0, 0] else if j = 2 then [0, 5] else [2, 5]
  | _ => if j ≤ 1 then [0] else if j = 2 then [5] else [7]
def WkS (base A bm j : Nat) (W : World) : Prop := ∃ S L X Ar G C, AggSt W base A bm (if j = 0 then 0 else 1) 2 1 4 1 0 S L X Ar G C (fun _ => wkZ j)
def wkLine : List (List UInt8) := [[99, 114, 101, 97, 116, 101, 32, 50, 32, 49, 32, 52, 32, 49, 32, 48], [97, 100, 100, 32, 49, 32, 51, 32, 53], [97, 100, 100, 32, 49, 32, 49, 32, 50], [114, 97, 110, 103, 101, 32, 49, 32, 49, 32, 50], [113, 117, 97, 110, 116, 105, 108, 101, 32, 49, 32, 51], [104, 101, 97, 118, 121, 32, 49, 32, 53, 32, 57], [105, 110, 110, 101, 114, 32, 49, 32, 49]]
def wkRep : List (List UInt8) := [[104, 97, 110, 100, 108, 101, 32, 49], [100, 111, 110, 101], [100, 111, 110, 101], [110, 117, 109, 98, 101, 114, 32, 50], [107, 101, 121, 32, 51], [108, 105, 115, 116, 32, 50, 58, 48, 58, 55, 32, 49, 58, 49, 58, 53, 32, 48, 58, 51, 58, 53], [119, 105, 100, 101, 32, 50, 57]]
def WkPost (base A bm j : Nat) (W : World) (e : Ending) (W' : World) : Prop := e = .returned (.tuple #[.string (sB (wkRep.getD j [])), .bool true]) ∧ WkS base A bm (j + 1) W' ∧ AOnl base A bm W W'
theorem itoaS (k : Nat) (h : k < 10) : Lib.itoa (k : Int) = [UInt8.ofNat (48 + k)] := by
  unfold Lib.itoa
  rw [if_neg (by omega), Int.toNat_natCast, dec_small h]
theorem it0 : Lib.itoa 0 = [48] := itoaS 0 (by decide)
theorem it1 : Lib.itoa 1 = [49] := itoaS 1 (by decide)
theorem it2 : Lib.itoa 2 = [50] := itoaS 2 (by decide)
theorem it3 : Lib.itoa 3 = [51] := itoaS 3 (by decide)
theorem it4 : Lib.itoa 4 = [52] := itoaS 4 (by decide)
theorem it5 : Lib.itoa 5 = [53] := itoaS 5 (by decide)
theorem it7 : Lib.itoa 7 = [55] := itoaS 7 (by decide)
theorem it9 : Lib.itoa 9 = [57] := itoaS 9 (by decide)
theorem wkR : rightB 2 1 4 1 = true := by decide
theorem wkE : ∀ n : Nat, n ≤ 2 → exactB 2 1 4 1 (n : Int) = true := fun n hn => by
  match n, hn with
  | 0, _ => decide
  | 1, _ => decide
  | 2, _ => decide
theorem wk0 (base A bm : Nat) (hg : 4 < base) (W : World) (h : WkS base A bm 0 W) : Calls Tryz.prog 8 #[.pointer (some ⟨A, 0, none⟩), .string (sB (wkLine.getD 0 []))] W (WkPost base A bm 0 W) := by
  obtain ⟨S, L, X, Ar, G, C, h⟩ := h
  have hl : wkLine.getD 0 [] = joinW [wCreate, Lib.itoa 2, Lib.itoa 1, Lib.itoa 4, Lib.itoa 1, Lib.itoa 0] := by
    simp only [it0, it1, it2, it4]; decide
  rw [hl]
  refine (line_create W base A bm 0 2 1 4 1 0 0 S L X Ar G C _ h hg (by decide) wkR (by unfold In64; decide) (by decide)).mono ?_
  rintro e W' ⟨t, rfl, rfl, S', L', X', A', G', C', h', ho⟩
  refine ⟨?_, ⟨_, _, _, _, _, _, h'.setZ (fun i p h1 h2 hp => ?_)⟩, ho⟩
  · have : ([104, 97, 110, 100, 108, 101, 32] ++ Lib.itoa (((0 : Nat) : Int) + 1)) = wkRep.getD 0 [] := by
      rw [show ((0 : Nat) : Int) + 1 = 1 from rfl, it1]; rfl
    rw [this]
  · obtain rfl : i = 1 := by omega
    rw [show 0 + 1 = 1 from rfl, upN_same]
    match p, hp with
    | 0, _ => decide
    | 1, _ => decide
    | 2, _ => decide
theorem wkErr (Z : Nat → List Int) (k : Nat) (x : Int) (hk : (k : Int) < 4) (hx : ∀ n : Nat, n ≤ 2 → chkI (keysI 2 1 4 1 (n : Int)).toNat 1 (Z n) (k / 2 ^ n) x = 0) : stErr 2 1 4 1 0 Z k x = 0 := by
  unfold stErr
  rw [if_neg (by rw [show keysI 2 1 4 1 0 = 4 by decide]; omega), if_neg (by simp), if_pos (fun n hn => ?_)]
  unfold lvErr
  rw [if_pos (wkE n hn)]
  exact hx n hn
theorem wkUpd (Z : Nat → List Int) (k : Nat) (x : Int) (h : stErr 2 1 4 1 0 Z k x = 0) (n : Nat) (hn : n ≤ 2) : stUpd 2 1 4 1 0 Z k x n = updZ (keysI 2 1 4 1 (n : Int)).toNat 1 (Z n) (k / 2 ^ n) x := by
  unfold stUpd
  rw [if_pos h]
  unfold lvUpd
  rw [if_pos (wkE n hn)]
theorem wkAdd (base A bm j k : Nat) (x : Int) (hj : j ≠ 0) (hg : 4 < base) (W : World) (h : WkS base A bm j W) (hk : (k : Int) < 4) (hx : In64 x) (he : ∀ n : Nat, n ≤ 2 → chkI (keysI 2 1 4 1 (n : Int)).toNat 1 (wkZ j n) (k / 2 ^ n) x = 0)
    (hu : ∀ n : Nat, n ≤ 2 → updZ (keysI 2 1 4 1 (n : Int)).toNat 1 (wkZ j n) (k / 2 ^ n) x = wkZ (j + 1) n) (hl : wkLine.getD j [] = joinW [wAdd, Lib.itoa ((1 : Nat) : Int), Lib.itoa (k : Int), Lib.itoa x]) (hr : wkRep.getD j [] = [100, 111, 110, 101]) :
    Calls Tryz.prog 8 #[.pointer (some ⟨A, 0, none⟩), .string (sB (wkLine.getD j []))] W (WkPost base A bm j W) := by
  obtain ⟨S, L, X, Ar, G, C, h⟩ := h
  rw [if_neg hj] at h
  have herr := wkErr (wkZ j) k x hk he
  rw [hl]
  refine (line_add W base A bm 1 2 1 4 1 0 S L X Ar G C _ h hg (by decide) (by decide) (by decide) 1 (by decide) (by decide) k (by omega) x hx herr).mono ?_
  rintro e W' ⟨t, rfl, rfl, h', ho⟩
  refine ⟨by rw [hr], ⟨S, L, X, Ar, G, C, ?_⟩, ho⟩
  rw [if_neg (by omega)]
  refine h'.setZ (fun i p h1 h2 hp => ?_)
  obtain rfl : i = 1 := by omega
  rw [upN_same, wkUpd _ k x herr p hp]
  exact hu p hp
theorem le2 {p : Nat → Prop} (h0 : p 0) (h1 : p 1) (h2 : p 2) : ∀ n, n ≤ 2 → p n := fun n hn => by
  match n, hn with
  | 0, _ => exact h0
  | 1, _ => exact h1
  | 2, _ => exact h2
theorem wk1 (base A bm : Nat) (hg : 4 < base) (W : World) (h : WkS base A bm 1 W) : Calls Tryz.prog 8 #[.pointer (some ⟨A, 0, none⟩), .string (sB (wkLine.getD 1 []))] W (WkPost base A bm 1 W) :=
  wkAdd base A bm 1 3 5 (by decide) hg W h (by decide) (by unfold In64; decide) (le2 (by decide) (by decide) (by decide)) (le2 (by decide) (by decide) (by decide))
    (by rw [show ((1 : Nat) : Int) = 1 from rfl, show ((3 : Nat) : Int) = 3 from rfl]; simp only [it1, it3, it5]; decide) rfl
theorem wk2 (base A bm : Nat) (hg : 4 < base) (W : World) (h : WkS base A bm 2 W) : Calls Tryz.prog 8 #[.pointer (some ⟨A, 0, none⟩), .string (sB (wkLine.getD 2 []))] W (WkPost base A bm 2 W) :=
  wkAdd base A bm 2 1 2 (by decide) hg W h (by decide) (by unfold In64; decide) (le2 (by decide) (by decide) (by decide)) (le2 (by decide) (by decide) (by decide))
    (by rw [show ((1 : Nat) : Int) = 1 from rfl]; simp only [it1, it2]; decide) rfl
def wkPt (n i : Nat) : Int := cellD (wkZ 3 n) i
theorem wkPt_lv (j : Nat) (hj : 3 ≤ j) (n i : Nat) (hn : n ≤ 2) : wkPt n i = lvPt ((2 : Nat) : Int) 1 4 1 0 (n : Int) (wkZ j n) i := by
  unfold lvPt
  rw [if_pos (show exactB ((2 : Nat) : Int) 1 4 1 (n : Int) = true from wkE n hn)]
  have : wkZ j n = wkZ 3 n := by
    have h1 : ¬ j ≤ 1 := by omega
    have h2 : ¬ j = 2 := by omega
    match n, hn with
    | 0, _ => simp [wkZ, h1, h2]
    | 1, _ => simp [wkZ, h1, h2]
    | 2, _ => simp [wkZ, h1, h2]
  rw [this]
  rfl
theorem wkPt_bd (n i : Nat) : 0 ≤ wkPt n i ∧ wkPt n i ≤ 9223372036854775807 := by
  have key : ∀ l : List Int, (∀ x ∈ l, 0 ≤ x ∧ x ≤ 7) → 0 ≤ cellD l i ∧ cellD l i ≤ 9223372036854775807 := fun l hl => by
    unfold cellD
    cases hx : l[i]? with
    | none => simp
    | some x => have := hl x (List.mem_of_getElem? hx); simp; omega
  unfold wkPt
  match n with
  | 0 => exact key [0, 2, 0, 5] (by decide)
  | 1 => exact key [2, 5] (by decide)
  | n + 2 => exact key [7] (by decide)
theorem wkKeep (base A bm j : Nat) (hj : 3 ≤ j) {W : World} (h : WkS base A bm j W) : WkS base A bm (j + 1) W := by
  obtain ⟨S, L, X, Ar, G, C, h⟩ := h
  rw [if_neg (by omega)] at h
  refine ⟨S, L, X, Ar, G, C, ?_⟩
  rw [if_neg (by omega)]
  refine h.setZ (fun i p h1 h2 hp => ?_)
  have h1 : ¬ j ≤ 1 := by omega
  have h2 : ¬ j = 2 := by omega
  have h3 : ¬ j + 1 ≤ 1 := by omega
  have h4 : ¬ j + 1 = 2 := by omega
  match p with
  | 0 => simp only [wkZ, if_neg h1, if_neg h2, if_neg h3, if_neg h4]
  | 1 => simp only [wkZ, if_neg h1, if_neg h2, if_neg h3, if_neg h4]
  | p + 2 => simp only [wkZ, if_neg h1, if_neg h2, if_neg h3, if_neg h4]
theorem wk4 (base A bm : Nat) (W : World) (h : WkS base A bm 4 W) : Calls Tryz.prog 8 #[.pointer (some ⟨A, 0, none⟩), .string (sB (wkLine.getD 4 []))] W (WkPost base A bm 4 W) := by
  obtain ⟨S, L, X, Ar, G, C, h⟩ := h
  rw [if_neg (by decide)] at h
  have hl : wkLine.getD 4 [] = joinW [wQuantile, Lib.itoa ((1 : Nat) : Int), Lib.itoa 3] := by
    rw [show ((1 : Nat) : Int) = 1 from rfl]; simp only [it1, it3]; decide
  rw [hl]
  have hw : wayN wkPt 2 0 3 = 3 := by decide
  refine (line_quantile W base A bm 1 2 1 4 1 0 S L X Ar G C _ h (by decide) (by decide) (by decide) 1 (by decide) (by decide) (by decide) (by decide) wkPt (fun n i hn => wkPt_lv 4 (by decide) n i hn) wkPt_bd 3 (by decide) (by decide) (by rw [hw]; decide)).mono ?_
  rintro e W' ⟨t, rfl, rfl, h', hb⟩
  rw [hw, dec_small (by decide)]
  refine ⟨rfl, ⟨S, L, X, Ar, G, C, ?_⟩, AOnl.below hb⟩
  exact h'
theorem wk5 (base A bm : Nat) (W : World) (h : WkS base A bm 5 W) : Calls Tryz.prog 8 #[.pointer (some ⟨A, 0, none⟩), .string (sB (wkLine.getD 5 []))] W (WkPost base A bm 5 W) := by
 obtain ⟨S, L, X, Ar, G, C, h⟩ := h
 rw [if_neg (by decide)] at h
 have hl : wkLine.getD 5 [] = joinW [wHeavy, Lib.itoa ((1 : Nat) : Int), Lib.itoa 5, Lib.itoa 9] := by
  rw [show ((1 : Nat) : Int) = 1 from rfl]; simp only [it1, it5, it9]; decide
 rw [hl]
 have ho : hvOut wkPt 5 2 (2 + 1) = [(2, 0), (1, 1), (0, 3)] := by decide
 refine (line_heavy W base A bm 1 2 1 4 1 0 S L X Ar G C _ h (by decide) (by decide) (by decide) 1 (by decide) (by decide) (by decide) (by decide) wkPt (fun n i hn => wkPt_lv 5 (by decide) n i hn) 5 9 (by unfold In64; decide) (by unfold In64; decide) (by decide) (by rw [ho]; decide) (by
  rw [ho]
  intro p hp
  simp only [List.mem_cons, List.mem_nil_iff, or_false] at hp
  rcases hp with rfl | rfl | rfl
  ·exact ⟨by decide, by decide, by unfold In64; decide⟩
  ·exact ⟨by decide, by decide, by unfold In64; decide⟩
  ·exact ⟨by decide, by decide, by unfold In64; decide⟩)).mono ?_
 rintro e W' ⟨t, rfl, rfl, h', hb⟩
 have ht : listT wkPt (hvOut wkPt 5 2 (2 + 1)) = wkRep.getD 5 [] := by
  rw [ho]
  simp only [listT, foundT, List.flatMap_cons, List.flatMap_nil]
  rw [show ((2 : Nat) : Int) = 2 from rfl, show ((1 : Nat) : Int) = 1 from rfl, show ((0 : Nat) : Int) = 0 from rfl, show wkPt 2 0 = 7 by decide, show wkPt 1 1 = 5 by decide, show wkPt 0 3 = 5 by decide, dec_small (by decide), dec_small (by decide), dec_small (by decide)]
  simp only [it0, it1, it2, it5, it7]
  decide
 rw [ht]
 exact ⟨rfl, ⟨S, L, X, Ar, G, C, h'⟩, AOnl.below hb⟩
theorem wk6 (base A bm : Nat) (W : World) (h : WkS base A bm 6 W) : Calls Tryz.prog 8 #[.pointer (some ⟨A, 0, none⟩), .string (sB (wkLine.getD 6 []))] W (WkPost base A bm 6 W) := by
  obtain ⟨S, L, X, Ar, G, C, h⟩ := h
  rw [if_neg (by decide)] at h
  have hl : wkLine.getD 6 [] = joinW [wInner, Lib.itoa ((1 : Nat) : Int), Lib.itoa ((1 : Nat) : Int)] := by
    rw [show ((1 : Nat) : Int) = 1 from rfl]; simp only [it1]; decide
  rw [hl]
  have hd : dotN (wkZ 6 0) (wkZ 6 0) 4 = 29 := by decide
  have hz : ∀ x ∈ wkZ 6 0, 0 ≤ x ∧ x ≤ 1000000 := by decide
  refine (line_inner W base A bm 1 2 1 4 0 S L X Ar G C _ h (by decide) 1 1 (by decide) (by decide) (by decide) (by decide) (by decide) 4 (by decide) hz hz (by rw [hd]; decide) (by rw [hd]; decide)).mono ?_
  rintro e W' ⟨t, rfl, rfl, h', hb⟩
  rw [hd, dec_big (by decide), dec_small (by decide)]
  exact ⟨rfl, ⟨S, L, X, Ar, G, C, h'⟩, AOnl.below hb⟩
theorem wk3 (base A bm : Nat) (W : World) (h : WkS base A bm 3 W) : Calls Tryz.prog 8 #[.pointer (some ⟨A, 0, none⟩), .string (sB (wkLine.getD 3 []))] W (WkPost base A bm 3 W) := by
 obtain ⟨S, L, X, Ar, G, C, h⟩ := h
 rw [if_neg (by decide)] at h
 have hl : wkLine.getD 3 [] = joinW [wRange, Lib.itoa ((1 : Nat) : Int), Lib.itoa ((1 : Nat) : Int), Lib.itoa ((2 : Nat) : Int)] := by
  rw [show ((1 : Nat) : Int) = 1 from rfl, show ((2 : Nat) : Int) = 2 from rfl]; simp only [it1, it2]; decide
 rw [hl]
 have hc : covO (2 + 1) 0 1 2 ++ (covR (2 + 1) 0 1 2).reverse = [(0, 1), (0, 2)] := by decide
 have hp : ptsL ((2 : Nat) : Int) 1 4 1 0 (wkZ 3) [(0, 1), (0, 2)] = [2, 0] := by
  simp only [ptsL, List.map_cons, List.map_nil]
  rw [← wkPt_lv 3 (by decide) 0 1 (by decide), ← wkPt_lv 3 (by decide) 0 2 (by decide)]
  decide
 refine (line_range W base A bm 1 2 1 4 1 0 S L X Ar G C _ h (by decide) (by decide) (by decide) 1 (by decide) (by decide) 1 2 (by decide) (by decide) (by decide) (by decide) (by decide) (by
  rw [hc]
  intro p hp
  simp only [List.mem_cons, List.mem_nil_iff, or_false] at hp
  rcases hp with rfl | rfl
  ·exact ⟨by decide, by decide, by decide⟩
  ·exact ⟨by decide, by decide, by decide⟩) (by rw [hc, hp]; decide) 2 (by rw [hc, hp]; decide) (by decide) (by decide)).mono ?_
 rintro e W' ⟨t, rfl, rfl, h', hb⟩
 simp only [it2]
 exact ⟨rfl, wkKeep base A bm 3 (by decide) ⟨S, L, X, Ar, G, C, h'⟩, AOnl.below hb⟩
end Go.Proofs.YtfeficdndjiijaaGreatDoor


namespace Go.Proofs.YtfeficdndjiijaaGreatDoor
open Go.RowKit Go.Shelf
set_option linter.unusedVariables false
set_option linter.unusedSimpArgs false
attribute [local go_sem] Oper.semAt_some

theorem noSt_of {w : World} {k : Nat} {t : TypeId} {cs : Array Value} (h : Blk w k t cs) (ht : t ≠ 2 ∧ t ≠ 337 ∧ t ≠ 284 ∧ t ≠ 288 ∧ t ≠ 174 ∧ t ≠ 172) : NoSt w k := fun t' cs' h' => by
  have := blk_one h' h
  subst this
  exact ht
theorem noSt_other {w : World} {k : Nat} {o : Obj} (h : w.heap[k]? = some o) (ho : o.isCells = false) : NoSt w k := fun t' cs' h' => by
  rw [show w.heap[k]? = _ from h'] at h
  cases h
  cases ho
theorem WkS.onl {F : Nat → Prop} {base A bm j : Nat} {w w' : World} (h : WkS base A bm j w) (ho : Onl F w w') (hF : ∀ k, F k → NoSt w k ∧ k ≠ A ∧ k ≠ bm ∧ k ≠ 4) : WkS base A bm j w' := by
  obtain ⟨S, L, X, Ar, G, C, h⟩ := h
  exact ⟨S, L, X, Ar, G, C, h.onl ho hF⟩
theorem WkS.ne {base A bm j : Nat} {w : World} (h : WkS base A bm j w) {k : Nat} {t : TypeId} {cs : Array Value} (hk : Blk w k t cs) (ht : t ≠ 77) : k ≠ A ∧ k ≠ bm := by
  obtain ⟨S, L, X, Ar, G, C, h⟩ := h
  obtain ⟨T, ⟨h1, D, ⟨es, clock, h2, -⟩, -⟩, -⟩ := h.agg
  refine ⟨fun e => ?_, fun e => ?_⟩
  · subst e; exact ht (blk_one hk h1)
  · subst e
    rw [show w.heap[k]? = _ from hk] at h2
    cases h2
theorem WkS.lt {base A bm j : Nat} {w : World} (h : WkS base A bm j w) : A < w.heap.size ∧ bm < w.heap.size ∧ base ≤ A ∧ base ≤ bm := by
  obtain ⟨S, L, X, Ar, G, C, h⟩ := h
  exact ⟨h.base_le.2.1, h.base_le.2.2, h.lo⟩
theorem own_onl {F : Nat → Prop} {w w' : World} {base n size : Nat} {e : TypeId} {v : Value} {xs : List Value} (h : w.ownsRow base e size v n xs) (ho : Onl F w w') (hne : ∀ k, v.ownBlock = some k → ¬ F k) : w'.ownsRow base e size v n xs := by
  refine ⟨h.1, ?_⟩
  rcases h.2 with h1 | ⟨g, cap, cur, hv, hb, hg, rest⟩
  · exact .inl h1
  · have hlt : g < w.heap.size := (Array.getElem?_eq_some_iff.1 hg).1
    exact .inr ⟨g, cap, cur, hv, hb, (ho.2.2.2.2 g hlt (hne g (by rw [hv]; rfl))).trans hg, rest⟩
def strsV (l : List (List UInt8)) : List Value := l.map fun a => .string (sB a)
structure RunI (w W : World) (base A bm OB AB B0 B1 B2 T j : Nat) (v : Value) : Prop where
  top : T ≤ W.heap.size
  wk : WkS base A bm j W
  out : Blk W OB 48 #[v]
  ab : Blk W AB 30 #[.pointer (some ⟨A, 0, none⟩)]
  own : W.ownsRow T 9 1 v j (strsV (wkRep.take j))
  bel : Below w.heap.size w W
  lo : w.heap.size ≤ OB ∧ OB < base ∧ bm < T ∧ OB < T ∧ AB < T ∧ B0 < T ∧ B1 < T ∧ B2 < T ∧ w.heap.size ≤ base ∧ 4 < OB ∧ 4 < B0 ∧ w.heap.size ≤ B0 ∧ OB ≠ B0
theorem RunI.walked {w W W' : World} {base A bm OB AB B0 B1 B2 T j : Nat} {v : Value} {row : Option Nat} (h : RunI w W base A bm OB AB B0 B1 B2 T j v) (hg : W.grownBy W' row) (hr : ∀ r, row = some r → T ≤ r ∧ ∃ o : Obj, W.heap[r]? = some o ∧ o.isCells = false) : RunI w W' base A bm OB AB B0 B1 B2 T j v := by
  have hlo := h.lo
  have hlt := h.wk.lt
  refine ⟨Nat.le_trans h.top hg.size, h.wk.onl (F := fun k => row = some k) ⟨hg.os, hg.tape, hg.output, hg.size, fun k hk hn => hg.block k hk (fun e => hn e.symm)⟩ (fun k hk => ?_), h.out.walked hg (fun r e => (hr r e).2), h.ab.walked hg (fun r e => (hr r e).2), ownKeep h.own hg (fun k hk e => by
    obtain ⟨cs, hc⟩ := ownBlk h.own k hk
    obtain ⟨-, o, ho, hn⟩ := hr k e
    exact hc.not_other ho hn rfl), h.bel.grown hg h.bel.size (fun k e => by have := (hr k e).1; omega), hlo⟩
  obtain ⟨h1, o, h2, h3⟩ := hr k hk
  refine ⟨noSt_other h2 h3, ?_, by omega, by omega⟩
  rintro rfl
  obtain ⟨S, L, X, Ar, G, C, hA⟩ := h.wk
  obtain ⟨T', ⟨h4, -⟩, -⟩ := hA.agg
  rw [show W.heap[k]? = _ from h4] at h2
  cases h2
  cases h3
theorem RunI.box {w W : World} {base A bm OB AB B0 B1 B2 T j : Nat} {v : Value} (h : RunI w W base A bm OB AB B0 B1 B2 T j v) (s : ByteArray) (hb : StrBox W B0 9) : RunI w (W.setCell ⟨B0, 0, none⟩ (.string s)) base A bm OB AB B0 B1 B2 T j v := by
  obtain ⟨s0, hb⟩ := hb
  have hb0 : Blk W B0 9 #[.string s0] := hb
  have hlo := h.lo
  have hg : W.grownBy (W.setCell ⟨B0, 0, none⟩ (.string s)) (some B0) := gr_setC (World.grownBy.refl _ _) 0 _
  have hne := h.wk.ne hb0 (by decide)
  refine ⟨Nat.le_trans h.top hg.size, h.wk.onl (Onl.of_gr hg) (fun k hk => ?_), h.out.grown hg (by simpa using hlo.2.2.2.2.2.2.2.2.2.2.2.2), h.ab.grown hg (by simpa using h.ab.ne_ hb0 (by decide)), ownKeep h.own hg (fun k hk e => by
    have e := Option.some.inj e
    have := (h.own.lt k hk).1
    omega), h.bel.grown hg h.bel.size (fun k e => by have e := Option.some.inj e; omega), hlo⟩
  subst hk
  exact ⟨noSt_of hb0 (by decide), hne.1, hne.2, by omega⟩
theorem RunI.round {w W W2 We : World} {base A bm OB AB B0 B1 B2 T j : Nat} {v v' : Value} (h : RunI w W base A bm OB AB B0 B1 B2 T j v) (hk : WkS base A bm (j + 1) W2) (ho : AOnl base A bm W W2) (hb1 : ∃ s, Blk W B1 9 #[.string s]) (hb2 : ∃ i, Blk W B2 3 #[i]) (hj : j < 7)
    (hown : We.ownsRow T 9 1 v' (j + 1) (strsV (wkRep.take j) ++ [.string (sB (wkRep.getD j []))])) (hg : (W2.alloc (.cells #[.string (sB (wkRep.getD j []))] 9)).grownBy We v.ownBlock) (hb0 : ∃ s, Blk W B0 9 #[.string s]) :
    KeepsFrom T W (We.setCell ⟨OB, 0, none⟩ v') ∧ KpB [B0, B1, B2] W (We.setCell ⟨OB, 0, none⟩ v') ∧ RunI w (We.setCell ⟨OB, 0, none⟩ v') base A bm OB AB B0 B1 B2 T (j + 1) v' := by
  have hlo := h.lo
  have hlt := h.wk.lt
  have hal : Below W2.heap.size W2 (W2.alloc (.cells #[.string (sB (wkRep.getD j []))] 9)) := (Below.refl _ _).alloc (Nat.le_refl _) _
  generalize (W2.alloc (.cells #[.string (sB (wkRep.getD j []))] 9)) = W3 at *
  have hne := fun {k : Nat} {t : TypeId} {cs : Array Value} (hk : Blk W k t cs) (ht : t ≠ 77) => h.wk.ne hk ht
  have out2 : Blk W2 OB 48 #[v] := ho.blk h.out (hne h.out (by decide)).1 (hne h.out (by decide)).2 (by decide)
  have ab2 : Blk W2 AB 30 #[.pointer (some ⟨A, 0, none⟩)] := ho.blk h.ab (hne h.ab (by decide)).1 (hne h.ab (by decide)).2 (by decide)
  have hv : ∀ k, v.ownBlock = some k → T ≤ k ∧ k < W.heap.size := fun k e => h.own.lt k e
  have own2 : W2.ownsRow T 9 1 v j (strsV (wkRep.take j)) := own_onl h.own ho (fun k hk hf => by
    have h1 := hv k hk
    obtain ⟨cs, hc⟩ := ownBlk h.own k hk
    rcases hf with e | e | ⟨-, cs', e⟩
    · exact (hne hc (by decide)).1 e
    · exact (hne hc (by decide)).2 e
    · exact absurd (blk_one hc e) (by decide))
  have wk3 : WkS base A bm (j + 1) W3 := hk.onl (F := fun _ => False) (Onl.below hal) (fun _ hf => hf.elim)
  have own3 : W3.ownsRow T 9 1 v j (strsV (wkRep.take j)) := ownKeep own2 (below_gr (row := none) hal) (fun _ _ => by simp)
  have out3 := out2.kept hal
  have ab3 := ab2.kept hal
  have hvne : ∀ k, k < T → some k ≠ v.ownBlock := fun k hk e => by have := (hv k e.symm).1; omega
  have wkE : WkS base A bm (j + 1) We := wk3.onl (F := fun k => v.ownBlock = some k) ⟨hg.os, hg.tape, hg.output, hg.size, fun k hk hn => hg.block k hk (fun e => hn e.symm)⟩ (fun k hk => by
    obtain ⟨cs, hc⟩ := ownBlk own3 k hk
    have h1 := wk3.ne hc (by decide)
    have h2 := (hv k hk).1
    exact ⟨noSt_of hc (by decide), h1.1, h1.2, by omega⟩)
  have outE := out3.grown hg (hvne OB (by omega))
  have abE := ab3.grown hg (hvne AB (by omega))
  have hgs : We.grownBy (We.setCell ⟨OB, 0, none⟩ v') (some OB) := gr_setC (World.grownBy.refl _ _) 0 _
  have s1 : W.heap.size ≤ W2.heap.size := ho.2.2.2.1
  have s2 : W2.heap.size ≤ W3.heap.size := hal.size
  have s3 : W3.heap.size ≤ We.heap.size := hg.size
  have kf1 : KeepsFrom T W W2 := ⟨s1, fun k o hk hko hoc => by
    refine (ho.2.2.2.2 k (Array.getElem?_eq_some_iff.1 hko).1 ?_).trans hko
    rintro (e | e | ⟨-, cs', e⟩)
    · subst e
      obtain ⟨S, L, X, Ar, G, C, hA⟩ := h.wk
      obtain ⟨T', ⟨h4, -⟩, -⟩ := hA.agg
      rw [show W.heap[k]? = _ from h4] at hko
      cases hko
      cases hoc
    · omega
    · rw [show W.heap[k]? = _ from e] at hko
      cases hko
      cases hoc⟩
  have kf2 : KeepsFrom T W2 W3 := (kept_others (below_gr (row := none) hal) (fun g e => by cases e)).from _
  have kf3 : KeepsFrom T W3 We := (kept_others hg (fun g e => by
    obtain ⟨cs, q⟩ := ownBlk own3 g e
    exact ⟨_, _, q⟩)).from _
  have kf4 : KeepsFrom T We (We.setCell ⟨OB, 0, none⟩ v') := (kept_others hgs (fun g e => ⟨_, _, by cases e; exact outE⟩)).from _
  have nk : ∀ k t cs, Blk W k t cs → t ≠ 77 → t ≠ 2 → k < T → k ≠ OB → (We.setCell ⟨OB, 0, none⟩ v').heap[k]? = W.heap[k]? := fun k t cs hb h1 h2 h3 h4 => by
    have q2 : Blk W2 k t cs := ho.blk hb (hne hb h1).1 (hne hb h1).2 h2
    have q3 := (q2.kept hal).grown hg (hvne k h3)
    have q4 := q3.grown hgs (by simpa using h4)
    exact q4.trans hb.symm
  obtain ⟨x0, c0⟩ := hb0
  obtain ⟨x1, c1⟩ := hb1
  obtain ⟨x2, c2⟩ := hb2
  refine ⟨((kf1.trans kf2).trans kf3).trans kf4, ⟨by have := hgs.size; omega, fun i hi => ?_⟩, ?_⟩
  · simp at hi
    rcases hi with rfl | rfl | rfl
    · exact nk _ _ _ c0 (by decide) (by decide) (by omega) (by omega)
    · exact nk _ _ _ c1 (by decide) (by decide) (by omega) (c1.ne_ h.out (by decide))
    · exact nk _ _ _ c2 (by decide) (by decide) (by omega) (c2.ne_ h.out (by decide))
  · exact { top := by have := hgs.size; have := h.top; omega
            wk := wkE.onl (Onl.of_gr hgs) (fun k hk => by
              subst hk
              have h1 := wkE.ne outE (by decide)
              exact ⟨noSt_of outE (by decide), h1.1, h1.2, by omega⟩)
            out := by simpa using outE.set_ 0 v'
            ab := abE.grown hgs (by simpa using (abE.ne_ outE (by decide)))
            own := by
              have e1 : strsV (wkRep.take (j + 1)) = strsV (wkRep.take j) ++ [.string (sB (wkRep.getD j []))] := by
                have hl : j < wkRep.length := hj
                rw [List.take_add_one, strsV, strsV, List.map_append, List.getD_eq_getElem?_getD, List.getElem?_eq_getElem hl]
                rfl
              rw [e1]
              refine ownKeep hown hgs (fun k hk e => ?_)
              have e := Option.some.inj e
              obtain ⟨cs, hq⟩ := ownBlk hown k hk
              rw [← e] at hq
              exact absurd rfl (outE.ne_ hq (by decide))
            bel := by
              have b1 := ho.to_below (by omega) hlt.2.2.1 hlt.2.2.2
              have b2 : Below w.heap.size W2 W3 := hal.mono (by have := h.bel.size; omega)
              exact (((h.bel.trans (b1.mono hlo.2.2.2.2.2.2.2.2.1)).trans b2).grown hg (by have := h.bel.size; omega) (fun k e => by have := (hv k e).1; omega)).setCell hlo.1 _
            lo := hlo }
theorem wkNo : ∀ a ∈ wkLine, ∀ x ∈ a, x ≠ 10 := by decide
theorem wkStep (base A bm j : Nat) (hj : j < 7) (hg : 4 < base) (W : World) (h : WkS base A bm j W) : Calls Tryz.prog 8 #[.pointer (some ⟨A, 0, none⟩), .string (sB (wkLine.getD j []))] W (WkPost base A bm j W) := by
  match j, hj with
  | 0, _ => exact wk0 base A bm hg W h
  | 1, _ => exact wk1 base A bm hg W h
  | 2, _ => exact wk2 base A bm hg W h
  | 3, _ => exact wk3 base A bm W h
  | 4, _ => exact wk4 base A bm W h
  | 5, _ => exact wk5 base A bm W h
  | 6, _ => exact wk6 base A bm W h
set_option maxRecDepth 100000 in
set_option maxHeartbeats 16000000 in
theorem run_small (w : World) (ht : Tab w) : Calls Tryz.prog 19 #[.string (sB (joinN wkLine))] w fun e w' => ∃ v, e = .returned v ∧ w'.ownsRow w.heap.size 9 1 v 7 (strsV wkRep) ∧ Below w.heap.size w w' := by
 obtain ⟨iS, hi, hz0, hz1, hz2⟩ := info_parts (show (Tryz.prog.info? 9).map (fun i => (i.zero, i.size, i.bytes)) = some (some (.string ⟨#[]⟩), 1, 16) by kernel_rfl)
 have HT := Lib.hid ht
 have hTsz : (sB (joinN wkLine)).size ≤ 1000 := by rw [sB_size]; decide
 obtain ⟨TX, hTX⟩ : ∃ TX, TX = sB (joinN wkLine) := ⟨_, rfl⟩
 have HTX := Lib.hid hTX
 rw [← hTX] at hTsz ⊢
 have PN := Lib.hid (fun w => aggnew w)
 have PS := Lib.hid (fun w => splitseq TX ⟨#[10]⟩ w)
 have hb0 : Below w.heap.size w (w.alloc (.cells #[.slice none 0 0] 48)) := (Below.refl _ _).alloc (Nat.le_refl _) _
 have HB0 := Lib.hid hb0
 have HO0 := Lib.hid (Blk.new w 48 #[.slice none 0 0])
 clear ht hTX hb0
 refine (callsIn_wide (n := 6)).1 ?_
 refine callsIn_of_wp_marks Tryz.func19 rfl trivial ?_ rfl
 simp only [Tryz.ntmps19, List.size_toArray, List.length_cons, List.length_nil, Nat.reduceAdd, Nat.reduceSub, Array.replicate_succ, Array.replicate_zero, List.push_toArray, List.append_toArray, List.nil_append, List.cons_append]
 gi_wp2_with fail
 generalize (w.alloc (.cells #[.slice none 0 0] 48)) = w1 at *
 refine ⟨trivial, ?_⟩
 with_reducible refine (callsIn_wide.2 (PN.out _)).mono ?_
 rintro e w2 ⟨A, bm, rfl, hA1, hA2, hagg, hb2⟩
 have HAG := Lib.hid hagg
 have HAL := Lib.hid (And.intro hA1 hA2)
 have HB2 := Lib.hid (btr HB0.out hb2)
 have HO2 := Lib.hid ((show Blk w1 w.heap.size 48 #[.slice none 0 0] from HO0.out).kept hb2)
 have HW1 : Hid (w.heap.size < w1.heap.size ∧ w1.heap.size ≤ w2.heap.size) := Lib.hid ⟨(show Blk w1 w.heap.size 48 #[.slice none 0 0] from HO0.out).lt, hb2.size⟩
 clear hA1 hA2 hagg hb2 PN HB0 HO0
 gi_wp2_with fail
 have hb3 : Below w2.heap.size w2 (w2.alloc (.cells #[.pointer (some ⟨A, 0, none⟩)] 30)) := (Below.refl _ _).alloc (Nat.le_refl _) _
 have HAG3 := Lib.hid (HAG.out.kept hb3)
 have HB3 := Lib.hid (btr HB2.out hb3)
 have HO3 := Lib.hid (HO2.out.kept hb3)
 have HA3 := Lib.hid (Blk.new w2 30 #[.pointer (some ⟨A, 0, none⟩)])
 clear hb3 HAG HB2 HO2
 generalize (w2.alloc (.cells #[.pointer (some ⟨A, 0, none⟩)] 30)) = w3 at *
 refine ⟨trivial, ?_⟩
 with_reducible refine (callsIn_wide.2 (PS.out _)).mono ?_
 rintro e w4 ⟨rfl, hw4⟩
 obtain ⟨B0, hB0⟩ : ∃ B0, B0 = w3.heap.size := ⟨_, rfl⟩
 have hx0 : Blk w4 B0 9 #[.string TX] := by
  rw [hw4, hB0]
  exact ((Blk.new w3 9 #[.string TX]).kept ((Below.refl _ _).alloc (Nat.le_refl _) _)).kept ((Below.refl _ _).alloc (Nat.le_refl _) _)
 have hx1 : Blk w4 (B0 + 1) 9 #[.string ⟨#[10]⟩] := by
  rw [hw4, hB0]
  have := (Blk.new (w3.alloc (.cells #[.string TX] 9)) 9 #[.string ⟨#[10]⟩]).kept ((Below.refl _ _).alloc (Nat.le_refl _) (.cells #[.int .i64 0] 3))
  simpa using this
 have hx2 : Blk w4 (B0 + 1 + 1) 3 #[.int .i64 0] := by
  rw [hw4, hB0]
  have := Blk.new ((w3.alloc (.cells #[.string TX] 9)).alloc (.cells #[.string ⟨#[10]⟩] 9)) 3 #[.int .i64 0]
  simpa using this
 have hb4 : Below w3.heap.size w3 w4 := by
  rw [hw4]
  exact (((Below.refl _ _).alloc (Nat.le_refl _) _).alloc (by simp) _).alloc (by simp; omega) _
 have hs4 : w4.heap.size = B0 + 1 + 1 + 1 := by rw [hw4, hB0]; simp
 subst hB0
 have hAG4 := HAG3.out.kept hb4
 have hgt : 4 < w.heap.size := HT.out.lt
 have hW := HW1.out
 have hL := HAL.out
 have hsz3 : w2.heap.size < w3.heap.size := HA3.out.lt
 have hbm := HAG3.out.lt.2
 have hI0 : RunI w w4 w1.heap.size A bm w.heap.size w2.heap.size w3.heap.size (w3.heap.size + 1) (w3.heap.size + 1 + 1) w4.heap.size 0 (.slice none 0 0) := {
  top := Nat.le_refl _
  wk := ⟨fun _ => 0, fun _ => 0, fun _ _ => undef, fun _ _ => 0, fun _ _ => 0, fun _ _ => 0, by rw [if_pos rfl]; exact AggSt.zero hAG4 hL.1 hL.2 (HT.out.kept (btr HB3.out hb4))⟩
  out := (show Blk w3 w.heap.size 48 #[.slice none 0 0] from HO3.out).kept hb4
  ab := (show Blk w3 w2.heap.size 30 #[.pointer (some ⟨A, 0, none⟩)] from HA3.out).kept hb4
  own := World.ownsRow_nil _ _ _ _
  bel := btr HB3.out hb4
  lo := by omega }
 have HI0 := Lib.hid hI0
 have HX := Lib.hid (And.intro hx0 (And.intro hx1 hx2))
 have HSZ := Lib.hid (And.intro hs4 hgt)
 clear hx0 hx1 hx2 hb4 hAG4 hW hL hsz3 hbm hI0 hs4 hgt hw4 HAG3 HB3 HO3 HA3 PS
 gi_wp2_with fail
 refine wpIn_rangeFunc_ord rfl (by omega) (gf := 117) (lb := #[.pointer (some ⟨w3.heap.size + 1, 0, none⟩), .pointer (some ⟨w3.heap.size, 0, none⟩), .pointer (some ⟨w3.heap.size + 1 + 1, 0, none⟩)]) rfl trivial (enters_of Tryz.func117 (by kernel_rfl) rfl)
  (fun j => #[.string (sB (wkLine.getD j []))]) 7 w3.heap.size 9 (KpB [w3.heap.size, w3.heap.size + 1, w3.heap.size + 1 + 1]) (by have := HSZ.out; omega)
  (fun l J W hW hJ hY h0 => split1 (6 - 1) (by omega) l w3.heap.size (w3.heap.size + 1) (w3.heap.size + 1 + 1) wkLine (by decide) wkNo (by decide) J hJ hY W (by rw [← HTX.out]; exact HX.out.1.kept hW) (by omega) (HX.out.2.1.kept hW) (HX.out.2.2.kept hW) h0) KpB.trans (fun W l o o' hl _ _ => ⟨by simp, fun i hi => World.putObj_heap_other (by have := HSZ.out; simp at hi; omega)⟩) (fun _ => rfl)
  (fun j W => ∃ v, RunI w W w1.heap.size A bm w.heap.size w2.heap.size w3.heap.size (w3.heap.size + 1) (w3.heap.size + 1 + 1) w4.heap.size j v ∧ Blk W (w3.heap.size + 1) 9 #[.string ⟨#[10]⟩] ∧ Blk W (w3.heap.size + 1 + 1) 3 #[.int .i64 0] ∧ ∃ s, Blk W w3.heap.size 9 #[.string s])
  (fun j W W' row hs hg hr => by
   obtain ⟨v, hs, h1, h2, s, h3⟩ := hs
   exact ⟨v, hs.walked hg hr, h1.walked hg (fun r e => (hr r e).2), h2.walked hg (fun r e => (hr r e).2), s, h3.walked hg (fun r e => (hr r e).2)⟩)
  (fun j A s hs hb => by
   obtain ⟨v, hs, h1, h2, s0, h3⟩ := hs
   have hg : A.grownBy (A.setCell ⟨w3.heap.size, 0, none⟩ (.string s)) (some w3.heap.size) := gr_setC (World.grownBy.refl _ _) 0 _
   exact ⟨v, hs.box s hb, h1.grown hg (by simp), h2.grown hg (by simp; omega), s, by simpa using h3.set_ 0 (.string s)⟩)
  ⟨_, HI0.out, HX.out.2.1, HX.out.2.2, TX, HX.out.1⟩ (fun j => { tmps := #[.string TX, undef, .slice none 0 0, .pointer (some ⟨w.heap.size, 0, none⟩), .pointer (some ⟨w2.heap.size, 0, none⟩), .string (sB (wkLine.getD j [])), undef, undef, .string TX, .int .i64 (TX.size : Int), .bool (decide (1048576 < (TX.size : Int))), undef, undef, undef, .pointer (some ⟨A, 0, none⟩), .string TX,
   .func (.func 117) #[] #[.pointer (some ⟨w3.heap.size + 1, 0, none⟩), .pointer (some ⟨w3.heap.size, 0, none⟩), .pointer (some ⟨w3.heap.size + 1 + 1, 0, none⟩)], .string (sB (wkLine.getD j [])), undef, undef, undef, undef, undef, undef, undef, undef, undef, undef, undef, undef], defers := [] }) ?assign ?body ?done
 case assign =>
  intro l j W K hK
  gi_wp2
  exact hK
 case body =>
  intro l j W hl hj hI
  obtain ⟨v, hI, k1, k2, s, k3⟩ := hI
  obtain ⟨ao, cap, hv⟩ := own_form hI.own
  subst hv
  have PL := Lib.hid (wkStep w1.heap.size A bm j hj (by have := hI.lo; omega) W hI.wk)
  have HI := Lib.hid hI
  have HK := Lib.hid (And.intro k1 (And.intro k2 k3))
  have c4 := hI.ab.cell 0
  simp at c4
  obtain ⟨LN, hLN⟩ : ∃ LN, LN = sB (wkLine.getD j []) := ⟨_, rfl⟩
  rw [← hLN] at PL ⊢
  obtain ⟨RP, hRP⟩ : ∃ RP, RP = sB (wkRep.getD j []) := ⟨_, rfl⟩
  have HRP := Lib.hid hRP
  unfold WkPost at PL
  rw [← hRP] at PL
  clear hI k1 k2 k3 hLN hRP
  gi_wp2_with fail
  refine ⟨trivial, ?_⟩
  refine (CallsIn.inRound l (callsIn_wide.2 PL.out)).mono ?_
  rintro e W2 ⟨rfl, hk2, ho⟩
  have HK2 := Lib.hid hk2
  have HO := Lib.hid ho
  have hne := HI.out.wk.ne HI.out.out (by decide)
  have out2 : Blk W2 w.heap.size 48 #[.slice ao j cap] := ho.blk HI.out.out hne.1 hne.2 (by decide)
  have hown2 : W2.ownsRow w4.heap.size 9 1 (.slice ao j cap) j (strsV (wkRep.take j)) := own_onl HI.out.own ho (fun k hk hf => by
   obtain ⟨cs, hc⟩ := ownBlk HI.out.own k hk
   rcases hf with e | e | ⟨-, cs', e⟩
   ·exact (HI.out.wk.ne hc (by decide)).1 e
   ·exact (HI.out.wk.ne hc (by decide)).2 e
   ·exact absurd (blk_one hc e) (by decide))
  have HOW := Lib.hid hown2
  have HTP : Hid (w4.heap.size ≤ W2.heap.size) := Lib.hid (Nat.le_trans HI.out.top ho.2.2.2.1)
  have hal : Below W2.heap.size W2 (W2.alloc (.cells #[.string RP] 9)) := (Below.refl _ _).alloc (Nat.le_refl _) _
  have OB2 := Lib.hid out2
  have c0 := out2.cell 0
  simp at c0
  have out3 := out2.kept hal
  have OB3 := Lib.hid out3
  have hmx : j + 1 ≤ maxLen := by unfold maxLen; omega
  have hby : (j + 1) * 16 ≤ 140737488355328 := by omega
  clear hk2 ho hne out2 hown2 hal c4 PL
  gi_wp2_with (gi_at_builtin; refine wpListIn_append_own _ rfl _ _ 48 rfl w4.heap.size 9 iS (.string ⟨#[]⟩) 1 16 Tryz.underlying48 hi hz0 hz1 hz2 rfl (by decide) _ _ _ rfl (HOW.out.alloc _) ⟨W2.heap.size, 0, none⟩ 1 1 [.string RP] rfl rfl (cell_one_new _ _ _) (by simp [Value.oneCell']) hmx hby (by have := HTP.out; simp; omega) ?_)
  intro v' We hown' hgrow hnil
  obtain ⟨ao', cap', hv'⟩ := own_form hown'
  subst hv'
  have hoe : Blk We w.heap.size 48 #[.slice ao j cap] := OB3.out.grown hgrow (fun e => by have := (HOW.out.lt _ e.symm).1; have := HI.out.lo; omega)
  have d0 := hoe.cell 0
  have f0 := hoe.frozen 0
  simp at d0
  have HR := Lib.hid (HI.out.round HK2.out HO.out ⟨_, HK.out.1⟩ ⟨_, HK.out.2.1⟩ hj (by rw [← HRP.out]; exact hown') (by rw [← HRP.out]; exact hgrow) ⟨s, HK.out.2.2⟩)
  have HK9 := Lib.hid (And.intro (HR.out.2.1.blk (by simp) HK.out.1) (And.intro (HR.out.2.1.blk (by simp) HK.out.2.1) (HR.out.2.1.blk (by simp) HK.out.2.2)))
  clear hown' hgrow hnil hoe c0 HI HK2 HO HOW OB2 OB3
  gi_wp2_with fail
  exact ⟨HR.out.1, HR.out.2.1, _, HR.out.2.2, HK9.out.1, HK9.out.2.1, s, HK9.out.2.2⟩
 case done =>
  intro D W hD hI hK
  obtain ⟨v, hI, -⟩ := hI
  obtain ⟨ao, cap, hv⟩ := own_form hI.own
  subst hv
  have hlo := hI.lo
  have hgd := grownBy_putObj' W D (.deferred none)
  have HOW := Lib.hid (ownKeep (ownBase hI.own (base' := w.heap.size) (by omega)) hgd (fun k hk e => by
   have e := Option.some.inj e
   obtain ⟨cs, hq⟩ := ownBlk hI.own k hk
   rw [← e] at hq
   exact hq.not_other hK rfl rfl))
  have HBW := Lib.hid (hI.bel.grown hgd hI.bel.size (fun k e => by have e := Option.some.inj e; omega))
  have c0 := hI.out.cell 0
  simp at c0
  have HKD := Lib.hid hK
  clear hI hK hlo hgd
  gi_wp2_with fail
  refine ⟨by simp, .inl ⟨_, _, rfl, run_takeDeferred HKD.out, ?_⟩⟩
  refine ⟨.slice ao 7 cap, ?_, _, rfl, HOW.out, HBW.out⟩
  simp [results, Tryz.results19, go_sem]
end Go.Proofs.YtfeficdndjiijaaGreatDoor


namespace Go.Proofs.YtfeficdndjiijaaGreatDoor
open Go.RowKit
set_option linter.unusedVariables false
set_option linter.unusedSimpArgs false

def wExport : List UInt8 := [101, 120, 112, 111, 114, 116]
theorem line_export (w : World) (base A bm n : Nat) (b r d m s : Int) (S L : Nat → Nat) (X : Nat → Nat → Value) (Ar G C : Nat → Nat → Nat) (Z : Nat → Nat → List Int) (h : AggSt w base A bm n b r d m s S L X Ar G C Z) (hn : n ≤ 32) (s0 : 0 ≤ s) (s1 : s < 18446744073709551616)
  (i : Nat) (h1 : 1 ≤ i) (h2 : i ≤ n) (hl : (headB b r d m s ++ rowsB (Z i) (b.toNat + 1)).length ≤ 100000) (hl2 : (encB b r d m s (Z i)).length ≤ 1000000) (hby : Byts (encB b r d m s (Z i))) :
  Calls Tryz.prog 8 #[.pointer (some ⟨A, 0, none⟩), .string (sB (joinW [wExport, Lib.itoa (i : Int)]))] w fun e w' => ∃ t, e = .returned (.tuple #[.string t, .bool true]) ∧ t = sB ([98, 121, 116, 101, 115, 32] ++ hexT (encB b r d m s (Z i))) ∧
   AggSt w' base A bm n b r d m s S L X Ar G C Z ∧ Below w.heap.size w w' := by
 obtain ⟨T, hT1, hT2⟩ := h.agg
 have hi64 : In64 (i : Int) := by unfold In64; omega
 refine line_of A _ w (fun c _ => c = .iface 123 (.agg #[.string (sB [101, 120, 112, 111, 114, 116]), .int .i64 (i : Int), .slice none 0 0]))
  (fun rr w2 => (∃ v, rr = .iface 158 (.agg #[v]) ∧ BytesAt w2 v (encB b r d m s (Z i))) ∧ AggSt w2 base A bm n b r d m s S L X Ar G C Z ∧ Below w.heap.size w w2)
  _ (fun c _ hc => ⟨_, _, hc⟩) ?_ ?_ ?_
 ·refine parse_ws _ (stays_eq _) _ (fun a ha => ?_) (by simp) (by simp) w h.tab (fun w1 R v en hle hr1 hv ht1 => ?_)
  ·simp only [List.mem_cons, List.mem_nil_iff, or_false] at ha
   rcases ha with rfl | rfl
   ·exact plainLit _ (by decide)
   ·exact num_plain _ hi64.1 hi64.2
  ·refine (cmd_export w1 R v _ en i hr1 hv rfl (by simp) rfl hi64 ht1).mono ?_
   rintro e w' ⟨rfl, h2, h3⟩
   exact ⟨_, rfl, rfl, h2, h3⟩
 ·rintro c w1 hb1' rfl
  refine do_query w1 A (sB [101, 120, 112, 111, 114, 116]) (i : Int) none 0 0 _ (fun w2 hb2 => ?_)
  have hb12 := btr hb1' hb2
  have hk2 := hT1.kept hb12
  refine (agg_export w2 A bm n T i (S i) (fun v w' => BytesAt w' v (encB b r d m s (Z i))) hk2 (by omega) (by omega) (by omega) (by rw [Int.toNat_natCast]; exact hT2 i h1 h2) (fun w3 hb3 => ?_)).mono ?_
  ·have h3 := h.kept (btr hb12 hb3)
   refine (encode_any w3 base (S i) (L i) b r d m s (X i) (Ar i) (G i) (C i) (Z i) (h3.st i h1 h2) s0 s1 hl).mono ?_
   rintro e w' ⟨v', rfl, ho, hb⟩
   obtain ⟨ao, cap, hv, -⟩ := ho.at
   subst hv
   exact ⟨⟨_, _, _, rfl, ho.at⟩, hb⟩
  ·rintro e w4 ⟨⟨ao, k, cp, rfl, hB⟩, hb4⟩
   exact ⟨_, rfl, ⟨_, rfl, hB⟩, h.kept (btr hb12 hb4), btr hb12 hb4⟩
 ·rintro rr w2 ⟨⟨v, rfl, hB⟩, hA, hb⟩
  refine (text_bytes w2 _ v hB hl2 hby).mono ?_
  rintro e w3 ⟨rfl, hb3⟩
  exact ⟨_, rfl, rfl, hA.kept hb3, btr hb hb3⟩
end Go.Proofs.YtfeficdndjiijaaGreatDoor


namespace Go.Proofs.YtfeficdndjiijaaGreatDoor
open Go.RowKit
set_option linter.unusedVariables false
set_option linter.unusedSimpArgs false

theorem hexD_is (d : Nat) (h : d < 16) : (48 ≤ (hexD d).toNat ∧ (hexD d).toNat ≤ 57) ∨ (97 ≤ (hexD d).toNat ∧ (hexD d).toNat ≤ 102) := by
  have H : ∀ d : Fin 16, (48 ≤ (hexD d.val).toNat ∧ (hexD d.val).toNat ≤ 57) ∨ (97 ≤ (hexD d.val).toNat ∧ (hexD d.val).toNat ≤ 102) := by decide
  exact H ⟨d, h⟩
theorem hexT_chars (bs : List Int) (hb : Byts bs) : ∀ x ∈ hexT bs, (48 ≤ x.toNat ∧ x.toNat ≤ 57) ∨ (97 ≤ x.toNat ∧ x.toNat ≤ 102) := by
  intro x hx
  unfold hexT at hx
  obtain ⟨a, ha, hx⟩ := List.mem_flatMap.1 hx
  have := hb a ha
  simp at hx
  rcases hx with rfl | rfl
  · exact hexD_is _ (by omega)
  · exact hexD_is _ (by omega)
theorem hexT_plain (bs : List Int) (hb : Byts bs) (h1 : 1 ≤ bs.length) (hl : bs.length ≤ 2000) : PlainW (hexT bs) := by
  have hc := hexT_chars bs hb
  have hlen := hexT_len bs
  refine ⟨⟨fun e => ?_, ?_, fun x hx e => ?_⟩, fun x hx => ?_, by omega⟩
  · rw [e] at hlen; simp at hlen; omega
  · intro e
    have := hc 34 (List.mem_of_mem_head? e)
    revert this
    decide
  · have := hc x hx
    subst e
    revert this
    decide
  · rcases hc x hx with h | h <;> omega
def wImport : List UInt8 := [105, 109, 112, 111, 114, 116]
def ImpIs (bs : List Int) (c : Value) (w : World) : Prop := ∃ ao cap, c = .iface 129 (.agg #[.slice ao bs.length cap]) ∧ BytesAt w (.slice ao bs.length cap) bs
theorem imp_stays (bs : List Int) : Stays (ImpIs bs) := fun c w w' h hb => by
  obtain ⟨ao, cap, h1, h2⟩ := h
  exact ⟨ao, cap, h1, h2.kept hb⟩
def ImpRes (bs : List Int) (base A bm : Nat) (T : Nat → Option Nat × Option Nat) (t : ByteArray) (w' : World) : Prop :=
  (∃ b r d m s Z S L X Ar G C, DecS bs b r d m s Z ∧ t = sB ([104, 97, 110, 100, 108, 101, 32] ++ Lib.itoa 1) ∧ AggSt w' base A bm 1 b r d m s S L X Ar G C (fun _ => Z)) ∨
  (DecNo bs ∧ t = sB ([101, 114, 114, 111, 114, 32] ++ Lib.itoa (errOf bs)) ∧ AggIs w' A bm 0 T ∧ Tab w')
theorem errOf_in (bs : List Int) : errOf bs = 8 ∨ errOf bs = 9 := by
  unfold errOf
  split
  · exact .inl rfl
  · split
    · exact .inl rfl
    · exact .inr rfl
theorem line_import (w : World) (base A bm : Nat) (T : Nat → Option Nat × Option Nat) (h : AggIs w A bm 0 T) (hA : base ≤ A) (hB : base ≤ bm) (hbs : base ≤ w.heap.size) (hg : 4 < base) (ht : Tab w) (bs : List Int) (hb : Byts bs) (h1 : 1 ≤ bs.length) (hl : bs.length ≤ 2000) :
  Calls Tryz.prog 8 #[.pointer (some ⟨A, 0, none⟩), .string (sB (joinW [wImport, hexT bs]))] w fun e w' => ∃ t, e = .returned (.tuple #[.string t, .bool true]) ∧ ImpRes bs base A bm T t w' ∧ Below base w w' := by
 refine line_two A _ w (ImpIs bs)
  (fun rr w2 => rr = .iface 135 (.agg #[.int .i64 1]) ∧ (∃ b r d m s Z S L X Ar G C, DecS bs b r d m s Z ∧ AggSt w2 base A bm 1 b r d m s S L X Ar G C (fun _ => Z)) ∧ Below base w w2)
  (fun er w2 => er = errOf bs ∧ DecNo bs ∧ AggIs w2 A bm 0 T ∧ Tab w2 ∧ Below base w w2)
  _ (fun c _ hc => by obtain ⟨ao, cap, hc, -⟩ := hc; exact ⟨_, _, hc⟩) ?_ ?_ ?_ ?_
 ·refine parse_ws _ (imp_stays bs) _ (fun a ha => ?_) (by simp) (by simp) w ht (fun w1 R v en hle hr1 hv ht1 => ?_)
  ·simp only [List.mem_cons, List.mem_nil_iff, or_false] at ha
   rcases ha with rfl | rfl
   ·exact plainLit _ (by decide)
   ·exact hexT_plain bs hb h1 hl
  ·refine (cmd_import w1 R v _ en bs hb h1 (by omega) hr1 hv rfl (by simp) rfl).mono ?_
   rintro e w' ⟨⟨x, rfl, hx⟩, h2, h3⟩
   have hx2 := hx
   obtain ⟨ao, cap, e1, -⟩ := hx2
   subst e1
   exact ⟨_, rfl, ⟨_, _, rfl, hx⟩, h2, h3⟩
 ·rintro c w1 hb1 ⟨ao, cap, rfl, hx⟩
  refine do_import w1 A ao bs.length cap _ (fun p er w2 => ((∃ b r d m s Z S L X Ar G C, p = some ⟨S, 0, none⟩ ∧ er = 0 ∧ DecS bs b r d m s Z ∧ StIs w2 w1.heap.size S L b r d m s X Ar G C Z) ∨ (p = none ∧ er = errOf bs ∧ DecNo bs)) ∧ Below w1.heap.size w1 w2) ?_ ?_
  ·intro w2 hb2
   refine (decode_any w2 _ bs (hx.kept hb2) hb (by omega)).mono ?_
   rintro e w3 ⟨h3, hb3⟩
   have hb4 := btr hb2 hb3
   rcases h3 with ⟨b, r, d, m, s, Z, S, L, X, Ar, G, C, hd, rfl, -, hst⟩ | ⟨hn, rfl⟩
   ·exact ⟨_, _, rfl, .inl ⟨b, r, d, m, s, Z, S, L, X, Ar, G, C, rfl, rfl, hd, hst.low_ hb2.size⟩, hb4⟩
   ·exact ⟨_, _, rfl, .inr ⟨rfl, rfl, hn⟩, hb4⟩
  ·rintro p er w2 ⟨h3, hb2⟩
   have hb12 := btr hb1 hb2
   have hk := h.kept hb12
   have htk := ht.kept hb12
   rcases h3 with ⟨b, r, d, m, s, Z, S, L, X, Ar, G, C, rfl, rfl, hd, hst⟩ | ⟨rfl, rfl, hn⟩
   ·refine (aggmade w2 A bm 0 T (some S) none hk (by omega)).mono ?_
    rintro e w3 ⟨rfl, ha3, hc⟩
    have hz : AggSt w2 base A bm 0 b r d m s (fun _ => 0) (fun _ => 0) (fun _ _ => undef) (fun _ _ => 0) (fun _ _ => 0) (fun _ _ => 0) (fun _ => Z) := AggSt.zero hk hA hB htk
    have hp := hz.push (fun i h1 h2 => by omega) hg (Nat.le_trans hbs hb1.size) (fun i p h1 h2 h3 => by omega) hst ha3 hc hk.noSt
    refine ⟨_, _, rfl, .inl ⟨rfl, rfl, ⟨b, r, d, m, s, Z, _, _, _, _, _, _, hd, hp.setZ (fun i p h1 h2 h3 => by rw [show i = 0 + 1 by omega, upN_same])⟩, ?_⟩⟩
    exact (hb12.mono hbs).trans (Onl.to_below (Onl.of_chg hc) (Nat.le_trans hbs hb12.size) (fun k hk => by simp at hk; rcases hk with rfl | rfl <;> omega))
   ·have he : errOf bs ≠ 0 := by rcases errOf_in bs with e | e <;> omega
    refine (made_err w2 A none (errOf bs) he none).mono ?_
    rintro e w3 ⟨rfl, hb3⟩
    exact ⟨_, _, rfl, .inr ⟨he, rfl, hn, hk.kept hb3, htk.kept hb3, (btr hb12 hb3).mono hbs⟩⟩
 ·rintro rr w2 ⟨rfl, ⟨b, r, d, m, s, Z, S, L, X, Ar, G, C, hd, ha⟩, hB2⟩
  refine (text_handle 1 (by omega) (by omega) w2 ha.tab).mono ?_
  rintro e w3 ⟨rfl, hb3⟩
  exact ⟨_, rfl, .inl ⟨b, r, d, m, s, Z, S, L, X, Ar, G, C, hd, rfl, ha.kept hb3⟩, hB2.trans (hb3.mono (Nat.le_trans hbs hB2.size))⟩
 ·rintro er w2 ⟨rfl, hn, ha, ht2, hB2⟩
  refine (errtext (errOf bs) (by rcases errOf_in bs with e | e <;> (rw [e]; unfold In64; omega)) w2 ht2).mono ?_
  rintro e w3 ⟨rfl, hb3⟩
  exact ⟨_, rfl, .inr ⟨hn, rfl, ha.kept hb3, ht2.kept hb3⟩, hB2.trans (hb3.mono (Nat.le_trans hbs hB2.size))⟩
end Go.Proofs.YtfeficdndjiijaaGreatDoor


namespace Go.Proofs.YtfeficdndjiijaaGreatDoor
open Go.RowKit
set_option linter.unusedVariables false
set_option linter.unusedSimpArgs false

theorem line_add_nought (w : World) (base A bm n : Nat) (b r d m s : Int) (S L : Nat → Nat) (X : Nat → Nat → Value) (Ar G C : Nat → Nat → Nat) (Z : Nat → Nat → List Int) (h : AggSt w base A bm n b r d m s S L X Ar G C Z) (hg : 4 < base) (hn : n ≤ 32) (s0 : 0 ≤ s) (s1 : s ≤ 18446744073709551615) (hr : rightB b r d m = true) (i : Nat) (h1 : 1 ≤ i) (h2 : i ≤ n) (hf : ∀ p : Nat, p ≤ b.toNat → Fit (Z i p)) :
  Calls Tryz.prog 8 #[.pointer (some ⟨A, 0, none⟩), .string (sB (joinW [wAdd, Lib.itoa (i : Int), Lib.itoa ((0 : Nat) : Int), Lib.itoa 0]))] w fun e w' => ∃ t, e = .returned (.tuple #[.string t, .bool true]) ∧
   AggSt w' base A bm n b r d m s S L X Ar G C Z ∧ AOnl base A bm w w' := by
 have hR := right_of hr
 have hk : (((0 : Nat) : Nat) : Int) < keysI b r d m 0 := by
  rw [keysI_yes hr (by omega) (by omega)]
  have : (0 : Int) < (2 : Int) ^ (b - 0).toNat := Int.pow_pos (by decide)
  simpa using this
 refine (line_add w base A bm n b r d m s S L X Ar G C Z h hg hn s0 s1 i h1 h2 0 (by omega) 0 (by decide) (stErr_nought hr hk hf)).mono ?_
 rintro e W' ⟨t, rfl, -, ha', ho⟩
 refine ⟨t, rfl, ha'.setZ (fun j p _ _ _ => ?_), ho⟩
 by_cases e : j = i
 ·subst e
  rw [upN_same, stUpd_nought]
 ·rw [upN_other _ _ e]
end Go.Proofs.YtfeficdndjiijaaGreatDoor


namespace Go.Proofs.YtfeficdndjiijaaGreatDoor
open Go.RowKit
set_option linter.unusedVariables false
set_option linter.unusedSimpArgs false

set_option maxRecDepth 100000 in
set_option maxHeartbeats 4000000 in
theorem lines3 (A LB : Nat) (T : Nat → ByteArray) (P : Nat → ByteArray → World → Prop) (hblk : ∀ k t W, P k t W → Blk W LB 9 #[.string (T 0), .string (T 1), .string (T 2)])
  (hl : ∀ k t W, k < 3 → P k t W → Calls Tryz.prog 8 #[.pointer (some ⟨A, 0, none⟩), .string (T k)] W fun e W' => ∃ t', e = .returned (.tuple #[.string t', .bool true]) ∧ P (k + 1) t' W')
  (w : World) (h0 : P 0 ⟨#[]⟩ w) :
  Calls Tryz.prog 15 #[.pointer (some ⟨A, 0, none⟩), .slice (some ⟨LB, 0, none⟩) 3 3] w fun e w' => ∃ t, e = .returned (.string t) ∧ P 3 t w' := by
 have HB := Lib.hid hblk
 have HL := Lib.hid hl
 have H0 := Lib.hid h0
 clear hblk hl h0
 go_enter Tryz.func15, Tryz.ntmps15
 go_wp2_with fail
 go_loopw [5, 6] (fun s i wr => ∃ (k : Nat) (t : ByteArray), k ≤ 3 ∧ i = .int .i64 (k : Int) ∧ s = .string t ∧ P k t wr) (fun _ i _ => 3 - (intOf i).toNat)
 case atStart => exact ⟨0, _, by omega, rfl, rfl, H0.out⟩
 case round =>
  obtain ⟨k, t, hk, rfl, rfl, hp⟩ := hrel
  have HP := Lib.hid hp
  clear hp
  by_cases hlt : k < 3
  ·have hb := HB.out _ _ _ HP.out
   have hc : wr.cell? ⟨LB, k, none⟩ = some (.string (T k)) := by
    refine (hb.cell k).trans ?_
    match k, hlt with
    | 0, _ => rfl
    | 1, _ => rfl
    | 2, _ => rfl
   have PL := Lib.hid (HL.out k t wr hlt HP.out)
   have i0 : (0 : Int) ≤ (k : Int) := by omega
   have i1 : (k : Int) < 3 := by omega
   clear hb
   go_wp2_with fail
   with_reducible refine PL.out.mono ?_
   rintro e w2 ⟨t', rfl, hp⟩
   have HP2 := Lib.hid hp
   clear hp
   go_wp2_with fail
   go_roundw
   case rel => exact ⟨k + 1, t', by omega, by go_num, rfl, HP2.out⟩
   case measure => simp [intOf]; omega
  ·obtain rfl : k = 3 := by omega
   go_wp2_with fail
   go_ret
   exact ⟨t, rfl, HP.out⟩
end Go.Proofs.YtfeficdndjiijaaGreatDoor

