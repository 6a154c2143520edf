import Derived.Test.YtfeficdndjiijaaGreatDoorQzn
import Derived.Test.YtfeficdndjiijaaGreatDoorQzl
import Derived.Test.YtfeficdndjiijaaGreatDoorQzi
import Derived.Test.YtfeficdndjiijaaGreatDoorQzk
import Derived.Test.YtfeficdndjiijaaGreatDoorQzh
import Derived.StillTailTactics
import Derived.Laws.CopyOwn
/-
  Contracts of the functions that TopWindow reaches, and the plain laws that it leans on. Conditions: none beyond those stated at each theorem.
-/
namespace Go.Proofs.YtfeficdndjiijaaGreatDoor
open Go.RowKit
set_option linter.unusedVariables false
set_option linter.unusedSimpArgs false

def hvErr (pt : Nat → Nat → Int) (least budget : Int) (b : Nat) : Int := if least < 1 ∨ 4096 < budget then 1 else if budget < (askedUp pt least b (b + 1) : Int) then 7 else 0
def HvPost (w : World) (pt : Nat → Nat → Int) (least budget : Int) (b : Nat) (e : Ending) (w' : World) : Prop :=
  ∃ v, e = .returned (.tuple #[v, .int .i64 (hvErr pt least budget b)]) ∧ (hvErr pt least budget b = 0 → FdOwn w' w.heap.size v pt (hvOut pt least b (b + 1))) ∧ (hvErr pt least budget b ≠ 0 → v = .slice none 0 0) ∧ Below w.heap.size w w'
def PtIs (w : World) (S : Nat) (b : Nat) (r d m s : Int) (pt : Nat → Nat → Int) : Prop :=
  (∀ wq, Below w.heap.size w wq → Calls Tryz.prog 84 #[.pointer (some ⟨S, 0, none⟩)] wq fun e w' => e = .returned (.agg #[.int .i64 (b : Int), .int .i64 r, .int .i64 d, .int .i64 m, .int .u64 s]) ∧ Below wq.heap.size wq w') ∧
  ∀ wq, Below w.heap.size w wq → ∀ n i : Nat, n ≤ b → i < 2 ^ (b - n) → Calls Tryz.prog 94 #[.pointer (some ⟨S, 0, none⟩), .agg #[.int .i64 (n : Int), .int .u64 (i : Int)]] wq fun e w' => e = .returned (.tuple #[.int .i64 (pt n i), .int .i64 0]) ∧ Below wq.heap.size wq w'
set_option maxRecDepth 100000 in
set_option maxHeartbeats 8000000 in
theorem hvheavy (w : World) (S b : Nat) (r d m s : Int) (pt : Nat → Nat → Int) (hp : PtIs w S b r d m s pt) (hb1 : 1 ≤ b) (hb : b ≤ 59) (least budget : Int) (hl : In64 least) (hbu : In64 budget) :
  Calls Tryz.prog 97 #[.pointer (some ⟨S, 0, none⟩), .int .i64 least, .int .i64 budget] w (HvPost w pt least budget b) := by
 obtain ⟨iF, hF, hF0, hF1, hF2⟩ := info_parts Tryz.infoFd
 obtain ⟨iP, hP, hP0, hP1, hP2⟩ := info_parts Tryz.infoPc
 obtain ⟨hcf, hpt⟩ := hp
 have HCF := Lib.hid hcf
 have HPT := Lib.hid hpt
 clear hcf hpt
 by_cases h1 : least < 1 ∨ 4096 < budget
 ·have HQ : Hid (HvPost w pt least budget b (.returned (.tuple #[.slice none 0 0, .int .i64 1])) w) := Lib.hid (by
   have he : hvErr pt least budget b = 1 := by unfold hvErr; rw [if_pos h1]
   exact ⟨_, by rw [he], fun h => absurd h (by rw [he]; decide), fun _ => rfl, Below.refl _ _⟩)
  have d1 : (decide (least < 1) || decide (4096 < budget)) = true := by simp; omega
  go_enter Tryz.func97, Tryz.ntmps97
  by_cases hl1 : least < 1
  ·go_wp2
   go_ret2
   exact HQ.out
  ·have hb4 : 4096 < budget := by omega
   go_wp2
   go_ret2
   exact HQ.out
 ·have l1 : 1 ≤ least := by omega
  have l2 : budget ≤ 4096 := by omega
  have HE : Hid (hvErr pt least budget b = if budget < (askedUp pt least b (b + 1) : Int) then 7 else 0) := Lib.hid (by unfold hvErr; rw [if_neg h1])
  have HQ7 : Hid (∀ w', Below w.heap.size w w' → budget < (askedUp pt least b (b + 1) : Int) → HvPost w pt least budget b (.returned (.tuple #[.slice none 0 0, .int .i64 7])) w') := Lib.hid (fun w' hb' hh => by
   have he : hvErr pt least budget b = 7 := by rw [HE.out, if_pos hh]
   exact ⟨_, by rw [he], fun h => absurd h (by rw [he]; decide), fun _ => rfl, hb'⟩)
  have HQ0 : Hid (∀ w' v, Below w.heap.size w w' → ¬ budget < (askedUp pt least b (b + 1) : Int) → FdOwn w' w.heap.size v pt (hvOut pt least b (b + 1)) → HvPost w pt least budget b (.returned (.tuple #[v, .int .i64 0])) w') := Lib.hid (fun w' v hb' hh hf => by
   have he : hvErr pt least budget b = 0 := by rw [HE.out, if_neg hh]
   exact ⟨_, by rw [he], fun _ => hf, fun h => absurd he h, hb'⟩)
  clear h1
  go_enter Tryz.func97, Tryz.ntmps97
  go_wp2_with fail
  have hfd : ∀ w : World, (Instr.field 24 (.agg #[.int .i64 (b : Int), .int .i64 r, .int .i64 d, .int .i64 m, .int .u64 s]) 0).run Tryz.prog w = .ok (.int .i64 (b : Int)) w := fun _ => by kernel_rfl
  with_reducible refine (HCF.out w (Below.refl _ _)).mono ?_
  rintro e w2 ⟨rfl, hb2⟩
  have HB2 := Lib.hid hb2
  clear hb2
  go_wp2_with fail
  go_loopw [9, 10, 11, 34] (fun a o rw i wr => ∃ j : Nat, j ≤ b + 1 ∧ i = .int .i64 (j : Int) ∧ a = .int .i64 (askedUp pt least b j : Int) ∧ FdOwn wr w.heap.size o pt (hvOut pt least b j) ∧ (j ≤ b → PcOwn wr w.heap.size rw (b - j) (rowAt pt least b j)) ∧ (∀ k, rw.ownBlock = some k → o.ownBlock ≠ some k) ∧ askedUp pt least b j ≤ 4096 ∧ (0 < j → (askedUp pt least b j : Int) ≤ budget) ∧ (rowAt pt least b j).length ≤ 8192 ∧ Below w.heap.size w wr) (fun _ _ _ i _ => b + 1 - (intOf i).toNat)
  case atStart =>
   refine ⟨0, by omega, rfl, rfl, World.ownsRow_nil _ _ _ _, fun _ => ?_, by simp [Value.ownBlock], by show 0 ≤ 4096; decide, fun h => absurd h (by decide), by show 1 ≤ 8192; decide, HB2.out.alloc HB2.out.size _⟩
   exact World.ownsRow_lit (base := w.heap.size) (e := 155) (size := 2) w2 #[.int .i64 (b : Int), .int .u64 0] 1 HB2.out.size (by unfold maxLen; omega) (by simp)
  case round =>
   obtain ⟨j, hj, rfl, rfl, hfd, hpc, hne, hak, hab, hrl, hbel⟩ := hrel
   by_cases hlt : j ≤ b
   ·have HPC := Lib.hid (hpc hlt)
    obtain ⟨rao, rcap, hre, hrc, hrm⟩ := own_open (hpc hlt)
    subst hre
    have HFD := Lib.hid hfd
    have HNE := Lib.hid hne
    have HBr := Lib.hid hbel
    have hnx : askedUp pt least b (j + 1) = askedUp pt least b j + (rowAt pt least b j).length := rfl
    have HMO := Lib.hid (askedUp_mono pt least b (j := j + 1) (k := b + 1) (by omega))
    have HNX := Lib.hid hnx
    obtain ⟨L, hL⟩ : ∃ L, L = (rowAt pt least b j).length := ⟨_, rfl⟩
    have HL := Lib.hid hL
    rw [← hL] at hrl hrc hnx ⊢
    obtain ⟨q, hq⟩ : ∃ q, q = askedUp pt least b j := ⟨_, rfl⟩
    have HQ := Lib.hid hq
    rw [← hq] at hak hnx ⊢
    have hjb : (j : Int) < (b : Int) + 1 := by omega
    have hql : (q : Int) + (L : Int) ≤ 20000 := by omega
    have hql0 : 0 ≤ (q : Int) + (L : Int) := by omega
    clear hfd hpc hne hbel hL hq hj hnx
    generalize wr = wo at *
    by_cases hov : budget < (q : Int) + (L : Int)
    ·have HOV : Hid (budget < (askedUp pt least b (b + 1) : Int)) := Lib.hid (by have h1 := HMO.out; have h2 := HNX.out; have h3 := HL.out; have h4 := HQ.out; omega)
     go_wp2
     go_ret2
     exact HQ7.out _ HBr.out HOV.out
    ·have hsz := HBr.out.size
     have HSZ := Lib.hid hsz
     clear hsz
     go_wp2_with fail
     go_loopw [10, 12, 45] (fun o nx i wi => ∃ t : Nat, t ≤ L ∧ i = .int .i64 (t : Int) ∧ FdOwn wi w.heap.size o pt (hvOut pt least b j ++ foundR pt least (b - j) ((rowAt pt least b j).take t)) ∧ (j < b → PcOwn wi wo.heap.size nx (b - j - 1) (kids (toldR pt least (b - j) ((rowAt pt least b j).take t)))) ∧ (¬ j < b → nx = .slice none 0 0) ∧ (∀ k, nx.ownBlock = some k → o.ownBlock ≠ some k) ∧ (∀ k, (Value.slice rao L rcap).ownBlock = some k → o.ownBlock ≠ some k) ∧ PcOwn wi w.heap.size (.slice rao L rcap) (b - j) (rowAt pt least b j) ∧ Below w.heap.size w wi ∧ wo.heap.size ≤ wi.heap.size) (fun _ _ i _ => L - (intOf i).toNat)
     case atStart => exact ⟨0, by omega, rfl, by simpa [foundR, toldR] using HFD.out, fun _ => World.ownsRow_nil _ _ _ _, fun _ => rfl, by simp [Value.ownBlock], by rw [HL.out]; exact HNE.out, by rw [HL.out]; exact HPC.out, HBr.out, Nat.le_refl _⟩
     case round =>
      obtain ⟨t, ht, rfl, hfd, hpc, hnl, hne, hno, hrow, hbel, hsz⟩ := hrel
      by_cases hlt2 : t < L
      ·obtain ⟨x, hx⟩ : ∃ x, (rowAt pt least b j)[t]? = some x := ⟨_, List.getElem?_eq_getElem (by rw [← HL.out]; exact hlt2)⟩
       obtain ⟨g, cp, e, hg1, hg2, -, -, hrg⟩ := hrow.range hx
       simp only [Value.slice.injEq] at e
       obtain ⟨rfl, -, rfl⟩ := e
       have HSZR : Hid (g < wo.heap.size) := Lib.hid (HPC.out.lt g (by simp [Value.ownBlock])).2
       have HX := Lib.hid hx
       have hx2 : x < 2 ^ j := rowAt_lt pt least b j x (List.mem_of_getElem? hx)
       have HFD2 := Lib.hid hfd
       have HPC2 := Lib.hid hpc
       have HNL2 := Lib.hid hnl
       have HNE2 := Lib.hid hne
       have HNO2 := Lib.hid hno
       have HROW := Lib.hid hrow
       have HB2' := Lib.hid hbel
       have HSZ2 := Lib.hid hsz
       have HRG := Lib.hid hrg
       have htL : (t : Int) < (L : Int) := by omega
       have ht0 : (0 : Int) ≤ (t : Int) := by omega
       clear hx hfd hpc hnl hne hno hrow hbel hsz hrg
       have hrg := HRG.out
       have PPT := Lib.hid (fun wq hq => HPT.out wq hq (b - j) x (by omega) (by rw [show b - (b - j) = j by omega]; exact hx2))
       obtain ⟨n, hn⟩ : ∃ n, n = b - j := ⟨_, rfl⟩
       have HNN := Lib.hid hn
       rw [← hn] at hrg PPT
       have HBN := Lib.hid (HB2'.out.alloc HB2'.out.size (.cells #[.int .i64 (n : Int), .int .u64 (x : Int)] 155))
       clear hn
       go_wp2_with (refine wpList_load_mid rfl 155 _ rfl g (t * 2) rfl [.int .i64 (n : Int), .int .u64 (x : Int)] _ hrg Tryz.underlying155 rfl (by kernel_rfl) ?_)
       with_reducible refine (PPT.out _ HBN.out).mono ?_
       rintro e wa ⟨rfl, hb⟩
       have HAB := Lib.hid (btr ((Below.refl wr.heap.size wr).alloc (Nat.le_refl _) (.cells #[.int .i64 (n : Int), .int .u64 (x : Int)] 155)) hb)
       have hpx : Blk wa wr.heap.size 155 #[.int .i64 (n : Int), .int .u64 (x : Int)] := (Blk.new wr _ _).kept hb
       have HPX := Lib.hid hpx
       have HFDA := Lib.hid (HFD2.out.kept HAB.out)
       have HROWA := Lib.hid (HROW.out.kept HAB.out)
       have HPCA : Hid (j < b → PcOwn wa wo.heap.size u12 (n - 1) (kids (toldR pt least n ((rowAt pt least b j).take t)))) := Lib.hid (fun h => by rw [HNN.out]; exact (HPC2.out h).kept HAB.out)
       have HBA := Lib.hid (btr HB2'.out HAB.out)
       have hsza := HAB.out.size
       have HSA : Hid (wo.heap.size ≤ wa.heap.size) := Lib.hid (by have := HSZ2.out; omega)
       clear hb hsza hrg
       by_cases hlt3 : pt n x < least
       ·have HTS : Hid (foundR pt least (b - j) ((rowAt pt least b j).take (t + 1)) = foundR pt least (b - j) ((rowAt pt least b j).take t) ∧ kids (toldR pt least (b - j) ((rowAt pt least b j).take (t + 1))) = kids (toldR pt least (b - j) ((rowAt pt least b j).take t))) := Lib.hid (by
         rw [foundR_snoc HX.out, kids_snoc HX.out, ← HNN.out, if_neg (by omega), if_neg (by omega), List.append_nil, List.append_nil]
         exact ⟨rfl, rfl⟩)
        go_wp2_with fail
        go_roundw
        case rel => exact ⟨t + 1, by omega, by go_num, by rw [HTS.out.1]; exact HFDA.out, by rw [HTS.out.2, ← HNN.out]; exact HPCA.out, HNL2.out, HNE2.out, HNO2.out, HROWA.out, HBA.out, HSA.out⟩
        case measure => simp [intOf]; omega
       ·have hge : least ≤ pt n x := by omega
        have hlo := (hvOut_len pt least b j)
        have hcap1 : (hvOut pt least b j ++ foundR pt least (b - j) ((rowAt pt least b j).take t)).length ≤ 20000 := by
         rw [List.length_append, foundR, List.length_map]
         have h1 := toldR_le pt least (b - j) ((rowAt pt least b j).take t)
         have h2 : ((rowAt pt least b j).take t).length ≤ L := by rw [List.length_take, ← HL.out]; omega
         have h3 := HQ.out
         omega
        obtain ⟨N, hN⟩ : ∃ N, N = (hvOut pt least b j ++ foundR pt least (b - j) ((rowAt pt least b j).take t)).length := ⟨_, rfl⟩
        have HLN := Lib.hid hN
        have HFA : Hid (wa.ownsRow w.heap.size 157 3 u10 N (fdCells pt (hvOut pt least b j ++ foundR pt least (b - j) ((rowAt pt least b j).take t)))) := Lib.hid (by rw [hN]; exact HFDA.out)
        have hc1 : N + 1 ≤ maxLen := by unfold maxLen; omega
        have hc4 : (N + 1) * 24 ≤ 140737488355328 := by omega
        have HBA2 := Lib.hid (HBA.out.alloc HBA.out.size (.cells #[.int .i64 (n : Int), .int .u64 (x : Int), .int .i64 (pt n x)] 157))
        obtain ⟨oao, ocap, ho10, -, -⟩ := own_open HFA.out
        subst ho10
        clear hlo hcap1 hN
        go_wp2_with (first | refine wpList_load_row rfl 155 _ rfl wr.heap.size rfl 155 _ (0, 0) _ hpx Tryz.underlying155 rfl (by kernel_rfl) ?_ | (at_builtin; go_loud (refine wpList_append_own_at _ rfl _ _ 147 rfl w.heap.size 157 iF (.agg #[.int .i64 0, .int .u64 0, .int .i64 0]) 3 24 Tryz.underlying147 hF hF0 hF1 hF2 rfl (by decide) _ N _ rfl (World.ownsRow.alloc HFA.out _) ⟨wa.heap.size, 0, none⟩ 1 1 [.int .i64 (n : Int), .int .u64 (x : Int), .int .i64 (pt n x)] rfl rfl (cells_new _ rfl) ?c2 hc1 hc4 ?c5 ?_)))
        case c2 => simp [Value.oneCell']
        case c5 => exact HBA2.out.size
        intro v5 w5 hown' hgrow hnil' hq5
        have HTS : Hid (hvOut pt least b j ++ foundR pt least (b - j) ((rowAt pt least b j).take (t + 1)) = hvOut pt least b j ++ foundR pt least (b - j) ((rowAt pt least b j).take t) ++ [(n, x)] ∧ kids (toldR pt least (b - j) ((rowAt pt least b j).take (t + 1))) = kids (toldR pt least (b - j) ((rowAt pt least b j).take t)) ++ [2 * x, 2 * x + 1]) := Lib.hid (by
         rw [foundR_snoc HX.out, kids_snoc HX.out, ← HNN.out, if_pos hge, if_pos hge, List.append_assoc]
         exact ⟨rfl, rfl⟩)
        have HFD5 : Hid (FdOwn w5 w.heap.size v5 pt (hvOut pt least b j ++ foundR pt least (b - j) ((rowAt pt least b j).take (t + 1)))) := Lib.hid (FdOwn.push HTS.out.1 HLN.out hown')
        have HROW5 : Hid (PcOwn w5 w.heap.size (.slice (some ⟨g, 0, none⟩) L rcap) (b - j) (rowAt pt least b j)) := Lib.hid (own_gr (World.ownsRow.alloc HROWA.out _) hgrow (fun k e => HNO2.out k e))
        have HPC5 : Hid (j < b → PcOwn w5 wo.heap.size u12 (n - 1) (kids (toldR pt least n ((rowAt pt least b j).take t)))) := Lib.hid (fun h => own_gr (World.ownsRow.alloc (HPCA.out h) _) hgrow (fun k e => HNE2.out k e))
        have HNO5 : Hid (∀ k, (Value.slice (some ⟨g, 0, none⟩) L rcap).ownBlock = some k → v5.ownBlock ≠ some k) := Lib.hid (fun k e => by
         rcases hq5 with h | h
         ·rw [h]; exact HNO2.out k e
         ·rw [h]
          intro e2
          have := (HROWA.out.lt k e).2
          have := Option.some.inj e2
          omega)
        have HNE5 : Hid (∀ k, u12.ownBlock = some k → v5.ownBlock ≠ some k) := Lib.hid (fun k e => by
         rcases hq5 with h | h
         ·rw [h]; exact HNE2.out k e
         ·rw [h]
          intro e2
          by_cases hjb2 : j < b
          ·have := ((HPCA.out hjb2).lt k e).2
           have := Option.some.inj e2
           omega
          ·rw [HNL2.out hjb2] at e
           simp [Value.ownBlock] at e)
        have HPX5 : Hid (Blk w5 wr.heap.size 155 #[.int .i64 (n : Int), .int .u64 (x : Int)]) := Lib.hid ((HPX.out.alloc _).grown hgrow (own_far HFA.out HPX.out (by decide)))
        have HB5 := Lib.hid (HBA2.out.grown hgrow HBA2.out.size (fun k e => (HFA.out.lt k e).1))
        have hs5 := hgrow.size
        have HS5 : Hid (wo.heap.size ≤ w5.heap.size) := Lib.hid (by have := HSA.out; simp at hs5; omega)
        obtain ⟨pao, pcap, hv5, -, -⟩ := own_open hown'
        subst hv5
        clear hown' hgrow hnil' hq5 hs5 hc1 hc4 hpx
        have hp5 := HPX5.out
        go_wp2_with (refine wpList_load_row rfl 155 _ rfl wr.heap.size rfl 155 _ (0, 0) _ hp5 Tryz.underlying155 rfl (by kernel_rfl) ?_)
        by_cases hn0 : n = 0
        ·have PH : Hid (Calls Tryz.prog 138 #[.int .i64 (b : Int), .agg #[.int .i64 (n : Int), .int .u64 (x : Int)]] w5 fun e w' => e = .returned (.tuple #[.agg #[.int .i64 0, .int .u64 0], .agg #[.int .i64 0, .int .u64 0], .bool false]) ∧ Below w5.heap.size w5 w') := Lib.hid (by
          rw [hn0]
          exact halves_no b x hb1 hb (by have := HNN.out; rwa [show b = j by omega]) w5)
         with_reducible refine PH.out.mono ?_
         rintro e w6 ⟨rfl, hb⟩
         have HFD6 := Lib.hid (HFD5.out.kept hb)
         have HROW6 := Lib.hid (HROW5.out.kept hb)
         have HB6 := Lib.hid (btr HB5.out hb)
         have hs6 := hb.size
         have HS6 : Hid (wo.heap.size ≤ w6.heap.size) := Lib.hid (by have := HS5.out; omega)
         obtain ⟨-, -, hb8, hsz8⟩ := news2 w6 (.cells #[.int .i64 0, .int .u64 0] 155) (.cells #[.int .i64 0, .int .u64 0] 155)
         have HFD8 := Lib.hid (HFD6.out.kept hb8)
         have HROW8 := Lib.hid (HROW6.out.kept hb8)
         have HB8 := Lib.hid (btr HB6.out hb8)
         have HS8 := Lib.hid (Nat.le_trans HS6.out hb8.size)
         clear hb hs6 hp5 hb8 hsz8
         go_wp2_with fail
         go_roundw
         case rel => exact ⟨t + 1, by omega, by go_num, HFD8.out, fun h => absurd h (by have := HNN.out; omega), HNL2.out, HNE5.out, HNO5.out, HROW8.out, HB8.out, HS8.out⟩
         case measure => simp [intOf]; omega
        ·obtain ⟨m', hm'⟩ : ∃ m', n = m' + 1 := ⟨n - 1, by omega⟩
         have PH : Hid (Calls Tryz.prog 138 #[.int .i64 (b : Int), .agg #[.int .i64 (n : Int), .int .u64 (x : Int)]] w5 fun e w' => e = .returned (.tuple #[.agg #[.int .i64 (m' : Int), .int .u64 ((2 * x : Nat) : Int)], .agg #[.int .i64 (m' : Int), .int .u64 ((2 * x + 1 : Nat) : Int)], .bool true]) ∧ Below w5.heap.size w5 w') := Lib.hid (by
          rw [hm']
          exact halves_yes b m' x hb1 hb (by have := HNN.out; omega) (by have := HNN.out; rwa [show b - (m' + 1) = j by omega]) w5)
         have HM' := Lib.hid hm'
         obtain ⟨y1, hy1⟩ : ∃ y1, y1 = 2 * x := ⟨_, rfl⟩
         obtain ⟨y2, hy2⟩ : ∃ y2, y2 = 2 * x + 1 := ⟨_, rfl⟩
         rw [← hy2, ← hy1] at PH HTS
         with_reducible refine PH.out.mono ?_
         rintro e w6 ⟨rfl, hb⟩
         have HFD6 := Lib.hid (HFD5.out.kept hb)
         have HROW6 := Lib.hid (HROW5.out.kept hb)
         have HPC6 : Hid (j < b → PcOwn w6 wo.heap.size u12 (n - 1) (kids (toldR pt least n ((rowAt pt least b j).take t)))) := Lib.hid (fun h => (HPC5.out h).kept hb)
         have HB6 := Lib.hid (btr HB5.out hb)
         have hs6 := hb.size
         have HS6 : Hid (wo.heap.size ≤ w6.heap.size) := Lib.hid (by have := HS5.out; omega)
         have hjb2 : j < b := by have := HNN.out; omega
         obtain ⟨M, hM⟩ : ∃ M, M = (kids (toldR pt least n ((rowAt pt least b j).take t))).length := ⟨_, rfl⟩
         have hMle : M ≤ 20000 := by
          rw [hM, kids_len]
          have h1 := toldR_le pt least n ((rowAt pt least b j).take t)
          have h2 : ((rowAt pt least b j).take t).length ≤ L := by rw [List.length_take, ← HL.out]; omega
          omega
         have HLM := Lib.hid hM
         obtain ⟨g8, g9, hb8, hsz8⟩ := news2 w6 (.cells #[.int .i64 (m' : Int), .int .u64 (y1 : Int)] 155) (.cells #[.int .i64 (m' : Int), .int .u64 (y2 : Int)] 155)
         have HX8 : Hid (Blk _ w6.heap.size 155 #[.int .i64 (m' : Int), .int .u64 (y1 : Int)]) := Lib.hid g8
         have HX9 : Hid (Blk _ (w6.heap.size + 1) 155 #[.int .i64 (m' : Int), .int .u64 (y2 : Int)]) := Lib.hid g9
         have HFD8 := Lib.hid (HFD6.out.kept hb8)
         have HROW8 := Lib.hid (HROW6.out.kept hb8)
         have HB8 := Lib.hid (btr HB6.out hb8)
         have HS8 := Lib.hid (Nat.le_trans HS6.out hb8.size)
         have HPA := Lib.hid ((HPC6.out hjb2).kept hb8)
         have HPA : Hid (World.ownsRow _ wo.heap.size 155 2 u12 M (pcCells m' (kids (toldR pt least n ((rowAt pt least b j).take t))))) := Lib.hid (by
          have h1 := HPA.out
          unfold PcOwn at h1
          rw [← hM, show n - 1 = m' by omega] at h1
          exact h1)
         obtain ⟨nao, ncap, ho12, -, -⟩ := own_open HPA.out
         subst ho12
         have HSZ8 := Lib.hid hsz8
         have hc1 : M + 2 ≤ maxLen := by unfold maxLen; omega
         have hc4 : (M + 2) * 16 ≤ 140737488355328 := by omega
         have HJB2 := Lib.hid hjb2
         clear hb hs6 hp5 hm' hy1 hy2 hn0 hM hMle hjb2 g8 g9 hb8 hsz8
         have hx8 := HX8.out
         have hx9 := HX9.out
         go_wp2_with (first | refine wpList_load_row rfl 155 _ rfl w6.heap.size rfl 155 _ (0, 0) _ hx8 Tryz.underlying155 rfl (by kernel_rfl) ?_ | refine wpList_load_row rfl 155 _ rfl (w6.heap.size + 1) rfl 155 _ (0, 0) _ hx9 Tryz.underlying155 rfl (by kernel_rfl) ?_ | (at_builtin; go_loud (refine wpList_append_own_at _ rfl _ _ 256 rfl wo.heap.size 155 iP (.agg #[.int .i64 0, .int .u64 0]) 2 16 Tryz.underlying256 hP hP0 hP1 hP2 rfl (by decide) _ M _ rfl (World.ownsRow.alloc HPA.out _) ⟨_, 0, none⟩ 2 2 [.int .i64 (m' : Int), .int .u64 (y1 : Int), .int .i64 (m' : Int), .int .u64 (y2 : Int)] rfl rfl (cells_new' _ rfl (by simp)) ?c2 hc1 hc4 ?c5 ?_)))
         case c2 => simp [Value.oneCell']
         case c5 => exact Nat.le_trans HS8.out (by simp)
         intro v7 w7 hown' hgrow hnil' hq7
         generalize ((w6.alloc (.cells #[.int .i64 (m' : Int), .int .u64 (y1 : Int)] 155)).alloc (.cells #[.int .i64 (m' : Int), .int .u64 (y2 : Int)] 155)) = w8 at *
         have HFD7 : Hid (FdOwn w7 w.heap.size (.slice pao (N + 1) pcap) pt (hvOut pt least b j ++ foundR pt least (b - j) ((rowAt pt least b j).take (t + 1)))) := Lib.hid (own_gr (World.ownsRow.alloc HFD8.out _) hgrow (fun k e => fun e2 => HNE5.out k e2 e))
         have HROW7 : Hid (PcOwn w7 w.heap.size (.slice (some ⟨g, 0, none⟩) L rcap) (b - j) (rowAt pt least b j)) := Lib.hid (own_gr (World.ownsRow.alloc HROW8.out _) hgrow (fun k e => fun e2 => by
          have h1 := (HPA.out.lt k e2).1
          have h2 : g = k := by simpa [Value.ownBlock] using e
          have h3 := HSZR.out
          omega))
         have HPC7 : Hid (j < b → PcOwn w7 wo.heap.size v7 (b - j - 1) (kids (toldR pt least (b - j) ((rowAt pt least b j).take (t + 1))))) := Lib.hid (fun _ => by
          have h1 := HTS.out.2
          have hm := HM'.out
          have e := HNN.out
          rw [e] at hown' hm
          rw [show b - j - 1 = m' by omega]
          exact PcOwn.push2 h1 (by rw [HLM.out, HNN.out]) hown')
         have HNE7 : Hid (∀ k, v7.ownBlock = some k → (Value.slice pao (N + 1) pcap).ownBlock ≠ some k) := Lib.hid (fun k e => by
          rcases hq7 with h | h
          ·rw [h] at e; exact HNE5.out k e
          ·rw [h] at e
           intro e2
           have h1 := (HFD8.out.lt k e2).2
           have h2 := Option.some.inj e
           have h4 := HSZ8.out
           try simp at h2
           omega)
         have HB7 := Lib.hid ((HB8.out.alloc HB8.out.size (.cells #[.int .i64 (m' : Int), .int .u64 (y1 : Int), .int .i64 (m' : Int), .int .u64 (y2 : Int)] 155)).grown hgrow (Nat.le_trans HB8.out.size (by simp)) (fun k e => Nat.le_trans HSZ.out (HPA.out.lt k e).1))
         have HS7 : Hid (wo.heap.size ≤ w7.heap.size) := Lib.hid (by have h1 := hgrow.size; have h2 := HS8.out; simp at h1; omega)
         obtain ⟨zao, zcap, hv7, -, -⟩ := own_open hown'
         subst hv7
         clear hown' hgrow hnil' hq7 hx8 hx9 hc1 hc4
         go_wp2_with fail
         go_roundw
         case rel => exact ⟨t + 1, by omega, by go_num, HFD7.out, HPC7.out, fun h => absurd HJB2.out h, HNE7.out, HNO5.out, HROW7.out, HB7.out, HS7.out⟩
         case measure => simp [intOf]; omega
      ·have htL : t = L := by omega
       have htz : ¬ (t : Int) < (L : Int) := by omega
       have ht2 : (rowAt pt least b j).take t = rowAt pt least b j := List.take_of_length_le (by rw [htL, ← HL.out]; exact Nat.le_refl _)
       rw [ht2] at hfd hpc
       have HFD9 := Lib.hid hfd
       have HPC9 : Hid (j + 1 ≤ b → PcOwn wr w.heap.size u12 (b - (j + 1)) (rowAt pt least b (j + 1))) := Lib.hid (fun h => own_mono (by
        have := hpc (by omega)
        unfold PcOwn at this
        rw [show b - j - 1 = b - (j + 1) by omega] at this
        exact this) HSZ.out)
       have HNE9 := Lib.hid hne
       have HB9 := Lib.hid hbel
       have HK9 : Hid ((askedUp pt least b (j + 1) : Int) = (q : Int) + (L : Int) ∧ askedUp pt least b (j + 1) ≤ 4096 ∧ (askedUp pt least b (j + 1) : Int) ≤ budget ∧ (rowAt pt least b (j + 1)).length ≤ 8192) := Lib.hid (by
        have h1 := HNX.out
        have h2 := HQ.out
        have h3 := HL.out
        refine ⟨by omega, by omega, by omega, ?_⟩
        show (kids (toldR pt least (b - j) (rowAt pt least b j))).length ≤ 8192
        rw [kids_len]
        have := toldR_le pt least (b - j) (rowAt pt least b j)
        omega)
       clear hfd hpc hnl hne hno hrow hbel hsz ht2
       go_wp2_with fail
       go_roundw
       case rel => exact ⟨j + 1, by omega, by go_num, by rw [HK9.out.1], HFD9.out, HPC9.out, HNE9.out, HK9.out.2.1, fun _ => HK9.out.2.2.1, HK9.out.2.2.2, HB9.out⟩
       case measure => simp [intOf]; omega
   ·have hjb : j = b + 1 := by omega
    have HF : Hid (FdOwn wr w.heap.size _ pt (hvOut pt least b (b + 1))) := Lib.hid (by rw [← hjb]; exact hfd)
    have HN : Hid (¬ budget < (askedUp pt least b (b + 1) : Int)) := Lib.hid (by rw [← hjb]; have := hab (by omega); omega)
    have HB := Lib.hid hbel
    have hjn : ¬ (j : Int) < (b : Int) + 1 := by omega
    clear hfd hpc hne hak hab hrl hbel
    go_wp2
    go_ret2
    exact HQ0.out _ _ HB.out HN.out HF.out
end Go.Proofs.YtfeficdndjiijaaGreatDoor


namespace Go.Proofs.YtfeficdndjiijaaGreatDoor
open Go.RowKit
set_option linter.unusedVariables false
set_option linter.unusedSimpArgs false

def wQuantile : List UInt8 := [113, 117, 97, 110, 116, 105, 108, 101]
def wHeavy : List UInt8 := [104, 101, 97, 118, 121]
def QryIs2 (V : ByteArray) (x0 x1 : Int) (lo : Nat) (c : Value) (w : World) : Prop :=
  ∃ g, lo ≤ g ∧ c = .iface 123 (.agg #[.string V, .int .i64 x0, .slice (some ⟨g, 1, none⟩) 1 1]) ∧ w.rowIs g 2 2 (fun j => .int .i64 (cellD [x0, x1] j))
theorem qry2_stays (V : ByteArray) (x0 x1 : Int) (lo : Nat) : Stays (QryIs2 V x0 x1 lo) := fun c w w' h hb => by
  obtain ⟨g, h0, h1, h2⟩ := h
  exact ⟨g, h0, h1, h2.of_block (hb.block g h2.lt)⟩
theorem line_quantile (w : World) (base A bm n : Nat) (nb : Nat) (r d m s : Int) (S L : Nat → Nat) (X : Nat → Nat → Value) (Ar G C : Nat → Nat → Nat) (Z : Nat → Nat → List Int) (h : AggSt w base A bm n (nb : Int) r d m s S L X Ar G C Z) (hn : n ≤ 32) (s0 : 0 ≤ s) (s1 : s ≤ 18446744073709551615)
  (i : Nat) (h1 : 1 ≤ i) (h2 : i ≤ n) (hb1 : 1 ≤ nb) (hb : nb ≤ 59) (pt : Nat → Nat → Int) (hpt : ∀ n j, n ≤ nb → pt n j = lvPt (nb : Int) r d m s (n : Int) (Z i n) j) (hpb : ∀ n j, 0 ≤ pt n j ∧ pt n j ≤ 9223372036854775807)
  (k : Int) (k0 : 1 ≤ k) (k1 : k ≤ pt nb 0) (hw : wayN pt nb 0 k < 100) :
  Calls Tryz.prog 8 #[.pointer (some ⟨A, 0, none⟩), .string (sB (joinW [wQuantile, Lib.itoa (i : Int), Lib.itoa k]))] w fun e w' => ∃ t, e = .returned (.tuple #[.string t, .bool true]) ∧ t = sB ([107, 101, 121, 32] ++ Lib.decDigits (wayN pt nb 0 k)) ∧
   AggSt w' base A bm n (nb : Int) r d m s S L X Ar G C Z ∧ Below w.heap.size w w' := by
 obtain ⟨T, hT1, hT2⟩ := h.agg
 have hsz := h.base_le
 have hi64 : In64 (i : Int) := by unfold In64; omega
 have hk64 : In64 k := by have := (hpb nb 0).2; unfold In64; omega
 refine line_of A _ w (QryIs2 (sB wQuantile) (i : Int) k 0)
  (fun rr w2 => rr = .iface 140 (.agg #[.int .u64 (wayN pt nb 0 k : Nat)]) ∧ AggSt w2 base A bm n (nb : Int) r d m s S L X Ar G C Z ∧ Below w.heap.size w w2)
  _ (fun c _ hc => by obtain ⟨g, -, hc, -⟩ := hc; exact ⟨_, _, hc⟩) ?_ ?_ ?_
 ·refine parse_ws _ (qry2_stays _ _ _ _) _ (fun a ha => ?_) (by simp) (by simp) w h.tab (fun w1 R v en hle hr1 hv ht1 => ?_)
  ·simp only [List.mem_cons, List.mem_nil_iff, or_false] at ha
   rcases ha with rfl | rfl | rfl
   ·exact plainLit _ (by decide)
   ·exact num_plain _ hi64.1 hi64.2
   ·exact num_plain _ hk64.1 hk64.2
  ·refine (cmd_quantile w1 R v _ en i k hr1 hv rfl (by simp) rfl rfl hi64 hk64 ht1).mono ?_
   rintro e w' ⟨⟨g, rfl, hg, hrow⟩, h2, h3⟩
   exact ⟨_, rfl, ⟨g, Nat.zero_le _, rfl, hrow⟩, h2, h3⟩
 ·rintro c w1 hb1' ⟨g, -, rfl, hrow⟩
  refine do_query w1 A (sB wQuantile) (i : Int) (some ⟨g, 1, none⟩) 1 1 _ (fun w2 hb2 => ?_)
  have hb12 := btr hb1' hb2
  have hk2 := hT1.kept hb12
  refine (agg_quantile w2 A bm n T i k (S i) g (wayN pt nb 0 k : Nat) hk2 (by omega) (by omega) (by omega) (by rw [Int.toNat_natCast]; exact hT2 i h1 h2) (hrow.of_block (hb2.block g hrow.lt)) (fun w3 hb3 => ?_)).mono ?_
  ·have h3 := h.kept (btr hb12 hb3)
   exact quantile_any w3 base (S i) (L i) nb r d m s (X i) (Ar i) (G i) (C i) (Z i) (h3.st i h1 h2) s0 s1 hb1 hb pt hpt hpb k k0 k1
  ·rintro e w4 ⟨rfl, hb4⟩
   exact ⟨_, rfl, rfl, h.kept (btr hb12 hb4), btr hb12 hb4⟩
 ·rintro rr w2 ⟨rfl, hA, hB⟩
  refine (text_key _ hw w2).mono ?_
  rintro e w3 ⟨rfl, hb3⟩
  exact ⟨_, rfl, rfl, hA.kept hb3, btr hB hb3⟩
theorem StIs.ptIs {w : World} {base S L nb : Nat} {r d m s : Int} {X : Nat → Value} {A G C : Nat → Nat} {Z : Nat → List Int} (h : StIs w base S L (nb : Int) r d m s X A G C Z) (s0 : 0 ≤ s) (s1 : s ≤ 18446744073709551615) (hb : nb ≤ 59) (pt : Nat → Nat → Int) (hpt : ∀ n i, n ≤ nb → pt n i = lvPt (nb : Int) r d m s (n : Int) (Z n) i) : PtIs w S nb r d m s pt := by
  refine ⟨fun wq hq => stconfig wq base S L (nb : Int) r d m s X A G C Z (h.kept hq), fun wq hq n i hn hi => ?_⟩
  have h60 : 2 ^ (nb - n) ≤ 2 ^ 59 := Nat.pow_le_pow_right (by decide) (by omega)
  have h59 : (2 : Nat) ^ 59 = 576460752303423488 := by decide
  rw [hpt n i hn]
  refine stpoint wq base S L (nb : Int) r d m s X A G C Z (h.kept hq) s0 s1 n (by simp; omega) i (by omega) ?_
  rw [keysI_yes h.right (by omega) (by omega), show ((nb : Int) - (n : Int)).toNat = nb - n by omega]
  have e : ((2 ^ (nb - n) : Nat) : Int) = (2 : Int) ^ (nb - n) := by simp
  rw [← e]
  omega
theorem line_heavy (w : World) (base A bm n : Nat) (nb : Nat) (r d m s : Int) (S L : Nat → Nat) (X : Nat → Nat → Value) (Ar G C : Nat → Nat → Nat) (Z : Nat → Nat → List Int) (h : AggSt w base A bm n (nb : Int) r d m s S L X Ar G C Z) (hn : n ≤ 32) (s0 : 0 ≤ s) (s1 : s ≤ 18446744073709551615)
  (i : Nat) (h1 : 1 ≤ i) (h2 : i ≤ n) (hb1 : 1 ≤ nb) (hb : nb ≤ 59) (pt : Nat → Nat → Int) (hpt : ∀ n j, n ≤ nb → pt n j = lvPt (nb : Int) r d m s (n : Int) (Z i n) j)
  (least budget : Int) (hl : In64 least) (hbu : In64 budget) (he : hvErr pt least budget nb = 0) (hlen : (hvOut pt least nb (nb + 1)).length ≤ 1000) (hall : ∀ p ∈ hvOut pt least nb (nb + 1), p.1 < 100 ∧ p.2 < 100 ∧ In64 (pt p.1 p.2)) :
  Calls Tryz.prog 8 #[.pointer (some ⟨A, 0, none⟩), .string (sB (joinW [wHeavy, Lib.itoa (i : Int), Lib.itoa least, Lib.itoa budget]))] w fun e w' => ∃ t, e = .returned (.tuple #[.string t, .bool true]) ∧ t = sB (listT pt (hvOut pt least nb (nb + 1))) ∧
   AggSt w' base A bm n (nb : Int) r d m s S L X Ar G C Z ∧ Below w.heap.size w w' := by
 obtain ⟨T, hT1, hT2⟩ := h.agg
 have hsz := h.base_le
 have hi64 : In64 (i : Int) := by unfold In64; omega
 refine line_of A _ w (QryIs (sB wHeavy) (i : Int) least budget 0)
  (fun rr w2 => (∃ ao k cp, rr = .iface 149 (.agg #[.slice ao k cp]) ∧ ∃ lo, FdOwn w2 lo (.slice ao k cp) pt (hvOut pt least nb (nb + 1))) ∧ AggSt w2 base A bm n (nb : Int) r d m s S L X Ar G C Z ∧ Below w.heap.size w w2)
  _ (fun c _ hc => by obtain ⟨g, -, hc, -⟩ := hc; exact ⟨_, _, hc⟩) ?_ ?_ ?_
 ·refine parse_ws _ (qry_stays _ _ _ _ _) _ (fun a ha => ?_) (by simp) (by simp) w h.tab (fun w1 R v en hle hr1 hv ht1 => ?_)
  ·simp only [List.mem_cons, List.mem_nil_iff, or_false] at ha
   rcases ha with rfl | rfl | rfl | rfl
   ·exact plainLit _ (by decide)
   ·exact num_plain _ hi64.1 hi64.2
   ·exact num_plain _ hl.1 hl.2
   ·exact num_plain _ hbu.1 hbu.2
  ·refine (cmd_heavy w1 R v _ en i least budget hr1 hv rfl (by simp) rfl rfl rfl hi64 hl hbu ht1).mono ?_
   rintro e w' ⟨⟨g, rfl, hg, hrow⟩, h2, h3⟩
   exact ⟨_, rfl, ⟨g, Nat.zero_le _, rfl, hrow⟩, h2, h3⟩
 ·rintro c w1 hb1' ⟨g, -, rfl, hrow⟩
  refine do_query w1 A (sB wHeavy) (i : Int) (some ⟨g, 1, none⟩) 2 2 _ (fun w2 hb2 => ?_)
  have hb12 := btr hb1' hb2
  have hk2 := hT1.kept hb12
  refine (agg_heavy w2 A bm n T i least budget (S i) g (fun v w' => ∃ lo, FdOwn w' lo v pt (hvOut pt least nb (nb + 1))) hk2 (by omega) (by omega) (by omega) (by rw [Int.toNat_natCast]; exact hT2 i h1 h2) (hrow.of_block (hb2.block g hrow.lt)) (fun w3 hb3 => ?_)).mono ?_
  ·have h3 := h.kept (btr hb12 hb3)
   refine (hvheavy w3 (S i) nb r d m s pt ((h3.st i h1 h2).ptIs s0 s1 hb pt hpt) hb1 hb least budget hl hbu).mono ?_
   rintro e w4 ⟨v, rfl, hf, -, hb4⟩
   rw [he]
   obtain ⟨ao, cap, hv, -, -⟩ := own_open (hf he)
   subst hv
   exact ⟨⟨_, _, _, rfl, _, hf he⟩, hb4⟩
  ·rintro e w4 ⟨⟨ao, k, cp, rfl, hf⟩, hb4⟩
   exact ⟨_, rfl, ⟨_, _, _, rfl, hf⟩, h.kept (btr hb12 hb4), btr hb12 hb4⟩
 ·rintro rr w2 ⟨⟨ao, k, cp, rfl, lo, hf⟩, hA, hB⟩
  refine (text_list w2 lo pt _ _ hf hlen hall hA.tab).mono ?_
  rintro e w3 ⟨rfl, hb3⟩
  exact ⟨_, rfl, rfl, hA.kept hb3, btr hB hb3⟩
end Go.Proofs.YtfeficdndjiijaaGreatDoor


namespace Go.Proofs.YtfeficdndjiijaaGreatDoor
open Go.RowKit
set_option linter.unusedVariables false
set_option linter.unusedSimpArgs false

def DigS (n X : Nat) (bs : List Int) : Prop := (bs = [] ∧ X = n) ∨ (bs ≠ [] ∧ (X = 0 → Lib.decDigits n = u8s bs.reverse) ∧ (X ≠ 0 → Lib.decDigits n = Lib.decDigits X ++ u8s bs.reverse))
theorem DigS.next {n X : Nat} {bs : List Int} (h : DigS n X bs) (hX : X ≠ 0 ∨ bs = []) : DigS n (X / 10) (bs ++ [48 + ((X % 10 : Nat) : Int)]) := by
  have h0 : Lib.decDigits n = Lib.decDigits X ++ u8s bs.reverse := by
    rcases h with ⟨rfl, rfl⟩ | ⟨h1, h2, h3⟩
    · simp [u8s]
    · rcases hX with hX | hX
      · exact h3 hX
      · exact absurd hX h1
  have hs := dec_step n X _ h0
  have e : u8s (bs ++ [48 + ((X % 10 : Nat) : Int)]).reverse = UInt8.ofNat (48 + X % 10) :: u8s bs.reverse := by
    simp only [u8s, List.reverse_append, List.reverse_singleton, List.singleton_append, List.map_cons]
    congr 1
  exact .inr ⟨by simp, fun h => by rw [e]; exact hs.1 h, fun h => by rw [e]; exact hs.2 h⟩
theorem DigS.len {n X : Nat} {bs : List Int} (h : DigS n X bs) : bs.length ≤ (Lib.decDigits n).length := by
  rcases h with ⟨rfl, rfl⟩ | ⟨h1, h2, h3⟩
  · simp
  · by_cases hX : X = 0
    · rw [h2 hX]; simp [u8s]
    · rw [h3 hX]; simp [u8s]
def nilN (v : Value) : Nat := match v with | .slice _ n _ => if n = 0 then 1 else 0 | _ => 0
set_option maxRecDepth 100000 in
set_option maxHeartbeats 8000000 in
theorem wtext (n : Nat) (hn0 : 1 ≤ n) (hn : n < 18446744073709551616) (w : World) : Calls Tryz.prog 55 #[.agg #[.int .i64 0, .int .u64 (n : Int)]] w fun e w' => e = .returned (.string (sB (Lib.decDigits n))) ∧ Below w.heap.size w w' := by
 obtain ⟨i0', hi, hz0, hz1, hz2⟩ := info_parts Tryz.info8
 have hx := Blk.new w 143 #[.int .i64 0, .int .u64 (n : Int)]
 have hb0 : Below w.heap.size w (w.alloc (.cells #[.int .i64 0, .int .u64 (n : Int)] 143)) := (Below.refl _ w).alloc (Nat.le_refl _) _
 have HX := Lib.hid hx
 have HB0 := Lib.hid hb0
 have PS := Lib.hid (wsize (n : Int) (by omega) (by omega) (w.alloc (.cells #[.int .i64 0, .int .u64 (n : Int)] 143)))
 clear hx hb0
 go_enter Tryz.func55, Tryz.ntmps55
 go_wp2_with (refine wpList_load_row rfl 143 _ rfl w.heap.size rfl 143 _ (0, 0) _ HX.out Tryz.underlying143 rfl (by kernel_rfl) ?_)
 with_reducible refine PS.out.mono ?_
 rintro e w1 ⟨rfl, hb1⟩
 have HX1 := Lib.hid (HX.out.kept hb1)
 have HB1 := Lib.hid (btr HB0.out hb1)
 clear hb1 PS HX HB0
 go_wp2_with fail
 go_loopw [3, 4, 5, 6] (fun hi lo l rest wr => ∃ (X : Nat) (bs : List Int), hi = .int .u64 0 ∧ lo = .int .u64 (X : Int) ∧ X ≤ n ∧ OwnB wr w.heap.size l bs ∧ DigS n X bs ∧ Blk wr w.heap.size 143 #[.int .i64 0, .int .u64 (n : Int)] ∧ Below w.heap.size w wr) (fun _ lo l _ _ => 2 * (intOf lo).toNat + nilN l)
 case atStart => exact ⟨n, [], rfl, rfl, Nat.le_refl _, World.ownsRow_nil _ _ _ _, .inl ⟨rfl, rfl⟩, HX1.out, HB1.out⟩
 case round =>
  obtain ⟨X, bs, rfl, rfl, hXn, hown, hdg, hx, hbel⟩ := hrel
  obtain ⟨ao, cap, rfl, -, -⟩ := hown.open_
  have HO := Lib.hid hown
  have HD := Lib.hid hdg
  have HXB := Lib.hid hx
  have HBL := Lib.hid hbel
  clear hown hdg hx hbel HX1
  obtain ⟨q, hq⟩ : ∃ q, q = bs.length := ⟨_, rfl⟩
  have HQ := Lib.hid hq
  rw [← hq]
  have hq41 : q ≤ 20 := by have h1 := HD.out.len; have h2 := dec_len n hn; omega
  by_cases hX : 0 < X
  ·have hgo : X ≠ 0 ∨ bs = [] := .inl (by omega)
   have PD := Lib.hid (div10 X (by omega) wr)
   have HNX := Lib.hid (HD.out.next hgo)
   obtain ⟨r, hr⟩ : ∃ r : Int, r = ((X % 10 : Nat) : Int) := ⟨_, rfl⟩
   have hr10 : 0 ≤ r ∧ r < 10 := by omega
   have HR := Lib.hid hr
   rw [← hr] at PD HNX
   have hX0 : (0 : Int) ≤ (X : Int) := by omega
   have HMS : Hid (X / 10 ≤ n ∧ (X ≠ 0 → X / 10 < X)) := Lib.hid ⟨by omega, by omega⟩
   have w8 : IntKind.u8.wrap (48 + IntKind.u8.wrap r) = 48 + r := by simp [IntKind.wrap, IntKind.bits, IntKind.signed]; omega
   have w8' : IntKind.u8.wrap (48 + r) = 48 + r := by simp [IntKind.wrap, IntKind.bits, IntKind.signed]; omega
   have hc1 : q + 1 ≤ maxLen := by unfold maxLen; omega
   have hsz := HBL.out.size
   clear hr
   go_wp2_with fail
   with_reducible refine PD.out.mono ?_
   rintro e w3 ⟨rfl, hb3⟩
   have HO3 := Lib.hid (HO.out.kept hb3)
   have HXB3 := Lib.hid (HXB.out.kept hb3)
   have HBL3 := Lib.hid (btr HBL.out hb3)
   have hsz3 := HBL3.out.size
   clear hb3 PD HXB hgo HD HO HBL
   rw [HQ.out] at hc1 hq41
   go_wp2_with (at_builtin; refine wpList_append_own_at _ rfl _ _ 41 rfl w.heap.size 5 i0' (.int .u8 0) 1 1 Tryz.underlying41 hi hz0 hz1 hz2 rfl (by decide) _ bs.length _ rfl (World.ownsRow.alloc HO3.out _) ⟨w3.heap.size, 0, none⟩ 1 1 [.int .u8 (48 + r)] rfl rfl (cell_one_new _ _ _) ?c2 hc1 ?c4 ?c5 ?_)
   case c2 => simp [Value.oneCell']
   case c4 => omega
   case c5 => simp; omega
   intro v5 w5 hown' hgrow hnil' hq9
   have HO5 : Hid (OwnB w5 w.heap.size v5 (bs ++ [48 + r])) := Lib.hid (by unfold OwnB; rw [List.length_append, List.map_append]; exact hown')
   obtain ⟨ao5, cap5, rfl, -, -⟩ := HO5.out.open_
   have hal : Below w3.heap.size w3 (w3.alloc (.cells #[.int .u8 (48 + r)] 5)) := (Below.refl _ _).alloc (Nat.le_refl _) _
   have HXB5 := Lib.hid ((HXB3.out.kept hal).grown hgrow (own_far (World.ownsRow.alloc HO3.out _) (HXB3.out.kept hal) (by decide)))
   have HBL5 : Hid (Below w.heap.size w w5) := Lib.hid ((btr HBL3.out hal).grown hgrow (by simp; omega) (fun k e => (World.ownsRow.lt HO3.out k e).1))
   clear hown' hgrow hnil' hq9 hal HO3 HXB3 HBL3
   go_wp2_with fail
   go_roundw
   case rel => exact ⟨X / 10, bs ++ [48 + r], rfl, by simp, HMS.out.1, HO5.out, HNX.out, HXB5.out, HBL5.out⟩
   case measure => simp [intOf, nilN]; omega
  ·obtain rfl : X = 0 := by omega
   have hbs : bs ≠ [] := by
    rcases HD.out with ⟨-, h⟩ | ⟨h, -⟩
    ·omega
    ·exact h
   have hdg : Lib.decDigits n = u8s bs.reverse := by
    rcases HD.out with ⟨-, h⟩ | ⟨-, h, -⟩
    ·omega
    ·exact h rfl
   have hq0 : 0 < bs.length := List.length_pos_iff.2 hbs
   have hq0' : ¬ ((q : Int) = 0) := by rw [hq]; omega
   have PV := Lib.hid (reversed_any wr w.heap.size _ bs HO.out hq0 (by rw [← hq]; omega))
   have HDG := Lib.hid hdg
   rw [← hq] at PV
   have c0 := HXB.out.cell 0
   simp at c0
   clear hbs hdg hq hq0 HD HO HQ
   go_wp2_with fail
   with_reducible refine PV.out.mono ?_
   rintro e w9 ⟨rfl, hb9⟩
   have HB9 := Lib.hid (HBL.out.trans (hb9 w.heap.size (Nat.le_refl _) HBL.out.size))
   clear hb9 c0
   go_wp2_with fail
   go_ret
   exact ⟨by rw [HDG.out]; rfl, HB9.out⟩
theorem taWideDone (a b : Int) (w : World) : (Instr.typeAssert (.iface 145 (.agg #[.int .i64 a, .int .u64 b])) 68 133 true).run Tryz.prog w = .ok (.tuple #[.agg #[], .bool false]) w := by kernel_rfl
theorem taWideHandle (a b : Int) (w : World) : (Instr.typeAssert (.iface 145 (.agg #[.int .i64 a, .int .u64 b])) 68 135 true).run Tryz.prog w = .ok (.tuple #[.agg #[.int .i64 0], .bool false]) w := by kernel_rfl
theorem taWideNumber (a b : Int) (w : World) : (Instr.typeAssert (.iface 145 (.agg #[.int .i64 a, .int .u64 b])) 68 137 true).run Tryz.prog w = .ok (.tuple #[.agg #[.int .i64 0], .bool false]) w := by kernel_rfl
theorem taWideKey (a b : Int) (w : World) : (Instr.typeAssert (.iface 145 (.agg #[.int .i64 a, .int .u64 b])) 68 140 true).run Tryz.prog w = .ok (.tuple #[.agg #[.int .u64 0], .bool false]) w := by kernel_rfl
theorem taWideWide (a b : Int) (w : World) : (Instr.typeAssert (.iface 145 (.agg #[.int .i64 a, .int .u64 b])) 68 145 true).run Tryz.prog w = .ok (.tuple #[.agg #[.int .i64 a, .int .u64 b], .bool true]) w := by kernel_rfl
set_option maxRecDepth 100000 in
set_option maxHeartbeats 4000000 in
theorem text_wide (n : Nat) (hn0 : 1 ≤ n) (hn : n < 18446744073709551616) (w : World) : Calls Tryz.prog 25 #[.iface 145 (.agg #[.int .i64 0, .int .u64 (n : Int)])] w fun e w' => e = .returned (.string (sB ([119, 105, 100, 101, 32] ++ Lib.decDigits n))) ∧ Below w.heap.size w w' := by
 have P := Lib.hid (fun w => wtext n hn0 hn w)
 have hsz : ¬ 9223372036854775807 < 5 + (sB (Lib.decDigits n)).size := by
  rw [sB_size]; have := dec_len n hn; omega
 have HAP := Lib.hid (sB_append [119, 105, 100, 101, 32] (Lib.decDigits n))
 have t0 := taWideDone 0 (n : Int)
 have t1 := taWideHandle 0 (n : Int)
 have t2 := taWideNumber 0 (n : Int)
 have t3 := taWideKey 0 (n : Int)
 have t4 := taWideWide 0 (n : Int)
 have HB1 : Hid (Below w.heap.size w ((w.alloc (.cells #[.pointer none, .slice none 0 0] 132)).alloc (.cells #[.int .i64 0, .int .u64 (n : Int)] 145))) := Lib.hid (((Below.refl _ w).alloc (Nat.le_refl _) _).alloc (by simp) _)
 have hxb : Blk ((w.alloc (.cells #[.pointer none, .slice none 0 0] 132)).alloc (.cells #[.int .i64 0, .int .u64 (n : Int)] 145)) (w.heap.size + 1) 145 #[.int .i64 0, .int .u64 (n : Int)] := by
  have := Blk.new (w.alloc (.cells #[.pointer none, .slice none 0 0] 132)) 145 #[.int .i64 0, .int .u64 (n : Int)]
  simpa using this
 have HXB := Lib.hid hxb
 clear hxb hn hn0
 generalize sB (Lib.decDigits n) = S at *
 go_enter Tryz.func25, Tryz.ntmps25
 go_wp2_with (refine wpList_load_row rfl 143 _ rfl (w.heap.size + 1) rfl 145 _ (0, 0) _ HXB.out Tryz.underlying143 rfl (by kernel_rfl) ?_)
 with_reducible refine (P.out _).mono ?_
 rintro e w2 ⟨rfl, hb2⟩
 have HB2 := Lib.hid (btr HB1.out hb2)
 clear hb2
 go_wp2_with fail
 go_ret
 exact ⟨congrArg (fun s => Ending.returned (Value.string s)) HAP.out, HB2.out⟩
set_option maxRecDepth 100000 in
set_option maxHeartbeats 4000000 in
theorem minner (w : World) (base1 S1 L1 base2 S2 L2 : Nat) (b r d s : Int) (X1 X2 : Nat → Value) (A1 G1 C1 A2 G2 C2 : Nat → Nat) (Z1 Z2 : Nat → List Int) (K : Nat) (h1 : StIs w base1 S1 L1 b r d 1 s X1 A1 G1 C1 Z1) (h2 : StIs w base2 S2 L2 b r d 1 s X2 A2 G2 C2 Z2) (he : exactB b r d 1 0 = true) (hK : K = (keysI b r d 1 0).toNat)
  (hz : ∀ x ∈ Z1 0, 0 ≤ x ∧ x ≤ 1000000) (hh : ∀ x ∈ Z2 0, 0 ≤ x ∧ x ≤ 1000000) :
  Calls Tryz.prog 98 #[.pointer (some ⟨S1, 0, none⟩), .pointer (some ⟨S2, 0, none⟩)] w fun e w' => e = .returned (.tuple #[.agg #[.int .i64 0, .int .u64 ((dotN (Z1 0) (Z2 0) K : Nat) : Int)], .int .i64 0]) ∧ Below w.heap.size w w' := by
 have hb1 : Below w.heap.size w (w.alloc (.cells #[.int .i64 0, .int .u64 0] 143)) := (Below.refl _ w).alloc (Nat.le_refl _) _
 have HRS := Lib.hid (Blk.new w 143 #[.int .i64 0, .int .u64 0])
 have HB1 := Lib.hid hb1
 have H1 := Lib.hid (h1.kept hb1)
 have H2 := Lib.hid (h2.kept hb1)
 have HZ := Lib.hid (And.intro hz hh)
 have HE := Lib.hid (And.intro he hK)
 clear h1 h2 hb1 hz hh he hK
 obtain ⟨P, hP⟩ : ∃ P, P = ((dotN (Z1 0) (Z2 0) K : Nat) : Int) := ⟨_, rfl⟩
 rw [← hP]
 have HP := Lib.hid hP
 clear hP
 go_enter Tryz.func98, Tryz.ntmps98
 go_wp2_with fail
 generalize (w.alloc (.cells #[.int .i64 0, .int .u64 0] 143)) = w1 at *
 refine (alike_yes w1 S1 S2 b r d 1 s (fun wq hq => stconfig wq base1 S1 L1 b r d 1 s X1 A1 G1 C1 Z1 (H1.out.kept hq)) (fun wq hq => stconfig wq base2 S2 L2 b r d 1 s X2 A2 G2 C2 Z2 (H2.out.kept hq))).mono ?_
 rintro e w2 ⟨rfl, hb2⟩
 have H1a := Lib.hid (H1.out.kept hb2)
 have H2a := Lib.hid (H2.out.kept hb2)
 have HB2 := Lib.hid (btr HB1.out hb2)
 have HR2 := Lib.hid ((show Blk w1 w.heap.size 143 #[.int .i64 0, .int .u64 0] from HRS.out).kept hb2)
 have PA := stAt w2 base1 S1 L1 b r d 1 s X1 A1 G1 C1 Z1 H1a.out 0 (by omega)
 rw [show ((0 : Nat) : Int) = 0 from rfl] at PA
 have PA := Lib.hid PA
 clear hb2 H1 H2 HB1 HRS
 go_wp2_with fail
 with_reducible refine PA.out.mono ?_
 rintro e w3 ⟨x, A, G, C, rfl, -, -, -, hlx, hb3⟩
 obtain ⟨tx, hx⟩ := hlx.open_
 subst hx
 have HLX := Lib.hid hlx
 have H2b := Lib.hid (H2a.out.kept hb3)
 have HB3 := Lib.hid (btr HB2.out hb3)
 have HR3 := Lib.hid (HR2.out.kept hb3)
 have PA := stAt w3 base2 S2 L2 b r d 1 s X2 A2 G2 C2 Z2 H2b.out 0 (by omega)
 rw [show ((0 : Nat) : Int) = 0 from rfl] at PA
 have PA := Lib.hid PA
 clear hb3 hlx H1a H2a HB2 HR2
 go_wp2_with fail
 with_reducible refine PA.out.mono ?_
 rintro e w4 ⟨y, B, H, D, rfl, -, -, -, hly, hb4⟩
 obtain ⟨ty, hy⟩ := hly.open_
 subst hy
 have HB4 := Lib.hid (btr HB3.out hb4)
 have HR4 := Lib.hid (HR3.out.kept hb4)
 have PI := lvinner w4 _ _ A G C B H D b r d s 0 (Z1 0) (Z2 0) K HE.out.2 (HLX.out.kept hb4) hly HE.out.1 HZ.out.1 HZ.out.2
 rw [← HP.out] at PI
 have PI := Lib.hid PI
 clear hb4 hly HB3 HR3 HLX H2b PA
 go_wp2_with fail
 with_reducible refine PI.out.mono ?_
 rintro e w5 ⟨rfl, hb5⟩
 have HB5 := Lib.hid (btr HB4.out hb5)
 have hr5 := HR4.out.kept hb5
 have HR5 := Lib.hid hr5
 clear hb5 PI HB4 HR4
 go_wp2_with (refine wpList_store_row rfl 143 _ _ rfl w.heap.size #[.int .i64 0, .int .u64 P] rfl (by rfl) 143 _ hr5 (by kernel_rfl) rfl (by simp [Value.oneCell']) ?_)
 have HF := Lib.hid (blkRowNew (cs' := #[.int .i64 0, .int .u64 P]) HR5.out)
 refine bodyPost_ret (results_row_tmp rfl _ _ w.heap.size 143 _ (0, 0) _ rfl HF.out Tryz.underlying143 rfl (by kernel_rfl)) rfl ?_
 exact ⟨rfl, below_setRow HB5.out (Nat.le_refl _) _⟩
end Go.Proofs.YtfeficdndjiijaaGreatDoor


namespace Go.Proofs.YtfeficdndjiijaaGreatDoor
open Go.RowKit
set_option linter.unusedVariables false
set_option linter.unusedSimpArgs false

theorem AggSt.onl {F : Nat → Prop} {w w' : World} {base A bm n : Nat} {b r d m s : Int} {S L : Nat → Nat} {X : Nat → Nat → Value} {Ar G C : Nat → Nat → Nat} {Z : Nat → Nat → List Int} (h : AggSt w base A bm n b r d m s S L X Ar G C Z) (ho : Onl F w w') (hF : ∀ k, F k → NoSt w k ∧ k ≠ A ∧ k ≠ bm ∧ k ≠ 4) : AggSt w' base A bm n b r d m s S L X Ar G C Z := by
  obtain ⟨T, h1, h2⟩ := h.agg
  exact ⟨⟨T, h1.onl ho (fun hf => (hF _ hf).2.1 rfl) (fun hf => (hF _ hf).2.2.1 rfl), h2⟩, fun i h3 h4 => (h.st i h3 h4).onl ho (fun k hk => .inl (hF k hk).1), h.apart, h.lo, h.tab.onl ho (fun k hk => (hF k hk).2.2.2)⟩
theorem AggSt.setZ {w : World} {base A bm n : Nat} {b r d m s : Int} {S L : Nat → Nat} {X : Nat → Nat → Value} {Ar G C : Nat → Nat → Nat} {Z Z' : Nat → Nat → List Int} (h : AggSt w base A bm n b r d m s S L X Ar G C Z) (hz : ∀ i p, 1 ≤ i → i ≤ n → p ≤ b.toNat → Z i p = Z' i p) : AggSt w base A bm n b r d m s S L X Ar G C Z' :=
  ⟨h.agg, fun i h1 h2 => (h.st i h1 h2).setC (fun p hp => hz i p h1 h2 hp), h.apart, h.lo, h.tab⟩
def wInner : List UInt8 := [105, 110, 110, 101, 114]
theorem line_inner (w : World) (base A bm n : Nat) (b r d s : Int) (S L : Nat → Nat) (X : Nat → Nat → Value) (Ar G C : Nat → Nat → Nat) (Z : Nat → Nat → List Int) (h : AggSt w base A bm n b r d 1 s S L X Ar G C Z) (hn : n ≤ 32)
  (i j : Nat) (h1 : 1 ≤ i) (h2 : i ≤ n) (h3 : 1 ≤ j) (h4 : j ≤ n) (he : exactB b r d 1 0 = true) (K : Nat) (hK : K = (keysI b r d 1 0).toNat) (hz : ∀ x ∈ Z i 0, 0 ≤ x ∧ x ≤ 1000000) (hh : ∀ x ∈ Z j 0, 0 ≤ x ∧ x ≤ 1000000) (hd1 : 1 ≤ dotN (Z i 0) (Z j 0) K) (hd2 : dotN (Z i 0) (Z j 0) K < 18446744073709551616) :
  Calls Tryz.prog 8 #[.pointer (some ⟨A, 0, none⟩), .string (sB (joinW [wInner, Lib.itoa (i : Int), Lib.itoa (j : Int)]))] w fun e w' => ∃ t, e = .returned (.tuple #[.string t, .bool true]) ∧ t = sB ([119, 105, 100, 101, 32] ++ Lib.decDigits (dotN (Z i 0) (Z j 0) K)) ∧
   AggSt w' base A bm n b r d 1 s S L X Ar G C Z ∧ Below w.heap.size w w' := by
 obtain ⟨T, hT1, hT2⟩ := h.agg
 have hsz := h.base_le
 have hi64 : In64 (i : Int) := by unfold In64; omega
 have hj64 : In64 (j : Int) := by unfold In64; omega
 refine line_of A _ w (fun c _ => c = .iface 126 (.agg #[.string (sB wInner), .int .i64 (i : Int), .int .i64 (j : Int)]))
  (fun rr w2 => rr = .iface 145 (.agg #[.int .i64 0, .int .u64 ((dotN (Z i 0) (Z j 0) K : Nat) : Int)]) ∧ AggSt w2 base A bm n b r d 1 s S L X Ar G C Z ∧ Below w.heap.size w w2)
  _ (fun c _ hc => ⟨_, _, hc⟩) ?_ ?_ ?_
 ·refine parse_ws _ (stays_eq _) _ (fun a ha => ?_) (by simp) (by simp) w h.tab (fun w1 R v en hle hr1 hv ht1 => ?_)
  ·simp only [List.mem_cons, List.mem_nil_iff, or_false] at ha
   rcases ha with rfl | rfl | rfl
   ·exact plainLit _ (by decide)
   ·exact num_plain _ hi64.1 hi64.2
   ·exact num_plain _ hj64.1 hj64.2
  ·refine (cmd_inner w1 R v _ en i j hr1 hv rfl (by simp) rfl rfl hi64 hj64 ht1).mono ?_
   rintro e w' ⟨rfl, h2, h3⟩
   exact ⟨_, rfl, rfl, h2, h3⟩
 ·rintro c w1 hb1' rfl
  refine do_pair w1 A (sB wInner) (i : Int) (j : Int) _ (fun w2 hb2 => ?_)
  have hb12 := btr hb1' hb2
  have hk2 := hT1.kept hb12
  refine (agg_inner w2 A bm n T i j (S i) (S j) 0 ((dotN (Z i 0) (Z j 0) K : Nat) : Int) hk2 (by omega) (by omega) (by omega) (by omega) (by omega) (by rw [Int.toNat_natCast]; exact hT2 i h1 h2) (by rw [Int.toNat_natCast]; exact hT2 j h3 h4) (fun w3 hb3 => ?_)).mono ?_
  ·have hq := h.kept (btr hb12 hb3)
   exact minner w3 base (S i) (L i) base (S j) (L j) b r d s (X i) (X j) (Ar i) (G i) (C i) (Ar j) (G j) (C j) (Z i) (Z j) K (hq.st i h1 h2) (hq.st j h3 h4) he hK hz hh
  ·rintro e w4 ⟨rfl, hb4⟩
   exact ⟨_, rfl, rfl, h.kept (btr hb12 hb4), btr hb12 hb4⟩
 ·rintro rr w2 ⟨rfl, hA, hB⟩
  refine (text_wide _ hd1 hd2 w2).mono ?_
  rintro e w3 ⟨rfl, hb3⟩
  exact ⟨_, rfl, rfl, hA.kept hb3, btr hB hb3⟩
end Go.Proofs.YtfeficdndjiijaaGreatDoor


namespace Go.Proofs.YtfeficdndjiijaaGreatDoor
open Go.RowKit
set_option linter.unusedVariables false
set_option linter.unusedSimpArgs false

theorem msub (w : World) (base1 S1 L1 base2 S2 L2 : Nat) (b r d m s : Int) (X1 X2 : Nat → Value) (A1 G1 C1 A2 G2 C2 : Nat → Nat) (Z1 Z2 : Nat → List Int) (hm : m ≠ 2) (h1 : StIs w base1 S1 L1 b r d m s X1 A1 G1 C1 Z1) (h2 : StIs w base2 S2 L2 b r d m s X2 A2 G2 C2 Z2) (hfit : ∀ n, n ≤ b.toNat → Fit (List.zipWith (fun a b => a - b) (Z1 n) (Z2 n))) :
    Calls Tryz.prog 100 #[.pointer (some ⟨S1, 0, none⟩), .pointer (some ⟨S2, 0, none⟩)] w fun e w' => e = .returned (.int .i64 0) ∧ StIs w' base1 S1 L1 b r d m s X1 A1 G1 C1 (fun n => List.zipWith (fun a b => a - b) (Z1 n) (Z2 n)) ∧ RGr w w' C1 (b.toNat + 1) := by
  have P := Lib.hid (all_sub w base1 S1 L1 base2 S2 L2 b r d m s X1 X2 A1 G1 C1 A2 G2 C2 Z1 Z2 hm h1 h2 hfit)
  clear h1 h2 hfit
  go_enter Tryz.func100, Tryz.ntmps100
  go_wp2_with fail
  with_reducible refine P.out.mono ?_
  rintro e w1 ⟨rfl, ha, hb⟩
  have HA := Lib.hid (And.intro ha hb)
  clear ha hb P
  go_wp2_with fail
  go_ret
  exact ⟨rfl, HA.out⟩
end Go.Proofs.YtfeficdndjiijaaGreatDoor


namespace Go.Proofs.YtfeficdndjiijaaGreatDoor
open Go.RowKit
set_option linter.unusedVariables false
set_option linter.unusedSimpArgs false

def WbIs (w : World) (V BR N : Nat) (S : Nat → Nat) : Prop :=
  Blk w V 198 #[.pointer (some ⟨S 2, 0, none⟩), .slice (some ⟨BR, 0, none⟩) N N] ∧ ∃ cur : Array Value, Blk w BR 49 cur ∧ cur.size = N ∧ ∀ j, j < N → cur[j]? = some (.pointer (some ⟨S (3 + j), 0, none⟩))
theorem WbIs.kept {w w' : World} {V BR N : Nat} {S : Nat → Nat} (h : WbIs w V BR N S) (hb : Below w.heap.size w w') : WbIs w' V BR N S := by
  obtain ⟨h1, cur, h2, h3⟩ := h
  exact ⟨h1.kept hb, cur, h2.kept hb, h3⟩
theorem WbIs.lt {w : World} {V BR N : Nat} {S : Nat → Nat} (h : WbIs w V BR N S) : V < w.heap.size ∧ BR < w.heap.size := by
  obtain ⟨h1, cur, h2, h3⟩ := h
  exact ⟨h1.lt, h2.lt⟩
theorem WbIs.cell {w : World} {V BR N : Nat} {S : Nat → Nat} (h : WbIs w V BR N S) {j : Nat} (hj : j < N) : w.cell? ⟨BR, j, none⟩ = some (.pointer (some ⟨S (3 + j), 0, none⟩)) := by
  obtain ⟨h1, cur, h2, h3, h4⟩ := h
  exact (h2.cell j).trans (h4 j hj)
theorem below_rgr' {w w1 w2 : World} {C : Nat → Nat} {q B : Nat} (h : Below B w w1) (k : RGr w1 w2 C q) (hB : B ≤ w1.heap.size) (hC : ∀ n, n < q → B ≤ C n) : Below B w w2 :=
  h.trans (Onl.to_below (Onl.of_rgr k) hB (fun j ⟨n, hn, e⟩ => by rw [e]; exact hC n hn))
set_option maxRecDepth 100000 in
set_option maxHeartbeats 4000000 in
theorem wsum (w : World) (V BR N : Nat) (S : Nat → Nat) (hW : WbIs w V BR N S) (base L : Nat) (b r d m s : Int) (X : Nat → Value) (A G C : Nat → Nat) (Z : Nat → List Int) (h : StIs w base (S 2) L b r d m s X A G C Z) :
    Calls Tryz.prog 83 #[.pointer (some ⟨V, 0, none⟩)] w (StCopyPost w b r d m s Z) := by
  have P := Lib.hid (stcopy w base (S 2) L b r d m s X A G C Z h)
  have c0 := hW.1.cell 0
  simp at c0
  clear h hW
  go_enter Tryz.func83, Tryz.ntmps83
  go_wp2_with fail
  with_reducible refine P.out.mono ?_
  rintro e w1 ⟨S', L', X', A', G', C', rfl, hS, hst, hb⟩
  have HQ := Lib.hid (And.intro hS (And.intro hst hb))
  clear hS hst hb P c0
  go_wp2_with fail
  go_ret
  exact ⟨S', L', X', A', G', C', rfl, HQ.out.1, HQ.out.2.1, HQ.out.2.2⟩
def WoPost (w : World) (b r d m s : Int) (Z : Nat → List Int) (e : Ending) (w' : World) : Prop :=
  ∃ S L X A G C, e = .returned (.tuple #[.pointer (some ⟨S, 0, none⟩), .int .i64 0]) ∧ w.heap.size ≤ S ∧ StIs w' w.heap.size S L b r d m s X A G C Z ∧ Below w.heap.size w w'
set_option maxRecDepth 100000 in
set_option maxHeartbeats 4000000 in
theorem wwithout (w : World) (V BR N : Nat) (S : Nat → Nat) (hW : WbIs w V BR N S) (hN : 1 ≤ N) (base L base3 L3 : Nat) (b r d m s : Int) (X X3 : Nat → Value) (A G C A3 G3 C3 : Nat → Nat) (Z Z3 : Nat → List Int) (h : StIs w base (S 2) L b r d m s X A G C Z) (h3 : StIs w base3 (S 3) L3 b r d m s X3 A3 G3 C3 Z3)
  (hm : m ≠ 2) (hfit : ∀ n, n ≤ b.toNat → Fit (List.zipWith (fun a b => a - b) (Z n) (Z3 n))) :
  Calls Tryz.prog 131 #[.pointer (some ⟨V, 0, none⟩)] w (WoPost w b r d m s (fun n => List.zipWith (fun a b => a - b) (Z n) (Z3 n))) := by
 have P := Lib.hid (stcopy w base (S 2) L b r d m s X A G C Z h)
 have H3 := Lib.hid h3
 have HW := Lib.hid hW
 have PS := Lib.hid (fun w1 S' L' X' A' G' C' (h1 : StIs w1 w.heap.size S' L' b r d m s X' A' G' C' Z) (hb : Below w.heap.size w w1) => msub w1 w.heap.size S' L' base3 (S 3) L3 b r d m s X' X3 A' G' C' A3 G3 C3 Z Z3 hm h1 (h3.kept hb) hfit)
 have c0 := hW.1.cell 0
 simp at c0
 have n1 : (0 : Int) < (N : Int) := by omega
 clear h hW h3 hfit
 go_enter Tryz.func131, Tryz.ntmps131
 go_wp2_with fail
 with_reducible refine P.out.mono ?_
 rintro e w1 ⟨S', L', X', A', G', C', rfl, hS, hst, hb⟩
 have HS := Lib.hid hS
 have HST := Lib.hid hst
 have HB1 := Lib.hid hb
 have c1 := (HW.out.kept hb).1.cell 1
 have c2 := (HW.out.kept hb).cell (show 0 < N by omega)
 simp at c1 c2
 have PS1 := Lib.hid (PS.out w1 S' L' X' A' G' C' hst hb)
 clear hS hst hb P c0 PS
 go_wp2_with fail
 with_reducible refine PS1.out.mono ?_
 rintro e w2 ⟨rfl, hst, hg⟩
 have HQ := Lib.hid (And.intro hst hg)
 clear hst hg PS1 c1 c2
 go_wp2_with fail
 go_ret2
 exact ⟨S', L', X', A', G', C', rfl, HS.out, HQ.out.1, below_rgr' HB1.out HQ.out.2 HB1.out.size (fun n hn => HQ.out.1.low n (by omega))⟩
set_option maxRecDepth 100000 in
set_option maxHeartbeats 4000000 in
theorem wcheck (w : World) (V : Nat) (b r d m s : Int) (Z : Nat → List Int) (h : Calls Tryz.prog 131 #[.pointer (some ⟨V, 0, none⟩)] w (WoPost w b r d m s Z)) :
    Calls Tryz.prog 88 #[.pointer (some ⟨V, 0, none⟩)] w fun e w' => e = .returned (.int .i64 0) ∧ Below w.heap.size w w' := by
  have P := Lib.hid h
  clear h
  go_enter Tryz.func88, Tryz.ntmps88
  go_wp2_with fail
  with_reducible refine P.out.mono ?_
  rintro e w1 ⟨S', L', X', A', G', C', rfl, hS, hst, hb⟩
  have HB := Lib.hid hb
  clear hS hst hb P
  go_wp2_with fail
  go_ret
  exact ⟨rfl, HB.out⟩
end Go.Proofs.YtfeficdndjiijaaGreatDoor


namespace Go.Proofs.YtfeficdndjiijaaGreatDoor
open Go.RowKit
set_option linter.unusedVariables false
set_option linter.unusedSimpArgs false

theorem Blk.rgr {w w' : World} {k : Nat} {t : TypeId} {cs : Array Value} {C : Nat → Nat} {q : Nat} (h : Blk w k t cs) (hg : RGr w w' C q) (hne : ∀ n, n < q → k ≠ C n) : Blk w' k t cs := (hg.block k h.lt (fun n hn => hne n hn)).trans h
theorem StIs.ltC {w : World} {base S L : Nat} {b r d m s : Int} {X : Nat → Value} {A G C : Nat → Nat} {Z : Nat → List Int} (h : StIs w base S L b r d m s X A G C Z) (n : Nat) (hn : n ≤ b.toNat) : C n < w.heap.size := (h.under.2.2 n hn).2.2
theorem StIs.cellsB {w : World} {base S L : Nat} {b r d m s : Int} {X : Nat → Value} {A G C : Nat → Nat} {Z : Nat → List Int} (h : StIs w base S L b r d m s X A G C Z) (n : Nat) (hn : n ≤ b.toNat) : ∃ cs, Blk w (C n) 2 cs := (h.lev n hn).cells
theorem StIs.noC {w : World} {base S L : Nat} {b r d m s : Int} {X : Nat → Value} {A G C : Nat → Nat} {Z : Nat → List Int} (h : StIs w base S L b r d m s X A G C Z) {k : Nat} {t : TypeId} {cs : Array Value} (hk : Blk w k t cs) (ht : t ≠ 2) : ∀ n, n < b.toNat + 1 → k ≠ C n := fun n hn e => by
  obtain ⟨cs', hc⟩ := h.cellsB n (by omega)
  rw [← e] at hc
  exact ht (blk_one hk hc)
theorem StIs.beside {w w' : World} {base S L : Nat} {b r d m s : Int} {X : Nat → Value} {A G C : Nat → Nat} {Z : Nat → List Int} (h : StIs w base S L b r d m s X A G C Z) {base3 S3 L3 : Nat} {X3 : Nat → Value} {A3 G3 C3 : Nat → Nat} {Z3 : Nat → List Int} (h3 : StIs w base3 S3 L3 b r d m s X3 A3 G3 C3 Z3) (hg : RGr w w' C3 (b.toNat + 1))
    (hne : ∀ n k, n ≤ b.toNat → k ≤ b.toNat → C3 n ≠ C k) : StIs w' base S L b r d m s X A G C Z := by
  refine h.onl (Onl.of_rgr hg) ?_
  rintro k ⟨n, hn, rfl⟩
  exact .inr ⟨h3.cellsB n (by omega), fun q hq => hne n q (by omega) hq⟩
theorem StIs.noBlk {w w' : World} {base S L : Nat} {b r d m s : Int} {X : Nat → Value} {A G C : Nat → Nat} {Z : Nat → List Int} (h : StIs w base S L b r d m s X A G C Z) {k : Nat} {t : TypeId} {cs : Array Value} (hk : Blk w k t cs) (ht : t ≠ 2 ∧ t ≠ 337 ∧ t ≠ 284 ∧ t ≠ 288 ∧ t ≠ 174 ∧ t ≠ 172)
    (hg : w.grownBy w' (some k)) : StIs w' base S L b r d m s X A G C Z := by
  refine h.onl (Onl.of_gr hg) ?_
  rintro j rfl
  exact .inl (fun t' cs' hj => by rw [blk_one hj hk]; exact ht)
set_option maxRecDepth 100000 in
set_option maxHeartbeats 4000000 in
theorem wupdate (w : World) (V BR K : Nat) (S : Nat → Nat) (hW : WbIs w V BR (K + 1) S) (hK : K ≤ 100) (base L base3 L3 : Nat) (b r d m s : Int) (X X3 : Nat → Value) (A G C A3 G3 C3 : Nat → Nat) (Z Z3 : Nat → List Int) (h : StIs w base (S 2) L b r d m s X A G C Z) (h3 : StIs w base3 (S (3 + K)) L3 b r d m s X3 A3 G3 C3 Z3)
  (s0 : 0 ≤ s) (s1 : s ≤ 18446744073709551615) (key : Nat) (hkey : key ≤ 18446744073709551615) (x : Int) (hx : In64 x) (he : stErr b r d m s Z key x = 0) (he3 : stErr b r d m s Z3 key x = 0) :
  Calls Tryz.prog 86 #[.pointer (some ⟨V, 0, none⟩), .int .u64 (key : Int), .int .i64 x] w fun e w' => ∃ S' L' X' A' G' C', e = .returned (.int .i64 0) ∧ w.heap.size ≤ S' ∧ StIs w' w.heap.size S' L' b r d m s X' A' G' C' (stUpd b r d m s Z key x) ∧
   StIs w' base3 (S (3 + K)) L3 b r d m s X3 A3 G3 C3 (stUpd b r d m s Z3 key x) ∧ Blk w' V 198 #[.pointer (some ⟨S', 0, none⟩), .slice (some ⟨BR, 0, none⟩) (K + 1) (K + 1)] ∧ Onl (fun k => k = V ∨ ∃ p, p ≤ b.toNat ∧ k = C3 p) w w' := by
 have P := Lib.hid (stcopy w base (S 2) L b r d m s X A G C Z h)
 have H3 := Lib.hid h3
 have HW := Lib.hid hW
 have PU := Lib.hid (fun w1 base1 S1 L1 X1 A1 G1 C1 Z1 (h1 : StIs w1 base1 S1 L1 b r d m s X1 A1 G1 C1 Z1) => stupdate w1 base1 S1 L1 b r d m s X1 A1 G1 C1 Z1 h1 s0 s1 key (by omega) x hx)
 have HE := Lib.hid (And.intro he he3)
 have c0 := hW.1.cell 0
 simp at c0
 clear h hW h3 he he3
 go_enter Tryz.func86, Tryz.ntmps86
 go_wp2_with fail
 with_reducible refine P.out.mono ?_
 rintro e w1 ⟨S', L', X', A', G', C', rfl, hS, hst, hb⟩
 have HS := Lib.hid hS
 have HB1 := Lib.hid hb
 have PU1 := Lib.hid (PU.out w1 _ _ _ _ _ _ _ _ hst)
 clear hS hst hb P c0
 go_wp2_with fail
 with_reducible refine PU1.out.mono ?_
 rintro e w2 ⟨rfl, hst, hg⟩
 rw [HE.out.1]
 have HST := Lib.hid hst
 have hb2 := below_rgr' HB1.out hg HB1.out.size (fun n hn => hst.low n (by omega))
 have HB2 := Lib.hid hb2
 have c1 := (HW.out.kept hb2).1.cell 1
 have c2 := (HW.out.kept hb2).cell (show K < K + 1 by omega)
 simp at c1 c2
 have PU2 := Lib.hid (PU.out (w2.drewN 1) _ _ _ _ _ _ _ _ (H3.out.kept (below_drewN hb2 1)))
 have i0 : (0 : Int) ≤ (K : Int) := by omega
 have i1 : (K : Int) ≤ 100 := by omega
 have hwK : IntKind.i64.wrap (K : Int) = (K : Int) := by simp only [IntKind.wrap, IntKind.bits, IntKind.signed]; simp; omega
 have ht : (K : Int).toNat = K := Int.toNat_natCast K
 have i2 : (K : Int) < ((K + 1 : Nat) : Int) := by omega
 have i3 : (K : Int) < (K : Int) + 1 := by omega
 clear hst hg hb2 PU PU1
 go_wp2_with fail
 go_still_tail 14, (by kernel_rfl)
 change wpList _ _ _ _ _ (w2.drewN 1)
 go_wp2_with fail
 with_reducible refine PU2.out.mono ?_
 rintro e w4 ⟨rfl, hst4, hg4⟩
 rw [HE.out.2]
 have hbd := below_drewN HB2.out 1
 have h3d := H3.out.kept hbd
 have hVd := (HW.out.kept hbd).1
 have hV4 := hVd.rgr hg4 (h3d.noC hVd (by decide))
 have hS4 := (HST.out.kept (below_drewN (Below.refl _ _) 1)).beside h3d hg4 (fun n k hn hk e => by
  have h5 := H3.out.ltC n hn
  have h6 := HST.out.low k hk
  omega)
 have hg5 : w4.grownBy (w4.setCell ⟨V, 0, none⟩ (.pointer (some ⟨S', 0, none⟩))) (some V) := gr_setC (World.grownBy.refl _ _) 0 _
 have HR := Lib.hid (And.intro (hS4.noBlk hV4 (by decide) hg5) (And.intro (hst4.noBlk hV4 (by decide) hg5) (Blk.set_ hV4 0 (.pointer (some ⟨S', 0, none⟩)))))
 have HO : Hid (Onl (fun k => k = V ∨ ∃ p, p ≤ b.toNat ∧ k = C3 p) w (w4.setCell ⟨V, 0, none⟩ (.pointer (some ⟨S', 0, none⟩)))) := Lib.hid ((Onl.below hbd).trans (((Onl.of_rgr hg4).mono (by rintro k ⟨n, hn, rfl⟩; exact .inl (.inr ⟨n, by omega, rfl⟩))).trans ((Onl.of_gr hg5).mono (by rintro k rfl; exact .inl (.inl rfl)))))
 have c0 := hV4.cell 0
 have f0 := hV4.frozen 0
 simp at c0
 clear hst4 hg4 hbd h3d hVd hV4 hS4 hg5 PU2 c1 c2
 go_wp2_with fail
 go_ret
 exact ⟨S', L', X', A', G', C', rfl, HS.out, HR.out.1, HR.out.2.1, by simpa using HR.out.2.2, HO.out⟩
end Go.Proofs.YtfeficdndjiijaaGreatDoor


namespace Go.Proofs.YtfeficdndjiijaaGreatDoor
open Go.RowKit
set_option linter.unusedVariables false
set_option linter.unusedSimpArgs false

theorem copy_gr {P : Program} {w : World} {ops : Array Oper} {rest : List Oper} {o : Oper} {a : Act} {Q : Exit → Act → World → Prop} (hgd : o.guard = none) (d s : Operand) (dT sT : TypeId)
  (ho : o.op = .call { callee := .builtin .copy, args := #[d, s], argTypes := #[dT, sT] }) (elem : TypeId) (hu : P.underlying dT = some (.slice elem)) (hsz : (P.info? elem).map (·.size) = some 1)
  (dp sp : Option Addr) (dLen dCap sLen sCap : Nat) (hd : a.eval d = .slice dp dLen dCap) (hs : a.eval s = .slice sp sLen sCap)
  (g off : Nat) (cur : Array Value) (t : TypeId) (hg : Blk w g t cur) (cs : List Value) (hn : cs.length = Nat.min sLen dLen)
  (hpos : 0 < cs.length → dp = some ⟨g, off, none⟩ ∧ ∃ ad, sp = some ad ∧ ∀ j v, cs[j]? = some v → w.cell? (ad.add j) = some v)
  (hfit : off + cs.length ≤ cur.size) (h1 : ∀ v ∈ cs, v.oneCell' = true)
  (h : ∀ w', Blk w' g t (cur.toList.take off ++ (cs ++ cur.toList.drop (off + cs.length))).toArray → w.grownBy w' (some g) → wpList P ops Q rest (a.put o.dst (goInt cs.length)) w') :
  wpList P ops Q (o :: rest) a w := by
 by_cases h0 : cs.length = 0
 ·obtain rfl : cs = [] := List.eq_nil_of_length_eq_zero h0
  refine wpList_copy_nothing hgd d s dT sT ho elem hu hsz dp sp dLen dCap sLen sCap hd hs (by simpa using hn.symm) ?_
  exact h w (by simpa using hg) (World.grownBy.refl _ _)
 ·obtain ⟨rfl, ad, rfl, hsrc⟩ := hpos (by omega)
  refine wpList_copy_own hgd d s dT sT ho elem hu hsz g off dLen dCap ad sLen sCap hd hs cur t hg cs hn hsrc hfit h1 ?_
  exact h _ (setRow_heap w g cur _ t _ hg) ⟨rfl, rfl, rfl, by simp, fun k hk hne => setRow_other w g k _ (by simpa using hne)⟩
set_option maxRecDepth 100000 in
set_option maxHeartbeats 4000000 in
theorem wtick (w : World) (V BR K : Nat) (S : Nat → Nat) (hW : WbIs w V BR (K + 1) S) (hK : K ≤ 100) (b r d m s : Int) (hr : rightB b r d m = true) (Z : Nat → List Int) (h : Calls Tryz.prog 131 #[.pointer (some ⟨V, 0, none⟩)] w (WoPost w b r d m s Z)) :
  Calls Tryz.prog 89 #[.pointer (some ⟨V, 0, none⟩)] w fun e w' => ∃ S' L' X' A' G' C' S2 L2 X2 A2 G2 C2, e = .returned (.int .i64 0) ∧ StIs w' w.heap.size S' L' b r d m s X' A' G' C' Z ∧ StIs w' w.heap.size S2 L2 b r d m s X2 A2 G2 C2 (zeroZ b r d m) ∧
   (∀ n k, n ≤ b.toNat → k ≤ b.toNat → C' n ≠ C2 k) ∧ Blk w' V 198 #[.pointer (some ⟨S', 0, none⟩), .slice (some ⟨BR, 0, none⟩) (K + 1) (K + 1)] ∧
   (∃ cur : Array Value, Blk w' BR 49 cur ∧ cur.size = K + 1 ∧ (∀ j, j < K → cur[j]? = some (.pointer (some ⟨S (3 + (j + 1)), 0, none⟩))) ∧ cur[K]? = some (.pointer (some ⟨S2, 0, none⟩))) ∧ Onl (fun k => k = V ∨ k = BR) w w' := by
 have P := Lib.hid h
 have HW := Lib.hid hW
 have HNB : Hid (V ≠ BR) := Lib.hid (by
  obtain ⟨h1, cur, h2, -⟩ := hW
  intro e
  rw [e] at h1
  exact absurd (blk_one h1 h2) (by decide))
 have PN := Lib.hid (fun w => stnew_yes b r d m s hr w)
 clear h hW
 go_enter Tryz.func89, Tryz.ntmps89
 go_wp2_with fail
 with_reducible refine P.out.mono ?_
 rintro e w1 ⟨S', L', X', A', G', C', rfl, hS, hst, hb⟩
 have hV1 := (HW.out.kept hb).1
 have hg2 : w1.grownBy (w1.setCell ⟨V, 0, none⟩ (.pointer (some ⟨S', 0, none⟩))) (some V) := gr_setC (World.grownBy.refl _ _) 0 _
 have hst2 := hst.noBlk hV1 (by decide) hg2
 have hV2 := Blk.set_ hV1 0 (.pointer (some ⟨S', 0, none⟩))
 obtain ⟨cur, hc, hcs, hcj⟩ := (HW.out.kept hb).2
 have hR2 := hc.grown hg2 (by simpa using Ne.symm HNB.out)
 have HO2 : Hid (Onl (fun k => k = V ∨ k = BR) w (w1.setCell ⟨V, 0, none⟩ (.pointer (some ⟨S', 0, none⟩)))) := Lib.hid ((Onl.below hb).trans ((Onl.of_gr hg2).mono (by rintro k rfl; exact .inl (.inl rfl))))
 have c0 := hV1.cell 0
 have f0 := hV1.frozen 0
 simp at c0
 have HST := Lib.hid hst2
 have HV := Lib.hid hV2
 have HR := Lib.hid hR2
 have HCJ := Lib.hid (And.intro hcs hcj)
 have PC := Lib.hid (stconfig _ _ _ _ b r d m s _ _ _ _ _ hst2)
 have HSB := Lib.hid hb.size
 clear hS hst hb P hV1 hg2 hst2 hV2 hc hcs hcj hR2
 generalize hw2 : (w1.setCell ⟨V, 0, none⟩ (.pointer (some ⟨S', 0, none⟩))) = w2 at *
 have HS2 : Hid (w.heap.size ≤ w2.heap.size) := Lib.hid (by rw [← hw2]; simpa using HSB.out)
 clear HSB
 go_wp2_with fail
 with_reducible refine PC.out.mono ?_
 rintro e w3 ⟨rfl, hb3⟩
 have HB3 := Lib.hid hb3
 have PN3 := Lib.hid (PN.out w3)
 clear hb3 PC PN c0 f0
 go_wp2_with fail
 with_reducible refine PN3.out.mono ?_
 rintro e w4 ⟨S2, L2, X2, A2, G2, C2, rfl, hS2, hst4, hb4⟩
 have hb24 := btr HB3.out hb4
 have HAP : Hid (∀ n k, n ≤ b.toNat → k ≤ b.toNat → C' n ≠ C2 k) := Lib.hid (fun n k hn hk e => by
  have h5 := HST.out.ltC n hn
  have h6 := hst4.low k hk
  have h7 := HB3.out.size
  omega)
 have HS4 := Lib.hid (HST.out.kept hb24)
 have HN4 := Lib.hid (hst4.low_ (Nat.le_trans HS2.out HB3.out.size))
 have HV4 := Lib.hid (HV.out.kept hb24)
 have HR4 := Lib.hid (HR.out.kept hb24)
 have HO4 := Lib.hid (HO2.out.trans (Onl.below hb24))
 have c1 := HV4.out.cell 1
 simp at c1
 have i0 : (0 : Int) ≤ (K : Int) := by omega
 have i1 : (K : Int) ≤ 100 := by omega
 have i4 : (1 : Int) ≤ (K : Int) + 1 := by omega
 clear hS2 hst4 hb4 hb24 PN3 HST HV HR HO2 HB3
 go_wp2_with fail
 go_still_tail 9, (by kernel_rfl)
 change wpList _ _ _ _ _ (w4.drewN 1)
 obtain ⟨cs, hcs⟩ : ∃ cs, cs = cur.toList.drop 1 := ⟨_, rfl⟩
 have hcsl : cs.length = K := by rw [hcs, List.length_drop, Array.length_toList, HCJ.out.1]; omega
 have hsrc : ∀ j v, cs[j]? = some v → cur[j + 1]? = some v := fun j v hv => by
  rw [hcs, List.getElem?_drop] at hv
  rw [← Array.getElem?_toList, Nat.add_comm]
  exact hv
 have hone : ∀ v ∈ cs, v.oneCell' = true := fun v hv => by
  obtain ⟨j, hj⟩ := List.mem_iff_getElem?.1 hv
  have h1 := hsrc j v hj
  have h2 : j + 1 < K + 1 := by
   have := (Array.getElem?_eq_some_iff.1 h1).1
   rw [HCJ.out.1] at this
   exact this
  rw [HCJ.out.2 (j + 1) h2] at h1
  cases h1
  rfl
 have hR4 := HR4.out.kept (below_drewN (Below.refl _ _) 1)
 have HCS := Lib.hid (And.intro hcsl (And.intro hsrc hone))
 have HCD := Lib.hid hcs
 have HR5 := Lib.hid hR4
 clear hcsl hsrc hone hcs hR4 c1
 refine copy_gr rfl (.tmp 28) (.tmp 33) 196 196 rfl 49 Tryz.underlying196 (by kernel_rfl) _ _ (K + 1) (K + 1) K K rfl rfl BR 0 cur 49 HR5.out cs (by rw [HCS.out.1]; exact (Nat.min_eq_left (by omega)).symm) (fun h0 => ⟨rfl, ⟨BR, 1, none⟩, if_neg (by have := HCS.out.1; omega), fun j v hv => ?_⟩) (by rw [HCS.out.1, HCJ.out.1]; omega) HCS.out.2.2 ?_
 ·have h7 := HCS.out.2.1 j v hv
  rw [Nat.add_comm] at h7
  have := (HR5.out.cell (1 + j)).trans h7
  rw [addr_add]
  exact this
 intro w5 hR5 hg5
 obtain ⟨cur5, hcur5⟩ : ∃ c, c = (cur.toList.take 0 ++ (cs ++ cur.toList.drop (0 + cs.length))).toArray := ⟨_, rfl⟩
 rw [← hcur5] at hR5
 have HC5 : Hid (cur5.size = K + 1 ∧ ∀ j, j < K → cur5[j]? = some (.pointer (some ⟨S (3 + (j + 1)), 0, none⟩))) := Lib.hid (by
  have e1 := HCS.out.1
  have e2 := HCJ.out.1
  refine ⟨by rw [hcur5]; simp [e1, e2], fun j hj => ?_⟩
  rw [hcur5, List.take_zero, List.nil_append, List.getElem?_toArray, List.getElem?_append_left (by omega), HCD.out, List.getElem?_drop, Array.getElem?_toList, Nat.add_comm]
  exact HCJ.out.2 (j + 1) (by omega))
 clear hcur5
 have HV5 := Lib.hid ((HV4.out.kept (below_drewN (Below.refl _ _) 1)).grown hg5 (by simpa using HNB.out))
 have HS5 := Lib.hid ((HS4.out.kept (below_drewN (Below.refl _ _) 1)).noBlk HR5.out (by decide) hg5)
 have HN5 := Lib.hid ((HN4.out.kept (below_drewN (Below.refl _ _) 1)).noBlk HR5.out (by decide) hg5)
 have HO5 : Hid (Onl (fun k => k = V ∨ k = BR) w w5) := Lib.hid (HO4.out.trans ((Onl.below (below_drewN (Below.refl _ _) 1)).trans ((Onl.of_gr hg5).mono (by rintro k rfl; exact .inl (.inr rfl)))))
 have HQ5 := Lib.hid hR5
 have c1 := HV5.out.cell 1
 have f1 := hR5.frozen K
 obtain ⟨q5, c2⟩ : ∃ q, w5.cell? ⟨BR, K, none⟩ = some q := ⟨_, (hR5.cell K).trans (Array.getElem?_eq_getElem (by rw [HC5.out.1]; omega))⟩
 simp at c1
 have hwK : IntKind.i64.wrap (K : Int) = (K : Int) := by simp only [IntKind.wrap, IntKind.bits, IntKind.signed]; simp; omega
 have ht : (K : Int).toNat = K := Int.toNat_natCast K
 have i2 : (K : Int) < ((K + 1 : Nat) : Int) := by omega
 have i3 : (K : Int) < (K : Int) + 1 := by omega
 clear hR5 hg5 HV4 HS4 HN4 HO4 HR5 HR4
 generalize (if K = 0 then some (⟨BR, 0, none⟩ : Addr) else some ⟨BR, 1, none⟩) = z
 generalize goInt (cs.length : Int) = z2
 go_frame
 go_wp2_with fail
 go_still_tail 12, (by kernel_rfl)
 change wpList _ _ _ _ _ (w5.drewN 1)
 have hg6 : (w5.drewN 1).grownBy ((w5.drewN 1).setCell ⟨BR, K, none⟩ (.pointer (some ⟨S2, 0, none⟩))) (some BR) := gr_setC (World.grownBy.refl _ _) K _
 have hd := below_drewN (Below.refl w5.heap.size w5) 1
 have hr5 := HQ5.out.kept hd
 have HF := Lib.hid (And.intro ((HS5.out.kept hd).noBlk hr5 (by decide) hg6) (And.intro ((HN5.out.kept hd).noBlk hr5 (by decide) hg6) (And.intro ((HV5.out.kept hd).grown hg6 (by simpa using HNB.out)) (Blk.set_ hr5 K (.pointer (some ⟨S2, 0, none⟩))))))
 have HO6 : Hid (Onl (fun k => k = V ∨ k = BR) w ((w5.drewN 1).setCell ⟨BR, K, none⟩ (.pointer (some ⟨S2, 0, none⟩)))) := Lib.hid (HO5.out.trans ((Onl.below hd).trans ((Onl.of_gr hg6).mono (by rintro k rfl; exact .inl (.inr rfl)))))
 clear hg6 hd hr5 HS5 HN5 HV5 HQ5 HO5
 go_wp2_with fail
 go_ret
 refine ⟨S', L', X', A', G', C', S2, L2, X2, A2, G2, C2, rfl, HF.out.1, HF.out.2.1, HAP.out, by simpa using HF.out.2.2.1, ⟨_, HF.out.2.2.2, by rw [Array.size_setIfInBounds, HC5.out.1], fun j hj => ?_, ?_⟩, HO6.out⟩
 ·rw [Array.getElem?_setIfInBounds, if_neg (by omega)]
  exact HC5.out.2 j hj
 ·rw [Array.getElem?_setIfInBounds, if_pos rfl, if_pos (by rw [HC5.out.1]; omega)]
end Go.Proofs.YtfeficdndjiijaaGreatDoor


namespace Go.Proofs.YtfeficdndjiijaaGreatDoor
open Go.RowKit
set_option linter.unusedVariables false
set_option linter.unusedSimpArgs false

structure StFam (w : World) (base lo n : Nat) (b r d m s : Int) (S L : Nat → Nat) (X : Nat → Nat → Value) (Ar G C : Nat → Nat → Nat) (Z : Nat → Nat → List Int) : Prop where
  st : ∀ i, lo ≤ i → i < n → StIs w base (S i) (L i) b r d m s (X i) (Ar i) (G i) (C i) (Z i)
  apart : ∀ i j p q, lo ≤ i → i < n → lo ≤ j → j < n → i ≠ j → p ≤ b.toNat → q ≤ b.toNat → C i p ≠ C j q
theorem StFam.kept {w w' : World} {base lo n : Nat} {b r d m s : Int} {S L : Nat → Nat} {X : Nat → Nat → Value} {Ar G C : Nat → Nat → Nat} {Z : Nat → Nat → List Int} (h : StFam w base lo n b r d m s S L X Ar G C Z) (hb : Below w.heap.size w w') : StFam w' base lo n b r d m s S L X Ar G C Z :=
  ⟨fun i h1 h2 => (h.st i h1 h2).kept hb, h.apart⟩
theorem StFam.zero {w : World} {base lo : Nat} {b r d m s : Int} {S L : Nat → Nat} {X : Nat → Nat → Value} {Ar G C : Nat → Nat → Nat} {Z : Nat → Nat → List Int} : StFam w base lo lo b r d m s S L X Ar G C Z :=
  ⟨fun i h1 h2 => by omega, fun i j p q h1 h2 => by omega⟩
theorem StFam.setZ {w : World} {base lo n : Nat} {b r d m s : Int} {S L : Nat → Nat} {X : Nat → Nat → Value} {Ar G C : Nat → Nat → Nat} {Z Z' : Nat → Nat → List Int} (h : StFam w base lo n b r d m s S L X Ar G C Z) (e : ∀ i p, lo ≤ i → i < n → p ≤ b.toNat → Z i p = Z' i p) : StFam w base lo n b r d m s S L X Ar G C Z' :=
  ⟨fun i h1 h2 => (h.st i h1 h2).setC (fun p hp => e i p h1 h2 hp), h.apart⟩
theorem StFam.put {w : World} {base lo n n' : Nat} {b r d m s : Int} {S L : Nat → Nat} {X : Nat → Nat → Value} {Ar G C : Nat → Nat → Nat} {Z : Nat → Nat → List Int} (h : ∀ i, lo ≤ i → i < n' → i ≠ n → StIs w base (S i) (L i) b r d m s (X i) (Ar i) (G i) (C i) (Z i))
  (ha : ∀ i j p q, lo ≤ i → i < n' → i ≠ n → lo ≤ j → j < n' → j ≠ n → i ≠ j → p ≤ b.toNat → q ≤ b.toNat → C i p ≠ C j q) {S' L' : Nat} {X' : Nat → Value} {A' G' C' : Nat → Nat} {Z' : Nat → List Int} (hs : StIs w base S' L' b r d m s X' A' G' C' Z') (hc : ∀ i p q, lo ≤ i → i < n' → i ≠ n → p ≤ b.toNat → q ≤ b.toNat → C i p ≠ C' q) :
  StFam w base lo n' b r d m s (upN S n S') (upN L n L') (upN X n X') (upN Ar n A') (upN G n G') (upN C n C') (upN Z n Z') := by
 refine ⟨fun i h1 h2 => ?_, fun i j p q h1 h2 h3 h4 hne h5 h6 => ?_⟩
 ·by_cases e : i = n
  ·subst e; simp only [upN_same]; exact hs
  ·simp only [upN_other _ _ e]; exact h i h1 h2 e
 ·by_cases e1 : i = n
  ·subst e1
   rw [upN_same, upN_other _ _ (Ne.symm hne)]
   exact Ne.symm (hc j q p h3 h4 (Ne.symm hne) h6 h5)
  ·rw [upN_other _ _ e1]
   by_cases e2 : j = n
   ·subst e2; rw [upN_same]; exact hc i p q h1 h2 e1 h5 h6
   ·rw [upN_other _ _ e2]; exact ha i j p q h1 h2 e1 h3 h4 e2 hne h5 h6
theorem StFam.push {w : World} {base base' lo n : Nat} {b r d m s : Int} {S L : Nat → Nat} {X : Nat → Nat → Value} {Ar G C : Nat → Nat → Nat} {Z : Nat → Nat → List Int} (h : StFam w base lo n b r d m s S L X Ar G C Z) {S' L' : Nat} {X' : Nat → Value} {A' G' C' : Nat → Nat} {Z' : Nat → List Int} (hs : StIs w base' S' L' b r d m s X' A' G' C' Z') (hb : base ≤ base')
    (hlt : ∀ i p, lo ≤ i → i < n → p ≤ b.toNat → C i p < base') : StFam w base lo (n + 1) b r d m s (upN S n S') (upN L n L') (upN X n X') (upN Ar n A') (upN G n G') (upN C n C') (upN Z n Z') :=
  StFam.put (fun i h1 h2 h3 => h.st i h1 (by omega)) (fun i j p q h1 h2 h3 h4 h5 h6 hne hp hq => h.apart i j p q h1 (by omega) h4 (by omega) hne hp hq) (hs.low_ hb) (fun i p q h1 h2 h3 hp hq e => by
    have h4 := hlt i p h1 (by omega) hp
    have h5 := hs.low q hq
    omega)
theorem StFam.noBlk {w w' : World} {base lo n : Nat} {b r d m s : Int} {S L : Nat → Nat} {X : Nat → Nat → Value} {Ar G C : Nat → Nat → Nat} {Z : Nat → Nat → List Int} (h : StFam w base lo n b r d m s S L X Ar G C Z) {k : Nat} {t : TypeId} {cs : Array Value} (hk : Blk w k t cs) (ht : t ≠ 2 ∧ t ≠ 337 ∧ t ≠ 284 ∧ t ≠ 288 ∧ t ≠ 174 ∧ t ≠ 172)
    (hg : w.grownBy w' (some k)) : StFam w' base lo n b r d m s S L X Ar G C Z := ⟨fun i h1 h2 => (h.st i h1 h2).noBlk hk ht hg, h.apart⟩
theorem Tryz.infoSp : (Tryz.prog.info? 49).map (fun i => (i.zero, i.size, i.bytes)) = some (some (.pointer none), 1, 8) := by kernel_rfl
set_option maxRecDepth 100000 in
set_option maxHeartbeats 4000000 in
theorem wnew (b r d s : Int) (hr : rightB b r d 1 = true) (N : Nat) (hN1 : 1 ≤ N) (hN2 : N ≤ 16) (w : World) :
  Calls Tryz.prog 48 #[.agg #[.int .i64 b, .int .i64 r, .int .i64 d, .int .i64 1, .int .u64 s], .int .i64 (N : Int)] w fun e w' => ∃ V BR S L X A G C, e = .returned (.tuple #[.pointer (some ⟨V, 0, none⟩), .int .i64 0]) ∧ w.heap.size ≤ V ∧ w.heap.size ≤ BR ∧
   WbIs w' V BR N S ∧ StFam w' w.heap.size 2 (N + 3) b r d 1 s S L X A G C (fun _ => zeroZ b r d 1) ∧ Below w.heap.size w w' := by
 obtain ⟨i0', hi, hz0, hz1, hz2⟩ := info_parts Tryz.infoSp
 have PR := fun w => right_any b r d 1 s w
 rw [hr] at PR
 have PR := Lib.hid PR
 have HR := Lib.hid hr
 have PN := Lib.hid (fun w => stnew_yes b r d 1 s hr w)
 clear hr
 obtain ⟨g1, hb1, hsz1⟩ := news1 w (.cells #[.int .i64 b, .int .i64 r, .int .i64 d, .int .i64 1, .int .u64 s] 24)
 have hx1 : Blk _ w.heap.size 24 #[.int .i64 b, .int .i64 r, .int .i64 d, .int .i64 1, .int .u64 s] := g1
 have HB1 := Lib.hid hb1
 have HX1 := Lib.hid hx1
 have i0 : ¬ ((N : Int) < 1) := by omega
 have i1 : ¬ (16 < (N : Int)) := by omega
 clear g1 hb1 hsz1
 go_enter Tryz.func48, Tryz.ntmps48
 go_wp2_with (refine wpList_load_row rfl 24 _ rfl w.heap.size rfl 24 _ (0, 0) _ hx1 Tryz.underlying24 rfl (by kernel_rfl) ?_)
 with_reducible refine (PR.out _).mono ?_
 rintro e w2 ⟨rfl, hb⟩
 have HB2 := Lib.hid (btr HB1.out hb)
 have HX2 := Lib.hid (HX1.out.kept hb)
 clear hb hx1
 have q3 := HX2.out.cell 3
 simp at q3
 go_wp2_with (refine wpList_load_row rfl 24 _ rfl w.heap.size rfl 24 _ (0, 0) _ HX2.out Tryz.underlying24 rfl (by kernel_rfl) ?_)
 with_reducible refine (PN.out _).mono ?_
 rintro e w3 ⟨S0, L0, X0, A0, G0, C0, rfl, hS0, hst, hb⟩
 have HST := Lib.hid (hst.low_ (Nat.le_trans HB2.out.size (Nat.le_refl _)))
 have HB3 := Lib.hid (btr HB2.out hb)
 have HX3 := Lib.hid (HX2.out.kept hb)
 have hmk := fun W => run_make_row' (P := Tryz.prog) 196 49 (.pointer none) 8 Tryz.underlying196 Tryz.infoSp rfl .i64 .i64 N (by omega) (by omega) W
 clear hS0 hst hb q3
 go_wp2_with fail
 clear hmk
 have hbA : Below w3.heap.size w3 (w3.alloc (.cells (madeCells #[.pointer none] N) 49)) := (Below.refl _ _).alloc (Nat.le_refl _) _
 have hnA := Blk.new w3 49 (madeCells #[.pointer none] N)
 have hnB := Blk.new (w3.alloc (.cells (madeCells #[.pointer none] N) 49)) 198 #[.pointer (some ⟨S0, 0, none⟩), .slice (some ⟨w3.heap.size, 0, none⟩) N N]
 have hszA : (w3.alloc (.cells (madeCells #[.pointer none] N) 49)).heap.size = w3.heap.size + 1 := by simp
 rw [hszA] at hnB
 have hbB : Below w3.heap.size w3 ((w3.alloc (.cells (madeCells #[.pointer none] N) 49)).alloc (.cells #[.pointer (some ⟨S0, 0, none⟩), .slice (some ⟨w3.heap.size, 0, none⟩) N N] 198)) := hbA.alloc hbA.size _
 have hrA := hnA.alloc (.cells #[.pointer (some ⟨S0, 0, none⟩), .slice (some ⟨w3.heap.size, 0, none⟩) N N] 198)
 have HV4 := Lib.hid hnB
 have HR4 := Lib.hid hrA
 have HX4 := Lib.hid (HX3.out.kept hbB)
 have HST4 := Lib.hid (HST.out.kept hbB)
 have HB4 := Lib.hid (HB3.out.trans (hbB.mono HB3.out.size))
 have HSZ : Hid (w.heap.size < w3.heap.size) := Lib.hid HX3.out.lt
 clear hbA hnA hnB hszA hbB hrA HX3 HST HB3 HX2 HB2 HX1 HB1
 generalize ((w3.alloc (.cells (madeCells #[.pointer none] N) 49)).alloc (.cells #[.pointer (some ⟨S0, 0, none⟩), .slice (some ⟨w3.heap.size, 0, none⟩) N N] 198)) = w4 at *
 obtain ⟨V, hV⟩ : ∃ V, V = w3.heap.size + 1 := ⟨_, rfl⟩
 rw [← hV] at HV4 ⊢
 have HVB := Lib.hid hV
 clear hV
 generalize w3.heap.size = BR at *
 obtain ⟨cf, hcf⟩ : ∃ cf, cf = w.heap.size := ⟨_, rfl⟩
 have HCF := Lib.hid hcf
 clear hcf
 go_loopw [37] (fun i wr => ∃ (j : Nat) (S L : Nat → Nat) (X : Nat → Nat → Value) (A G C : Nat → Nat → Nat), j ≤ N ∧ i = .int .i64 (j : Int) ∧ S 2 = S0 ∧ StFam wr w.heap.size 2 (j + 3) b r d 1 s S L X A G C (fun _ => zeroZ b r d 1) ∧ Blk wr V 198 #[.pointer (some ⟨S0, 0, none⟩), .slice (some ⟨BR, 0, none⟩) N N] ∧
  (∃ cur : Array Value, Blk wr BR 49 cur ∧ cur.size = N ∧ ∀ k, k < j → cur[k]? = some (.pointer (some ⟨S (3 + k), 0, none⟩))) ∧ Blk wr w.heap.size 24 #[.int .i64 b, .int .i64 r, .int .i64 d, .int .i64 1, .int .u64 s] ∧ Below w.heap.size w wr) (fun i _ => N - (intOf i).toNat)
 case atStart =>
  refine ⟨0, _, _, _, _, _, _, by omega, rfl, upN_same (fun _ => 0) 2 S0, ((StFam.zero (lo := 2) (S := fun _ => 0) (L := fun _ => 0) (X := fun _ _ => undef) (Ar := fun _ _ => 0) (G := fun _ _ => 0) (C := fun _ _ => 0) (Z := fun _ => zeroZ b r d 1)).push HST4.out (Nat.le_refl _) (fun i p h1 h2 => by omega)).setZ (fun i p h1 h2 h3 => by rw [show i = 2 by omega, upN_same]), HV4.out, ⟨_, HR4.out, by simp [madeCells], fun k hk => by omega⟩, HX4.out, HB4.out⟩
 case round =>
  obtain ⟨j, S, L, X, A, G, C, hj, rfl, hs2, hfam, hv, ⟨cur, hcur, hcsz, hck⟩, hx, hbl⟩ := hrel
  have HF := Lib.hid hfam
  have HVr := Lib.hid hv
  have HRr := Lib.hid hcur
  have HC := Lib.hid (And.intro hcsz hck)
  have HX := Lib.hid hx
  have HBL := Lib.hid hbl
  have HS2 := Lib.hid hs2
  have HNE : Hid (w.heap.size ≠ BR ∧ V ≠ BR) := Lib.hid ⟨by have := HSZ.out; omega, by have := HVB.out; omega⟩
  clear hs2 hfam hv hcur hcsz hck hx hbl HV4 HR4 HX4 HST4 HB4
  by_cases hlt : j < N
  ·have i0 : (0 : Int) ≤ (j : Int) := by omega
   have i1 : (j : Int) < (N : Int) := by omega
   have i2 : (j : Int) < 100 := by omega
   have ht : (j : Int).toNat = j := Int.toNat_natCast j
   go_wp2_with fail
   refine wp_region_held_drew (S := fun w' => Blk w' w.heap.size 24 #[.int .i64 b, .int .i64 r, .int .i64 d, .int .i64 1, .int .u64 s] ∧ Blk w' V 198 #[.pointer (some ⟨S0, 0, none⟩), .slice (some ⟨BR, 0, none⟩) N N]) (by kernel_rfl) (by exact ⟨HX.out.kept (below_drewN (Below.refl _ _) 1), HVr.out.kept (below_drewN (Below.refl _ _) 1)⟩) (fun hHeld => ?_)
   refine tkH (i := 0) (v := ?_) rfl (by kernel_rfl) (fun _ _ _ h => h) (Or.inl ⟨by rfl, ?_⟩) (by assumption) ?_
   rotate_left
   ·intro w hSw
    try dsimp only at hSw
    go_simp
    try with_reducible rfl
   simp only [Act.put, z1, z2, z3, z4, z5, z6]
   refine tkH (i := 1) (v := ?_) rfl (by kernel_rfl) (fun _ _ _ h => h) (Or.inl ⟨by rfl, ?_⟩) (by assumption) ?_
   rotate_left
   ·intro w hSw
    try dsimp only at hSw
    go_simp
    try with_reducible rfl
   simp only [Act.put, z1, z2, z3, z4, z5, z6]
   refine tkH (i := 2) (v := ?_) rfl (by kernel_rfl) (fun _ _ _ h => h) (Or.inl ⟨by rfl, ?_⟩) (by assumption) ?_
   rotate_left
   ·intro w hSw
    try dsimp only at hSw
    go_simp
    try with_reducible rfl
   simp only [Act.put, z1, z2, z3, z4, z5, z6]
   refine tkH (i := 3) (v := ?_) rfl (by kernel_rfl) (fun _ _ _ h => h) (Or.inl ⟨by rfl, ?_⟩) (by assumption) ?_
   rotate_left
   ·intro w hSw
    have q1 := hSw.2.cell 1
    simp at q1
    try refine (exec_load_row 24 _ rfl _ rfl 24 _ (0, 0) _ hSw.1 Tryz.underlying24 rfl (by kernel_rfl)).trans ?_
    go_simp
    try with_reducible rfl
   simp only [Act.put, z1, z2, z3, z4, z5, z6]
   refine tkH (i := 4) (v := ?_) rfl (by kernel_rfl) (fun _ _ _ h => h) (Or.inl ⟨by rfl, ?_⟩) (by assumption) ?_
   rotate_left
   ·intro w hSw
    try dsimp only at hSw
    go_simp
    try with_reducible rfl
   simp only [Act.put, z1, z2, z3, z4, z5, z6]
   refine tkH (i := 5) (v := ?_) rfl (by kernel_rfl) (fun _ _ _ h => h) (Or.inl ⟨by rfl, ?_⟩) (by assumption) ?_
   rotate_left
   ·intro w hSw
    have q1 := hSw.2.cell 1
    simp at q1
    try refine (exec_load_row 24 _ rfl _ rfl 24 _ (0, 0) _ hSw.1 Tryz.underlying24 rfl (by kernel_rfl)).trans ?_
    go_simp
    try with_reducible rfl
   simp only [Act.put, z1, z2, z3, z4, z5, z6]
   refine wpAnyH_ready (rs := [6]) (by kernel_rfl) (by simp) ?_
   refine AllReadyH.cons rfl (fun Kc hKc => ?_) AllReadyH.nil
   go_simp
   go_wp2_with (go_at_call 36; refine (PN.out _).mono ?_; rintro e w5 ⟨S5, L5, X5, A5, G5, C5, rfl, hS5, hst5, hb'⟩; have HW5 := Lib.hid (btr (below_drewN (Below.refl wr.heap.size wr) 1) hb'); have HST5 := Lib.hid hst5; clear hst5 hS5)
   refine hKc.out _ _ ?_ (fun hHeld => ?_)
   ·first | assumption | exact ⟨hHeld.1.kept hb', hHeld.2.kept hb'⟩ | exact ⟨hHeld.1.grown (gr_setC (World.grownBy.refl _ _) j _) (by simpa using HNE.out.1), hHeld.2.grown (gr_setC (World.grownBy.refl _ _) j _) (by simpa using HNE.out.2)⟩
   clear hKc Kc
   refine tkH (i := 7) (v := ?_) rfl (by kernel_rfl) (fun _ _ _ h => h) (Or.inl ⟨by rfl, ?_⟩) (by assumption) ?_
   rotate_left
   ·intro w hSw
    try dsimp only at hSw
    go_simp
    try with_reducible rfl
   simp only [Act.put, z1, z2, z3, z4, z5, z6]
   refine tkH (i := 8) (v := ?_) rfl (by kernel_rfl) (fun _ _ _ h => h) (Or.inl ⟨by rfl, ?_⟩) (by assumption) ?_
   rotate_left
   ·intro w hSw
    try dsimp only at hSw
    go_simp
    try with_reducible rfl
   simp only [Act.put, z1, z2, z3, z4, z5, z6]
   refine tkH (i := 9) (v := ?_) rfl (by kernel_rfl) (fun _ _ _ h => h) (Or.inl ⟨by rfl, ?_⟩) (by assumption) ?_
   rotate_left
   ·intro w hSw
    try dsimp only at hSw
    go_simp
    try with_reducible rfl
   simp only [Act.put, z1, z2, z3, z4, z5, z6]
   refine tkH (i := 10) (v := ?_) rfl (by kernel_rfl) (fun _ _ _ h => h) (Or.inl ⟨by rfl, ?_⟩) (by assumption) ?_
   rotate_left
   ·intro w hSw
    try dsimp only at hSw
    go_simp
    try with_reducible rfl
   simp only [Act.put, z1, z2, z3, z4, z5, z6]
   refine wpAnyH_ready (rs := [11]) (by kernel_rfl) (by simp) ?_
   refine AllReadyH.cons rfl (fun Kc hKc => ?_) AllReadyH.nil
   have hr5 := HRr.out.kept HW5.out; have fz5 := hr5.frozen j; obtain ⟨q5, k5⟩ : ∃ q, w5.cell? ⟨BR, j, none⟩ = some q := ⟨_, (hr5.cell j).trans (Array.getElem?_eq_getElem (by rw [HC.out.1]; exact hlt))⟩; go_simp
   refine hKc.out _ _ ?_ (fun hHeld => ?_)
   ·first | assumption | exact ⟨hHeld.1.kept hb', hHeld.2.kept hb'⟩ | exact ⟨hHeld.1.grown (gr_setC (World.grownBy.refl _ _) j _) (by simpa using HNE.out.1), hHeld.2.grown (gr_setC (World.grownBy.refl _ _) j _) (by simpa using HNE.out.2)⟩
   clear hKc Kc
   refine wpAnyH_done (by kernel_rfl) ?_ _
   have hg6 : w5.grownBy (w5.setCell ⟨BR, j, none⟩ (.pointer (some ⟨S5, 0, none⟩))) (some BR) := gr_setC (World.grownBy.refl _ _) j _
   have hfam5 := ((HF.out.kept HW5.out).push HST5.out (by have := HBL.out.size; simpa using this) (fun i p h1 h2 hp => by simpa using (HF.out.st i h1 h2).ltC p hp)).noBlk hr5 (by decide) hg6
   have HFN : Hid (StFam (w5.setCell ⟨BR, j, none⟩ (.pointer (some ⟨S5, 0, none⟩))) w.heap.size 2 (j + 1 + 3) b r d 1 s (upN S (j + 3) S5) (upN L (j + 3) L5) (upN X (j + 3) X5) (upN A (j + 3) A5) (upN G (j + 3) G5) (upN C (j + 3) C5) (fun _ => zeroZ b r d 1)) := Lib.hid (hfam5.setZ (fun i p h1 h2 h3 => by
    by_cases e : i = j + 3
    ·rw [e, upN_same]
    ·rw [upN_other _ _ e]))
   have HRN := Lib.hid (Blk.set_ hr5 j (.pointer (some ⟨S5, 0, none⟩)))
   have HBN : Hid (Below w.heap.size w (w5.setCell ⟨BR, j, none⟩ (.pointer (some ⟨S5, 0, none⟩)))) := Lib.hid ((btr HBL.out HW5.out).grown hg6 (Nat.le_trans HBL.out.size HW5.out.size) (fun q e => by have := Option.some.inj e; have := HSZ.out; omega))
   have HHN := Lib.hid hHeld
   clear hg6 hfam5 hHeld hr5 fz5 k5 HST5 hb' HF HVr HX HBL HW5
   go_wp2_with fail
   go_roundw
   case rel =>
    refine ⟨j + 1, _, _, _, _, _, _, by omega, by go_num, ?_, HFN.out, HHN.out.2, ⟨_, HRN.out, by rw [Array.size_setIfInBounds, HC.out.1], fun k hk => ?_⟩, HHN.out.1, HBN.out⟩
    ·rw [upN_other _ _ (by omega)]; exact HS2.out
    ·by_cases e : k = j
     ·subst e
      rw [Array.getElem?_setIfInBounds, if_pos rfl, if_pos (by rw [HC.out.1]; exact hlt), show 3 + k = k + 3 by omega, upN_same]
     ·rw [Array.getElem?_setIfInBounds, if_neg (Ne.symm e), upN_other _ _ (by omega)]
      exact HC.out.2 k (by omega)
   case measure => simp [intOf]; omega
  ·obtain rfl : j = N := by omega
   go_wp2_with fail
   go_ret2
   refine ⟨V, BR, S, L, X, A, G, C, rfl, by have := HVB.out; have := HSZ.out; omega, by have := HSZ.out; omega, ⟨by rw [HS2.out]; exact HVr.out, cur, HRr.out, HC.out.1, HC.out.2⟩, HF.out, HBL.out⟩
end Go.Proofs.YtfeficdndjiijaaGreatDoor


namespace Go.Proofs.YtfeficdndjiijaaGreatDoor
open Go.RowKit
set_option linter.unusedVariables false
set_option linter.unusedSimpArgs false

def XOnl (l : List Nat) (base : Nat) (w w' : World) : Prop := Onl (fun k => k ∈ l ∨ (base ≤ k ∧ ∃ cs, Blk w k 2 cs)) w w'
theorem XOnl.below {l : List Nat} {base : Nat} {w w' : World} (h : Below w.heap.size w w') : XOnl l base w w' := Onl.below h
theorem XOnl.of {F : Nat → Prop} {l : List Nat} {base : Nat} {w w' : World} (h : Onl F w w') (hF : ∀ k, k < w.heap.size → F k → k ∈ l ∨ (base ≤ k ∧ ∃ cs, Blk w k 2 cs)) : XOnl l base w w' :=
  ⟨h.1, h.2.1, h.2.2.1, h.2.2.2.1, fun k hk hn => h.2.2.2.2 k hk (fun hf => hn (hF k hk hf))⟩
theorem XOnl.trans {l : List Nat} {base : Nat} {w w1 w2 : World} (h : XOnl l base w w1) (k : XOnl l base w1 w2) : XOnl l base w w2 :=
  ⟨k.1.trans h.1, k.2.1.trans h.2.1, k.2.2.1.trans h.2.2.1, Nat.le_trans h.2.2.2.1 k.2.2.2.1, fun x hx hn => by
    have e := h.2.2.2.2 x hx hn
    refine (k.2.2.2.2 x (Nat.lt_of_lt_of_le hx h.2.2.2.1) (fun hf => hn ?_)).trans e
    rcases hf with h1 | ⟨h1, cs, h2⟩
    · exact .inl h1
    · exact .inr ⟨h1, cs, by rw [show Blk w x 2 cs ↔ w.heap[x]? = some (.cells cs 2 (0, 0)) from Iff.rfl, ← e]; exact h2⟩⟩
theorem XOnl.to_below {l : List Nat} {base : Nat} {w w' : World} (h : XOnl l base w w') (hs : base ≤ w.heap.size) (hl : ∀ k ∈ l, base ≤ k) : Below base w w' :=
  Onl.to_below h hs (fun k hk => by rcases hk with h1 | ⟨h1, -⟩; exact hl k h1; exact h1)
theorem XOnl.blk {l : List Nat} {base : Nat} {w w' : World} (h : XOnl l base w w') {k : Nat} {t : TypeId} {cs : Array Value} (hk : Blk w k t cs) (h1 : k ∉ l) (h3 : t ≠ 2) : Blk w' k t cs := by
  refine (h.2.2.2.2 k hk.lt ?_).trans hk
  rintro (e | ⟨-, cs', e⟩)
  · exact h1 e
  · exact h3 (blk_one hk e)
structure WinSt (w : World) (base A bm V BR N : Nat) (b r d m s : Int) (S L : Nat → Nat) (X : Nat → Nat → Value) (Ar G C : Nat → Nat → Nat) (Z : Nat → Nat → List Int) : Prop where
  agg : ∃ T, AggIs w A bm 4 T ∧ T 1 = (some (S 1), none) ∧ (T 2).2 = none ∧ (T 3).2 = none ∧ T 4 = (none, some V)
  win : WbIs w V BR N S
  fam : StFam w base 1 (N + 3) b r d m s S L X Ar G C Z
  lo : base ≤ A ∧ base ≤ bm ∧ base ≤ V ∧ base ≤ BR
  tab : Tab w
theorem WinSt.kept {w w' : World} {base A bm V BR N : Nat} {b r d m s : Int} {S L : Nat → Nat} {X : Nat → Nat → Value} {Ar G C : Nat → Nat → Nat} {Z : Nat → Nat → List Int} (h : WinSt w base A bm V BR N b r d m s S L X Ar G C Z) (hb : Below w.heap.size w w') : WinSt w' base A bm V BR N b r d m s S L X Ar G C Z := by
  obtain ⟨T, h1, h2⟩ := h.agg
  exact ⟨⟨T, h1.kept hb, h2⟩, h.win.kept hb, h.fam.kept hb, h.lo, h.tab.kept hb⟩
theorem WinSt.setZ {w : World} {base A bm V BR N : Nat} {b r d m s : Int} {S L : Nat → Nat} {X : Nat → Nat → Value} {Ar G C : Nat → Nat → Nat} {Z Z' : Nat → Nat → List Int} (h : WinSt w base A bm V BR N b r d m s S L X Ar G C Z) (e : ∀ i p, 1 ≤ i → i < N + 3 → p ≤ b.toNat → Z i p = Z' i p) : WinSt w base A bm V BR N b r d m s S L X Ar G C Z' :=
  ⟨h.agg, h.win, h.fam.setZ e, h.lo, h.tab⟩
theorem WinSt.base_le {w : World} {base A bm V BR N : Nat} {b r d m s : Int} {S L : Nat → Nat} {X : Nat → Nat → Value} {Ar G C : Nat → Nat → Nat} {Z : Nat → Nat → List Int} (h : WinSt w base A bm V BR N b r d m s S L X Ar G C Z) : base ≤ w.heap.size := by
  obtain ⟨T, h1, h2⟩ := h.agg
  have := h1.lt
  have := h.lo
  omega
theorem WinSt.right {w : World} {base A bm V BR N : Nat} {b r d m s : Int} {S L : Nat → Nat} {X : Nat → Nat → Value} {Ar G C : Nat → Nat → Nat} {Z : Nat → Nat → List Int} (h : WinSt w base A bm V BR N b r d m s S L X Ar G C Z) : rightB b r d m = true := (h.fam.st 1 (by omega) (by omega)).right
theorem AggIs.beside {F : Nat → Prop} {w w' : World} {A bm n : Nat} {T : Nat → Option Nat × Option Nat} (h : AggIs w A bm n T) (ho : Onl F w w') (hF : ∀ k, F k → ∃ t cs, Blk w k t cs ∧ t ≠ 77) : AggIs w' A bm n T := by
  refine h.onl ho (fun hf => ?_) (fun hf => ?_)
  · obtain ⟨t, cs, h1, h2⟩ := hF _ hf
    exact h2 (blk_one h1 h.1)
  · obtain ⟨t, cs, h1, h2⟩ := hF _ hf
    obtain ⟨-, D, ⟨es, clock, h3, -⟩, -⟩ := h
    rw [show w.heap[bm]? = _ from h1] at h3
    cases h3
theorem winKeep {F : Nat → Prop} {w w' : World} {V BR N : Nat} {S : Nat → Nat} (h : WbIs w V BR N S) (ho : Onl F w w') (hF : ∀ k, F k → ∃ t cs, Blk w k t cs ∧ t ≠ 198 ∧ t ≠ 49) : WbIs w' V BR N S := by
  obtain ⟨h1, cur, h2, h3⟩ := h
  refine ⟨(ho.2.2.2.2 V h1.lt (fun hf => ?_)).trans h1, cur, (ho.2.2.2.2 BR h2.lt (fun hf => ?_)).trans h2, h3⟩
  · obtain ⟨t, cs, h4, h5⟩ := hF _ hf
    exact h5.1 (blk_one h4 h1)
  · obtain ⟨t, cs, h4, h5⟩ := hF _ hf
    exact h5.2 (blk_one h4 h2)
end Go.Proofs.YtfeficdndjiijaaGreatDoor

