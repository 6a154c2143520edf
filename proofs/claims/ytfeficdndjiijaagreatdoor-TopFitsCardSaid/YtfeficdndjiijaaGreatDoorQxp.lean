import Derived.Test.YtfeficdndjiijaaGreatDoorQxo
import Derived.Test.YtfeficdndjiijaaGreatDoorQxm
import Derived.Test.YtfeficdndjiijaaGreatDoorQxk
import Derived.Test.YtfeficdndjiijaaGreatDoorQxl
import Derived.Test.YtfeficdndjiijaaGreatDoorQxg
import Derived.Test.YtfeficdndjiijaaGreatDoorQxc
/-
  Contracts of the functions that TopFits reaches, and the plain laws that it leans on. Conditions: none beyond those stated at each theorem.
-/
namespace Go.Proofs.YtfeficdndjiijaaGreatDoor
open Go.RowKit
set_option linter.unusedVariables false
set_option linter.unusedSimpArgs false

def hvErr (pt : Nat → Nat → Int) (least budget : Int) (b : Nat) : Int := if least < 1 ∨ 4096 < budget then 1 else if budget < (askedUp pt least b (b + 1) : Int) then 7 else 0
def HvPost (w : World) (pt : Nat → Nat → Int) (least budget : Int) (b : Nat) (e : Ending) (w' : World) : Prop :=
  ∃ v, e = .returned (.tuple #[v, .int .i64 (hvErr pt least budget b)]) ∧ (hvErr pt least budget b = 0 → FdOwn w' w.heap.size v pt (hvOut pt least b (b + 1))) ∧ (hvErr pt least budget b ≠ 0 → v = .slice none 0 0) ∧ Below w.heap.size w w'
def PtIs (w : World) (S : Nat) (b : Nat) (r d m s : Int) (pt : Nat → Nat → Int) : Prop :=
  (∀ wq, Below w.heap.size w wq → Calls Tryz.prog 84 #[.pointer (some ⟨S, 0, none⟩)] wq fun e w' => e = .returned (.agg #[.int .i64 (b : Int), .int .i64 r, .int .i64 d, .int .i64 m, .int .u64 s]) ∧ Below wq.heap.size wq w') ∧
  ∀ wq, Below w.heap.size w wq → ∀ n i : Nat, n ≤ b → i < 2 ^ (b - n) → Calls Tryz.prog 94 #[.pointer (some ⟨S, 0, none⟩), .agg #[.int .i64 (n : Int), .int .u64 (i : Int)]] wq fun e w' => e = .returned (.tuple #[.int .i64 (pt n i), .int .i64 0]) ∧ Below wq.heap.size wq w'
set_option maxRecDepth 100000 in
set_option maxHeartbeats 8000000 in
theorem hvheavy (w : World) (S b : Nat) (r d m s : Int) (pt : Nat → Nat → Int) (hp : PtIs w S b r d m s pt) (hb1 : 1 ≤ b) (hb : b ≤ 59) (least budget : Int) (hl : In64 least) (hbu : In64 budget) :
  Calls Tryz.prog 97 #[.pointer (some ⟨S, 0, none⟩), .int .i64 least, .int .i64 budget] w (HvPost w pt least budget b) := by
 obtain ⟨iF, hF, hF0, hF1, hF2⟩ := info_parts Tryz.infoFd
 obtain ⟨iP, hP, hP0, hP1, hP2⟩ := info_parts Tryz.infoPc
 obtain ⟨hcf, hpt⟩ := hp
 have HCF := Lib.hid hcf
 have HPT := Lib.hid hpt
 clear hcf hpt
 by_cases h1 : least < 1 ∨ 4096 < budget
 ·have HQ : Hid (HvPost w pt least budget b (.returned (.tuple #[.slice none 0 0, .int .i64 1])) w) := Lib.hid (by
   have he : hvErr pt least budget b = 1 := by unfold hvErr; rw [if_pos h1]
   exact ⟨_, by rw [he], fun h => absurd h (by rw [he]; decide), fun _ => rfl, Below.refl _ _⟩)
  have d1 : (decide (least < 1) || decide (4096 < budget)) = true := by simp; omega
  go_enter Tryz.func97, Tryz.ntmps97
  by_cases hl1 : least < 1
  ·go_wp2
   go_ret2
   exact HQ.out
  ·have hb4 : 4096 < budget := by omega
   go_wp2
   go_ret2
   exact HQ.out
 ·have l1 : 1 ≤ least := by omega
  have l2 : budget ≤ 4096 := by omega
  have HE : Hid (hvErr pt least budget b = if budget < (askedUp pt least b (b + 1) : Int) then 7 else 0) := Lib.hid (by unfold hvErr; rw [if_neg h1])
  have HQ7 : Hid (∀ w', Below w.heap.size w w' → budget < (askedUp pt least b (b + 1) : Int) → HvPost w pt least budget b (.returned (.tuple #[.slice none 0 0, .int .i64 7])) w') := Lib.hid (fun w' hb' hh => by
   have he : hvErr pt least budget b = 7 := by rw [HE.out, if_pos hh]
   exact ⟨_, by rw [he], fun h => absurd h (by rw [he]; decide), fun _ => rfl, hb'⟩)
  have HQ0 : Hid (∀ w' v, Below w.heap.size w w' → ¬ budget < (askedUp pt least b (b + 1) : Int) → FdOwn w' w.heap.size v pt (hvOut pt least b (b + 1)) → HvPost w pt least budget b (.returned (.tuple #[v, .int .i64 0])) w') := Lib.hid (fun w' v hb' hh hf => by
   have he : hvErr pt least budget b = 0 := by rw [HE.out, if_neg hh]
   exact ⟨_, by rw [he], fun _ => hf, fun h => absurd he h, hb'⟩)
  clear h1
  go_enter Tryz.func97, Tryz.ntmps97
  go_wp2_with fail
  have hfd : ∀ w : World, (Instr.field 24 (.agg #[.int .i64 (b : Int), .int .i64 r, .int .i64 d, .int .i64 m, .int .u64 s]) 0).run Tryz.prog w = .ok (.int .i64 (b : Int)) w := fun _ => by kernel_rfl
  with_reducible refine (HCF.out w (Below.refl _ _)).mono ?_
  rintro e w2 ⟨rfl, hb2⟩
  have HB2 := Lib.hid hb2
  clear hb2
  go_wp2_with fail
  go_loopw [9, 10, 11, 34] (fun a o rw i wr => ∃ j : Nat, j ≤ b + 1 ∧ i = .int .i64 (j : Int) ∧ a = .int .i64 (askedUp pt least b j : Int) ∧ FdOwn wr w.heap.size o pt (hvOut pt least b j) ∧ (j ≤ b → PcOwn wr w.heap.size rw (b - j) (rowAt pt least b j)) ∧ (∀ k, rw.ownBlock = some k → o.ownBlock ≠ some k) ∧ askedUp pt least b j ≤ 4096 ∧ (0 < j → (askedUp pt least b j : Int) ≤ budget) ∧ (rowAt pt least b j).length ≤ 8192 ∧ Below w.heap.size w wr) (fun _ _ _ i _ => b + 1 - (intOf i).toNat)
  case atStart =>
   refine ⟨0, by omega, rfl, rfl, World.ownsRow_nil _ _ _ _, fun _ => ?_, by simp [Value.ownBlock], by show 0 ≤ 4096; decide, fun h => absurd h (by decide), by show 1 ≤ 8192; decide, HB2.out.alloc HB2.out.size _⟩
   exact World.ownsRow_lit (base := w.heap.size) (e := 155) (size := 2) w2 #[.int .i64 (b : Int), .int .u64 0] 1 HB2.out.size (by unfold maxLen; omega) (by simp)
  case round =>
   obtain ⟨j, hj, rfl, rfl, hfd, hpc, hne, hak, hab, hrl, hbel⟩ := hrel
   by_cases hlt : j ≤ b
   ·have HPC := Lib.hid (hpc hlt)
    obtain ⟨rao, rcap, hre, hrc, hrm⟩ := own_open (hpc hlt)
    subst hre
    have HFD := Lib.hid hfd
    have HNE := Lib.hid hne
    have HBr := Lib.hid hbel
    have hnx : askedUp pt least b (j + 1) = askedUp pt least b j + (rowAt pt least b j).length := rfl
    have HMO := Lib.hid (askedUp_mono pt least b (j := j + 1) (k := b + 1) (by omega))
    have HNX := Lib.hid hnx
    obtain ⟨L, hL⟩ : ∃ L, L = (rowAt pt least b j).length := ⟨_, rfl⟩
    have HL := Lib.hid hL
    rw [← hL] at hrl hrc hnx ⊢
    obtain ⟨q, hq⟩ : ∃ q, q = askedUp pt least b j := ⟨_, rfl⟩
    have HQ := Lib.hid hq
    rw [← hq] at hak hnx ⊢
    have hjb : (j : Int) < (b : Int) + 1 := by omega
    have hql : (q : Int) + (L : Int) ≤ 20000 := by omega
    have hql0 : 0 ≤ (q : Int) + (L : Int) := by omega
    clear hfd hpc hne hbel hL hq hj hnx
    generalize wr = wo at *
    by_cases hov : budget < (q : Int) + (L : Int)
    ·have HOV : Hid (budget < (askedUp pt least b (b + 1) : Int)) := Lib.hid (by have h1 := HMO.out; have h2 := HNX.out; have h3 := HL.out; have h4 := HQ.out; omega)
     go_wp2
     go_ret2
     exact HQ7.out _ HBr.out HOV.out
    ·have hsz := HBr.out.size
     have HSZ := Lib.hid hsz
     clear hsz
     go_wp2_with fail
     go_loopw [10, 12, 45] (fun o nx i wi => ∃ t : Nat, t ≤ L ∧ i = .int .i64 (t : Int) ∧ FdOwn wi w.heap.size o pt (hvOut pt least b j ++ foundR pt least (b - j) ((rowAt pt least b j).take t)) ∧ (j < b → PcOwn wi wo.heap.size nx (b - j - 1) (kids (toldR pt least (b - j) ((rowAt pt least b j).take t)))) ∧ (¬ j < b → nx = .slice none 0 0) ∧ (∀ k, nx.ownBlock = some k → o.ownBlock ≠ some k) ∧ (∀ k, (Value.slice rao L rcap).ownBlock = some k → o.ownBlock ≠ some k) ∧ PcOwn wi w.heap.size (.slice rao L rcap) (b - j) (rowAt pt least b j) ∧ Below w.heap.size w wi ∧ wo.heap.size ≤ wi.heap.size) (fun _ _ i _ => L - (intOf i).toNat)
     case atStart => exact ⟨0, by omega, rfl, by simpa [foundR, toldR] using HFD.out, fun _ => World.ownsRow_nil _ _ _ _, fun _ => rfl, by simp [Value.ownBlock], by rw [HL.out]; exact HNE.out, by rw [HL.out]; exact HPC.out, HBr.out, Nat.le_refl _⟩
     case round =>
      obtain ⟨t, ht, rfl, hfd, hpc, hnl, hne, hno, hrow, hbel, hsz⟩ := hrel
      by_cases hlt2 : t < L
      ·obtain ⟨x, hx⟩ : ∃ x, (rowAt pt least b j)[t]? = some x := ⟨_, List.getElem?_eq_getElem (by rw [← HL.out]; exact hlt2)⟩
       obtain ⟨g, cp, e, hg1, hg2, -, -, hrg⟩ := hrow.range hx
       simp only [Value.slice.injEq] at e
       obtain ⟨rfl, -, rfl⟩ := e
       have HSZR : Hid (g < wo.heap.size) := Lib.hid (HPC.out.lt g (by simp [Value.ownBlock])).2
       have HX := Lib.hid hx
       have hx2 : x < 2 ^ j := rowAt_lt pt least b j x (List.mem_of_getElem? hx)
       have HFD2 := Lib.hid hfd
       have HPC2 := Lib.hid hpc
       have HNL2 := Lib.hid hnl
       have HNE2 := Lib.hid hne
       have HNO2 := Lib.hid hno
       have HROW := Lib.hid hrow
       have HB2' := Lib.hid hbel
       have HSZ2 := Lib.hid hsz
       have HRG := Lib.hid hrg
       have htL : (t : Int) < (L : Int) := by omega
       have ht0 : (0 : Int) ≤ (t : Int) := by omega
       clear hx hfd hpc hnl hne hno hrow hbel hsz hrg
       have hrg := HRG.out
       have PPT := Lib.hid (fun wq hq => HPT.out wq hq (b - j) x (by omega) (by rw [show b - (b - j) = j by omega]; exact hx2))
       obtain ⟨n, hn⟩ : ∃ n, n = b - j := ⟨_, rfl⟩
       have HNN := Lib.hid hn
       rw [← hn] at hrg PPT
       have HBN := Lib.hid (HB2'.out.alloc HB2'.out.size (.cells #[.int .i64 (n : Int), .int .u64 (x : Int)] 155))
       clear hn
       go_wp2_with (refine wpList_load_mid rfl 155 _ rfl g (t * 2) rfl [.int .i64 (n : Int), .int .u64 (x : Int)] _ hrg Tryz.underlying155 rfl (by kernel_rfl) ?_)
       with_reducible refine (PPT.out _ HBN.out).mono ?_
       rintro e wa ⟨rfl, hb⟩
       have HAB := Lib.hid (btr ((Below.refl wr.heap.size wr).alloc (Nat.le_refl _) (.cells #[.int .i64 (n : Int), .int .u64 (x : Int)] 155)) hb)
       have hpx : Blk wa wr.heap.size 155 #[.int .i64 (n : Int), .int .u64 (x : Int)] := (Blk.new wr _ _).kept hb
       have HPX := Lib.hid hpx
       have HFDA := Lib.hid (HFD2.out.kept HAB.out)
       have HROWA := Lib.hid (HROW.out.kept HAB.out)
       have HPCA : Hid (j < b → PcOwn wa wo.heap.size u12 (n - 1) (kids (toldR pt least n ((rowAt pt least b j).take t)))) := Lib.hid (fun h => by rw [HNN.out]; exact (HPC2.out h).kept HAB.out)
       have HBA := Lib.hid (btr HB2'.out HAB.out)
       have hsza := HAB.out.size
       have HSA : Hid (wo.heap.size ≤ wa.heap.size) := Lib.hid (by have := HSZ2.out; omega)
       clear hb hsza hrg
       by_cases hlt3 : pt n x < least
       ·have HTS : Hid (foundR pt least (b - j) ((rowAt pt least b j).take (t + 1)) = foundR pt least (b - j) ((rowAt pt least b j).take t) ∧ kids (toldR pt least (b - j) ((rowAt pt least b j).take (t + 1))) = kids (toldR pt least (b - j) ((rowAt pt least b j).take t))) := Lib.hid (by
         rw [foundR_snoc HX.out, kids_snoc HX.out, ← HNN.out, if_neg (by omega), if_neg (by omega), List.append_nil, List.append_nil]
         exact ⟨rfl, rfl⟩)
        go_wp2_with fail
        go_roundw
        case rel => exact ⟨t + 1, by omega, by go_num, by rw [HTS.out.1]; exact HFDA.out, by rw [HTS.out.2, ← HNN.out]; exact HPCA.out, HNL2.out, HNE2.out, HNO2.out, HROWA.out, HBA.out, HSA.out⟩
        case measure => simp [intOf]; omega
       ·have hge : least ≤ pt n x := by omega
        have hlo := (hvOut_len pt least b j)
        have hcap1 : (hvOut pt least b j ++ foundR pt least (b - j) ((rowAt pt least b j).take t)).length ≤ 20000 := by
         rw [List.length_append, foundR, List.length_map]
         have h1 := toldR_le pt least (b - j) ((rowAt pt least b j).take t)
         have h2 : ((rowAt pt least b j).take t).length ≤ L := by rw [List.length_take, ← HL.out]; omega
         have h3 := HQ.out
         omega
        obtain ⟨N, hN⟩ : ∃ N, N = (hvOut pt least b j ++ foundR pt least (b - j) ((rowAt pt least b j).take t)).length := ⟨_, rfl⟩
        have HLN := Lib.hid hN
        have HFA : Hid (wa.ownsRow w.heap.size 157 3 u10 N (fdCells pt (hvOut pt least b j ++ foundR pt least (b - j) ((rowAt pt least b j).take t)))) := Lib.hid (by rw [hN]; exact HFDA.out)
        have hc1 : N + 1 ≤ maxLen := by unfold maxLen; omega
        have hc4 : (N + 1) * 24 ≤ 140737488355328 := by omega
        have HBA2 := Lib.hid (HBA.out.alloc HBA.out.size (.cells #[.int .i64 (n : Int), .int .u64 (x : Int), .int .i64 (pt n x)] 157))
        obtain ⟨oao, ocap, ho10, -, -⟩ := own_open HFA.out
        subst ho10
        clear hlo hcap1 hN
        go_wp2_with (first | refine wpList_load_row rfl 155 _ rfl wr.heap.size rfl 155 _ (0, 0) _ hpx Tryz.underlying155 rfl (by kernel_rfl) ?_ | (at_builtin; go_loud (refine wpList_append_own_at _ rfl _ _ 147 rfl w.heap.size 157 iF (.agg #[.int .i64 0, .int .u64 0, .int .i64 0]) 3 24 Tryz.underlying147 hF hF0 hF1 hF2 rfl (by decide) _ N _ rfl (World.ownsRow.alloc HFA.out _) ⟨wa.heap.size, 0, none⟩ 1 1 [.int .i64 (n : Int), .int .u64 (x : Int), .int .i64 (pt n x)] rfl rfl (cells_new _ rfl) ?c2 hc1 hc4 ?c5 ?_)))
        case c2 => simp [Value.oneCell']
        case c5 => exact HBA2.out.size
        intro v5 w5 hown' hgrow hnil' hq5
        have HTS : Hid (hvOut pt least b j ++ foundR pt least (b - j) ((rowAt pt least b j).take (t + 1)) = hvOut pt least b j ++ foundR pt least (b - j) ((rowAt pt least b j).take t) ++ [(n, x)] ∧ kids (toldR pt least (b - j) ((rowAt pt least b j).take (t + 1))) = kids (toldR pt least (b - j) ((rowAt pt least b j).take t)) ++ [2 * x, 2 * x + 1]) := Lib.hid (by
         rw [foundR_snoc HX.out, kids_snoc HX.out, ← HNN.out, if_pos hge, if_pos hge, List.append_assoc]
         exact ⟨rfl, rfl⟩)
        have HFD5 : Hid (FdOwn w5 w.heap.size v5 pt (hvOut pt least b j ++ foundR pt least (b - j) ((rowAt pt least b j).take (t + 1)))) := Lib.hid (FdOwn.push HTS.out.1 HLN.out hown')
        have HROW5 : Hid (PcOwn w5 w.heap.size (.slice (some ⟨g, 0, none⟩) L rcap) (b - j) (rowAt pt least b j)) := Lib.hid (own_gr (World.ownsRow.alloc HROWA.out _) hgrow (fun k e => HNO2.out k e))
        have HPC5 : Hid (j < b → PcOwn w5 wo.heap.size u12 (n - 1) (kids (toldR pt least n ((rowAt pt least b j).take t)))) := Lib.hid (fun h => own_gr (World.ownsRow.alloc (HPCA.out h) _) hgrow (fun k e => HNE2.out k e))
        have HNO5 : Hid (∀ k, (Value.slice (some ⟨g, 0, none⟩) L rcap).ownBlock = some k → v5.ownBlock ≠ some k) := Lib.hid (fun k e => by
         rcases hq5 with h | h
         ·rw [h]; exact HNO2.out k e
         ·rw [h]
          intro e2
          have := (HROWA.out.lt k e).2
          have := Option.some.inj e2
          omega)
        have HNE5 : Hid (∀ k, u12.ownBlock = some k → v5.ownBlock ≠ some k) := Lib.hid (fun k e => by
         rcases hq5 with h | h
         ·rw [h]; exact HNE2.out k e
         ·rw [h]
          intro e2
          by_cases hjb2 : j < b
          ·have := ((HPCA.out hjb2).lt k e).2
           have := Option.some.inj e2
           omega
          ·rw [HNL2.out hjb2] at e
           simp [Value.ownBlock] at e)
        have HPX5 : Hid (Blk w5 wr.heap.size 155 #[.int .i64 (n : Int), .int .u64 (x : Int)]) := Lib.hid ((HPX.out.alloc _).grown hgrow (own_far HFA.out HPX.out (by decide)))
        have HB5 := Lib.hid (HBA2.out.grown hgrow HBA2.out.size (fun k e => (HFA.out.lt k e).1))
        have hs5 := hgrow.size
        have HS5 : Hid (wo.heap.size ≤ w5.heap.size) := Lib.hid (by have := HSA.out; simp at hs5; omega)
        obtain ⟨pao, pcap, hv5, -, -⟩ := own_open hown'
        subst hv5
        clear hown' hgrow hnil' hq5 hs5 hc1 hc4 hpx
        have hp5 := HPX5.out
        go_wp2_with (refine wpList_load_row rfl 155 _ rfl wr.heap.size rfl 155 _ (0, 0) _ hp5 Tryz.underlying155 rfl (by kernel_rfl) ?_)
        by_cases hn0 : n = 0
        ·have PH : Hid (Calls Tryz.prog 138 #[.int .i64 (b : Int), .agg #[.int .i64 (n : Int), .int .u64 (x : Int)]] w5 fun e w' => e = .returned (.tuple #[.agg #[.int .i64 0, .int .u64 0], .agg #[.int .i64 0, .int .u64 0], .bool false]) ∧ Below w5.heap.size w5 w') := Lib.hid (by
          rw [hn0]
          exact halves_no b x hb1 hb (by have := HNN.out; rwa [show b = j by omega]) w5)
         with_reducible refine PH.out.mono ?_
         rintro e w6 ⟨rfl, hb⟩
         have HFD6 := Lib.hid (HFD5.out.kept hb)
         have HROW6 := Lib.hid (HROW5.out.kept hb)
         have HB6 := Lib.hid (btr HB5.out hb)
         have hs6 := hb.size
         have HS6 : Hid (wo.heap.size ≤ w6.heap.size) := Lib.hid (by have := HS5.out; omega)
         obtain ⟨-, -, hb8, hsz8⟩ := news2 w6 (.cells #[.int .i64 0, .int .u64 0] 155) (.cells #[.int .i64 0, .int .u64 0] 155)
         have HFD8 := Lib.hid (HFD6.out.kept hb8)
         have HROW8 := Lib.hid (HROW6.out.kept hb8)
         have HB8 := Lib.hid (btr HB6.out hb8)
         have HS8 := Lib.hid (Nat.le_trans HS6.out hb8.size)
         clear hb hs6 hp5 hb8 hsz8
         go_wp2_with fail
         go_roundw
         case rel => exact ⟨t + 1, by omega, by go_num, HFD8.out, fun h => absurd h (by have := HNN.out; omega), HNL2.out, HNE5.out, HNO5.out, HROW8.out, HB8.out, HS8.out⟩
         case measure => simp [intOf]; omega
        ·obtain ⟨m', hm'⟩ : ∃ m', n = m' + 1 := ⟨n - 1, by omega⟩
         have PH : Hid (Calls Tryz.prog 138 #[.int .i64 (b : Int), .agg #[.int .i64 (n : Int), .int .u64 (x : Int)]] w5 fun e w' => e = .returned (.tuple #[.agg #[.int .i64 (m' : Int), .int .u64 ((2 * x : Nat) : Int)], .agg #[.int .i64 (m' : Int), .int .u64 ((2 * x + 1 : Nat) : Int)], .bool true]) ∧ Below w5.heap.size w5 w') := Lib.hid (by
          rw [hm']
          exact halves_yes b m' x hb1 hb (by have := HNN.out; omega) (by have := HNN.out; rwa [show b - (m' + 1) = j by omega]) w5)
         have HM' := Lib.hid hm'
         obtain ⟨y1, hy1⟩ : ∃ y1, y1 = 2 * x := ⟨_, rfl⟩
         obtain ⟨y2, hy2⟩ : ∃ y2, y2 = 2 * x + 1 := ⟨_, rfl⟩
         rw [← hy2, ← hy1] at PH HTS
         with_reducible refine PH.out.mono ?_
         rintro e w6 ⟨rfl, hb⟩
         have HFD6 := Lib.hid (HFD5.out.kept hb)
         have HROW6 := Lib.hid (HROW5.out.kept hb)
         have HPC6 : Hid (j < b → PcOwn w6 wo.heap.size u12 (n - 1) (kids (toldR pt least n ((rowAt pt least b j).take t)))) := Lib.hid (fun h => (HPC5.out h).kept hb)
         have HB6 := Lib.hid (btr HB5.out hb)
         have hs6 := hb.size
         have HS6 : Hid (wo.heap.size ≤ w6.heap.size) := Lib.hid (by have := HS5.out; omega)
         have hjb2 : j < b := by have := HNN.out; omega
         obtain ⟨M, hM⟩ : ∃ M, M = (kids (toldR pt least n ((rowAt pt least b j).take t))).length := ⟨_, rfl⟩
         have hMle : M ≤ 20000 := by
          rw [hM, kids_len]
          have h1 := toldR_le pt least n ((rowAt pt least b j).take t)
          have h2 : ((rowAt pt least b j).take t).length ≤ L := by rw [List.length_take, ← HL.out]; omega
          omega
         have HLM := Lib.hid hM
         obtain ⟨g8, g9, hb8, hsz8⟩ := news2 w6 (.cells #[.int .i64 (m' : Int), .int .u64 (y1 : Int)] 155) (.cells #[.int .i64 (m' : Int), .int .u64 (y2 : Int)] 155)
         have HX8 : Hid (Blk _ w6.heap.size 155 #[.int .i64 (m' : Int), .int .u64 (y1 : Int)]) := Lib.hid g8
         have HX9 : Hid (Blk _ (w6.heap.size + 1) 155 #[.int .i64 (m' : Int), .int .u64 (y2 : Int)]) := Lib.hid g9
         have HFD8 := Lib.hid (HFD6.out.kept hb8)
         have HROW8 := Lib.hid (HROW6.out.kept hb8)
         have HB8 := Lib.hid (btr HB6.out hb8)
         have HS8 := Lib.hid (Nat.le_trans HS6.out hb8.size)
         have HPA := Lib.hid ((HPC6.out hjb2).kept hb8)
         have HPA : Hid (World.ownsRow _ wo.heap.size 155 2 u12 M (pcCells m' (kids (toldR pt least n ((rowAt pt least b j).take t))))) := Lib.hid (by
          have h1 := HPA.out
          unfold PcOwn at h1
          rw [← hM, show n - 1 = m' by omega] at h1
          exact h1)
         obtain ⟨nao, ncap, ho12, -, -⟩ := own_open HPA.out
         subst ho12
         have HSZ8 := Lib.hid hsz8
         have hc1 : M + 2 ≤ maxLen := by unfold maxLen; omega
         have hc4 : (M + 2) * 16 ≤ 140737488355328 := by omega
         have HJB2 := Lib.hid hjb2
         clear hb hs6 hp5 hm' hy1 hy2 hn0 hM hMle hjb2 g8 g9 hb8 hsz8
         have hx8 := HX8.out
         have hx9 := HX9.out
         go_wp2_with (first | refine wpList_load_row rfl 155 _ rfl w6.heap.size rfl 155 _ (0, 0) _ hx8 Tryz.underlying155 rfl (by kernel_rfl) ?_ | refine wpList_load_row rfl 155 _ rfl (w6.heap.size + 1) rfl 155 _ (0, 0) _ hx9 Tryz.underlying155 rfl (by kernel_rfl) ?_ | (at_builtin; go_loud (refine wpList_append_own_at _ rfl _ _ 256 rfl wo.heap.size 155 iP (.agg #[.int .i64 0, .int .u64 0]) 2 16 Tryz.underlying256 hP hP0 hP1 hP2 rfl (by decide) _ M _ rfl (World.ownsRow.alloc HPA.out _) ⟨_, 0, none⟩ 2 2 [.int .i64 (m' : Int), .int .u64 (y1 : Int), .int .i64 (m' : Int), .int .u64 (y2 : Int)] rfl rfl (cells_new' _ rfl (by simp)) ?c2 hc1 hc4 ?c5 ?_)))
         case c2 => simp [Value.oneCell']
         case c5 => exact Nat.le_trans HS8.out (by simp)
         intro v7 w7 hown' hgrow hnil' hq7
         generalize ((w6.alloc (.cells #[.int .i64 (m' : Int), .int .u64 (y1 : Int)] 155)).alloc (.cells #[.int .i64 (m' : Int), .int .u64 (y2 : Int)] 155)) = w8 at *
         have HFD7 : Hid (FdOwn w7 w.heap.size (.slice pao (N + 1) pcap) pt (hvOut pt least b j ++ foundR pt least (b - j) ((rowAt pt least b j).take (t + 1)))) := Lib.hid (own_gr (World.ownsRow.alloc HFD8.out _) hgrow (fun k e => fun e2 => HNE5.out k e2 e))
         have HROW7 : Hid (PcOwn w7 w.heap.size (.slice (some ⟨g, 0, none⟩) L rcap) (b - j) (rowAt pt least b j)) := Lib.hid (own_gr (World.ownsRow.alloc HROW8.out _) hgrow (fun k e => fun e2 => by
          have h1 := (HPA.out.lt k e2).1
          have h2 : g = k := by simpa [Value.ownBlock] using e
          have h3 := HSZR.out
          omega))
         have HPC7 : Hid (j < b → PcOwn w7 wo.heap.size v7 (b - j - 1) (kids (toldR pt least (b - j) ((rowAt pt least b j).take (t + 1))))) := Lib.hid (fun _ => by
          have h1 := HTS.out.2
          have hm := HM'.out
          have e := HNN.out
          rw [e] at hown' hm
          rw [show b - j - 1 = m' by omega]
          exact PcOwn.push2 h1 (by rw [HLM.out, HNN.out]) hown')
         have HNE7 : Hid (∀ k, v7.ownBlock = some k → (Value.slice pao (N + 1) pcap).ownBlock ≠ some k) := Lib.hid (fun k e => by
          rcases hq7 with h | h
          ·rw [h] at e; exact HNE5.out k e
          ·rw [h] at e
           intro e2
           have h1 := (HFD8.out.lt k e2).2
           have h2 := Option.some.inj e
           have h4 := HSZ8.out
           try simp at h2
           omega)
         have HB7 := Lib.hid ((HB8.out.alloc HB8.out.size (.cells #[.int .i64 (m' : Int), .int .u64 (y1 : Int), .int .i64 (m' : Int), .int .u64 (y2 : Int)] 155)).grown hgrow (Nat.le_trans HB8.out.size (by simp)) (fun k e => Nat.le_trans HSZ.out (HPA.out.lt k e).1))
         have HS7 : Hid (wo.heap.size ≤ w7.heap.size) := Lib.hid (by have h1 := hgrow.size; have h2 := HS8.out; simp at h1; omega)
         obtain ⟨zao, zcap, hv7, -, -⟩ := own_open hown'
         subst hv7
         clear hown' hgrow hnil' hq7 hx8 hx9 hc1 hc4
         go_wp2_with fail
         go_roundw
         case rel => exact ⟨t + 1, by omega, by go_num, HFD7.out, HPC7.out, fun h => absurd HJB2.out h, HNE7.out, HNO5.out, HROW7.out, HB7.out, HS7.out⟩
         case measure => simp [intOf]; omega
      ·have htL : t = L := by omega
       have htz : ¬ (t : Int) < (L : Int) := by omega
       have ht2 : (rowAt pt least b j).take t = rowAt pt least b j := List.take_of_length_le (by rw [htL, ← HL.out]; exact Nat.le_refl _)
       rw [ht2] at hfd hpc
       have HFD9 := Lib.hid hfd
       have HPC9 : Hid (j + 1 ≤ b → PcOwn wr w.heap.size u12 (b - (j + 1)) (rowAt pt least b (j + 1))) := Lib.hid (fun h => own_mono (by
        have := hpc (by omega)
        unfold PcOwn at this
        rw [show b - j - 1 = b - (j + 1) by omega] at this
        exact this) HSZ.out)
       have HNE9 := Lib.hid hne
       have HB9 := Lib.hid hbel
       have HK9 : Hid ((askedUp pt least b (j + 1) : Int) = (q : Int) + (L : Int) ∧ askedUp pt least b (j + 1) ≤ 4096 ∧ (askedUp pt least b (j + 1) : Int) ≤ budget ∧ (rowAt pt least b (j + 1)).length ≤ 8192) := Lib.hid (by
        have h1 := HNX.out
        have h2 := HQ.out
        have h3 := HL.out
        refine ⟨by omega, by omega, by omega, ?_⟩
        show (kids (toldR pt least (b - j) (rowAt pt least b j))).length ≤ 8192
        rw [kids_len]
        have := toldR_le pt least (b - j) (rowAt pt least b j)
        omega)
       clear hfd hpc hnl hne hno hrow hbel hsz ht2
       go_wp2_with fail
       go_roundw
       case rel => exact ⟨j + 1, by omega, by go_num, by rw [HK9.out.1], HFD9.out, HPC9.out, HNE9.out, HK9.out.2.1, fun _ => HK9.out.2.2.1, HK9.out.2.2.2, HB9.out⟩
       case measure => simp [intOf]; omega
   ·have hjb : j = b + 1 := by omega
    have HF : Hid (FdOwn wr w.heap.size _ pt (hvOut pt least b (b + 1))) := Lib.hid (by rw [← hjb]; exact hfd)
    have HN : Hid (¬ budget < (askedUp pt least b (b + 1) : Int)) := Lib.hid (by rw [← hjb]; have := hab (by omega); omega)
    have HB := Lib.hid hbel
    have hjn : ¬ (j : Int) < (b : Int) + 1 := by omega
    clear hfd hpc hne hak hab hrl hbel
    go_wp2
    go_ret2
    exact HQ0.out _ _ HB.out HN.out HF.out
end Go.Proofs.YtfeficdndjiijaaGreatDoor


namespace Go.Proofs.YtfeficdndjiijaaGreatDoor
open Go.RowKit
set_option linter.unusedVariables false
set_option linter.unusedSimpArgs false

def wQuantile : List UInt8 := [113, 117, 97, 110, 116, 105, 108, 101]
def wHeavy : List UInt8 := [104, 101, 97, 118, 121]
def QryIs2 (V : ByteArray) (x0 x1 : Int) (lo : Nat) (c : Value) (w : World) : Prop :=
  ∃ g, lo ≤ g ∧ c = .iface 123 (.agg #[.string V, .int .i64 x0, .slice (some ⟨g, 1, none⟩) 1 1]) ∧ w.rowIs g 2 2 (fun j => .int .i64 (cellD [x0, x1] j))
theorem qry2_stays (V : ByteArray) (x0 x1 : Int) (lo : Nat) : Stays (QryIs2 V x0 x1 lo) := fun c w w' h hb => by
  obtain ⟨g, h0, h1, h2⟩ := h
  exact ⟨g, h0, h1, h2.of_block (hb.block g h2.lt)⟩
theorem line_quantile (w : World) (base A bm n : Nat) (nb : Nat) (r d m s : Int) (S L : Nat → Nat) (X : Nat → Nat → Value) (Ar G C : Nat → Nat → Nat) (Z : Nat → Nat → List Int) (h : AggSt w base A bm n (nb : Int) r d m s S L X Ar G C Z) (hn : n ≤ 32) (s0 : 0 ≤ s) (s1 : s ≤ 18446744073709551615)
  (i : Nat) (h1 : 1 ≤ i) (h2 : i ≤ n) (hb1 : 1 ≤ nb) (hb : nb ≤ 59) (pt : Nat → Nat → Int) (hpt : ∀ n j, n ≤ nb → pt n j = lvPt (nb : Int) r d m s (n : Int) (Z i n) j) (hpb : ∀ n j, 0 ≤ pt n j ∧ pt n j ≤ 9223372036854775807)
  (k : Int) (k0 : 1 ≤ k) (k1 : k ≤ pt nb 0) (hw : wayN pt nb 0 k < 100) :
  Calls Tryz.prog 8 #[.pointer (some ⟨A, 0, none⟩), .string (sB (joinW [wQuantile, Lib.itoa (i : Int), Lib.itoa k]))] w fun e w' => ∃ t, e = .returned (.tuple #[.string t, .bool true]) ∧ t = sB ([107, 101, 121, 32] ++ Lib.decDigits (wayN pt nb 0 k)) ∧
   AggSt w' base A bm n (nb : Int) r d m s S L X Ar G C Z ∧ Below w.heap.size w w' := by
 obtain ⟨T, hT1, hT2⟩ := h.agg
 have hsz := h.base_le
 have hi64 : In64 (i : Int) := by unfold In64; omega
 have hk64 : In64 k := by have := (hpb nb 0).2; unfold In64; omega
 refine line_of A _ w (QryIs2 (sB wQuantile) (i : Int) k 0)
  (fun rr w2 => rr = .iface 140 (.agg #[.int .u64 (wayN pt nb 0 k : Nat)]) ∧ AggSt w2 base A bm n (nb : Int) r d m s S L X Ar G C Z ∧ Below w.heap.size w w2)
  _ (fun c _ hc => by obtain ⟨g, -, hc, -⟩ := hc; exact ⟨_, _, hc⟩) ?_ ?_ ?_
 ·refine parse_ws _ (qry2_stays _ _ _ _) _ (fun a ha => ?_) (by simp) (by simp) w h.tab (fun w1 R v en hle hr1 hv ht1 => ?_)
  ·simp only [List.mem_cons, List.mem_nil_iff, or_false] at ha
   rcases ha with rfl | rfl | rfl
   ·exact plainLit _ (by decide)
   ·exact num_plain _ hi64.1 hi64.2
   ·exact num_plain _ hk64.1 hk64.2
  ·refine (cmd_quantile w1 R v _ en i k hr1 hv rfl (by simp) rfl rfl hi64 hk64 ht1).mono ?_
   rintro e w' ⟨⟨g, rfl, hg, hrow⟩, h2, h3⟩
   exact ⟨_, rfl, ⟨g, Nat.zero_le _, rfl, hrow⟩, h2, h3⟩
 ·rintro c w1 hb1' ⟨g, -, rfl, hrow⟩
  refine do_query w1 A (sB wQuantile) (i : Int) (some ⟨g, 1, none⟩) 1 1 _ (fun w2 hb2 => ?_)
  have hb12 := btr hb1' hb2
  have hk2 := hT1.kept hb12
  refine (agg_quantile w2 A bm n T i k (S i) g (wayN pt nb 0 k : Nat) hk2 (by omega) (by omega) (by omega) (by rw [Int.toNat_natCast]; exact hT2 i h1 h2) (hrow.of_block (hb2.block g hrow.lt)) (fun w3 hb3 => ?_)).mono ?_
  ·have h3 := h.kept (btr hb12 hb3)
   exact quantile_any w3 base (S i) (L i) nb r d m s (X i) (Ar i) (G i) (C i) (Z i) (h3.st i h1 h2) s0 s1 hb1 hb pt hpt hpb k k0 k1
  ·rintro e w4 ⟨rfl, hb4⟩
   exact ⟨_, rfl, rfl, h.kept (btr hb12 hb4), btr hb12 hb4⟩
 ·rintro rr w2 ⟨rfl, hA, hB⟩
  refine (text_key _ hw w2).mono ?_
  rintro e w3 ⟨rfl, hb3⟩
  exact ⟨_, rfl, rfl, hA.kept hb3, btr hB hb3⟩
theorem StIs.ptIs {w : World} {base S L nb : Nat} {r d m s : Int} {X : Nat → Value} {A G C : Nat → Nat} {Z : Nat → List Int} (h : StIs w base S L (nb : Int) r d m s X A G C Z) (s0 : 0 ≤ s) (s1 : s ≤ 18446744073709551615) (hb : nb ≤ 59) (pt : Nat → Nat → Int) (hpt : ∀ n i, n ≤ nb → pt n i = lvPt (nb : Int) r d m s (n : Int) (Z n) i) : PtIs w S nb r d m s pt := by
  refine ⟨fun wq hq => stconfig wq base S L (nb : Int) r d m s X A G C Z (h.kept hq), fun wq hq n i hn hi => ?_⟩
  have h60 : 2 ^ (nb - n) ≤ 2 ^ 59 := Nat.pow_le_pow_right (by decide) (by omega)
  have h59 : (2 : Nat) ^ 59 = 576460752303423488 := by decide
  rw [hpt n i hn]
  refine stpoint wq base S L (nb : Int) r d m s X A G C Z (h.kept hq) s0 s1 n (by simp; omega) i (by omega) ?_
  rw [keysI_yes h.right (by omega) (by omega), show ((nb : Int) - (n : Int)).toNat = nb - n by omega]
  have e : ((2 ^ (nb - n) : Nat) : Int) = (2 : Int) ^ (nb - n) := by simp
  rw [← e]
  omega
theorem line_heavy (w : World) (base A bm n : Nat) (nb : Nat) (r d m s : Int) (S L : Nat → Nat) (X : Nat → Nat → Value) (Ar G C : Nat → Nat → Nat) (Z : Nat → Nat → List Int) (h : AggSt w base A bm n (nb : Int) r d m s S L X Ar G C Z) (hn : n ≤ 32) (s0 : 0 ≤ s) (s1 : s ≤ 18446744073709551615)
  (i : Nat) (h1 : 1 ≤ i) (h2 : i ≤ n) (hb1 : 1 ≤ nb) (hb : nb ≤ 59) (pt : Nat → Nat → Int) (hpt : ∀ n j, n ≤ nb → pt n j = lvPt (nb : Int) r d m s (n : Int) (Z i n) j)
  (least budget : Int) (hl : In64 least) (hbu : In64 budget) (he : hvErr pt least budget nb = 0) (hlen : (hvOut pt least nb (nb + 1)).length ≤ 1000) (hall : ∀ p ∈ hvOut pt least nb (nb + 1), p.1 < 100 ∧ p.2 < 100 ∧ In64 (pt p.1 p.2)) :
  Calls Tryz.prog 8 #[.pointer (some ⟨A, 0, none⟩), .string (sB (joinW [wHeavy, Lib.itoa (i : Int), Lib.itoa least, Lib.itoa budget]))] w fun e w' => ∃ t, e = .returned (.tuple #[.string t, .bool true]) ∧ t = sB (listT pt (hvOut pt least nb (nb + 1))) ∧
   AggSt w' base A bm n (nb : Int) r d m s S L X Ar G C Z ∧ Below w.heap.size w w' := by
 obtain ⟨T, hT1, hT2⟩ := h.agg
 have hsz := h.base_le
 have hi64 : In64 (i : Int) := by unfold In64; omega
 refine line_of A _ w (QryIs (sB wHeavy) (i : Int) least budget 0)
  (fun rr w2 => (∃ ao k cp, rr = .iface 149 (.agg #[.slice ao k cp]) ∧ ∃ lo, FdOwn w2 lo (.slice ao k cp) pt (hvOut pt least nb (nb + 1))) ∧ AggSt w2 base A bm n (nb : Int) r d m s S L X Ar G C Z ∧ Below w.heap.size w w2)
  _ (fun c _ hc => by obtain ⟨g, -, hc, -⟩ := hc; exact ⟨_, _, hc⟩) ?_ ?_ ?_
 ·refine parse_ws _ (qry_stays _ _ _ _ _) _ (fun a ha => ?_) (by simp) (by simp) w h.tab (fun w1 R v en hle hr1 hv ht1 => ?_)
  ·simp only [List.mem_cons, List.mem_nil_iff, or_false] at ha
   rcases ha with rfl | rfl | rfl | rfl
   ·exact plainLit _ (by decide)
   ·exact num_plain _ hi64.1 hi64.2
   ·exact num_plain _ hl.1 hl.2
   ·exact num_plain _ hbu.1 hbu.2
  ·refine (cmd_heavy w1 R v _ en i least budget hr1 hv rfl (by simp) rfl rfl rfl hi64 hl hbu ht1).mono ?_
   rintro e w' ⟨⟨g, rfl, hg, hrow⟩, h2, h3⟩
   exact ⟨_, rfl, ⟨g, Nat.zero_le _, rfl, hrow⟩, h2, h3⟩
 ·rintro c w1 hb1' ⟨g, -, rfl, hrow⟩
  refine do_query w1 A (sB wHeavy) (i : Int) (some ⟨g, 1, none⟩) 2 2 _ (fun w2 hb2 => ?_)
  have hb12 := btr hb1' hb2
  have hk2 := hT1.kept hb12
  refine (agg_heavy w2 A bm n T i least budget (S i) g (fun v w' => ∃ lo, FdOwn w' lo v pt (hvOut pt least nb (nb + 1))) hk2 (by omega) (by omega) (by omega) (by rw [Int.toNat_natCast]; exact hT2 i h1 h2) (hrow.of_block (hb2.block g hrow.lt)) (fun w3 hb3 => ?_)).mono ?_
  ·have h3 := h.kept (btr hb12 hb3)
   refine (hvheavy w3 (S i) nb r d m s pt ((h3.st i h1 h2).ptIs s0 s1 hb pt hpt) hb1 hb least budget hl hbu).mono ?_
   rintro e w4 ⟨v, rfl, hf, -, hb4⟩
   rw [he]
   obtain ⟨ao, cap, hv, -, -⟩ := own_open (hf he)
   subst hv
   exact ⟨⟨_, _, _, rfl, _, hf he⟩, hb4⟩
  ·rintro e w4 ⟨⟨ao, k, cp, rfl, hf⟩, hb4⟩
   exact ⟨_, rfl, ⟨_, _, _, rfl, hf⟩, h.kept (btr hb12 hb4), btr hb12 hb4⟩
 ·rintro rr w2 ⟨⟨ao, k, cp, rfl, lo, hf⟩, hA, hB⟩
  refine (text_list w2 lo pt _ _ hf hlen hall hA.tab).mono ?_
  rintro e w3 ⟨rfl, hb3⟩
  exact ⟨_, rfl, rfl, hA.kept hb3, btr hB hb3⟩
end Go.Proofs.YtfeficdndjiijaaGreatDoor


namespace Go.Proofs.YtfeficdndjiijaaGreatDoor
open Go.RowKit
set_option linter.unusedVariables false
set_option linter.unusedSimpArgs false

def DigS (n X : Nat) (bs : List Int) : Prop := (bs = [] ∧ X = n) ∨ (bs ≠ [] ∧ (X = 0 → Lib.decDigits n = u8s bs.reverse) ∧ (X ≠ 0 → Lib.decDigits n = Lib.decDigits X ++ u8s bs.reverse))
theorem DigS.next {n X : Nat} {bs : List Int} (h : DigS n X bs) (hX : X ≠ 0 ∨ bs = []) : DigS n (X / 10) (bs ++ [48 + ((X % 10 : Nat) : Int)]) := by
  have h0 : Lib.decDigits n = Lib.decDigits X ++ u8s bs.reverse := by
    rcases h with ⟨rfl, rfl⟩ | ⟨h1, h2, h3⟩
    · simp [u8s]
    · rcases hX with hX | hX
      · exact h3 hX
      · exact absurd hX h1
  have hs := dec_step n X _ h0
  have e : u8s (bs ++ [48 + ((X % 10 : Nat) : Int)]).reverse = UInt8.ofNat (48 + X % 10) :: u8s bs.reverse := by
    simp only [u8s, List.reverse_append, List.reverse_singleton, List.singleton_append, List.map_cons]
    congr 1
  exact .inr ⟨by simp, fun h => by rw [e]; exact hs.1 h, fun h => by rw [e]; exact hs.2 h⟩
theorem DigS.len {n X : Nat} {bs : List Int} (h : DigS n X bs) : bs.length ≤ (Lib.decDigits n).length := by
  rcases h with ⟨rfl, rfl⟩ | ⟨h1, h2, h3⟩
  · simp
  · by_cases hX : X = 0
    · rw [h2 hX]; simp [u8s]
    · rw [h3 hX]; simp [u8s]
def nilN (v : Value) : Nat := match v with | .slice _ n _ => if n = 0 then 1 else 0 | _ => 0
set_option maxRecDepth 100000 in
set_option maxHeartbeats 8000000 in
theorem wtext (n : Nat) (hn0 : 1 ≤ n) (hn : n < 18446744073709551616) (w : World) : Calls Tryz.prog 55 #[.agg #[.int .i64 0, .int .u64 (n : Int)]] w fun e w' => e = .returned (.string (sB (Lib.decDigits n))) ∧ Below w.heap.size w w' := by
 obtain ⟨i0', hi, hz0, hz1, hz2⟩ := info_parts Tryz.info8
 have hx := Blk.new w 143 #[.int .i64 0, .int .u64 (n : Int)]
 have hb0 : Below w.heap.size w (w.alloc (.cells #[.int .i64 0, .int .u64 (n : Int)] 143)) := (Below.refl _ w).alloc (Nat.le_refl _) _
 have HX := Lib.hid hx
 have HB0 := Lib.hid hb0
 have PS := Lib.hid (wsize (n : Int) (by omega) (by omega) (w.alloc (.cells #[.int .i64 0, .int .u64 (n : Int)] 143)))
 clear hx hb0
 go_enter Tryz.func55, Tryz.ntmps55
 go_wp2_with (refine wpList_load_row rfl 143 _ rfl w.heap.size rfl 143 _ (0, 0) _ HX.out Tryz.underlying143 rfl (by kernel_rfl) ?_)
 with_reducible refine PS.out.mono ?_
 rintro e w1 ⟨rfl, hb1⟩
 have HX1 := Lib.hid (HX.out.kept hb1)
 have HB1 := Lib.hid (btr HB0.out hb1)
 clear hb1 PS HX HB0
 go_wp2_with fail
 go_loopw [3, 4, 5, 6] (fun hi lo l rest wr => ∃ (X : Nat) (bs : List Int), hi = .int .u64 0 ∧ lo = .int .u64 (X : Int) ∧ X ≤ n ∧ OwnB wr w.heap.size l bs ∧ DigS n X bs ∧ Blk wr w.heap.size 143 #[.int .i64 0, .int .u64 (n : Int)] ∧ Below w.heap.size w wr) (fun _ lo l _ _ => 2 * (intOf lo).toNat + nilN l)
 case atStart => exact ⟨n, [], rfl, rfl, Nat.le_refl _, World.ownsRow_nil _ _ _ _, .inl ⟨rfl, rfl⟩, HX1.out, HB1.out⟩
 case round =>
  obtain ⟨X, bs, rfl, rfl, hXn, hown, hdg, hx, hbel⟩ := hrel
  obtain ⟨ao, cap, rfl, -, -⟩ := hown.open_
  have HO := Lib.hid hown
  have HD := Lib.hid hdg
  have HXB := Lib.hid hx
  have HBL := Lib.hid hbel
  clear hown hdg hx hbel HX1
  obtain ⟨q, hq⟩ : ∃ q, q = bs.length := ⟨_, rfl⟩
  have HQ := Lib.hid hq
  rw [← hq]
  have hq41 : q ≤ 20 := by have h1 := HD.out.len; have h2 := dec_len n hn; omega
  by_cases hX : 0 < X
  ·have hgo : X ≠ 0 ∨ bs = [] := .inl (by omega)
   have PD := Lib.hid (div10 X (by omega) wr)
   have HNX := Lib.hid (HD.out.next hgo)
   obtain ⟨r, hr⟩ : ∃ r : Int, r = ((X % 10 : Nat) : Int) := ⟨_, rfl⟩
   have hr10 : 0 ≤ r ∧ r < 10 := by omega
   have HR := Lib.hid hr
   rw [← hr] at PD HNX
   have hX0 : (0 : Int) ≤ (X : Int) := by omega
   have HMS : Hid (X / 10 ≤ n ∧ (X ≠ 0 → X / 10 < X)) := Lib.hid ⟨by omega, by omega⟩
   have w8 : IntKind.u8.wrap (48 + IntKind.u8.wrap r) = 48 + r := by simp [IntKind.wrap, IntKind.bits, IntKind.signed]; omega
   have w8' : IntKind.u8.wrap (48 + r) = 48 + r := by simp [IntKind.wrap, IntKind.bits, IntKind.signed]; omega
   have hc1 : q + 1 ≤ maxLen := by unfold maxLen; omega
   have hsz := HBL.out.size
   clear hr
   go_wp2_with fail
   with_reducible refine PD.out.mono ?_
   rintro e w3 ⟨rfl, hb3⟩
   have HO3 := Lib.hid (HO.out.kept hb3)
   have HXB3 := Lib.hid (HXB.out.kept hb3)
   have HBL3 := Lib.hid (btr HBL.out hb3)
   have hsz3 := HBL3.out.size
   clear hb3 PD HXB hgo HD HO HBL
   rw [HQ.out] at hc1 hq41
   go_wp2_with (at_builtin; refine wpList_append_own_at _ rfl _ _ 41 rfl w.heap.size 5 i0' (.int .u8 0) 1 1 Tryz.underlying41 hi hz0 hz1 hz2 rfl (by decide) _ bs.length _ rfl (World.ownsRow.alloc HO3.out _) ⟨w3.heap.size, 0, none⟩ 1 1 [.int .u8 (48 + r)] rfl rfl (cell_one_new _ _ _) ?c2 hc1 ?c4 ?c5 ?_)
   case c2 => simp [Value.oneCell']
   case c4 => omega
   case c5 => simp; omega
   intro v5 w5 hown' hgrow hnil' hq9
   have HO5 : Hid (OwnB w5 w.heap.size v5 (bs ++ [48 + r])) := Lib.hid (by unfold OwnB; rw [List.length_append, List.map_append]; exact hown')
   obtain ⟨ao5, cap5, rfl, -, -⟩ := HO5.out.open_
   have hal : Below w3.heap.size w3 (w3.alloc (.cells #[.int .u8 (48 + r)] 5)) := (Below.refl _ _).alloc (Nat.le_refl _) _
   have HXB5 := Lib.hid ((HXB3.out.kept hal).grown hgrow (own_far (World.ownsRow.alloc HO3.out _) (HXB3.out.kept hal) (by decide)))
   have HBL5 : Hid (Below w.heap.size w w5) := Lib.hid ((btr HBL3.out hal).grown hgrow (by simp; omega) (fun k e => (World.ownsRow.lt HO3.out k e).1))
   clear hown' hgrow hnil' hq9 hal HO3 HXB3 HBL3
   go_wp2_with fail
   go_roundw
   case rel => exact ⟨X / 10, bs ++ [48 + r], rfl, by simp, HMS.out.1, HO5.out, HNX.out, HXB5.out, HBL5.out⟩
   case measure => simp [intOf, nilN]; omega
  ·obtain rfl : X = 0 := by omega
   have hbs : bs ≠ [] := by
    rcases HD.out with ⟨-, h⟩ | ⟨h, -⟩
    ·omega
    ·exact h
   have hdg : Lib.decDigits n = u8s bs.reverse := by
    rcases HD.out with ⟨-, h⟩ | ⟨-, h, -⟩
    ·omega
    ·exact h rfl
   have hq0 : 0 < bs.length := List.length_pos_iff.2 hbs
   have hq0' : ¬ ((q : Int) = 0) := by rw [hq]; omega
   have PV := Lib.hid (reversed_any wr w.heap.size _ bs HO.out hq0 (by rw [← hq]; omega))
   have HDG := Lib.hid hdg
   rw [← hq] at PV
   have c0 := HXB.out.cell 0
   simp at c0
   clear hbs hdg hq hq0 HD HO HQ
   go_wp2_with fail
   with_reducible refine PV.out.mono ?_
   rintro e w9 ⟨rfl, hb9⟩
   have HB9 := Lib.hid (HBL.out.trans (hb9 w.heap.size (Nat.le_refl _) HBL.out.size))
   clear hb9 c0
   go_wp2_with fail
   go_ret
   exact ⟨by rw [HDG.out]; rfl, HB9.out⟩
theorem taWideDone (a b : Int) (w : World) : (Instr.typeAssert (.iface 145 (.agg #[.int .i64 a, .int .u64 b])) 68 133 true).run Tryz.prog w = .ok (.tuple #[.agg #[], .bool false]) w := by kernel_rfl
theorem taWideHandle (a b : Int) (w : World) : (Instr.typeAssert (.iface 145 (.agg #[.int .i64 a, .int .u64 b])) 68 135 true).run Tryz.prog w = .ok (.tuple #[.agg #[.int .i64 0], .bool false]) w := by kernel_rfl
theorem taWideNumber (a b : Int) (w : World) : (Instr.typeAssert (.iface 145 (.agg #[.int .i64 a, .int .u64 b])) 68 137 true).run Tryz.prog w = .ok (.tuple #[.agg #[.int .i64 0], .bool false]) w := by kernel_rfl
theorem taWideKey (a b : Int) (w : World) : (Instr.typeAssert (.iface 145 (.agg #[.int .i64 a, .int .u64 b])) 68 140 true).run Tryz.prog w = .ok (.tuple #[.agg #[.int .u64 0], .bool false]) w := by kernel_rfl
theorem taWideWide (a b : Int) (w : World) : (Instr.typeAssert (.iface 145 (.agg #[.int .i64 a, .int .u64 b])) 68 145 true).run Tryz.prog w = .ok (.tuple #[.agg #[.int .i64 a, .int .u64 b], .bool true]) w := by kernel_rfl
set_option maxRecDepth 100000 in
set_option maxHeartbeats 4000000 in
theorem text_wide (n : Nat) (hn0 : 1 ≤ n) (hn : n < 18446744073709551616) (w : World) : Calls Tryz.prog 25 #[.iface 145 (.agg #[.int .i64 0, .int .u64 (n : Int)])] w fun e w' => e = .returned (.string (sB ([119, 105, 100, 101, 32] ++ Lib.decDigits n))) ∧ Below w.heap.size w w' := by
 have P := Lib.hid (fun w => wtext n hn0 hn w)
 have hsz : ¬ 9223372036854775807 < 5 + (sB (Lib.decDigits n)).size := by
  rw [sB_size]; have := dec_len n hn; omega
 have HAP := Lib.hid (sB_append [119, 105, 100, 101, 32] (Lib.decDigits n))
 have t0 := taWideDone 0 (n : Int)
 have t1 := taWideHandle 0 (n : Int)
 have t2 := taWideNumber 0 (n : Int)
 have t3 := taWideKey 0 (n : Int)
 have t4 := taWideWide 0 (n : Int)
 have HB1 : Hid (Below w.heap.size w ((w.alloc (.cells #[.pointer none, .slice none 0 0] 132)).alloc (.cells #[.int .i64 0, .int .u64 (n : Int)] 145))) := Lib.hid (((Below.refl _ w).alloc (Nat.le_refl _) _).alloc (by simp) _)
 have hxb : Blk ((w.alloc (.cells #[.pointer none, .slice none 0 0] 132)).alloc (.cells #[.int .i64 0, .int .u64 (n : Int)] 145)) (w.heap.size + 1) 145 #[.int .i64 0, .int .u64 (n : Int)] := by
  have := Blk.new (w.alloc (.cells #[.pointer none, .slice none 0 0] 132)) 145 #[.int .i64 0, .int .u64 (n : Int)]
  simpa using this
 have HXB := Lib.hid hxb
 clear hxb hn hn0
 generalize sB (Lib.decDigits n) = S at *
 go_enter Tryz.func25, Tryz.ntmps25
 go_wp2_with (refine wpList_load_row rfl 143 _ rfl (w.heap.size + 1) rfl 145 _ (0, 0) _ HXB.out Tryz.underlying143 rfl (by kernel_rfl) ?_)
 with_reducible refine (P.out _).mono ?_
 rintro e w2 ⟨rfl, hb2⟩
 have HB2 := Lib.hid (btr HB1.out hb2)
 clear hb2
 go_wp2_with fail
 go_ret
 exact ⟨congrArg (fun s => Ending.returned (Value.string s)) HAP.out, HB2.out⟩
set_option maxRecDepth 100000 in
set_option maxHeartbeats 4000000 in
theorem minner (w : World) (base1 S1 L1 base2 S2 L2 : Nat) (b r d s : Int) (X1 X2 : Nat → Value) (A1 G1 C1 A2 G2 C2 : Nat → Nat) (Z1 Z2 : Nat → List Int) (K : Nat) (h1 : StIs w base1 S1 L1 b r d 1 s X1 A1 G1 C1 Z1) (h2 : StIs w base2 S2 L2 b r d 1 s X2 A2 G2 C2 Z2) (he : exactB b r d 1 0 = true) (hK : K = (keysI b r d 1 0).toNat)
  (hz : ∀ x ∈ Z1 0, 0 ≤ x ∧ x ≤ 1000000) (hh : ∀ x ∈ Z2 0, 0 ≤ x ∧ x ≤ 1000000) :
  Calls Tryz.prog 98 #[.pointer (some ⟨S1, 0, none⟩), .pointer (some ⟨S2, 0, none⟩)] w fun e w' => e = .returned (.tuple #[.agg #[.int .i64 0, .int .u64 ((dotN (Z1 0) (Z2 0) K : Nat) : Int)], .int .i64 0]) ∧ Below w.heap.size w w' := by
 have hb1 : Below w.heap.size w (w.alloc (.cells #[.int .i64 0, .int .u64 0] 143)) := (Below.refl _ w).alloc (Nat.le_refl _) _
 have HRS := Lib.hid (Blk.new w 143 #[.int .i64 0, .int .u64 0])
 have HB1 := Lib.hid hb1
 have H1 := Lib.hid (h1.kept hb1)
 have H2 := Lib.hid (h2.kept hb1)
 have HZ := Lib.hid (And.intro hz hh)
 have HE := Lib.hid (And.intro he hK)
 clear h1 h2 hb1 hz hh he hK
 obtain ⟨P, hP⟩ : ∃ P, P = ((dotN (Z1 0) (Z2 0) K : Nat) : Int) := ⟨_, rfl⟩
 rw [← hP]
 have HP := Lib.hid hP
 clear hP
 go_enter Tryz.func98, Tryz.ntmps98
 go_wp2_with fail
 generalize (w.alloc (.cells #[.int .i64 0, .int .u64 0] 143)) = w1 at *
 refine (alike_yes w1 S1 S2 b r d 1 s (fun wq hq => stconfig wq base1 S1 L1 b r d 1 s X1 A1 G1 C1 Z1 (H1.out.kept hq)) (fun wq hq => stconfig wq base2 S2 L2 b r d 1 s X2 A2 G2 C2 Z2 (H2.out.kept hq))).mono ?_
 rintro e w2 ⟨rfl, hb2⟩
 have H1a := Lib.hid (H1.out.kept hb2)
 have H2a := Lib.hid (H2.out.kept hb2)
 have HB2 := Lib.hid (btr HB1.out hb2)
 have HR2 := Lib.hid ((show Blk w1 w.heap.size 143 #[.int .i64 0, .int .u64 0] from HRS.out).kept hb2)
 have PA := stAt w2 base1 S1 L1 b r d 1 s X1 A1 G1 C1 Z1 H1a.out 0 (by omega)
 rw [show ((0 : Nat) : Int) = 0 from rfl] at PA
 have PA := Lib.hid PA
 clear hb2 H1 H2 HB1 HRS
 go_wp2_with fail
 with_reducible refine PA.out.mono ?_
 rintro e w3 ⟨x, A, G, C, rfl, -, -, -, hlx, hb3⟩
 obtain ⟨tx, hx⟩ := hlx.open_
 subst hx
 have HLX := Lib.hid hlx
 have H2b := Lib.hid (H2a.out.kept hb3)
 have HB3 := Lib.hid (btr HB2.out hb3)
 have HR3 := Lib.hid (HR2.out.kept hb3)
 have PA := stAt w3 base2 S2 L2 b r d 1 s X2 A2 G2 C2 Z2 H2b.out 0 (by omega)
 rw [show ((0 : Nat) : Int) = 0 from rfl] at PA
 have PA := Lib.hid PA
 clear hb3 hlx H1a H2a HB2 HR2
 go_wp2_with fail
 with_reducible refine PA.out.mono ?_
 rintro e w4 ⟨y, B, H, D, rfl, -, -, -, hly, hb4⟩
 obtain ⟨ty, hy⟩ := hly.open_
 subst hy
 have HB4 := Lib.hid (btr HB3.out hb4)
 have HR4 := Lib.hid (HR3.out.kept hb4)
 have PI := lvinner w4 _ _ A G C B H D b r d s 0 (Z1 0) (Z2 0) K HE.out.2 (HLX.out.kept hb4) hly HE.out.1 HZ.out.1 HZ.out.2
 rw [← HP.out] at PI
 have PI := Lib.hid PI
 clear hb4 hly HB3 HR3 HLX H2b PA
 go_wp2_with fail
 with_reducible refine PI.out.mono ?_
 rintro e w5 ⟨rfl, hb5⟩
 have HB5 := Lib.hid (btr HB4.out hb5)
 have hr5 := HR4.out.kept hb5
 have HR5 := Lib.hid hr5
 clear hb5 PI HB4 HR4
 go_wp2_with (refine wpList_store_row rfl 143 _ _ rfl w.heap.size #[.int .i64 0, .int .u64 P] rfl (by rfl) 143 _ hr5 (by kernel_rfl) rfl (by simp [Value.oneCell']) ?_)
 have HF := Lib.hid (blkRowNew (cs' := #[.int .i64 0, .int .u64 P]) HR5.out)
 refine bodyPost_ret (results_row_tmp rfl _ _ w.heap.size 143 _ (0, 0) _ rfl HF.out Tryz.underlying143 rfl (by kernel_rfl)) rfl ?_
 exact ⟨rfl, below_setRow HB5.out (Nat.le_refl _) _⟩
end Go.Proofs.YtfeficdndjiijaaGreatDoor


namespace Go.Proofs.YtfeficdndjiijaaGreatDoor
open Go.RowKit
set_option linter.unusedVariables false
set_option linter.unusedSimpArgs false

theorem AggSt.onl {F : Nat → Prop} {w w' : World} {base A bm n : Nat} {b r d m s : Int} {S L : Nat → Nat} {X : Nat → Nat → Value} {Ar G C : Nat → Nat → Nat} {Z : Nat → Nat → List Int} (h : AggSt w base A bm n b r d m s S L X Ar G C Z) (ho : Onl F w w') (hF : ∀ k, F k → NoSt w k ∧ k ≠ A ∧ k ≠ bm ∧ k ≠ 4) : AggSt w' base A bm n b r d m s S L X Ar G C Z := by
  obtain ⟨T, h1, h2⟩ := h.agg
  exact ⟨⟨T, h1.onl ho (fun hf => (hF _ hf).2.1 rfl) (fun hf => (hF _ hf).2.2.1 rfl), h2⟩, fun i h3 h4 => (h.st i h3 h4).onl ho (fun k hk => .inl (hF k hk).1), h.apart, h.lo, h.tab.onl ho (fun k hk => (hF k hk).2.2.2)⟩
theorem AggSt.setZ {w : World} {base A bm n : Nat} {b r d m s : Int} {S L : Nat → Nat} {X : Nat → Nat → Value} {Ar G C : Nat → Nat → Nat} {Z Z' : Nat → Nat → List Int} (h : AggSt w base A bm n b r d m s S L X Ar G C Z) (hz : ∀ i p, 1 ≤ i → i ≤ n → p ≤ b.toNat → Z i p = Z' i p) : AggSt w base A bm n b r d m s S L X Ar G C Z' :=
  ⟨h.agg, fun i h1 h2 => (h.st i h1 h2).setC (fun p hp => hz i p h1 h2 hp), h.apart, h.lo, h.tab⟩
def wInner : List UInt8 := [105, 110, 110, 101, 114]
theorem line_inner (w : World) (base A bm n : Nat) (b r d s : Int) (S L : Nat → Nat) (X : Nat → Nat → Value) (Ar G C : Nat → Nat → Nat) (Z : Nat → Nat → List Int) (h : AggSt w base A bm n b r d 1 s S L X Ar G C Z) (hn : n ≤ 32)
  (i j : Nat) (h1 : 1 ≤ i) (h2 : i ≤ n) (h3 : 1 ≤ j) (h4 : j ≤ n) (he : exactB b r d 1 0 = true) (K : Nat) (hK : K = (keysI b r d 1 0).toNat) (hz : ∀ x ∈ Z i 0, 0 ≤ x ∧ x ≤ 1000000) (hh : ∀ x ∈ Z j 0, 0 ≤ x ∧ x ≤ 1000000) (hd1 : 1 ≤ dotN (Z i 0) (Z j 0) K) (hd2 : dotN (Z i 0) (Z j 0) K < 18446744073709551616) :
  Calls Tryz.prog 8 #[.pointer (some ⟨A, 0, none⟩), .string (sB (joinW [wInner, Lib.itoa (i : Int), Lib.itoa (j : Int)]))] w fun e w' => ∃ t, e = .returned (.tuple #[.string t, .bool true]) ∧ t = sB ([119, 105, 100, 101, 32] ++ Lib.decDigits (dotN (Z i 0) (Z j 0) K)) ∧
   AggSt w' base A bm n b r d 1 s S L X Ar G C Z ∧ Below w.heap.size w w' := by
 obtain ⟨T, hT1, hT2⟩ := h.agg
 have hsz := h.base_le
 have hi64 : In64 (i : Int) := by unfold In64; omega
 have hj64 : In64 (j : Int) := by unfold In64; omega
 refine line_of A _ w (fun c _ => c = .iface 126 (.agg #[.string (sB wInner), .int .i64 (i : Int), .int .i64 (j : Int)]))
  (fun rr w2 => rr = .iface 145 (.agg #[.int .i64 0, .int .u64 ((dotN (Z i 0) (Z j 0) K : Nat) : Int)]) ∧ AggSt w2 base A bm n b r d 1 s S L X Ar G C Z ∧ Below w.heap.size w w2)
  _ (fun c _ hc => ⟨_, _, hc⟩) ?_ ?_ ?_
 ·refine parse_ws _ (stays_eq _) _ (fun a ha => ?_) (by simp) (by simp) w h.tab (fun w1 R v en hle hr1 hv ht1 => ?_)
  ·simp only [List.mem_cons, List.mem_nil_iff, or_false] at ha
   rcases ha with rfl | rfl | rfl
   ·exact plainLit _ (by decide)
   ·exact num_plain _ hi64.1 hi64.2
   ·exact num_plain _ hj64.1 hj64.2
  ·refine (cmd_inner w1 R v _ en i j hr1 hv rfl (by simp) rfl rfl hi64 hj64 ht1).mono ?_
   rintro e w' ⟨rfl, h2, h3⟩
   exact ⟨_, rfl, rfl, h2, h3⟩
 ·rintro c w1 hb1' rfl
  refine do_pair w1 A (sB wInner) (i : Int) (j : Int) _ (fun w2 hb2 => ?_)
  have hb12 := btr hb1' hb2
  have hk2 := hT1.kept hb12
  refine (agg_inner w2 A bm n T i j (S i) (S j) 0 ((dotN (Z i 0) (Z j 0) K : Nat) : Int) hk2 (by omega) (by omega) (by omega) (by omega) (by omega) (by rw [Int.toNat_natCast]; exact hT2 i h1 h2) (by rw [Int.toNat_natCast]; exact hT2 j h3 h4) (fun w3 hb3 => ?_)).mono ?_
  ·have hq := h.kept (btr hb12 hb3)
   exact minner w3 base (S i) (L i) base (S j) (L j) b r d s (X i) (X j) (Ar i) (G i) (C i) (Ar j) (G j) (C j) (Z i) (Z j) K (hq.st i h1 h2) (hq.st j h3 h4) he hK hz hh
  ·rintro e w4 ⟨rfl, hb4⟩
   exact ⟨_, rfl, rfl, h.kept (btr hb12 hb4), btr hb12 hb4⟩
 ·rintro rr w2 ⟨rfl, hA, hB⟩
  refine (text_wide _ hd1 hd2 w2).mono ?_
  rintro e w3 ⟨rfl, hb3⟩
  exact ⟨_, rfl, rfl, hA.kept hb3, btr hB hb3⟩
end Go.Proofs.YtfeficdndjiijaaGreatDoor


namespace Go.Proofs.YtfeficdndjiijaaGreatDoor
open Go.RowKit
set_option linter.unusedVariables false
set_option linter.unusedSimpArgs false

theorem mmerge (w : World) (base1 S1 L1 base2 S2 L2 : Nat) (b r d m s : Int) (X1 X2 : Nat → Value) (A1 G1 C1 A2 G2 C2 : Nat → Nat) (Z1 Z2 : Nat → List Int) (h1 : StIs w base1 S1 L1 b r d m s X1 A1 G1 C1 Z1) (h2 : StIs w base2 S2 L2 b r d m s X2 A2 G2 C2 Z2) (hfit : ∀ n, n ≤ b.toNat → Fit (List.zipWith (fun a b => a + b) (Z1 n) (Z2 n))) :
    Calls Tryz.prog 99 #[.pointer (some ⟨S1, 0, none⟩), .pointer (some ⟨S2, 0, none⟩)] w fun e w' => e = .returned (.int .i64 0) ∧ StIs w' base1 S1 L1 b r d m s X1 A1 G1 C1 (fun n => List.zipWith (fun a b => a + b) (Z1 n) (Z2 n)) ∧ RGr w w' C1 (b.toNat + 1) := by
  have P := Lib.hid (all_merge w base1 S1 L1 base2 S2 L2 b r d m s X1 X2 A1 G1 C1 A2 G2 C2 Z1 Z2 h1 h2 hfit)
  clear h1 h2 hfit
  go_enter Tryz.func99, Tryz.ntmps99
  go_wp2_with fail
  with_reducible refine P.out.mono ?_
  rintro e w1 ⟨rfl, ha, hb⟩
  have HA := Lib.hid (And.intro ha hb)
  clear ha hb P
  go_wp2_with fail
  go_ret
  exact ⟨rfl, HA.out⟩
theorem msub (w : World) (base1 S1 L1 base2 S2 L2 : Nat) (b r d m s : Int) (X1 X2 : Nat → Value) (A1 G1 C1 A2 G2 C2 : Nat → Nat) (Z1 Z2 : Nat → List Int) (hm : m ≠ 2) (h1 : StIs w base1 S1 L1 b r d m s X1 A1 G1 C1 Z1) (h2 : StIs w base2 S2 L2 b r d m s X2 A2 G2 C2 Z2) (hfit : ∀ n, n ≤ b.toNat → Fit (List.zipWith (fun a b => a - b) (Z1 n) (Z2 n))) :
    Calls Tryz.prog 100 #[.pointer (some ⟨S1, 0, none⟩), .pointer (some ⟨S2, 0, none⟩)] w fun e w' => e = .returned (.int .i64 0) ∧ StIs w' base1 S1 L1 b r d m s X1 A1 G1 C1 (fun n => List.zipWith (fun a b => a - b) (Z1 n) (Z2 n)) ∧ RGr w w' C1 (b.toNat + 1) := by
  have P := Lib.hid (all_sub w base1 S1 L1 base2 S2 L2 b r d m s X1 X2 A1 G1 C1 A2 G2 C2 Z1 Z2 hm h1 h2 hfit)
  clear h1 h2 hfit
  go_enter Tryz.func100, Tryz.ntmps100
  go_wp2_with fail
  with_reducible refine P.out.mono ?_
  rintro e w1 ⟨rfl, ha, hb⟩
  have HA := Lib.hid (And.intro ha hb)
  clear ha hb P
  go_wp2_with fail
  go_ret
  exact ⟨rfl, HA.out⟩
def wMerge : List UInt8 := [109, 101, 114, 103, 101]
theorem line_merge (w : World) (base A bm n : Nat) (b r d m s : Int) (S L : Nat → Nat) (X : Nat → Nat → Value) (Ar G C : Nat → Nat → Nat) (Z : Nat → Nat → List Int) (h : AggSt w base A bm n b r d m s S L X Ar G C Z) (hg : 4 < base) (hn : n ≤ 32)
  (i j : Nat) (h1 : 1 ≤ i) (h2 : i ≤ n) (h3 : 1 ≤ j) (h4 : j ≤ n) (hfit : ∀ p, p ≤ b.toNat → Fit (List.zipWith (fun a b => a + b) (Z i p) (Z j p))) :
  Calls Tryz.prog 8 #[.pointer (some ⟨A, 0, none⟩), .string (sB (joinW [wMerge, Lib.itoa (i : Int), Lib.itoa (j : Int)]))] w fun e w' => ∃ t, e = .returned (.tuple #[.string t, .bool true]) ∧ t = sB [100, 111, 110, 101] ∧
   AggSt w' base A bm n b r d m s S L X Ar G C (upN Z i (fun p => List.zipWith (fun a b => a + b) (Z i p) (Z j p))) ∧ AOnl base A bm w w' := by
 obtain ⟨T, hT1, hT2⟩ := h.agg
 have hsz := h.base_le
 have hi64 : In64 (i : Int) := by unfold In64; omega
 have hj64 : In64 (j : Int) := by unfold In64; omega
 refine line_of A _ w (fun c _ => c = .iface 126 (.agg #[.string (sB wMerge), .int .i64 (i : Int), .int .i64 (j : Int)]))
  (fun rr w2 => rr = .iface 133 (.agg #[]) ∧ AggSt w2 base A bm n b r d m s S L X Ar G C (upN Z i (fun p => List.zipWith (fun a b => a + b) (Z i p) (Z j p))) ∧ AOnl base A bm w w2)
  _ (fun c _ hc => ⟨_, _, hc⟩) ?_ ?_ ?_
 ·refine parse_ws _ (stays_eq _) _ (fun a ha => ?_) (by simp) (by simp) w h.tab (fun w1 R v en hle hr1 hv ht1 => ?_)
  ·simp only [List.mem_cons, List.mem_nil_iff, or_false] at ha
   rcases ha with rfl | rfl | rfl
   ·exact plainLit _ (by decide)
   ·exact num_plain _ hi64.1 hi64.2
   ·exact num_plain _ hj64.1 hj64.2
  ·refine (cmd_merge w1 R v _ en i j hr1 hv rfl (by simp) rfl rfl hi64 hj64 ht1).mono ?_
   rintro e w' ⟨rfl, h2, h3⟩
   exact ⟨_, rfl, rfl, h2, h3⟩
 ·rintro c w1 hb1' rfl
  refine do_pair w1 A (sB wMerge) (i : Int) (j : Int) _ (fun w2 hb2 => ?_)
  have hb12 := btr hb1' hb2
  have hk2 := hT1.kept hb12
  refine (agg_merge w2 A bm n T i j (S i) (S j) (fun w3 w4 => Below w2.heap.size w2 w3 → AggSt w4 base A bm n b r d m s S L X Ar G C (upN Z i (fun p => List.zipWith (fun a b => a + b) (Z i p) (Z j p))) ∧ AOnl base A bm w w4) hk2 (by omega) (by omega) (by omega) (by omega) (by omega) (by rw [Int.toNat_natCast]; exact hT2 i h1 h2) (by rw [Int.toNat_natCast]; exact hT2 j h3 h4) (fun w3 hb3 => ?_)).mono ?_
  ·have hb13 := btr hb12 hb3
   have hq := h.kept hb13
   refine (mmerge w3 base (S i) (L i) base (S j) (L j) b r d m s (X i) (X j) (Ar i) (G i) (C i) (Ar j) (G j) (C j) (Z i) (Z j) (hq.st i h1 h2) (hq.st j h3 h4) hfit).mono ?_
   rintro e w4 ⟨rfl, hst, hgr⟩
   refine ⟨rfl, fun _ => ?_⟩
   have hu := hq.upd hg h1 h2 hst hgr
   exact ⟨hu.1, (AOnl.below hb13).trans hu.2⟩
  ·rintro e w4 ⟨rfl, w3, hb3, hu⟩
   exact ⟨_, rfl, rfl, hu hb3⟩
 ·rintro rr w2 ⟨rfl, hA, hB⟩
  refine (text_done w2).mono ?_
  rintro e w3 ⟨rfl, hb3⟩
  exact ⟨_, rfl, rfl, hA.kept hb3, hB.trans (AOnl.below hb3)⟩
def wSubtract : List UInt8 := [115, 117, 98, 116, 114, 97, 99, 116]
theorem line_subtract (w : World) (base A bm n : Nat) (b r d m s : Int) (S L : Nat → Nat) (X : Nat → Nat → Value) (Ar G C : Nat → Nat → Nat) (Z : Nat → Nat → List Int) (hm : m ≠ 2) (h : AggSt w base A bm n b r d m s S L X Ar G C Z) (hg : 4 < base) (hn : n ≤ 32)
  (i j : Nat) (h1 : 1 ≤ i) (h2 : i ≤ n) (h3 : 1 ≤ j) (h4 : j ≤ n) (hfit : ∀ p, p ≤ b.toNat → Fit (List.zipWith (fun a b => a - b) (Z i p) (Z j p))) :
  Calls Tryz.prog 8 #[.pointer (some ⟨A, 0, none⟩), .string (sB (joinW [wSubtract, Lib.itoa (i : Int), Lib.itoa (j : Int)]))] w fun e w' => ∃ t, e = .returned (.tuple #[.string t, .bool true]) ∧ t = sB [100, 111, 110, 101] ∧
   AggSt w' base A bm n b r d m s S L X Ar G C (upN Z i (fun p => List.zipWith (fun a b => a - b) (Z i p) (Z j p))) ∧ AOnl base A bm w w' := by
 obtain ⟨T, hT1, hT2⟩ := h.agg
 have hsz := h.base_le
 have hi64 : In64 (i : Int) := by unfold In64; omega
 have hj64 : In64 (j : Int) := by unfold In64; omega
 refine line_of A _ w (fun c _ => c = .iface 126 (.agg #[.string (sB wSubtract), .int .i64 (i : Int), .int .i64 (j : Int)]))
  (fun rr w2 => rr = .iface 133 (.agg #[]) ∧ AggSt w2 base A bm n b r d m s S L X Ar G C (upN Z i (fun p => List.zipWith (fun a b => a - b) (Z i p) (Z j p))) ∧ AOnl base A bm w w2)
  _ (fun c _ hc => ⟨_, _, hc⟩) ?_ ?_ ?_
 ·refine parse_ws _ (stays_eq _) _ (fun a ha => ?_) (by simp) (by simp) w h.tab (fun w1 R v en hle hr1 hv ht1 => ?_)
  ·simp only [List.mem_cons, List.mem_nil_iff, or_false] at ha
   rcases ha with rfl | rfl | rfl
   ·exact plainLit _ (by decide)
   ·exact num_plain _ hi64.1 hi64.2
   ·exact num_plain _ hj64.1 hj64.2
  ·refine (cmd_subtract w1 R v _ en i j hr1 hv rfl (by simp) rfl rfl hi64 hj64 ht1).mono ?_
   rintro e w' ⟨rfl, h2, h3⟩
   exact ⟨_, rfl, rfl, h2, h3⟩
 ·rintro c w1 hb1' rfl
  refine do_pair w1 A (sB wSubtract) (i : Int) (j : Int) _ (fun w2 hb2 => ?_)
  have hb12 := btr hb1' hb2
  have hk2 := hT1.kept hb12
  refine (agg_subtract w2 A bm n T i j (S i) (S j) (fun w3 w4 => Below w2.heap.size w2 w3 → AggSt w4 base A bm n b r d m s S L X Ar G C (upN Z i (fun p => List.zipWith (fun a b => a - b) (Z i p) (Z j p))) ∧ AOnl base A bm w w4) hk2 (by omega) (by omega) (by omega) (by omega) (by omega) (by rw [Int.toNat_natCast]; exact hT2 i h1 h2) (by rw [Int.toNat_natCast]; exact hT2 j h3 h4) (fun w3 hb3 => ?_)).mono ?_
  ·have hb13 := btr hb12 hb3
   have hq := h.kept hb13
   refine (msub w3 base (S i) (L i) base (S j) (L j) b r d m s (X i) (X j) (Ar i) (G i) (C i) (Ar j) (G j) (C j) (Z i) (Z j) hm (hq.st i h1 h2) (hq.st j h3 h4) hfit).mono ?_
   rintro e w4 ⟨rfl, hst, hgr⟩
   refine ⟨rfl, fun _ => ?_⟩
   have hu := hq.upd hg h1 h2 hst hgr
   exact ⟨hu.1, (AOnl.below hb13).trans hu.2⟩
  ·rintro e w4 ⟨rfl, w3, hb3, hu⟩
   exact ⟨_, rfl, rfl, hu hb3⟩
 ·rintro rr w2 ⟨rfl, hA, hB⟩
  refine (text_done w2).mono ?_
  rintro e w3 ⟨rfl, hb3⟩
  exact ⟨_, rfl, rfl, hA.kept hb3, hB.trans (AOnl.below hb3)⟩
end Go.Proofs.YtfeficdndjiijaaGreatDoor


namespace Go.Proofs.YtfeficdndjiijaaGreatDoor
open Go.RowKit
set_option linter.unusedVariables false
set_option linter.unusedSimpArgs false

structure WorldIs (w : World) (base WB A bm : Nat) (r d m s : Int) (cs : Array Value) (n : Nat) (Z : Nat → Nat → List Int) : Prop where
  ag : ∃ S L X Ar G C, AggSt w base A bm n 6 r d m s S L X Ar G C Z
  wb : Blk w WB 34 cs
  c0 : cs[0]? = some (.pointer (some ⟨A, 0, none⟩))
  c2 : cs[2]? = some (.int .i64 r)
  c3 : cs[3]? = some (.int .i64 d)
  c4 : cs[4]? = some (.int .i64 m)
  c5 : cs[5]? = some (.int .u64 s)
theorem WorldIs.kept {w w' : World} {base WB A bm : Nat} {r d m s : Int} {cs : Array Value} {n : Nat} {Z : Nat → Nat → List Int} (h : WorldIs w base WB A bm r d m s cs n Z) (hb : Below w.heap.size w w') : WorldIs w' base WB A bm r d m s cs n Z := by
  obtain ⟨S, L, X, Ar, G, C, h1⟩ := h.ag
  exact ⟨⟨S, L, X, Ar, G, C, h1.kept hb⟩, h.wb.kept hb, h.c0, h.c2, h.c3, h.c4, h.c5⟩
theorem WorldIs.ne {w : World} {base WB A bm : Nat} {r d m s : Int} {cs : Array Value} {n : Nat} {Z : Nat → Nat → List Int} (h : WorldIs w base WB A bm r d m s cs n Z) {k : Nat} {t : TypeId} {cs' : Array Value} (hk : Blk w k t cs') (ht : t ≠ 77) : k ≠ A ∧ k ≠ bm := by
  obtain ⟨S, L, X, Ar, G, C, h⟩ := h.ag
  obtain ⟨T, ⟨h1, D, ⟨es, clock, h2, -⟩, -⟩, -⟩ := h.agg
  refine ⟨fun e => ?_, fun e => ?_⟩
  · subst e; exact ht (blk_one hk h1)
  · subst e
    rw [show w.heap[k]? = _ from hk] at h2
    cases h2
def createT (r d m x4 : Int) : ByteArray := sB [99, 114, 101, 97, 116, 101, 32, 54, 32] ++ sB (Lib.itoa r) ++ sB [32] ++ sB (Lib.itoa d) ++ sB [32] ++ sB (Lib.itoa m) ++ sB [32] ++ sB (Lib.itoa x4)
theorem it6 : Lib.itoa 6 = [54] := by
  unfold Lib.itoa
  rw [if_neg (by decide)]
  exact dec_small (by decide)
theorem createT_eq (r d m x4 : Int) : createT r d m x4 = sB (joinW [wCreate, Lib.itoa 6, Lib.itoa r, Lib.itoa d, Lib.itoa m, Lib.itoa x4]) := by
  unfold createT
  simp only [sB_append, joinW, it6, wCreate]
  congr 1
  simp
theorem WorldIs.create {w : World} {base WB A bm : Nat} {r d m s : Int} {cs : Array Value} {n : Nat} (h : WorldIs w base WB A bm r d m s cs n (fun _ => zeroZ 6 r d m)) (hg : 4 < base) (hn : n < 32) (hr : rightB 6 r d m = true) (x4 : Int) (hx : In64 x4) (hs : IntKind.u64.wrap x4 = s) :
    Calls Tryz.prog 8 #[.pointer (some ⟨A, 0, none⟩), .string (createT r d m x4)] w fun e w' => e = .returned (.tuple #[.string (sB ([104, 97, 110, 100, 108, 101, 32] ++ Lib.itoa ((n : Int) + 1))), .bool true]) ∧ WorldIs w' base WB A bm r d m s cs (n + 1) (fun _ => zeroZ 6 r d m) ∧ AOnl base A bm w w' := by
  have hne := h.ne h.wb (by decide)
  obtain ⟨S, L, X, Ar, G, C, h1⟩ := h.ag
  rw [createT_eq]
  refine (line_create w base A bm n 6 r d m s x4 S L X Ar G C _ h1 hg hn hr hx hs).mono ?_
  rintro e w' ⟨t, rfl, rfl, S', L', X', A', G', C', h2, ho⟩
  refine ⟨rfl, ⟨⟨_, _, _, _, _, _, h2.setZ (fun i p _ _ _ => ?_)⟩, ho.blk h.wb hne.1 hne.2 (by decide), h.c0, h.c2, h.c3, h.c4, h.c5⟩, ho⟩
  by_cases e : i = n + 1
  · subst e; rw [upN_same]
  · rw [upN_other _ _ e]
theorem wc_size : Tryz.zeroCells34.size = 198 := by kernel_rfl
noncomputable def wcNew (a b r d m s : Value) : Array Value := (((((Tryz.zeroCells34.setIfInBounds 0 a).setIfInBounds 1 b).setIfInBounds 2 r).setIfInBounds 3 d).setIfInBounds 4 m).setIfInBounds 5 s
theorem wc_get (a b r d m s : Value) : (wcNew a b r d m s)[0]? = some a ∧ (wcNew a b r d m s)[2]? = some r ∧ (wcNew a b r d m s)[3]? = some d ∧ (wcNew a b r d m s)[4]? = some m ∧ (wcNew a b r d m s)[5]? = some s := by
  have := wc_size
  refine ⟨?_, ?_, ?_, ?_, ?_⟩ <;> simp [wcNew, Array.getElem?_setIfInBounds, this]
set_option maxRecDepth 100000 in
set_option maxHeartbeats 8000000 in
theorem made_any (xb xr xd xm : Int) (s : Int) (s0 : 0 ≤ s) (s1 : s ≤ 18446744073709551615) (m : Int) (m1 : 1 ≤ m) (m3 : m ≤ 3) (w : World) (ht : Tab w) :
  Calls Tryz.prog 7 #[.agg #[.int .i64 xb, .int .i64 xr, .int .i64 xd, .int .i64 xm, .int .u64 s], .int .i64 m] w fun e w' => ∃ base WB A bm cs, e = .returned (.pointer (some ⟨WB, 0, none⟩)) ∧ WorldIs w' base WB A bm (anyI xr 4) (anyI xd 9) m s cs 3 (fun _ => zeroZ 6 (anyI xr 4) (anyI xd 9) m) ∧ w.heap.size ≤ base ∧ w.heap.size ≤ WB ∧ Below w.heap.size w w' := by
 have HT := Lib.hid ht
 have PA := Lib.hid (fun w => any_any xb xr xd xm s 6 9 (by decide) (by decide) (by decide) (by decide) w)
 have PN := Lib.hid (fun w => aggnew w)
 have br := anyI_bd xr 4 (by decide)
 have bd := anyI_bd xd 9 (by decide)
 generalize anyI xr 4 = r at *
 generalize anyI xd 9 = d at *
 generalize anyI xb 6 = b0 at *
 generalize anyI xm 3 = mo at *
 have HRT : Hid (rightB 6 r d m = true) := Lib.hid (right_mk (by omega))
 go_enter Tryz.func7, Tryz.ntmps7
 go_wp2_with fail
 have HB0 := Lib.hid (below_alloc1 w (.cells #[.int .i64 xb, .int .i64 xr, .int .i64 xd, .int .i64 xm, .int .u64 s] 24))
 generalize (w.alloc (.cells #[.int .i64 xb, .int .i64 xr, .int .i64 xd, .int .i64 xm, .int .u64 s] 24)) = w0 at *
 with_reducible refine (PA.out _).mono ?_
 rintro e w1 ⟨rfl, hb1⟩
 have HB1 := Lib.hid (btr HB0.out hb1)
 clear hb1 PA HB0
 go_wp2_with fail
 have hcb := Blk.new w1 24 #[.int .i64 6, .int .i64 r, .int .i64 d, .int .i64 m, .int .u64 s]
 have HB2 := Lib.hid (btr HB1.out (below_alloc1 w1 (.cells #[.int .i64 6, .int .i64 r, .int .i64 d, .int .i64 m, .int .u64 s] 24)))
 have HCB := Lib.hid hcb
 generalize (w1.alloc (.cells #[.int .i64 6, .int .i64 r, .int .i64 d, .int .i64 m, .int .u64 s] 24)) = w2 at *
 clear hcb
 refine wp_region_held_drew (S := fun w' => Blk w' w1.heap.size 24 #[.int .i64 6, .int .i64 r, .int .i64 d, .int .i64 m, .int .u64 s] ∧ Below w.heap.size w w') (by kernel_rfl) (by exact ⟨HCB.out.kept (below_drewN (Below.refl _ _) 1), below_drewN HB2.out 1⟩) (fun hHeld => ?_)
 refine tkH (i := 1) (v := ?_) rfl (by kernel_rfl) (fun _ _ _ h => h) (Or.inl ⟨by rfl, ?_⟩) (by assumption) ?_
 rotate_left
 ·intro w hSw
  have q0 := hSw.1.cell 0
  have q1 := hSw.1.cell 1
  have q2 := hSw.1.cell 2
  have q3 := hSw.1.cell 3
  have q4 := hSw.1.cell 4
  simp at q0 q1 q2 q3 q4
  go_simp
  try with_reducible rfl
 simp only [Act.put, z1, z2, z3, z4, z5, z6]
 refine wpAnyH_ready (rs := [0]) (by kernel_rfl) (by simp) ?_
 refine AllReadyH.cons rfl (fun Kc hKc => ?_) AllReadyH.nil
 go_simp
 go_wp2_with ((with_reducible refine (PN.out _).mono ?_); rintro e wq ⟨A, bm, rfl, hA1, hA2, hagg, hb'⟩; have HAG := Lib.hid hagg; have HAL := Lib.hid (And.intro hA1 hA2))
 refine hKc.out _ _ ?_ (fun hHeld => ?_)
 ·first | exact hHeld | exact ⟨hHeld.1.kept hb', btr hHeld.2 hb'⟩ | exact ⟨hHeld.1.kept (below_alloc1 _ _), btr hHeld.2 (below_alloc1 _ _)⟩
 clear hKc Kc
 refine tkH (i := 2) (v := ?_) rfl (by kernel_rfl) (fun _ _ _ h => h) (Or.inl ⟨by rfl, ?_⟩) (by assumption) ?_
 rotate_left
 ·intro w hSw
  try dsimp only at hSw
  go_simp
  try with_reducible rfl
 simp only [Act.put, z1, z2, z3, z4, z5, z6]
 refine wpAnyH_ready (rs := [3]) (by kernel_rfl) (by simp) ?_
 refine AllReadyH.cons rfl (fun Kc hKc => ?_) AllReadyH.nil
 go_simp
 refine hKc.out _ _ ?_ (fun hHeld => ?_)
 ·first | exact hHeld | exact ⟨hHeld.1.kept hb', btr hHeld.2 hb'⟩ | exact ⟨hHeld.1.kept (below_alloc1 _ _), btr hHeld.2 (below_alloc1 _ _)⟩
 clear hKc Kc
 refine tkH (i := 4) (v := ?_) rfl (by kernel_rfl) (fun _ _ _ h => h) (Or.inl ⟨by rfl, ?_⟩) (by assumption) ?_
 rotate_left
 ·intro w hSw
  try dsimp only at hSw
  go_simp
  try with_reducible rfl
 simp only [Act.put, z1, z2, z3, z4, z5, z6]
 refine wpAnyH_done (by kernel_rfl) ?_ _
 have hcs : (((((Tryz.zeroCells34.setIfInBounds 0 (.pointer (some ⟨A, 0, none⟩))).setIfInBounds 1 (.int .i64 6)).setIfInBounds 2 (.int .i64 r)).setIfInBounds 3 (.int .i64 d)).setIfInBounds 4 (.int .i64 m)).setIfInBounds 5 (.int .u64 s) = wcNew (.pointer (some ⟨A, 0, none⟩)) (.int .i64 6) (.int .i64 r) (.int .i64 d) (.int .i64 m) (.int .u64 s) := rfl
 rw [hcs] at hHeld ⊢
 have hcg := wc_get (.pointer (some ⟨A, 0, none⟩)) (.int .i64 6) (.int .i64 r) (.int .i64 d) (.int .i64 m) (.int .u64 s)
 generalize wcNew (.pointer (some ⟨A, 0, none⟩)) (.int .i64 6) (.int .i64 r) (.int .i64 d) (.int .i64 m) (.int .u64 s) = cs at *
 have HW0 := Lib.hid (Blk.new wq 34 cs)
 have HWL : Hid (w.heap.size ≤ wq.heap.size ∧ w2.heap.size ≤ wq.heap.size ∧ w.heap.size ≤ w2.heap.size) := Lib.hid ⟨Nat.le_trans HB2.out.size hb'.size, hb'.size, HB2.out.size⟩
 have HAG5 := Lib.hid (HAG.out.kept (below_alloc1 wq (.cells cs 34)))
 have HCS := Lib.hid hcg
 have HH := Lib.hid hHeld
 have cA := (HW0.out.cell 0).trans hcg.1
 clear hcs hcg hb' HAG hHeld
 have HBB : Hid (w2.heap.size ≤ A ∧ w2.heap.size ≤ bm) := HAL
 have hgt : 4 < w2.heap.size := Nat.lt_of_lt_of_le HT.out.lt HWL.out.2.2
 have HW5 : Hid (WorldIs (wq.alloc (.cells cs 34)) w2.heap.size wq.heap.size A bm r d m s cs 0 (fun _ => zeroZ 6 r d m)) := Lib.hid ⟨⟨fun _ => 0, fun _ => 0, fun _ _ => undef, fun _ _ => 0, fun _ _ => 0, fun _ _ => 0, AggSt.zero HAG5.out HBB.out.1 HBB.out.2 (HT.out.kept HH.out.2)⟩, HW0.out, HCS.out.1, HCS.out.2.1, HCS.out.2.2.1, HCS.out.2.2.2.1, HCS.out.2.2.2.2⟩
 have HGT := Lib.hid hgt
 generalize (wq.alloc (.cells cs 34)) = w5 at *
 clear hgt HW0 HAG5 HCS HAL hA1 hA2 hagg
 go_wp2_with fail
 go_loopw [7] (fun i wr => ∃ n : Nat, n ≤ 3 ∧ i = .int .i64 ((n : Int) + 1) ∧ WorldIs wr w2.heap.size wq.heap.size A bm r d m s cs n (fun _ => zeroZ 6 r d m) ∧ Blk wr w1.heap.size 24 #[.int .i64 6, .int .i64 r, .int .i64 d, .int .i64 m, .int .u64 s] ∧ Below w.heap.size w wr) (fun i _ => 4 - (intOf i).toNat)
 case atStart => exact ⟨0, by omega, rfl, HW5.out, HH.out.1, HH.out.2⟩
 case round =>
  obtain ⟨n, hn, rfl, hwi, hcb, hbel⟩ := hrel
  have HWI := Lib.hid hwi
  have HCC := Lib.hid hcb
  have HBL := Lib.hid hbel
  clear hwi hcb hbel cA
  by_cases hlt : n < 3
  ·have hxs : IntKind.u64.wrap (IntKind.i64.wrap s) = s := by
    simp only [IntKind.wrap, IntKind.bits, IntKind.signed]
    simp
    omega
   have hx64 : In64 (IntKind.i64.wrap s) := wrapI_bd s
   have hr64 : In64 r := by unfold In64; omega
   have hd64 : In64 d := by unfold In64; omega
   have hm64 : In64 m := by unfold In64; omega
   have hn64 : In64 ((n : Int) + 1) := by unfold In64; omega
   have zr := itoa_len r hr64.1 hr64.2
   have zd := itoa_len d hd64.1 hd64.2
   have zm := itoa_len m hm64.1 hm64.2
   have zx := itoa_len (IntKind.i64.wrap s) hx64.1 hx64.2
   have zn := itoa_len ((n : Int) + 1) hn64.1 hn64.2
   have P1 := Lib.hid (fun w => gtext r hr64 w)
   have P2 := Lib.hid (fun w => gtext d hd64 w)
   have P3 := Lib.hid (fun w => gtext m hm64 w)
   have P4 := Lib.hid (fun w => gtext (IntKind.i64.wrap s) hx64 w)
   have P5 := Lib.hid (fun w => gtext ((n : Int) + 1) hn64 w)
   have PL := Lib.hid (fun W (hW : WorldIs W w2.heap.size wq.heap.size A bm r d m s cs n (fun _ => zeroZ 6 r d m)) => hW.create HGT.out (by omega) HRT.out (IntKind.i64.wrap s) hx64 hxs)
   have hT : createT r d m (IntKind.i64.wrap s) = sB [99, 114, 101, 97, 116, 101, 32, 54, 32] ++ sB (Lib.itoa r) ++ sB [32] ++ sB (Lib.itoa d) ++ sB [32] ++ sB (Lib.itoa m) ++ sB [32] ++ sB (Lib.itoa (IntKind.i64.wrap s)) := rfl
   have hS := sB_append [104, 97, 110, 100, 108, 101, 32] (Lib.itoa ((n : Int) + 1))
   rw [hT] at PL
   obtain ⟨RS, hRS⟩ : ∃ RS, RS = sB ([104, 97, 110, 100, 108, 101, 32] ++ Lib.itoa ((n : Int) + 1)) := ⟨_, rfl⟩
   rw [← hRS] at PL hS
   have l0 : sB [99, 114, 101, 97, 116, 101, 32, 54, 32] = ⟨#[99, 114, 101, 97, 116, 101, 32, 54, 32]⟩ := rfl
   have l1 : sB [32] = ⟨#[32]⟩ := rfl
   have l2 : sB [104, 97, 110, 100, 108, 101, 32] = ⟨#[104, 97, 110, 100, 108, 101, 32]⟩ := rfl
   rw [l0, l1] at PL
   rw [l2] at hS
   clear hT hRS l0 l1 l2 hxs hx64 hr64 hd64 hm64 hn64
   generalize sB (Lib.itoa r) = TR at *
   generalize sB (Lib.itoa d) = TD at *
   generalize sB (Lib.itoa m) = TM at *
   generalize sB (Lib.itoa (IntKind.i64.wrap s)) = TX at *
   generalize sB (Lib.itoa ((n : Int) + 1)) = TN at *
   have z1 : ¬ 9223372036854775807 < 9 + TR.size := by omega
   have z2 : ¬ 9223372036854775807 < 9 + TR.size + 1 := by omega
   have z3 : ¬ 9223372036854775807 < 9 + TR.size + 1 + TD.size := by omega
   have z4 : ¬ 9223372036854775807 < 9 + TR.size + 1 + TD.size + 1 := by omega
   have z5 : ¬ 9223372036854775807 < 9 + TR.size + 1 + TD.size + 1 + TM.size := by omega
   have z6 : ¬ 9223372036854775807 < 9 + TR.size + 1 + TD.size + 1 + TM.size + 1 := by omega
   have z7 : ¬ 9223372036854775807 < 9 + TR.size + 1 + TD.size + 1 + TM.size + 1 + TX.size := by omega
   have z8 : ¬ 9223372036854775807 < 7 + TN.size := by omega
   have HWX := Lib.hid (HWI.out.kept (below_drewN (Below.refl _ _) 1))
   have HNE := Lib.hid (And.intro (HWI.out.ne HCC.out (by decide)) HBB.out)
   go_wp2_with fail
   refine wp_region_held_drew (S := fun w' => Blk w' w1.heap.size 24 #[.int .i64 6, .int .i64 r, .int .i64 d, .int .i64 m, .int .u64 s] ∧ Blk w' wq.heap.size 34 cs ∧ Below w.heap.size w w') (by kernel_rfl) (by exact ⟨HCC.out.kept (below_drewN (Below.refl _ _) 1), HWI.out.wb.kept (below_drewN (Below.refl _ _) 1), below_drewN HBL.out 1⟩) (fun hHeld => ?_)
   refine tkH (i := 0) (v := ?_) rfl (by kernel_rfl) (fun _ _ _ h => h) (Or.inl ⟨by rfl, ?_⟩) (by assumption) ?_
   rotate_left
   ·intro w hSw
    try dsimp only at hSw
    go_simp
    try with_reducible rfl
   simp only [Act.put, z1, z2, z3, z4, z5, z6]
   refine tkH (i := 1) (v := ?_) rfl (by kernel_rfl) (fun _ _ _ h => h) (Or.inl ⟨by rfl, ?_⟩) (by assumption) ?_
   rotate_left
   ·intro w hSw
    try dsimp only at hSw
    go_simp
    try with_reducible rfl
   simp only [Act.put, z1, z2, z3, z4, z5, z6]
   refine tkH (i := 2) (v := ?_) rfl (by kernel_rfl) (fun _ _ _ h => h) (Or.inl ⟨by rfl, ?_⟩) (by assumption) ?_
   rotate_left
   ·intro w hSw
    try dsimp only at hSw
    go_simp
    try with_reducible rfl
   simp only [Act.put, z1, z2, z3, z4, z5, z6]
   refine tkH (i := 3) (v := ?_) rfl (by kernel_rfl) (fun _ _ _ h => h) (Or.inl ⟨by rfl, ?_⟩) (by assumption) ?_
   rotate_left
   ·intro w hSw
    have q1 := hSw.1.cell 1
    have q2 := hSw.1.cell 2
    have q3 := hSw.1.cell 3
    have q4 := hSw.1.cell 4
    have q5 := (hSw.2.1.cell 0).trans HWI.out.c0
    simp at q1 q2 q3 q4
    go_simp
    try with_reducible rfl
   simp only [Act.put, z1, z2, z3, z4, z5, z6]
   refine tkH (i := 4) (v := ?_) rfl (by kernel_rfl) (fun _ _ _ h => h) (Or.inl ⟨by rfl, ?_⟩) (by assumption) ?_
   rotate_left
   ·intro w hSw
    try dsimp only at hSw
    go_simp
    try with_reducible rfl
   simp only [Act.put, z1, z2, z3, z4, z5, z6]
   refine tkH (i := 5) (v := ?_) rfl (by kernel_rfl) (fun _ _ _ h => h) (Or.inl ⟨by rfl, ?_⟩) (by assumption) ?_
   rotate_left
   ·intro w hSw
    have q1 := hSw.1.cell 1
    have q2 := hSw.1.cell 2
    have q3 := hSw.1.cell 3
    have q4 := hSw.1.cell 4
    have q5 := (hSw.2.1.cell 0).trans HWI.out.c0
    simp at q1 q2 q3 q4
    go_simp
    try with_reducible rfl
   simp only [Act.put, z1, z2, z3, z4, z5, z6]
   refine tkH (i := 9) (v := ?_) rfl (by kernel_rfl) (fun _ _ _ h => h) (Or.inl ⟨by rfl, ?_⟩) (by assumption) ?_
   rotate_left
   ·intro w hSw
    try dsimp only at hSw
    go_simp
    try with_reducible rfl
   simp only [Act.put, z1, z2, z3, z4, z5, z6]
   refine tkH (i := 10) (v := ?_) rfl (by kernel_rfl) (fun _ _ _ h => h) (Or.inl ⟨by rfl, ?_⟩) (by assumption) ?_
   rotate_left
   ·intro w hSw
    have q1 := hSw.1.cell 1
    have q2 := hSw.1.cell 2
    have q3 := hSw.1.cell 3
    have q4 := hSw.1.cell 4
    have q5 := (hSw.2.1.cell 0).trans HWI.out.c0
    simp at q1 q2 q3 q4
    go_simp
    try with_reducible rfl
   simp only [Act.put, z1, z2, z3, z4, z5, z6]
   refine tkH (i := 14) (v := ?_) rfl (by kernel_rfl) (fun _ _ _ h => h) (Or.inl ⟨by rfl, ?_⟩) (by assumption) ?_
   rotate_left
   ·intro w hSw
    try dsimp only at hSw
    go_simp
    try with_reducible rfl
   simp only [Act.put, z1, z2, z3, z4, z5, z6]
   refine tkH (i := 15) (v := ?_) rfl (by kernel_rfl) (fun _ _ _ h => h) (Or.inl ⟨by rfl, ?_⟩) (by assumption) ?_
   rotate_left
   ·intro w hSw
    have q1 := hSw.1.cell 1
    have q2 := hSw.1.cell 2
    have q3 := hSw.1.cell 3
    have q4 := hSw.1.cell 4
    have q5 := (hSw.2.1.cell 0).trans HWI.out.c0
    simp at q1 q2 q3 q4
    go_simp
    try with_reducible rfl
   simp only [Act.put, z1, z2, z3, z4, z5, z6]
   refine tkH (i := 19) (v := ?_) rfl (by kernel_rfl) (fun _ _ _ h => h) (Or.inl ⟨by rfl, ?_⟩) (by assumption) ?_
   rotate_left
   ·intro w hSw
    try dsimp only at hSw
    go_simp
    try with_reducible rfl
   simp only [Act.put, z1, z2, z3, z4, z5, z6]
   refine tkH (i := 20) (v := ?_) rfl (by kernel_rfl) (fun _ _ _ h => h) (Or.inl ⟨by rfl, ?_⟩) (by assumption) ?_
   rotate_left
   ·intro w hSw
    have q1 := hSw.1.cell 1
    have q2 := hSw.1.cell 2
    have q3 := hSw.1.cell 3
    have q4 := hSw.1.cell 4
    have q5 := (hSw.2.1.cell 0).trans HWI.out.c0
    simp at q1 q2 q3 q4
    go_simp
    try with_reducible rfl
   simp only [Act.put, z1, z2, z3, z4, z5, z6]
   refine tkH (i := 21) (v := ?_) rfl (by kernel_rfl) (fun _ _ _ h => h) (Or.inl ⟨by rfl, ?_⟩) (by assumption) ?_
   rotate_left
   ·intro w hSw
    try dsimp only at hSw
    go_simp
    try with_reducible rfl
   simp only [Act.put, z1, z2, z3, z4, z5, z6]
   refine wpAnyH_ready (rs := [6]) (by kernel_rfl) (by simp) ?_
   refine AllReadyH.cons rfl (fun Kc hKc => ?_) AllReadyH.nil
   go_simp
   go_wp2_with (first | ((with_reducible refine (P1.out _).mono ?_); rintro e w9 ⟨rfl, hb'⟩; have HWX := Lib.hid (HWX.out.kept hb')) | ((with_reducible refine (P2.out _).mono ?_); rintro e w9 ⟨rfl, hb'⟩; have HWX := Lib.hid (HWX.out.kept hb')) | ((with_reducible refine (P3.out _).mono ?_); rintro e w9 ⟨rfl, hb'⟩; have HWX := Lib.hid (HWX.out.kept hb')) | ((with_reducible refine (P4.out _).mono ?_); rintro e w9 ⟨rfl, hb'⟩; have HWX := Lib.hid (HWX.out.kept hb')) | ((with_reducible refine (PL.out _ HWX.out).mono ?_); rintro e w9 ⟨rfl, hwi', hao'⟩; have HWY := Lib.hid hwi'; clear hwi'))
   refine hKc.out _ _ ?_ (fun hHeld => ?_)
   ·first | exact hHeld | exact ⟨hHeld.1.kept hb', hHeld.2.1.kept hb', btr hHeld.2.2 hb'⟩ | exact ⟨hao'.blk hHeld.1 HNE.out.1.1 HNE.out.1.2 (by decide), HWY.out.wb, hHeld.2.2.trans ((hao'.to_below (by have h1 := hHeld.2.1.lt; have h2 := HWL.out.2.1; omega) HNE.out.2.1 HNE.out.2.2).mono HWL.out.2.2)⟩
   clear hKc Kc
   refine tkH (i := 7) (v := ?_) rfl (by kernel_rfl) (fun _ _ _ h => h) (Or.inl ⟨by rfl, ?_⟩) (by assumption) ?_
   rotate_left
   ·intro w hSw
    try dsimp only at hSw
    go_simp
    try with_reducible rfl
   simp only [Act.put, z1, z2, z3, z4, z5, z6]
   refine tkH (i := 8) (v := ?_) rfl (by kernel_rfl) (fun _ _ _ h => h) (Or.inl ⟨by rfl, ?_⟩) (by assumption) ?_
   rotate_left
   ·intro w hSw
    try dsimp only at hSw
    go_simp
    try with_reducible rfl
   simp only [Act.put, z1, z2, z3, z4, z5, z6]
   refine wpAnyH_ready (rs := [11]) (by kernel_rfl) (by simp) ?_
   refine AllReadyH.cons rfl (fun Kc hKc => ?_) AllReadyH.nil
   go_simp
   go_wp2_with (first | ((with_reducible refine (P1.out _).mono ?_); rintro e w9 ⟨rfl, hb'⟩; have HWX := Lib.hid (HWX.out.kept hb')) | ((with_reducible refine (P2.out _).mono ?_); rintro e w9 ⟨rfl, hb'⟩; have HWX := Lib.hid (HWX.out.kept hb')) | ((with_reducible refine (P3.out _).mono ?_); rintro e w9 ⟨rfl, hb'⟩; have HWX := Lib.hid (HWX.out.kept hb')) | ((with_reducible refine (P4.out _).mono ?_); rintro e w9 ⟨rfl, hb'⟩; have HWX := Lib.hid (HWX.out.kept hb')) | ((with_reducible refine (PL.out _ HWX.out).mono ?_); rintro e w9 ⟨rfl, hwi', hao'⟩; have HWY := Lib.hid hwi'; clear hwi'))
   refine hKc.out _ _ ?_ (fun hHeld => ?_)
   ·first | exact hHeld | exact ⟨hHeld.1.kept hb', hHeld.2.1.kept hb', btr hHeld.2.2 hb'⟩ | exact ⟨hao'.blk hHeld.1 HNE.out.1.1 HNE.out.1.2 (by decide), HWY.out.wb, hHeld.2.2.trans ((hao'.to_below (by have h1 := hHeld.2.1.lt; have h2 := HWL.out.2.1; omega) HNE.out.2.1 HNE.out.2.2).mono HWL.out.2.2)⟩
   clear hKc Kc
   refine tkH (i := 12) (v := ?_) rfl (by kernel_rfl) (fun _ _ _ h => h) (Or.inl ⟨by rfl, ?_⟩) (by assumption) ?_
   rotate_left
   ·intro w hSw
    try dsimp only at hSw
    go_simp
    try with_reducible rfl
   simp only [Act.put, z1, z2, z3, z4, z5, z6]
   refine tkH (i := 13) (v := ?_) rfl (by kernel_rfl) (fun _ _ _ h => h) (Or.inl ⟨by rfl, ?_⟩) (by assumption) ?_
   rotate_left
   ·intro w hSw
    try dsimp only at hSw
    go_simp
    try with_reducible rfl
   simp only [Act.put, z1, z2, z3, z4, z5, z6]
   refine wpAnyH_ready (rs := [16]) (by kernel_rfl) (by simp) ?_
   refine AllReadyH.cons rfl (fun Kc hKc => ?_) AllReadyH.nil
   go_simp
   go_wp2_with (first | ((with_reducible refine (P1.out _).mono ?_); rintro e w9 ⟨rfl, hb'⟩; have HWX := Lib.hid (HWX.out.kept hb')) | ((with_reducible refine (P2.out _).mono ?_); rintro e w9 ⟨rfl, hb'⟩; have HWX := Lib.hid (HWX.out.kept hb')) | ((with_reducible refine (P3.out _).mono ?_); rintro e w9 ⟨rfl, hb'⟩; have HWX := Lib.hid (HWX.out.kept hb')) | ((with_reducible refine (P4.out _).mono ?_); rintro e w9 ⟨rfl, hb'⟩; have HWX := Lib.hid (HWX.out.kept hb')) | ((with_reducible refine (PL.out _ HWX.out).mono ?_); rintro e w9 ⟨rfl, hwi', hao'⟩; have HWY := Lib.hid hwi'; clear hwi'))
   refine hKc.out _ _ ?_ (fun hHeld => ?_)
   ·first | exact hHeld | exact ⟨hHeld.1.kept hb', hHeld.2.1.kept hb', btr hHeld.2.2 hb'⟩ | exact ⟨hao'.blk hHeld.1 HNE.out.1.1 HNE.out.1.2 (by decide), HWY.out.wb, hHeld.2.2.trans ((hao'.to_below (by have h1 := hHeld.2.1.lt; have h2 := HWL.out.2.1; omega) HNE.out.2.1 HNE.out.2.2).mono HWL.out.2.2)⟩
   clear hKc Kc
   refine tkH (i := 17) (v := ?_) rfl (by kernel_rfl) (fun _ _ _ h => h) (Or.inl ⟨by rfl, ?_⟩) (by assumption) ?_
   rotate_left
   ·intro w hSw
    try dsimp only at hSw
    go_simp
    try with_reducible rfl
   simp only [Act.put, z1, z2, z3, z4, z5, z6]
   refine tkH (i := 18) (v := ?_) rfl (by kernel_rfl) (fun _ _ _ h => h) (Or.inl ⟨by rfl, ?_⟩) (by assumption) ?_
   rotate_left
   ·intro w hSw
    try dsimp only at hSw
    go_simp
    try with_reducible rfl
   simp only [Act.put, z1, z2, z3, z4, z5, z6]
   refine wpAnyH_ready (rs := [22]) (by kernel_rfl) (by simp) ?_
   refine AllReadyH.cons rfl (fun Kc hKc => ?_) AllReadyH.nil
   go_simp
   go_wp2_with (first | ((with_reducible refine (P1.out _).mono ?_); rintro e w9 ⟨rfl, hb'⟩; have HWX := Lib.hid (HWX.out.kept hb')) | ((with_reducible refine (P2.out _).mono ?_); rintro e w9 ⟨rfl, hb'⟩; have HWX := Lib.hid (HWX.out.kept hb')) | ((with_reducible refine (P3.out _).mono ?_); rintro e w9 ⟨rfl, hb'⟩; have HWX := Lib.hid (HWX.out.kept hb')) | ((with_reducible refine (P4.out _).mono ?_); rintro e w9 ⟨rfl, hb'⟩; have HWX := Lib.hid (HWX.out.kept hb')) | ((with_reducible refine (PL.out _ HWX.out).mono ?_); rintro e w9 ⟨rfl, hwi', hao'⟩; have HWY := Lib.hid hwi'; clear hwi'))
   refine hKc.out _ _ ?_ (fun hHeld => ?_)
   ·first | exact hHeld | exact ⟨hHeld.1.kept hb', hHeld.2.1.kept hb', btr hHeld.2.2 hb'⟩ | exact ⟨hao'.blk hHeld.1 HNE.out.1.1 HNE.out.1.2 (by decide), HWY.out.wb, hHeld.2.2.trans ((hao'.to_below (by have h1 := hHeld.2.1.lt; have h2 := HWL.out.2.1; omega) HNE.out.2.1 HNE.out.2.2).mono HWL.out.2.2)⟩
   clear hKc Kc
   refine tkH (i := 23) (v := ?_) rfl (by kernel_rfl) (fun _ _ _ h => h) (Or.inl ⟨by rfl, ?_⟩) (by assumption) ?_
   rotate_left
   ·intro w hSw
    try dsimp only at hSw
    go_simp
    try with_reducible rfl
   simp only [Act.put, z1, z2, z3, z4, z5, z6]
   refine wpAnyH_ready (rs := [24]) (by kernel_rfl) (by simp) ?_
   refine AllReadyH.cons rfl (fun Kc hKc => ?_) AllReadyH.nil
   go_simp
   go_wp2_with (first | ((with_reducible refine (P1.out _).mono ?_); rintro e w9 ⟨rfl, hb'⟩; have HWX := Lib.hid (HWX.out.kept hb')) | ((with_reducible refine (P2.out _).mono ?_); rintro e w9 ⟨rfl, hb'⟩; have HWX := Lib.hid (HWX.out.kept hb')) | ((with_reducible refine (P3.out _).mono ?_); rintro e w9 ⟨rfl, hb'⟩; have HWX := Lib.hid (HWX.out.kept hb')) | ((with_reducible refine (P4.out _).mono ?_); rintro e w9 ⟨rfl, hb'⟩; have HWX := Lib.hid (HWX.out.kept hb')) | ((with_reducible refine (PL.out _ HWX.out).mono ?_); rintro e w9 ⟨rfl, hwi', hao'⟩; have HWY := Lib.hid hwi'; clear hwi'))
   refine hKc.out _ _ ?_ (fun hHeld => ?_)
   ·first | exact hHeld | exact ⟨hHeld.1.kept hb', hHeld.2.1.kept hb', btr hHeld.2.2 hb'⟩ | exact ⟨hao'.blk hHeld.1 HNE.out.1.1 HNE.out.1.2 (by decide), HWY.out.wb, hHeld.2.2.trans ((hao'.to_below (by have h1 := hHeld.2.1.lt; have h2 := HWL.out.2.1; omega) HNE.out.2.1 HNE.out.2.2).mono HWL.out.2.2)⟩
   clear hKc Kc
   refine tkH (i := 25) (v := ?_) rfl (by kernel_rfl) (fun _ _ _ h => h) (Or.inl ⟨by rfl, ?_⟩) (by assumption) ?_
   rotate_left
   ·intro w hSw
    try dsimp only at hSw
    go_simp
    try with_reducible rfl
   simp only [Act.put, z1, z2, z3, z4, z5, z6]
   refine tkH (i := 26) (v := ?_) rfl (by kernel_rfl) (fun _ _ _ h => h) (Or.inl ⟨by rfl, ?_⟩) (by assumption) ?_
   rotate_left
   ·intro w hSw
    try dsimp only at hSw
    go_simp
    try with_reducible rfl
   simp only [Act.put, z1, z2, z3, z4, z5, z6]
   refine tkH (i := 27) (v := ?_) rfl (by kernel_rfl) (fun _ _ _ h => h) (Or.inl ⟨by rfl, ?_⟩) (by assumption) ?_
   rotate_left
   ·intro w hSw
    try dsimp only at hSw
    go_simp
    try with_reducible rfl
   simp only [Act.put, z1, z2, z3, z4, z5, z6]
   refine tkH (i := 28) (v := ?_) rfl (by kernel_rfl) (fun _ _ _ h => h) (Or.inl ⟨by rfl, ?_⟩) (by assumption) ?_
   rotate_left
   ·intro w hSw
    try dsimp only at hSw
    go_simp
    try with_reducible rfl
   simp only [Act.put, z1, z2, z3, z4, z5, z6]
   refine tkH (i := 29) (v := ?_) rfl (by kernel_rfl) (fun _ _ _ h => h) (Or.inl ⟨by rfl, ?_⟩) (by assumption) ?_
   rotate_left
   ·intro w hSw
    try dsimp only at hSw
    go_simp
    try with_reducible rfl
   simp only [Act.put, z1, z2, z3, z4, z5, z6]
   refine wpAnyH_done (by kernel_rfl) ?_ _
   have HCZ := Lib.hid hHeld.1
   have HBZ := Lib.hid hHeld.2.2
   clear hHeld
   go_wp2_with fail
   with_reducible refine (P5.out _).mono ?_
   rintro e wk ⟨rfl, hb9⟩
   have HW9 := Lib.hid (HWY.out.kept hb9)
   have HC9 := Lib.hid (HCZ.out.kept hb9)
   have HB9 := Lib.hid (btr HBZ.out hb9)
   clear hb9
   go_wp2_with fail
   go_roundw
   case rel => exact ⟨n + 1, by omega, by go_num, HW9.out, HC9.out, HB9.out⟩
   case measure => simp [intOf]; omega
  ·obtain rfl : n = 3 := by omega
   go_wp2_with fail
   go_ret
   exact ⟨w2.heap.size, wq.heap.size, A, bm, cs, rfl, HWI.out, HWL.out.2.2, HWL.out.1, HBL.out⟩
end Go.Proofs.YtfeficdndjiijaaGreatDoor


namespace Go.Proofs.YtfeficdndjiijaaGreatDoor
open Go.RowKit
set_option linter.unusedVariables false
set_option linter.unusedSimpArgs false

def doneT : ByteArray := sB [100, 111, 110, 101]
def LineOk (base WB A bm : Nat) (r d m s : Int) (cs : Array Value) (n : Nat) (Z Z' : Nat → Nat → List Int) (LN : ByteArray) : Prop := ∀ W, WorldIs W base WB A bm r d m s cs n Z →
  Calls Tryz.prog 8 #[.pointer (some ⟨A, 0, none⟩), .string LN] W fun e W' => e = .returned (.tuple #[.string doneT, .bool true]) ∧ WorldIs W' base WB A bm r d m s cs n Z' ∧ AOnl base A bm W W'
theorem WorldIs.next {w w' : World} {base WB A bm : Nat} {r d m s : Int} {cs : Array Value} {n : Nat} {Z Z' : Nat → Nat → List Int} (h : WorldIs w base WB A bm r d m s cs n Z) (ho : AOnl base A bm w w') (h2 : ∃ S L X Ar G C, AggSt w' base A bm n 6 r d m s S L X Ar G C Z') : WorldIs w' base WB A bm r d m s cs n Z' :=
  ⟨h2, ho.blk h.wb (h.ne h.wb (by decide)).1 (h.ne h.wb (by decide)).2 (by decide), h.c0, h.c2, h.c3, h.c4, h.c5⟩
theorem WorldIs.right {w : World} {base WB A bm : Nat} {r d m s : Int} {cs : Array Value} {n : Nat} {Z : Nat → Nat → List Int} (h : WorldIs w base WB A bm r d m s cs n Z) (hn : 1 ≤ n) : rightB 6 r d m = true := by
  obtain ⟨S, L, X, Ar, G, C, h1⟩ := h.ag
  exact (h1.st 1 (Nat.le_refl _) hn).right
def addT (i : Nat) (key : Nat) (x : Int) : ByteArray := sB [97, 100, 100, 32] ++ sB (Lib.itoa (i : Int)) ++ sB [32] ++ sB (Lib.itoa (key : Int)) ++ sB [32] ++ sB (Lib.itoa x)
theorem addT_eq (i key : Nat) (x : Int) : addT i key x = sB (joinW [wAdd, Lib.itoa (i : Int), Lib.itoa (key : Int), Lib.itoa x]) := by
  unfold addT
  simp only [sB_append, joinW, wAdd]
  congr 1
  simp
theorem line_add_ok {base WB A bm : Nat} {r d m s : Int} {cs : Array Value} {n : Nat} {Z : Nat → Nat → List Int} (hg : 4 < base) (hn : n ≤ 32) (s0 : 0 ≤ s) (s1 : s ≤ 18446744073709551615) (hr : rightB 6 r d m = true) (i : Nat) (h1 : 1 ≤ i) (h2 : i ≤ n) (key : Nat) (hk : key < 64) (x M : Int) (hb : BndZ 6 m M (Z i)) (hM : 0 ≤ M) (hx : m = 2 → 0 ≤ x) (hs : M + absI x ≤ 36028797018963968) :
    LineOk base WB A bm r d m s cs n Z (upN Z i (stUpd 6 r d m s (Z i) key x)) (addT i key x) ∧ BndZ 6 m (M + absI x) (stUpd 6 r d m s (Z i) key x) := by
  have hab := absI_bd x
  have hkk : (key : Int) < keysI 6 r d m 0 := by
    rw [keysI_yes hr (by omega) (by omega), show ((6 : Int) - 0).toNat = 6 by decide]
    have : (2 : Int) ^ 6 = 64 := by decide
    omega
  have herr := stErr_small (s := s) hr hkk hb hM hx (by omega)
  refine ⟨fun W hW => ?_, stUpd_small hb hM hx⟩
  obtain ⟨S, L, X, Ar, G, C, ha⟩ := hW.ag
  rw [addT_eq]
  refine (line_add W base A bm n 6 r d m s S L X Ar G C Z ha hg hn s0 s1 i h1 h2 key (by omega) x (by unfold In64; omega) herr).mono ?_
  rintro e W' ⟨t, rfl, rfl, ha', ho⟩
  exact ⟨rfl, hW.next ho ⟨S, L, X, Ar, G, C, ha'⟩, ho⟩
def mergeT (i j : Nat) : ByteArray := sB [109, 101, 114, 103, 101, 32] ++ sB (Lib.itoa (i : Int)) ++ sB [32] ++ sB (Lib.itoa (j : Int))
def subT (i j : Nat) : ByteArray := sB [115, 117, 98, 116, 114, 97, 99, 116, 32] ++ sB (Lib.itoa (i : Int)) ++ sB [32] ++ sB (Lib.itoa (j : Int))
theorem mergeT_eq (i j : Nat) : mergeT i j = sB (joinW [wMerge, Lib.itoa (i : Int), Lib.itoa (j : Int)]) := by
  unfold mergeT
  simp only [sB_append, joinW, wMerge]
  congr 1
  simp
theorem subT_eq (i j : Nat) : subT i j = sB (joinW [wSubtract, Lib.itoa (i : Int), Lib.itoa (j : Int)]) := by
  unfold subT
  simp only [sB_append, joinW, wSubtract]
  congr 1
  simp
theorem line_merge_ok {base WB A bm : Nat} {r d m s : Int} {cs : Array Value} {n : Nat} {Z : Nat → Nat → List Int} (hg : 4 < base) (hn : n ≤ 32) (i j : Nat) (h1 : 1 ≤ i) (h2 : i ≤ n) (h3 : 1 ≤ j) (h4 : j ≤ n) (M N : Int) (hb : BndZ 6 m M (Z i)) (hc : BndZ 6 m N (Z j)) (hs : M + N ≤ 36028797018963968) :
    LineOk base WB A bm r d m s cs n Z (upN Z i (fun p => List.zipWith (fun a b => a + b) (Z i p) (Z j p))) (mergeT i j) ∧ BndZ 6 m (M + N) (fun p => List.zipWith (fun a b => a + b) (Z i p) (Z j p)) := by
  have hbz : BndZ 6 m (M + N) (fun p => List.zipWith (fun a b => a + b) (Z i p) (Z j p)) := fun p hp => zip_small (hb p hp) (hc p hp) (fun x y hx hy => hx.plus hy)
  refine ⟨fun W hW => ?_, hbz⟩
  obtain ⟨S, L, X, Ar, G, C, ha⟩ := hW.ag
  rw [mergeT_eq]
  refine (line_merge W base A bm n 6 r d m s S L X Ar G C Z ha hg hn i j h1 h2 h3 h4 (fun p hp => (hbz p hp).fit (by omega))).mono ?_
  rintro e W' ⟨t, rfl, rfl, ha', ho⟩
  exact ⟨rfl, hW.next ho ⟨S, L, X, Ar, G, C, ha'⟩, ho⟩
theorem line_sub_ok {base WB A bm : Nat} {r d m s : Int} {cs : Array Value} {n : Nat} {Z : Nat → Nat → List Int} (hm : m ≠ 2) (hg : 4 < base) (hn : n ≤ 32) (i j : Nat) (h1 : 1 ≤ i) (h2 : i ≤ n) (h3 : 1 ≤ j) (h4 : j ≤ n) (M N : Int) (hb : BndZ 6 m M (Z i)) (hc : BndZ 6 m N (Z j)) (hs : M + N ≤ 36028797018963968) :
    LineOk base WB A bm r d m s cs n Z (upN Z i (fun p => List.zipWith (fun a b => a - b) (Z i p) (Z j p))) (subT i j) ∧ BndZ 6 m (M + N) (fun p => List.zipWith (fun a b => a - b) (Z i p) (Z j p)) := by
  have hbz : BndZ 6 m (M + N) (fun p => List.zipWith (fun a b => a - b) (Z i p) (Z j p)) := fun p hp => zip_small (hb p hp) (hc p hp) (fun x y hx hy => hx.minus hm hy)
  refine ⟨fun W hW => ?_, hbz⟩
  obtain ⟨S, L, X, Ar, G, C, ha⟩ := hW.ag
  rw [subT_eq]
  refine (line_subtract W base A bm n 6 r d m s S L X Ar G C Z hm ha hg hn i j h1 h2 h3 h4 (fun p hp => (hbz p hp).fit (by omega))).mono ?_
  rintro e W' ⟨t, rfl, rfl, ha', ho⟩
  exact ⟨rfl, hW.next ho ⟨S, L, X, Ar, G, C, ha'⟩, ho⟩
def rangeT (i : Nat) : ByteArray := sB [114, 97, 110, 103, 101, 32] ++ sB (Lib.itoa (i : Int)) ++ sB [32, 49, 32, 54, 50]
theorem rangeT_eq (i : Nat) : rangeT i = sB (joinW [wRange, Lib.itoa (i : Int), Lib.itoa ((1 : Nat) : Int), Lib.itoa ((62 : Nat) : Int)]) := by
  have e1 : Lib.itoa ((1 : Nat) : Int) = [49] := by
    unfold Lib.itoa
    rw [if_neg (by decide)]
    exact dec_small (by decide)
  have e2 : Lib.itoa ((62 : Nat) : Int) = [54, 50] := by
    unfold Lib.itoa
    rw [if_neg (by decide), Int.toNat_natCast, dec_big (by decide), dec_small (by decide)]
    rfl
  unfold rangeT
  simp only [sB_append, joinW, wRange, e1, e2]
  congr 1
  try simp
def rgL : List (Nat × Nat) := covO (6 + 1) 0 1 62 ++ (covR (6 + 1) 0 1 62).reverse
theorem rgL_len : rgL.length ≤ 20 := by decide
theorem rgL_in : ∀ p ∈ rgL, p.1 ≤ 6 ∧ p.2 < 2 ^ (6 - p.1) := by decide
end Go.Proofs.YtfeficdndjiijaaGreatDoor

