/-
  The walk of gaugerlaw08.done. Conditions: none beyond those stated at each theorem.
-/
import Derived.Test.YtcinlcbmjboaaaaLinD
namespace Go.Proofs.Ytcinlcbmjboaaaa
open Go.RowKit
set_option linter.unusedVariables false
set_option linter.unusedSimpArgs false

def stepK (turned : Bool) (m i : Nat) : Nat := if turned then m - 1 - i else i
theorem stepK_lt {t : Bool} {m i : Nat} (h : i < m) : stepK t m i < m := by unfold stepK; split <;> omega
def DonePost (w : World) (R W : Nat) (cs : Nat → List Int) (ds : Nat → Int) (m : Nat) (turned plain : Bool) (e : Ending) (w' : World) : Prop :=
  ∃ G C va vs zs, e = .returned (.tuple #[.pointer (some ⟨G, 0, none⟩), va]) ∧ w.heap.size ≤ G ∧ w.heap.size ≤ C ∧ GridIs w' G C R W zs ∧
    SumsAre R W (fun i => cs (stepK turned m i)) (fun i => plainZ plain (ds (stepK turned m i))) zs m ∧ AllAt w' w.heap.size va vs ((List.range m).map fun i => cutZ (cs i) R W) ∧ Below w.heap.size w w'
theorem Try.infoSlI : (Try.prog.info? 32).map (fun i => (i.zero, i.size, i.bytes)) = some (some (.slice none 0 0), 1, 24) := by kernel_rfl

set_option maxRecDepth 100000 in
set_option maxHeartbeats 8000000 in
theorem done08 (r c : Int) (l : Value) (n : Nat) (cs : Nat → List Int) (ds : Nat → Int) (turned plain : Bool) (w : World) (hl : StepsAt w l n cs ds) :
    Calls Try.prog 16 #[.agg #[.int .i64 r, .int .i64 c, l], .bool turned, .bool plain] w (DonePost w (sizeR r) (sizeW c) cs ds (min n 60) turned plain) := by
  have P0 := fun w => sized08 r c l w
  have P1 := fun w => new_any (sizeR r : Int) (sizeW c : Int) w
  obtain ⟨r1, r2, -⟩ := sizeR_bd r
  obtain ⟨c1, c2, -⟩ := sizeW_bd c
  generalize sizeR r = R at *
  generalize sizeW c = W at *
  have eR : clampN (R : Int) 8 = R := by unfold clampN; omega
  have eW : clampN (W : Int) 128 = W := by unfold clampN; omega
  simp only [eR, eW] at P1
  clear eR eW
  have HL := Lib.hid hl
  obtain ⟨ao, cap, rfl, hmx, hd64, hcells⟩ := hl
  have HCL := Lib.hid hcells
  clear hcells hd64
  obtain ⟨m, hm⟩ : ∃ m, m = min n 60 := ⟨_, rfl⟩
  rw [← hm]
  have hm60 : m ≤ 60 := by omega
  have hmn : m ≤ n := by omega
  have emin : (if (60 : Int) < (n : Int) then (60 : Int) else (n : Int)) = (m : Int) := by split <;> omega
  clear hm
  obtain ⟨i1', hj, hy0, hy1, hy2⟩ := info_parts Try.infoSlI
  obtain ⟨dz, hdz⟩ : ∃ dz : Nat → Int, dz = fun i => plainZ plain (ds (stepK turned m i)) := ⟨_, rfl⟩
  obtain ⟨cz, hcz⟩ : ∃ cz : Nat → List Int, cz = fun i => cs (stepK turned m i) := ⟨_, rfl⟩
  have HDB : Hid (∀ i, -1099511627775 ≤ dz i ∧ dz i ≤ 1099511627775) := Lib.hid (fun i => by rw [hdz]; exact plainZ_bd _ _)
  have HDZ := Lib.hid hdz
  have HCZ := Lib.hid hcz
  clear hdz hcz
  go_enter Try.func16, Try.ntmps16
  go_wp2_with fail
  obtain ⟨g1, hb1, hsz1⟩ := news1 w (.cells #[.int .i64 r, .int .i64 c, .slice ao n cap] 24)
  have hx1 : Blk (w.alloc (.cells #[.int .i64 r, .int .i64 c, .slice ao n cap] 24)) w.heap.size 24 #[.int .i64 r, .int .i64 c, .slice ao n cap] := g1
  have HL1 := Lib.hid (HL.out.kept hb1)
  clear g1
  generalize (w.alloc (.cells #[.int .i64 r, .int .i64 c, .slice ao n cap] 24)) = wz at *
  generalize hA : w.heap.size = A at *
  have HA := Lib.hid hA
  clear hA
  have HB1 := Lib.hid hb1
  have HX1 := Lib.hid hx1
  go_wp2_with (first
    | refine wpList_load_row rfl 24 _ rfl A rfl 24 _ (0, 0) _ hx1 Try.underlying24 rfl (by kernel_rfl) ?_
    | (go_at_call 15; refine (P0 _).mono ?_; rintro e w2 ⟨rfl, hb⟩; have HX2 := Lib.hid (HX1.out.kept hb); have HB2 := Lib.hid (HB1.out.trans (hb.mono (by omega))); have hs2 := hb.size; clear hb))
  refine (P1 w2).mono ?_; rintro e w3 ⟨G, C, rfl, hG, hC, hg, hb⟩
  have hx3 := HX2.out.kept hb
  have HX3 := Lib.hid hx3
  have HG3 := Lib.hid hg
  have HB3 := Lib.hid (HB2.out.trans (hb.mono (by omega)))
  have hs3 : A + 1 ≤ w3.heap.size := by have := hb.size; omega
  have hGC : A + 1 ≤ G ∧ A + 1 ≤ C := ⟨by omega, by omega⟩
  have q2 := hx3.cell 2
  simp at q2
  clear hG hC hg hb hx3
  go_wp2_with fail

  go_loopw [13, 11] (fun i va wr => ∃ (j : Nat) (vs : List Value) (zs : List Int), j ≤ m ∧ i = .int .i64 (j : Int) ∧ GridIs wr G C R W zs ∧ SumsAre R W cz dz zs j ∧ AllAt wr (A + 1) va vs ((List.range j).map fun i => cutZ (cs i) R W) ∧
    Blk wr A 24 #[.int .i64 r, .int .i64 c, .slice ao n cap] ∧ Below A w wr ∧ A + 1 ≤ wr.heap.size) (fun i _ _ => m - (intOf i).toNat)
  case atStart => exact ⟨0, [], _, by omega, rfl, HG3.out, SumsAre.zero _ _ _ _, AllAt.nil _ _, HX3.out, HB3.out, hs3⟩
  case round =>
    obtain ⟨j, vs, zs, hjm, rfl, hg, hsum, hall, hx, hbel, hsz⟩ := hrel
    clear HG3 HX3 HB3 q2
    have HG := Lib.hid hg
    have HS := Lib.hid hsum
    have HAL := Lib.hid hall
    have HX := Lib.hid hx
    have HB := Lib.hid hbel
    have q2 := hx.cell 2
    simp at q2
    have hfits := hsum.fits HDB.out (by omega) (by omega)
    have hnext := hsum.next hg.len (by omega)
    have HNX := Lib.hid hnext
    have HFT := Lib.hid hfits
    clear hg hsum hall hbel hnext hfits
    by_cases hlt : j < m
    · obtain ⟨b, off, rfl, hbl, hc⟩ := HCL.out (by omega)
      have hbl2 : b < A := hbl
      obtain ⟨k, hk⟩ : ∃ k, k = stepK turned m j := ⟨_, rfl⟩
      have hkm : k < m := by rw [hk]; exact stepK_lt hlt
      obtain ⟨⟨vk, ck1, ck2⟩, ck3⟩ := hc k (by omega)
      obtain ⟨⟨vj, cj1, cj2⟩, -⟩ := hc j (by omega)
      have ck1 := (HB.out.cell (p := ⟨b, off + k * 2, none⟩) hbl2).trans ck1
      have ck3 := (HB.out.cell (p := ⟨b, off + k * 2 + 1, none⟩) hbl2).trans ck3
      have cj1 := (HB.out.cell (p := ⟨b, off + j * 2, none⟩) hbl2).trans cj1
      have hcz : cz j = cs k := by rw [HCZ.out, hk]
      have hdz : dz j = plainZ plain (ds k) := by rw [HDZ.out, hk]
      rw [hcz] at HNX HFT
      have PS := fun w => small08 (ds k) w
      have hsb := smallZ_bd (ds k)
      have hab : A ≤ wr.heap.size := by omega
      have e1 : wrap64 ((m : Int) - 1) = (m : Int) - 1 := by unfold wrap64; omega
      have i0 : (0 : Int) ≤ (k : Int) := by omega
      have i1 : (k : Int) < (n : Int) := by omega
      have i2 : (0 : Int) ≤ (j : Int) := by omega
      have i3 : (j : Int) < (n : Int) := by omega
      have hplain : (plain = true → (if smallZ (ds k) < -smallZ (ds k) then -smallZ (ds k) else smallZ (ds k)) = dz j) ∧ (plain = false → smallZ (ds k) = dz j) := by
        refine ⟨fun h => ?_, fun h => ?_⟩
        · rw [hdz, h]; simp only [plainZ, if_pos]; split <;> split <;> omega
        · rw [hdz, h]; simp [plainZ]
      have hdb := HDB.out j
      have CK2 := Lib.hid (ck2.kept (w' := wr) (HB.out.mono (by rw [HA.out]; exact Nat.le_refl _)))
      have CJ2 := Lib.hid (cj2.kept (w' := wr) (HB.out.mono (by rw [HA.out]; exact Nat.le_refl _)))
      have i4 : (0 : Int) ≤ (m : Int) - 1 - (j : Int) := by omega
      have i5 : (m : Int) - 1 - (j : Int) < (n : Int) := by omega
      clear hc ck2 cj2 hcz hx hbl
      generalize ds k = dk at *
      generalize smallZ dk = s at *
      generalize hdd : dz j = dd at *
      have HDD := Lib.hid hdd
      clear hdd hdz
      have e3 : wrap64 (-s) = -s := by unfold wrap64; omega
      have e3' : IntKind.i64.wrap (-s) = -s := wrapI_of _ (by omega) (by omega)
      have HNX2 := HNX.out
      have hcw : W ≤ 1000 := by omega
      have hcr : R ≤ 8 := by omega
      have PX1 := Lib.hid (fun w1 (h : ColsAt w1 vk (cs k)) => cut_any vk (cs k) R W (by omega) hcw hcr w1 h)
      have PX2 := Lib.hid (fun w1 (h : ColsAt w1 vj (cs j)) => cut_any vj (cs j) R W (by omega) hcw hcr w1 h)
      have HN : Hid ((List.range (j + 1)).map (fun i => cutZ (cs i) R W) = (List.range j).map (fun i => cutZ (cs i) R W) ++ [cutZ (cs j) R W]) := Lib.hid (by rw [List.range_succ]; simp)
      have hjl : ((List.range j).map fun i => cutZ (cs i) R W).length = j := by simp
      have hjm1 : j + 1 ≤ maxLen := by unfold maxLen; omega
      generalize hms : (List.range j).map (fun i => cutZ (cs i) R W) = ms at *
      have HMS := Lib.hid hms
      have HJL := Lib.hid hjl
      have HMT := Lib.hid (cut_meet (cs := cs k) (R := R) (W := W) (by omega) (by omega))
      clear hms hjl
      generalize hck : cs k = ckk at *
      clear hck
      have hvv : j = k → vj = vk := fun h => by subst h; rw [ck1] at cj1; exact (Option.some.inj cj1).symm
      cases turned
      all_goals cases plain
      all_goals
        have hp := hplain
        simp only [Bool.false_eq_true, false_implies, true_implies, true_and, and_true, reduceCtorEq, Bool.true_eq_false] at hp
        simp only [stepK, if_pos, if_false, Bool.false_eq_true] at hk
        have hk := hk.symm
        subst hk
        first | (obtain rfl := hvv rfl) | skip
        clear hplain
        go_wp2_with (go_at_call 17; refine (PS _).mono ?_; rintro e w' ⟨rfl, hw'⟩; subst hw')
        refine (PX1.out _ CK2.out).mono ?_; rintro e wa ⟨v1, rfl, hr1, -, hb⟩
        have R1 := Lib.hid hr1
        have HXa := HX.out.kept hb
        have q2 := HXa.cell 2
        simp at q2
        have cj1 := (hb.cell (p := ⟨b, off + j * 2, none⟩) (by show b < _; omega)).trans cj1
        have HBa := Lib.hid (HB.out.trans (hb.mono hab))
        have haba : A + 1 ≤ wa.heap.size := by have := hb.size; omega
        have HGa := Lib.hid (HG.out.kept hb)
        have HALa := Lib.hid (HAL.out.kept hb)
        have CJ2a := Lib.hid (CJ2.out.kept hb)
        have HXaH := Lib.hid HXa
        clear hr1 hb HXa
        go_wp2_with fail
        refine (PX2.out _ CJ2a.out).mono ?_; rintro e wb ⟨v2, rfl, hr2, -, hb⟩
        obtain ⟨g2, cp2, rfl⟩ : ∃ g2 cp2, v2 = .slice (some ⟨g2, 0, none⟩) (cutZ (cs j) R W).length cp2 := by obtain ⟨g, cp, cur, e, _⟩ := hr2; exact ⟨g, cp, e⟩
        have R2 := Lib.hid hr2
        generalize (cutZ (cs j) R W).length = nj at *
        have R1b := Lib.hid (R1.out.kept hb)
        have HXb := Lib.hid (HXaH.out.kept hb)
        have HBb := Lib.hid (HBa.out.trans (hb.mono (by omega)))
        have habb : A + 1 ≤ wb.heap.size := by have := hb.size; omega
        have HGb := Lib.hid (HGa.out.kept hb)
        have HALb := Lib.hid (HALa.out.kept hb)
        have hb2 : Below wb.heap.size wb (wb.alloc (.cells #[.slice (some ⟨g2, 0, none⟩) nj cp2] 32)) := (Below.refl _ _).alloc (Nat.le_refl _) _
        have HALc := Lib.hid (HALb.out.kept hb2)
        have hown := HALc.out.1
        rw [HJL.out] at hown
        have HOWN := Lib.hid hown
        clear hr2 hb hown
        go_wp2_with (at_builtin; refine wpList_append_own_at _ rfl _ _ 29 rfl (A + 1) 32 i1' (.slice none 0 0) 1 24 Try.underlying29 hj hy0 hy1 hy2 rfl (by decide) _ j _ rfl HOWN.out ⟨wb.heap.size, 0, none⟩ 1 1 [.slice (some ⟨g2, 0, none⟩) nj cp2] rfl rfl (cell_one_new _ _ _) ?c2 hjm1 ?c4 ?c5 ?_)
        case c2 => simp [Value.oneCell']
        case c4 => omega
        case c5 => simp; omega
        intro v' w3 hown' hgrow hnil' hq9
        have R2c := Lib.hid (R2.out.kept hb2)
        have HAL3 : Hid (AllAt w3 (A + 1) v' _ _) := Lib.hid (HALc.out.push hgrow (by rw [HJL.out]; exact hown') R2c.out)
        have hvo := fun k hk => (HOWN.out.lt k hk).1
        obtain ⟨cG, hGb, -⟩ := (HGb.out.kept hb2).fields
        obtain ⟨curC, hCb, -⟩ := (HGb.out.kept hb2).cells
        have HG3 := Lib.hid ((HGb.out.kept hb2).grown hgrow (fun e => own_ne HOWN.out hGb (by decide) e.symm) (fun e => own_ne HOWN.out hCb (by decide) e.symm))
        have HX3 := Lib.hid ((HXb.out.kept hb2).grown hgrow (fun e => by have := hvo A e.symm; omega))
        have R13 := Lib.hid ((R1b.out.kept hb2).grown hgrow (by
          obtain ⟨g, cp, cur, rfl, -, hb, -⟩ := R1b.out.kept hb2
          exact fun e => own_ne HOWN.out hb (by decide) e.symm))
        have HB3 : Hid (Below A w w3) := Lib.hid ((HBb.out.alloc (by omega) _).grown hgrow (by simp; omega) (fun k e => by have := hvo k e; omega))
        have hs3 : A + 1 ≤ w3.heap.size := by have := hgrow.size; simp at this; omega
        clear hGb hCb hown' hgrow hnil' hq9 hvo
        obtain ⟨cur3, hC3, -⟩ := HG3.out.cells
        have PC := change_yes w3 G C R W zs (cutZ ckk R W) dd v1 HG3.out R13.out.ints HMT.out ⟨by omega, by omega⟩ (R13.out.neC hC3 (by decide))
        go_wp2_with fail
        refine PC.mono ?_; clear PC; rintro e w4 (⟨-, rfl, hg4, hgr4⟩ | ⟨hno, -, -⟩)
        · have HG4 := Lib.hid hg4
          have HAL4 := Lib.hid (HAL3.out.grownC hgr4 hC3)
          have HX4 := Lib.hid (HX3.out.grown hgr4 (fun e => by have := Option.some.inj e; omega))
          have HB4 := Lib.hid (HB3.out.grown hgr4 (by omega) (fun k e => by have := Option.some.inj e; omega))
          have hs4 : A + 1 ≤ w4.heap.size := by have := hgr4.size; omega
          clear hg4 hgr4 hC3
          go_wp2
          go_roundw
          case rel => exact ⟨j + 1, _, _, by omega, by go_num, HG4.out, HNX2, by rw [HN.out]; exact HAL4.out, HX4.out, HB4.out, hs4⟩
          case measure => simp [intOf]; omega
        · exact absurd HFT.out hno
    · obtain rfl : j = m := by omega
      have HP : Hid (DonePost w R W cs ds j turned plain (.returned (.tuple #[.pointer (some ⟨G, 0, none⟩), u11])) wr) := ⟨G, C, u11, vs, zs, rfl, by rw [HA.out]; omega, by rw [HA.out]; omega, HG.out, by have := HS.out; rw [HCZ.out, HDZ.out] at this; exact this, by
        obtain ⟨h1, h2, h3⟩ := HAL.out
        refine ⟨⟨h1.1, ?_⟩, h2, h3⟩
        rcases h1.2 with h | ⟨g, cap', cur, e1, e2, e3⟩
        · exact .inl h
        · exact .inr ⟨g, cap', cur, e1, by rw [HA.out]; omega, e3⟩, by rw [HA.out]; exact HB.out⟩
      go_wp2
      go_ret2
      exact HP.out
end Go.Proofs.Ytcinlcbmjboaaaa
