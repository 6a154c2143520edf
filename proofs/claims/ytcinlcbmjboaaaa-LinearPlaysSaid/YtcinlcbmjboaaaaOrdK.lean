/-
  The walks of order.Kth, Min, Median. Conditions: none beyond those stated at each theorem.
-/
import Derived.Test.YtcinlcbmjboaaaaOrd
import Derived.Test.YtcinlcbmjboaaaaLngW
import Derived.Deep.LoopGhost
import Derived.WalkMore
namespace Go.Proofs.Ytcinlcbmjboaaaa
open Go.RowKit
set_option linter.unusedVariables false
set_option linter.unusedSimpArgs false

def lenAt (w : World) (A : Nat) : Nat := match w.cell? ⟨A, 0, none⟩ with
  | some (.slice _ n _) => n
  | _ => 0
theorem lenAt_blk {w : World} {A : Nat} {t : TypeId} {a : Option Addr} {n c : Nat} (h : Blk w A t #[.slice a n c]) : lenAt w A = n := by
  have := h.cell 0
  simp at this
  simp [lenAt, this]
set_option maxRecDepth 100000 in
set_option maxHeartbeats 4000000 in
theorem kth_any (v : Value) (zs : List Int) (k : Nat) (w : World) (hv : IntsAt w v zs) (hk : k < zs.length) (hn : zs.length ≤ 100000) :
    Calls Try.prog 57 #[v, .int .i64 (k : Int)] w fun e w' => ∃ u, e = .returned (.tuple #[.int .i64 u, .bool true]) ∧ IsKth zs k u ∧ Below w.heap.size w w' := by
  have HV := Lib.hid hv
  obtain ⟨ao, cap, rfl, hcap, hcells⟩ := hv
  clear hcells
  have d0 : decide ((k : Int) < 0) = false := decide_eq_false (by omega)
  have d1 : decide ((zs.length : Int) ≤ (k : Int)) = false := decide_eq_false (by omega)
  obtain ⟨n, hlen⟩ : ∃ n, n = zs.length := ⟨_, rfl⟩
  rw [← hlen] at hcap hn d1 hk
  have HLEN := Lib.hid hlen
  rw [← hlen]
  clear hlen
  go_enter Try.func57, Try.ntmps57
  go_wp2
  go_step3
  go_wp2_with (refine wpList_store_row rfl 101 _ _ rfl w.heap.size #[.slice ao n cap] rfl rfl 101 #[.slice none 0 0] (Blk.new _ _ _) (by kernel_rfl) rfl (by simp [Value.oneCell']) ?_)
  go_step3
  go_wp2
  obtain ⟨g1, hbel, hsz⟩ := news1 w (.cells #[.slice none 0 0] 101)
  have hb1 : Blk ((w.alloc (.cells #[.slice none 0 0] 101)).setRow w.heap.size #[.slice ao n cap]) w.heap.size 101 #[.slice ao n cap] := setRow_heap _ _ _ _ _ _ g1
  have hbel2 : Below w.heap.size w ((w.alloc (.cells #[.slice none 0 0] 101)).setRow w.heap.size #[.slice ao n cap]) := below_setRow hbel (Nat.le_refl _) _
  clear g1 hbel hsz
  generalize ((w.alloc (.cells #[.slice none 0 0] 101)).setRow w.heap.size #[.slice ao n cap]) = wz at *
  have HV0 : Hid (IntsAt wz (.slice ao n cap) zs) := Lib.hid (by rw [HLEN.out]; have := HV.out.kept hbel2; exact this)
  generalize hA : w.heap.size = A at *
  have HA := Lib.hid hA
  have HB0 := Lib.hid hb1
  have HBL0 := Lib.hid hbel2
  clear hA hb1 hbel2 d0 d1
  have hdk : decide (n ≤ k) = false := decide_eq_false (by omega)
  simp only [Act.put, hdk]
  go_loopg [1] n (fun g s wr => ∃ (kk : Nat) (ys : List Int) (a : Option Addr) (c : Nat), s = .int .i64 (kk : Int) ∧ ys.length = g ∧ g ≤ n ∧ kk < g ∧ Blk wr A 101 #[.slice a g c] ∧ IntsAt wr (.slice a g c) ys ∧ (∀ u, IsKth ys kk u → IsKth zs k u) ∧ Below A w wr)
  case atStart => exact ⟨k, zs, ao, cap, rfl, HLEN.out.symm, Nat.le_refl _, hk, HB0.out, HV0.out, fun u h => h, HBL0.out⟩
  case round =>
    obtain ⟨kk, ys, a, c, rfl, hyl, hgn, hkk, hbk, hin, himp, hbel⟩ := hrel
    clear HB0 HBL0 HV0
    have HIN := Lib.hid hin
    have HBK := Lib.hid hbk
    have HIMP := Lib.hid himp
    have HB := Lib.hid hbel
    have HYL := Lib.hid hyl
    have c0 := hbk.cell 0
    simp at c0
    obtain ⟨a', c', e1, hc, hcells⟩ := hin
    simp only [Value.slice.injEq] at e1
    obtain ⟨rfl, -, rfl⟩ := e1
    obtain ⟨gb, rfl, hgb, hcl⟩ := hcells (by omega)
    obtain ⟨q, hq⟩ : ∃ q, q = gk / 2 := ⟨_, rfl⟩
    have hqg : q < gk := by omega
    have hyq : ys[q]? = some (cellD ys q) := by
      have : q < ys.length := by omega
      simp [cellD, this]
    have cq := hcl q _ hyq
    have HBY := Lib.hid (List.mem_of_getElem? hyq)
    clear hcells hcl hyq hbk himp hbel hyl
    generalize cellD ys q = b at *
    have dq : Int.tdiv (gk : Int) 2 = (q : Int) := by rw [Int.tdiv_eq_ediv_of_nonneg (by omega)]; omega
    have hq0 : (0 : Int) ≤ (q : Int) := by omega
    have hq1 : (q : Int) < (gk : Int) := by omega
    clear hq
    have hbk := HBK.out
    have hAw := hbk.lt
    have hpl := parts_len ys b
    have hpos := cEq_pos HBY.out
    rw [HYL.out] at hpl
    have ew : wrap64 (((lessL ys b).length : Int) + (cEq ys b : Int)) = ((lessL ys b).length : Int) + (cEq ys b : Int) := by unfold wrap64; omega
    have HPL : Hid ((lessL ys b).length + cEq ys b + (moreL ys b).length = gk ∧ 0 < cEq ys b) := ⟨hpl, hpos⟩
    clear hpl hpos
    rcases Nat.lt_or_ge kk (lessL ys b).length with h1 | h1
    · have d1 : decide ((kk : Int) < ((lessL ys b).length : Int)) = true := decide_eq_true (by omega)
      have d1' : decide (kk < (lessL ys b).length) = true := decide_eq_true h1
      have H1 := Lib.hid h1
      clear h1
      go_wp2_with (first
      | refine wpList_load_row rfl 101 _ rfl A rfl 101 _ (0, 0) _ hbk Try.underlying101 rfl (by kernel_rfl) ?_
      | (go_at_call 65; refine (part_any _ ys b _ HIN.out (by have := HYL.out; omega)).mono ?_; rintro e w2 ⟨lv, mv, rfl, hl, hm, hfr, hb⟩; have HFR := Lib.hid hfr; clear hfr; have HL2 := Lib.hid hl; have HM2 := Lib.hid hm; have HB2 := Lib.hid hb; obtain ⟨la, lc, rfl, -, -⟩ := hl; obtain ⟨ma, mc, rfl, -, -⟩ := hm; have hk2 := ((hbk.kept hb).alloc (.cells #[.slice la (lessL ys b).length lc] 101)).alloc (.cells #[.slice ma (moreL ys b).length mc] 101); have hc2 := hk2.cell 0; have hf2 := hk2.frozen 0; simp at hc2; have HK2 := Lib.hid hk2; have HA2 : Hid (Below A w ((w2.alloc (.cells #[.slice la (lessL ys b).length lc] 101)).alloc (.cells #[.slice ma (moreL ys b).length mc] 101))) := Lib.hid (((HB.out.trans (hb.mono (by omega))).alloc (by have := hb.size; omega) _).alloc (by have := hb.size; simp; omega) _); have HL3 := Lib.hid ((HL2.out.kept ((Below.refl _ _).alloc (Nat.le_refl _) (.cells #[.slice la (lessL ys b).length lc] 101))).kept ((Below.refl _ _).alloc (Nat.le_refl _) (.cells #[.slice ma (moreL ys b).length mc] 101))); have HM3 := Lib.hid ((HM2.out.kept ((Below.refl _ _).alloc (Nat.le_refl _) (.cells #[.slice la (lessL ys b).length lc] 101))).kept ((Below.refl _ _).alloc (Nat.le_refl _) (.cells #[.slice ma (moreL ys b).length mc] 101))); clear hb hk2))
      go_roundg (lessL ys b).length
      case measure => have := HPL.out; omega
      case rel => exact ⟨kk, lessL ys b, la, lc, rfl, rfl, by have := HPL.out; omega, H1.out, by simpa using HK2.out.set_ 0 _, HL3.out.far (fun e => by have := HFR.out _ (.inl e); simp at this; omega) _, fun u hu => HIMP.out u (kth_less hu), HA2.out.setCell (Nat.le_refl _) _⟩
    · have d1 : decide ((kk : Int) < ((lessL ys b).length : Int)) = false := decide_eq_false (by omega)
      have d1' : decide (kk < (lessL ys b).length) = false := decide_eq_false (by omega)
      rcases Nat.lt_or_ge kk ((lessL ys b).length + cEq ys b) with h2 | h2
      · have d2 : decide ((kk : Int) < ((lessL ys b).length : Int) + (cEq ys b : Int)) = true := decide_eq_true (by omega)
        have H1 := Lib.hid h1
        have H2 := Lib.hid h2
        clear h1 h2
        go_wp2_with (first
      | refine wpList_load_row rfl 101 _ rfl A rfl 101 _ (0, 0) _ hbk Try.underlying101 rfl (by kernel_rfl) ?_
      | (go_at_call 65; refine (part_any _ ys b _ HIN.out (by have := HYL.out; omega)).mono ?_; rintro e w2 ⟨lv, mv, rfl, hl, hm, hfr, hb⟩; have HFR := Lib.hid hfr; clear hfr; have HL2 := Lib.hid hl; have HM2 := Lib.hid hm; have HB2 := Lib.hid hb; obtain ⟨la, lc, rfl, -, -⟩ := hl; obtain ⟨ma, mc, rfl, -, -⟩ := hm; have hk2 := ((hbk.kept hb).alloc (.cells #[.slice la (lessL ys b).length lc] 101)).alloc (.cells #[.slice ma (moreL ys b).length mc] 101); have hc2 := hk2.cell 0; have hf2 := hk2.frozen 0; simp at hc2; have HK2 := Lib.hid hk2; have HA2 : Hid (Below A w ((w2.alloc (.cells #[.slice la (lessL ys b).length lc] 101)).alloc (.cells #[.slice ma (moreL ys b).length mc] 101))) := Lib.hid (((HB.out.trans (hb.mono (by omega))).alloc (by have := hb.size; omega) _).alloc (by have := hb.size; simp; omega) _); have HL3 := Lib.hid ((HL2.out.kept ((Below.refl _ _).alloc (Nat.le_refl _) (.cells #[.slice la (lessL ys b).length lc] 101))).kept ((Below.refl _ _).alloc (Nat.le_refl _) (.cells #[.slice ma (moreL ys b).length mc] 101))); have HM3 := Lib.hid ((HM2.out.kept ((Below.refl _ _).alloc (Nat.le_refl _) (.cells #[.slice la (lessL ys b).length lc] 101))).kept ((Below.refl _ _).alloc (Nat.le_refl _) (.cells #[.slice ma (moreL ys b).length mc] 101))); clear hb hk2))
        rw [Exit.noGoto_ret]
        go_ret2
        exact ⟨b, rfl, HIMP.out b (kth_here HBY.out H1.out H2.out), by rw [HA.out]; exact HA2.out⟩
      · have d2 : decide ((kk : Int) < ((lessL ys b).length : Int) + (cEq ys b : Int)) = false := decide_eq_false (by omega)
        have ew2 : wrap64 ((kk : Int) - (((lessL ys b).length : Int) + (cEq ys b : Int))) = ((kk - ((lessL ys b).length + cEq ys b) : Nat) : Int) := by unfold wrap64; omega
        have H1 := Lib.hid h1
        have H2 := Lib.hid h2
        clear h1 h2
        go_wp2_with (first
      | refine wpList_load_row rfl 101 _ rfl A rfl 101 _ (0, 0) _ hbk Try.underlying101 rfl (by kernel_rfl) ?_
      | (go_at_call 65; refine (part_any _ ys b _ HIN.out (by have := HYL.out; omega)).mono ?_; rintro e w2 ⟨lv, mv, rfl, hl, hm, hfr, hb⟩; have HFR := Lib.hid hfr; clear hfr; have HL2 := Lib.hid hl; have HM2 := Lib.hid hm; have HB2 := Lib.hid hb; obtain ⟨la, lc, rfl, -, -⟩ := hl; obtain ⟨ma, mc, rfl, -, -⟩ := hm; have hk2 := ((hbk.kept hb).alloc (.cells #[.slice la (lessL ys b).length lc] 101)).alloc (.cells #[.slice ma (moreL ys b).length mc] 101); have hc2 := hk2.cell 0; have hf2 := hk2.frozen 0; simp at hc2; have HK2 := Lib.hid hk2; have HA2 : Hid (Below A w ((w2.alloc (.cells #[.slice la (lessL ys b).length lc] 101)).alloc (.cells #[.slice ma (moreL ys b).length mc] 101))) := Lib.hid (((HB.out.trans (hb.mono (by omega))).alloc (by have := hb.size; omega) _).alloc (by have := hb.size; simp; omega) _); have HL3 := Lib.hid ((HL2.out.kept ((Below.refl _ _).alloc (Nat.le_refl _) (.cells #[.slice la (lessL ys b).length lc] 101))).kept ((Below.refl _ _).alloc (Nat.le_refl _) (.cells #[.slice ma (moreL ys b).length mc] 101))); have HM3 := Lib.hid ((HM2.out.kept ((Below.refl _ _).alloc (Nat.le_refl _) (.cells #[.slice la (lessL ys b).length lc] 101))).kept ((Below.refl _ _).alloc (Nat.le_refl _) (.cells #[.slice ma (moreL ys b).length mc] 101))); clear hb hk2))
        go_roundg (moreL ys b).length
        case measure => have := HPL.out; omega
        case rel => exact ⟨kk - ((lessL ys b).length + cEq ys b), moreL ys b, ma, mc, by first | rfl | rw [ew2] | simp [ew2], rfl, by have := HPL.out; omega, by have := HPL.out; have := H2.out; omega, by simpa using HK2.out.set_ 0 _, HM3.out.far (fun e => by have := HFR.out _ (.inr e); simp at this; omega) _, fun u hu => HIMP.out u (by have := kth_more hu; rwa [Nat.sub_add_cancel H2.out] at this), HA2.out.setCell (Nat.le_refl _) _⟩
/-- the least of a row that is not empty -/
theorem min_any (v : Value) (zs : List Int) (w : World) (hv : IntsAt w v zs) (hk : 0 < zs.length) (hn : zs.length ≤ 100000) :
    Calls Try.prog 44 #[v] w fun e w' => ∃ u, e = .returned (.tuple #[.int .i64 u, .bool true]) ∧ IsKth zs 0 u ∧ Below w.heap.size w w' := by
  have P1 := kth_any v zs 0 w hv hk hn
  go_enter Try.func44, Try.ntmps44
  go_wp2_with (go_at_call 57; refine P1.mono ?_; rintro e w' ⟨u, rfl, hu, hb⟩; have HU := Lib.hid hu; clear hu)
  go_ret2
  exact ⟨u, rfl, HU.out, hb⟩
theorem median_any (v : Value) (zs : List Int) (w : World) (hv : IntsAt w v zs) (hk : 0 < zs.length) (hn : zs.length ≤ 100000) :
    Calls Try.prog 47 #[v] w fun e w' => ∃ u, e = .returned (.tuple #[.int .i64 u, .bool true]) ∧ IsKth zs ((zs.length - 1) / 2) u ∧ Below w.heap.size w w' := by
  have P1 := kth_any v zs ((zs.length - 1) / 2) w hv (by omega) hn
  obtain ⟨ao, cap, rfl, hcap, hcells⟩ := hv
  clear hcells
  obtain ⟨q, hq⟩ : ∃ q, q = (zs.length - 1) / 2 := ⟨_, rfl⟩
  rw [← hq] at P1 ⊢
  have e1 : wrap64 ((zs.length : Int) - 1) = (zs.length : Int) - 1 := by unfold wrap64; omega
  have e2 : Int.tdiv ((zs.length : Int) - 1) 2 = (q : Int) := by rw [Int.tdiv_eq_ediv_of_nonneg (by omega)]; omega
  have e3 : ((zs.length : Int) - 1) / 2 = (q : Int) := by omega
  clear hq
  go_enter Try.func47, Try.ntmps47
  go_wp2_with (go_at_call 57; refine P1.mono ?_; rintro e w' ⟨u, rfl, hu, hb⟩; have HU := Lib.hid hu; clear hu)
  go_ret2
  exact ⟨u, rfl, HU.out, hb⟩
end Go.Proofs.Ytcinlcbmjboaaaa
