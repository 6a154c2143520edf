/-
  Columns as arguments, and the walks of gaugerref08.Cut, Same, and of what the laws of the layers 8 and 9 begin with. Conditions: none beyond those stated at each theorem.
-/
import Derived.Test.YtcinlcbmjboaaaaLinC
import Derived.Test.YtcinlcbmjboaaaaLinT
import Derived.Test.YtcinlcbmjboaaaaSh
import Derived.Test.YtcinlcbmjboaaaaGrdT
import Derived.Test.YtcinlcbmjboaaaaLngX
namespace Go.Proofs.Ytcinlcbmjboaaaa
open Go.RowKit
set_option linter.unusedVariables false
set_option linter.unusedSimpArgs false

theorem and16' (n : Int) : bits BinOp.and IntKind.i64 n 65535 = n % 65536 := by
  have h16 : (BitVec.ofInt 64 65535).toNat = 2 ^ 16 - 1 := by decide
  have key : (BitVec.ofInt 64 n &&& BitVec.ofInt 64 65535).toNat = (n % ((2 ^ 64 : Nat) : Int)).toNat % 2 ^ 16 := by
    rw [BitVec.toNat_and, BitVec.toNat_ofInt, h16, Nat.and_two_pow_sub_one_eq_mod]
  show IntKind.i64.wrap ((BitVec.ofInt 64 n &&& BitVec.ofInt 64 65535).toNat : Nat) = n % 65536
  rw [key, IntKind.wrap_i64]
  omega

/-- a slice of integers, anywhere in a block -/
def ColsAt (w : World) (v : Value) (cs : List Int) : Prop :=
  ∃ (ao : Option Addr) (cap : Nat), v = .slice ao cs.length cap ∧ cs.length ≤ cap ∧ cap ≤ maxLen ∧ (0 < cs.length → ∃ b off, ao = some ⟨b, off, none⟩ ∧ b < w.heap.size ∧ ∀ i u, cs[i]? = some u → w.cell? ⟨b, off + i, none⟩ = some (.int .i64 u))
theorem ColsAt.kept {w w' : World} {v : Value} {cs : List Int} (h : ColsAt w v cs) (hb : Below w.heap.size w w') : ColsAt w' v cs := by
  obtain ⟨ao, cap, e, hc, hm, h⟩ := h
  refine ⟨ao, cap, e, hc, hm, fun h0 => ?_⟩
  obtain ⟨b, off, e2, hg, hc⟩ := h h0
  exact ⟨b, off, e2, Nat.lt_of_lt_of_le hg hb.size, fun i u hu => (hb.cell (p := ⟨b, off + i, none⟩) hg).trans (hc i u hu)⟩
theorem ints_of_len {w : World} {b off len : Nat} (f : Nat → Int) (hc : ∀ i, i < len → w.cell? ⟨b, off + i, none⟩ = some (.int .i64 (f i))) : ∀ i u, ((List.range len).map f)[i]? = some u → w.cell? ⟨b, off + i, none⟩ = some (.int .i64 u) := by
  intro i u hu
  have hi : i < len := by
    have := (List.getElem?_eq_some_iff.1 hu).1
    simpa using this
  simp [hi] at hu
  rw [hc i hi, hu]
theorem cols_of_val {w : World} {v : Value} (h : (Sh.slice (.int .i64)).Val w v) : ∃ cs, ColsAt w v cs := by
  obtain ⟨ao, len, cap, h1, hl, hm, hx⟩ := h
  have h1 : v = .slice ao len cap := by simpa using h1
  subst h1
  by_cases h0 : 0 < len
  · obtain ⟨b, off, rfl, hb, hc⟩ := hx h0
    have key : ∀ i, i < len → ∃ x : Int, w.cell? ⟨b, off + i, none⟩ = some (.int .i64 x) := by
      intro i hi
      obtain ⟨cs', hcl, hcell, hr⟩ := hc i hi
      obtain ⟨n, rfl, _⟩ := hr
      have := hcell 0 (by decide)
      exact ⟨n, by simpa [Sh.size] using this⟩
    refine ⟨(List.range len).map fun i => if h : i < len then (key i h).choose else 0, some ⟨b, off, none⟩, cap, by simp, by simpa using hl, hm, fun _ => ⟨b, off, rfl, hb, ints_of_len _ fun i hi => ?_⟩⟩
    simp only [dif_pos hi]
    exact (key i hi).choose_spec
  · obtain rfl : len = 0 := by omega
    exact ⟨[], ao, cap, rfl, by simp, hm, fun h => by simp at h⟩

def cutV (W : Nat) (cs : List Int) (r : Nat) : Int := if r < cs.length then cellD cs r % 65536 % (W : Int) else 0
def cutZ (cs : List Int) (R W : Nat) : List Int := (List.range R).map (cutV W cs)
theorem cutZ_len {cs : List Int} {R W : Nat} : (cutZ cs R W).length = R := by simp [cutZ]
theorem cutV_bd {W : Nat} (h : 0 < W) (cs : List Int) (r : Nat) : 0 ≤ cutV W cs r ∧ cutV W cs r < (W : Int) := by
  unfold cutV
  split
  · exact ⟨Int.emod_nonneg _ (by omega), Int.emod_lt_of_pos _ (by omega)⟩
  · omega
theorem cut_meet {cs : List Int} {R W : Nat} (hR : 0 < R) (hW : 0 < W) : meetB R W (cutZ cs R W) = true := by
  refine meetB_all hR cutZ_len (fun j c hc => ?_)
  have := List.mem_of_getElem? hc
  simp [cutZ] at this
  obtain ⟨r, _, rfl⟩ := this
  exact cutV_bd hW cs r
theorem cut_col {cs : List Int} {R W r : Nat} (hr : r < R) : colN (cutZ cs R W) r = (cutV W cs r).toNat := by simp [colN, cellD, cutZ, hr]
theorem cut_colW {cs : List Int} {R W r : Nat} (hW : 0 < W) (hr : r < R) : colN (cutZ cs R W) r < W := by
  rw [cut_col hr]
  have := cutV_bd hW cs r
  omega

/-- a row of integers that fills a block from its start on -/
def RowI (w : World) (v : Value) (cs : List Int) : Prop :=
  ∃ (g cap : Nat) (cur : Array Value), v = .slice (some ⟨g, 0, none⟩) cs.length cap ∧ cs.length ≤ cap ∧ Blk w g 3 cur ∧ ∀ (i : Nat) (u : Int), cs[i]? = some u → cur[i]? = some (Value.int .i64 u)
theorem RowI.ints {w : World} {v : Value} {cs : List Int} (h : RowI w v cs) : IntsAt w v cs := by
  obtain ⟨g, cap, cur, rfl, hc, hb, hx⟩ := h
  exact ⟨_, _, rfl, hc, fun _ => ⟨g, rfl, hb.lt, fun i u hu => (hb.cell i).trans (hx i u hu)⟩⟩
theorem RowI.kept {w w' : World} {v : Value} {cs : List Int} (h : RowI w v cs) (hb : Below w.heap.size w w') : RowI w' v cs := by
  obtain ⟨g, cap, cur, rfl, hc, hg, hx⟩ := h
  exact ⟨g, cap, cur, rfl, hc, hg.kept hb, hx⟩
theorem RowI.grown {w w' : World} {v : Value} {cs : List Int} {row : Option Nat} (h : RowI w v cs) (hb : w.grownBy w' row) (hne : v.ownBlock ≠ row) : RowI w' v cs := by
  obtain ⟨g, cap, cur, rfl, hc, hg, hx⟩ := h
  exact ⟨g, cap, cur, rfl, hc, hg.grown hb hne, hx⟩
theorem RowI.far {w w' : World} {v : Value} {cs : List Int} {C : Nat} {t : TypeId} {cur : Array Value} (h : RowI w v cs) (hb : w.grownBy w' (some C)) (hC : Blk w C t cur) (ht : 3 ≠ t) : RowI w' v cs := by
  refine h.grown hb ?_
  obtain ⟨g, cap, cur', rfl, hc, hg, hx⟩ := h
  exact fun e => hg.ne_ hC ht (Option.some.inj e)
theorem RowI.own {w : World} {v : Value} {cs : List Int} (h : RowI w v cs) : ∃ k, v.ownBlock = some k ∧ k < w.heap.size := by
  obtain ⟨g, cap, cur, rfl, hc, hg, hx⟩ := h
  exact ⟨g, rfl, hg.lt⟩
theorem RowI.neC {w : World} {v : Value} {cs : List Int} {C : Nat} {t : TypeId} {cur : Array Value} (h : RowI w v cs) (hC : Blk w C t cur) (ht : 3 ≠ t) : v.ownBlock ≠ some C := by
  obtain ⟨g, cap, cur', rfl, hc, hg, hx⟩ := h
  exact fun e => hg.ne_ hC ht (Option.some.inj e)
theorem own_rowI {w : World} {base : Nat} {v : Value} {zs : List Int} (h : w.ownsRow base 3 1 v zs.length (zs.map (Value.int .i64))) (hv : v ≠ .slice none 0 0) : RowI w v zs := by
  rcases h.2 with ⟨rfl, h0⟩ | ⟨g, cap, cur, rfl, hb, hg, hnc, hcm, hsz, htake⟩
  · exact absurd rfl hv
  · refine ⟨g, cap, cur, rfl, hnc, hg, fun i u hu => ?_⟩
    have hi : i < zs.length := (List.getElem?_eq_some_iff.1 hu).1
    have h2 : (cur.toList.take (zs.length * 1))[i]? = (zs.map (Value.int .i64))[i]? := by rw [htake]
    rw [List.getElem?_take, if_pos (by omega)] at h2
    simp only [List.getElem?_map, hu, Option.map_some] at h2
    simpa using h2

def CutPost (w : World) (cs : List Int) (R W : Nat) (e : Ending) (w' : World) : Prop :=
  ∃ v', e = .returned v' ∧ RowI w' v' (cutZ cs R W) ∧ (∀ k, v'.ownBlock = some k → w.heap.size ≤ k) ∧ Below w.heap.size w w'
set_option maxRecDepth 100000 in
set_option maxHeartbeats 4000000 in
theorem cut_any (v : Value) (cs : List Int) (R W : Nat) (hW : 0 < W) (hW1 : W ≤ 1000) (hR : R ≤ 8) (w : World) (hv : ColsAt w v cs) :
    Calls Try.prog 19 #[v, .int .i64 (R : Int), .int .i64 (W : Int)] w (CutPost w cs R W) := by
  have HV := Lib.hid hv
  obtain ⟨ao, cap, rfl, hcap, hmx, hcells⟩ := hv
  have HCL := Lib.hid hcells
  clear hcells
  obtain ⟨n, hlen⟩ : ∃ n, n = cs.length := ⟨_, rfl⟩
  rw [← hlen] at hcap ⊢
  have HLEN := Lib.hid hlen
  clear hlen
  obtain ⟨i0', hi, hz0, hz1, hz2⟩ := info_parts Try.infoI
  go_enter Try.func19, Try.ntmps19
  go_wp2_with fail
  obtain ⟨g1, hb1, hsz1⟩ := news1 w (.cells #[] 3)
  have hown0 := World.ownsRow_lit (base := w.heap.size) (e := 3) (size := 1) w #[] 0 (by simp) (by unfold maxLen; omega) (by simp)
  generalize (w.alloc (.cells #[] 3)) = wn at *
  clear g1
  have HO1 := Lib.hid hown0
  have HB1 := Lib.hid hb1
  clear hown0 hb1
  have hsz2 : w.heap.size ≤ wn.heap.size := by omega
  clear hsz1
  go_loopw [7, 8] (fun x i wr => ∃ r : Nat, r ≤ R ∧ i = .int .i64 (r : Int) ∧ x ≠ .slice none 0 0 ∧ wr.ownsRow w.heap.size 3 1 x r (((List.range r).map (cutV W cs)).map (Value.int .i64)) ∧ Below w.heap.size w wr ∧ w.heap.size ≤ wr.heap.size) (fun _ i _ => R - (intOf i).toNat)
  case atStart => exact ⟨0, by omega, rfl, by simp, by simpa using HO1.out, HB1.out, hsz2⟩
  case round =>
    obtain ⟨r, hr, rfl, hnil, hown, hbel, hszr⟩ := hrel
    clear HO1 HB1 hsz2
    have HB := Lib.hid hbel
    have HO := Lib.hid hown
    have HNIL := Lib.hid hnil
    by_cases hlt : r < R
    · have d1 : (0 : Int) ≤ (r : Int) := by omega
      have hW0 : ((W : Int) == 0) = false := by simp; omega
      have HN : Hid (((List.range (r + 1)).map (cutV W cs)).map (Value.int .i64) = ((List.range r).map (cutV W cs)).map (Value.int .i64) ++ [.int .i64 (cutV W cs r)]) := Lib.hid (by rw [List.range_succ]; simp)
      have hmx1 : r + 1 ≤ maxLen := by unfold maxLen; omega
      have HBC := Lib.hid (cutV_bd hW cs r)
      by_cases hrn : r < n
      · obtain ⟨b, off, rfl, hbl, hc⟩ := HCL.out (by have := HLEN.out; omega)
        have hcr : cs[r]? = some (cellD cs r) := by
          have : r < cs.length := by have := HLEN.out; omega
          simp [cellD, this]
        have cx := (hbel.cell (p := ⟨b, off + r, none⟩) hbl).trans (hc r _ hcr)
        have HE : Hid (cutV W cs r = cellD cs r % 65536 % (W : Int)) := Lib.hid (by have := HLEN.out; unfold cutV; rw [if_pos (by omega)])
        clear hc hcr hbel hown hnil
        generalize cellD cs r = x at *
        have e1 := and16' x
        have e2 : (x % 65536).tmod (W : Int) = x % 65536 % (W : Int) := Int.tmod_eq_emod_of_nonneg (by omega)
        have d2 : (r : Int) < (n : Int) := by omega
        have hbd := HBC.out
        rw [HE.out] at hbd HN
        generalize hy : x % 65536 % (W : Int) = y at *
        clear hy
        go_wp2_with (at_builtin; refine wpList_append_own_at _ rfl _ _ 32 rfl w.heap.size 3 i0' (.int .i64 0) 1 8 Try.underlying32 hi hz0 hz1 hz2 rfl (by decide) _ r _ rfl (HO.out.alloc _) ⟨wr.heap.size, 0, none⟩ 1 1 [.int .i64 y] rfl rfl (cell_one_new _ _ _) ?c2 hmx1 ?c4 ?c5 ?_)
        case c2 => simp [Value.oneCell']
        case c4 => omega
        case c5 => simp; omega
        intro v' w3 hown' hgrow hnil' hq9
        have HNIL' : Hid (v' ≠ .slice none 0 0) := Lib.hid hnil'
        have HO3 : Hid (w3.ownsRow w.heap.size 3 1 v' (r + 1) (((List.range (r + 1)).map (cutV W cs)).map (Value.int .i64))) := Lib.hid (by rw [HN.out, List.map_map]; exact hown')
        have hMk := fun k hk => (HO.out.lt k hk).1
        have HB3 : Hid (Below w.heap.size w w3) := Lib.hid ((HB.out.alloc hszr _).grown hgrow (by first | omega | (simp; done) | (simp; omega)) (fun k e => hMk k e))
        have hsz3 : w.heap.size ≤ w3.heap.size := by have := hgrow.size; simp at this; omega
        clear hown' hgrow hnil' hq9 hMk
        go_wp2
        go_roundw
        case rel => exact ⟨r + 1, by omega, by go_num, HNIL'.out, HO3.out, HB3.out, hsz3⟩
        case measure => simp [intOf]; omega
      · have HE : Hid (cutV W cs r = 0) := Lib.hid (by have := HLEN.out; unfold cutV; rw [if_neg (by omega)])
        rw [HE.out] at HN
        clear hbel hown hnil
        go_wp2_with (at_builtin; refine wpList_append_own_at _ rfl _ _ 32 rfl w.heap.size 3 i0' (.int .i64 0) 1 8 Try.underlying32 hi hz0 hz1 hz2 rfl (by decide) _ r _ rfl (HO.out.alloc _) ⟨wr.heap.size, 0, none⟩ 1 1 [.int .i64 0] rfl rfl (cell_one_new _ _ _) ?c2 hmx1 ?c4 ?c5 ?_)
        case c2 => simp [Value.oneCell']
        case c4 => omega
        case c5 => simp; omega
        intro v' w3 hown' hgrow hnil' hq9
        have HNIL' : Hid (v' ≠ .slice none 0 0) := Lib.hid hnil'
        have HO3 : Hid (w3.ownsRow w.heap.size 3 1 v' (r + 1) (((List.range (r + 1)).map (cutV W cs)).map (Value.int .i64))) := Lib.hid (by rw [HN.out, List.map_map]; exact hown')
        have hMk := fun k hk => (HO.out.lt k hk).1
        have HB3 : Hid (Below w.heap.size w w3) := Lib.hid ((HB.out.alloc hszr _).grown hgrow (by first | omega | (simp; done) | (simp; omega)) (fun k e => hMk k e))
        have hsz3 : w.heap.size ≤ w3.heap.size := by have := hgrow.size; simp at this; omega
        clear hown' hgrow hnil' hq9 hMk
        go_wp2
        go_roundw
        case rel => exact ⟨r + 1, by omega, by go_num, HNIL'.out, HO3.out, HB3.out, hsz3⟩
        case measure => simp [intOf]; omega
    · obtain rfl : r = R := by omega
      have hri : RowI wr u7 (cutZ cs r W) := own_rowI (base := w.heap.size) (by rw [cutZ_len]; exact hown) hnil
      have hlo := fun k hk => (hown.lt k hk).1
      have HP : Hid (CutPost w cs r W (.returned u7) wr) := ⟨_, rfl, hri, hlo, hbel⟩
      clear hri hlo hown hnil hbel
      go_wp2
      go_ret
      exact HP.out
end Go.Proofs.Ytcinlcbmjboaaaa
