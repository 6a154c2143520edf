import Derived.Test.YtfeficdndjiijaaGreatDoorQwp
import Derived.Test.YtfeficdndjiijaaGreatDoorQwj
import Derived.Test.YtfeficdndjiijaaGreatDoorQwl
import Derived.Test.YtfeficdndjiijaaGreatDoorQwo
/-
  Contracts of the functions that TopWire reaches, and the plain laws that it leans on. Conditions: none beyond those stated at each theorem.
-/
namespace Go.Proofs.YtfeficdndjiijaaGreatDoor
open Go.RowKit
set_option linter.unusedVariables false
set_option linter.unusedSimpArgs false

set_option maxRecDepth 100000 in
set_option maxHeartbeats 8000000 in
theorem works_yes (w : World) (ht : Tab w) : Calls Tryz.prog 6 #[] w fun e w' => e = .returned (.bool true) ∧ Below w.heap.size w w' := by
  have PR := run_small w ht
  have hlit : sB (joinN wkLine) = ⟨(joinN wkLine).toArray⟩ := rfl
  rw [hlit] at PR
  simp only [wkLine, joinN, List.cons_append, List.nil_append, List.append_assoc] at PR
  have PR := Lib.hid PR
  clear ht hlit
  go_enter Tryz.func6, Tryz.ntmps6
  go_wp2_with fail
  refine PR.out.mono ?_
  rintro e w2 ⟨v, rfl, hown, hb⟩
  have HB := Lib.hid hb
  obtain ⟨g, cap, hv, -, -, -, -, hc⟩ := own_cells hown (by decide)
  subst hv
  have c3 := hc 3 (.string ⟨#[110, 117, 109, 98, 101, 114, 32, 50]⟩) rfl
  have c4 := hc 4 (.string ⟨#[107, 101, 121, 32, 51]⟩) rfl
  have c5 := hc 5 (.string ⟨#[108, 105, 115, 116, 32, 50, 58, 48, 58, 55, 32, 49, 58, 49, 58, 53, 32, 48, 58, 51, 58, 53]⟩) rfl
  have c6 := hc 6 (.string ⟨#[119, 105, 100, 101, 32, 50, 57]⟩) rfl
  clear hown hb hc PR
  go_wp2_with fail
  go_ret
  exact ⟨rfl, HB.out⟩
end Go.Proofs.YtfeficdndjiijaaGreatDoor


namespace Go.Proofs.YtfeficdndjiijaaGreatDoor
open Go.RowKit
set_option linter.unusedVariables false
set_option linter.unusedSimpArgs false

def tri (k : Nat) : ByteArray := if k = 0 then ⟨#[116, 105, 99, 107]⟩ else if k = 1 then ⟨#[97, 100, 100, 32, 49, 32, 48, 32, 48]⟩ else ⟨#[101, 120, 112, 111, 114, 116, 32, 49]⟩
theorem tri0 : tri 0 = sB (joinW [wTick]) := rfl
theorem tri1 : tri 1 = sB (joinW [wAdd, Lib.itoa ((1 : Nat) : Int), Lib.itoa ((0 : Nat) : Int), Lib.itoa 0]) := by
  rw [show Lib.itoa ((1 : Nat) : Int) = [49] from it1, show Lib.itoa ((0 : Nat) : Int) = [48] from it0, it0]
  rfl
theorem tri2 : tri 2 = sB (joinW [wExport, Lib.itoa ((1 : Nat) : Int)]) := by
  rw [show Lib.itoa ((1 : Nat) : Int) = [49] from it1]
  rfl
theorem import_eq (bs : List Int) : sB [105, 109, 112, 111, 114, 116, 32] ++ sB (hexT bs) = sB (joinW [wImport, hexT bs]) := by
  rw [sB_append]
  rfl
def TriP (B LB : Nat) (w0 : World) (bs : List Int) (base A bm : Nat) (b r d m s : Int) (S L : Nat → Nat) (X : Nat → Nat → Value) (Ar G C : Nat → Nat → Nat) (Z : Nat → List Int) (k : Nat) (t : ByteArray) (W : World) : Prop :=
  AggSt W base A bm 1 b r d m s S L X Ar G C (fun _ => Z) ∧ Blk W LB 9 #[.string (tri 0), .string (tri 1), .string (tri 2)] ∧ Below B w0 W ∧ (k = 3 → t = sB ([98, 121, 116, 101, 115, 32] ++ hexT bs))
theorem btrB {B : Nat} {a c e : World} (h : Below B a c) (k : Below c.heap.size c e) (hB : B ≤ c.heap.size) : Below B a e := h.trans (k.mono hB)
theorem tri_lines (w0 : World) (bs : List Int) (hby : Byts bs) (hbl : bs.length ≤ 2000) (base A bm LB : Nat) (b r d m s : Int) (S L : Nat → Nat) (X : Nat → Nat → Value) (Ar G C : Nat → Nat → Nat) (Z : Nat → List Int) (hd : DecS bs b r d m s Z) (hg : 4 < base) (hLA : LB ≠ A) (hLB : LB ≠ bm) (w : World) (hbase : base ≤ w0.heap.size) 
  (h : TriP base LB w0 bs base A bm b r d m s S L X Ar G C Z 0 ⟨#[]⟩ w) :
  Calls Tryz.prog 15 #[.pointer (some ⟨A, 0, none⟩), .slice (some ⟨LB, 0, none⟩) 3 3] w fun e w' => ∃ t, e = .returned (.string t) ∧ TriP base LB w0 bs base A bm b r d m s S L X Ar G C Z 3 t w' := by
 refine lines3 A LB tri (TriP base LB w0 bs base A bm b r d m s S L X Ar G C Z) (fun k t W h => h.2.1) (fun k t W hk hp => ?_) w h
 obtain ⟨ha, hb, hB, -⟩ := hp
 have hW : w0.heap.size ≤ W.heap.size := hB.size
 have hbW : base ≤ W.heap.size := by omega
 obtain ⟨hr, s0, s1, hsh, hen⟩ := hd
 have hlen : (headB b r d m s ++ rowsB Z (b.toNat + 1)).length + 4 = bs.length := by rw [hen, encB, signB_len]
 match k, hk with
 | 0, _ =>
  rw [tri0]
  refine (line_tick W base A bm 1 b r d m s S L X Ar G C _ ha (by omega)).mono ?_
  rintro e W' ⟨t', rfl, -, ha', hb'⟩
  exact ⟨t', rfl, ha', hb.kept hb', btrB hB hb' hbW, fun h => by omega⟩
 | 1, _ =>
  rw [tri1]
  refine (line_add_nought W base A bm 1 b r d m s S L X Ar G C _ ha hg (by omega) s0 (by omega) hr 1 (by omega) (by omega) (fun p hp => (hsh p (by omega)).2)).mono ?_
  rintro e W' ⟨t', rfl, ha', ho⟩
  exact ⟨t', rfl, ha', ho.blk hb hLA hLB (by decide), hB.trans (ho.to_below hbW ha.lo.1 ha.lo.2), fun h => by omega⟩
 | 2, _ =>
  rw [tri2]
  refine (line_export W base A bm 1 b r d m s S L X Ar G C _ ha (by omega) s0 s1 1 (by omega) (by omega) (by omega) (by rw [← hen]; omega) (by rw [← hen]; exact hby)).mono ?_
  rintro e W' ⟨t', rfl, ht, ha', hb'⟩
  exact ⟨t', rfl, ha', hb.kept hb', btrB hB hb' hbW, fun _ => by rw [ht, ← hen]⟩
set_option maxRecDepth 100000 in
set_option maxHeartbeats 8000000 in
theorem TopWire_walk (v0 v1 : Value) (w : World) (h0 : shBytes.Val w v0) (h1 : Sh.bool.Val w v1) (ht : Tab w) :
  Calls Tryz.prog 4 #[v0, v1] w fun e w' => e = .returned (.bool true) ∧ Below w.heap.size w w' := by
 obtain ⟨i0', hi, hz0, hz1, hz2⟩ := info_parts Tryz.info8
 obtain ⟨bs, hab, hby⟩ := bytes_of_val h0
 obtain ⟨sg, hsg⟩ : ∃ sg, v1 = .bool sg := by obtain ⟨b, hb⟩ := h1; exact ⟨b, by simpa using hb⟩
 subst hsg
 clear h0 h1
 have HT := Lib.hid ht
 have PW := Lib.hid (works_yes w ht)
 have HAB := Lib.hid hab
 have HBY := Lib.hid hby
 obtain ⟨ao, cap, rfl, hcap, hmx, -⟩ := hab
 obtain ⟨n, hn⟩ : ∃ n, n = bs.length := ⟨_, rfl⟩
 have HN := Lib.hid hn
 rw [← hn] at hcap ⊢
 clear hn hby ht
 obtain ⟨k, hk⟩ : ∃ k, k = cutN n := ⟨_, rfl⟩
 have hkn : k ≤ n := by rw [hk]; exact Nat.min_le_left _ _
 have hk1 : k ≤ 1000 := by rw [hk]; exact Nat.min_le_right _ _
 have hmin : min (n : Int) 1000 = (k : Int) := by rw [hk]; unfold cutN; omega
 have hkc : k ≤ cap := by omega
 have hkci : (k : Int) ≤ (cap : Int) := by omega
 have HTL : Hid ((bs.take k).length = k) := Lib.hid (by simp; have := HN.out; omega)
 have HCB : Hid (cutB bs sg = if sg then signB (bs.take k) else bs.take k) := Lib.hid (by unfold cutB; rw [← HN.out, ← hk])
 have HCL := Lib.hid (cutB_len bs sg)
 have HCY := Lib.hid (cutB_byts HBY.out sg)
 have HK := Lib.hid hk
 clear hk
 go_enter Tryz.func4, Tryz.ntmps4
 go_wp2_with fail
 with_reducible refine PW.out.mono ?_
 rintro e w2 ⟨rfl, hb⟩
 have HB2 := Lib.hid hb
 have HAB2 := Lib.hid (HAB.out.kept hb)
 rw [← HN.out] at HAB2
 clear hb PW
 have hown0 := World.ownsRow_lit (base := w.heap.size) (e := 5) (size := 1) w2 #[] 0 HB2.out.size (by unfold maxLen; omega) (by simp)
 have HO1 := Lib.hid hown0
 have HB3 : Hid (Below w2.heap.size w2 (w2.alloc (.cells #[] 5))) := Lib.hid ((Below.refl _ _).alloc (Nat.le_refl _) _)
 have HNEWS := Lib.hid ((HAB2.out.kept HB3.out).news k hkn)
 clear hown0
 go_wp2_with (at_builtin; refine wpList_append_lit rfl _ _ 41 rfl w.heap.size 5 i0' (.int .u8 0) 1 Tryz.underlying41 hi hz0 hz1 hz2 rfl w2.heap.size 0 rfl HO1.out ao k cap ((bs.take k).map (Value.int .u8)) rfl (by rw [List.length_map]; exact HTL.out) HNEWS.out (fun u hu => by obtain ⟨z, -, rfl⟩ := List.mem_map.1 hu; rfl) (by unfold maxLen; omega) (by omega) (by have := HB2.out.size; simp; omega) ?_)
 intro v5 w5 o5 g5 n5 q5
 have hlz := HTL.out
 have HO5 : Hid (OwnB w5 w.heap.size v5 (bs.take k)) := Lib.hid (by unfold OwnB; rw [hlz, List.map_take]; exact o5)
 have HB5 : Hid (Below w.heap.size w w5) := Lib.hid ((btr HB2.out HB3.out).grown g5 (by have := HB2.out.size; simp; omega) (fun q e => by have := Option.some.inj e; have := HB2.out.size; omega))
 obtain ⟨xo, xl, xc, rfl⟩ := HO5.out.open2
 clear o5 g5 n5 q5 HO1 HB2 HB3 HAB2 HNEWS hlz
 have PSG := Lib.hid (signed_any w5 (.slice xo xl xc) (bs.take k) HO5.out.at (HBY.out.take k) (by rw [HTL.out]; omega))
 cases sg
 rotate_left
 focus go_wp2_with fail
 with_reducible refine PSG.out.mono ?_
 rintro e w6 ⟨v6, rfl, ho6, -, hb6⟩
 have HV6 : Hid (BytesAt w6 v6 (cutB bs true)) := Lib.hid (by rw [HCB.out]; exact ho6.at)
 have HB6 := Lib.hid (btr HB5.out hb6)
 obtain ⟨yo, yl, yc, rfl⟩ := ho6.open2
 clear ho6 hb6 HO5 HB5
 rotate_left
 obtain ⟨w6, hw6⟩ : ∃ w6, w6 = w5 := ⟨_, rfl⟩
 obtain ⟨yo, yl, yc, hyo, hyl, hyc⟩ : ∃ yo yl yc, yo = xo ∧ yl = xl ∧ yc = xc := ⟨_, _, _, rfl, rfl, rfl⟩
 subst hw6 hyo hyl hyc
 have HV6 : Hid (BytesAt w6 (.slice yo yl yc) (cutB bs false)) := Lib.hid (by rw [HCB.out]; exact HO5.out.at)
 have HB6 := HB5
 clear HO5 HB5
 all_goals
  clear PSG HCB
  generalize cutB bs _ = l at *
  have hyl : yl = l.length := by obtain ⟨ao2, cap2, e, -⟩ := HV6.out; simp only [Value.slice.injEq] at e; exact e.2.1
  have HYL := Lib.hid hyl
  by_cases hl0 : yl = 0
  ·subst hl0
   clear hyl
   go_wp2_with fail
   go_ret
   exact ⟨rfl, HB6.out⟩
  ·have hl1 : ((yl : Int) == 0) = false := by simp; omega
   have hl1b : ¬ (yl : Int) = 0 := by omega
   have HL1 : Hid (1 ≤ l.length) := Lib.hid (by omega)
   have PD := Lib.hid (digits_any w6 (.slice yo yl yc) l HV6.out HCY.out (by have := HCL.out; omega))
   have HHL : Hid ((sB (hexT l)).size ≤ 2008) := Lib.hid (by rw [sB_size, hexT_len]; have := HCL.out; omega)
   clear hyl hl0
   go_wp2_with fail
   with_reducible refine PD.out.mono ?_
   rintro e w7 ⟨rfl, hb7⟩
   have HB7 := Lib.hid (btr HB6.out hb7)
   have HV7 := Lib.hid (HV6.out.kept hb7)
   have HT7 := Lib.hid (HT.out.kept HB7.out)
   have PA := Lib.hid (aggnew w7)
   clear hb7 PD HB6
   go_wp2_with fail
   with_reducible refine PA.out.mono ?_
   rintro e w8 ⟨A, bm, rfl, hA, hB, hai, hb8⟩
   have HA := Lib.hid (And.intro hA hB)
   have HB8 := Lib.hid (btr HB7.out hb8)
   have HV8 := Lib.hid (HV7.out.kept hb8)
   have HT8 := Lib.hid (HT7.out.kept hb8)
   have HG : Hid (4 < w7.heap.size) := Lib.hid HT7.out.lt
   have HAI := Lib.hid hai
   have HS78 := Lib.hid hb8.size
   have PL := Lib.hid (line_import w8 w7.heap.size A bm _ hai hA hB hb8.size HG.out HT8.out l HCY.out HL1.out (by have := HCL.out; omega))
   rw [← import_eq, show sB [105, 109, 112, 111, 114, 116, 32] = ⟨#[105, 109, 112, 111, 114, 116, 32]⟩ from rfl] at PL
   have HBY2 : Hid (sB ([98, 121, 116, 101, 115, 32] ++ hexT l) = ⟨#[98, 121, 116, 101, 115, 32]⟩ ++ sB (hexT l)) := Lib.hid (by rw [← sB_append]; rfl)
   have HK7 : Hid (∀ wq, Below w7.heap.size w8 wq → BytesAt wq (.slice yo yl yc) l ∧ Below w.heap.size w wq) := Lib.hid (fun wq hq => ⟨HV7.out.kept (hb8.trans hq), HB7.out.trans ((hb8.trans hq).mono HB7.out.size)⟩)
   generalize w7.heap.size = base at *
   have hhl := HHL.out
   generalize sB (hexT l) = TH at *
   have yz1 : ¬ 9223372036854775807 < 7 + TH.size := by omega
   have yz2 : ¬ 9223372036854775807 < 6 + TH.size := by omega
   clear hA hB hai hb8 PA HB7 hhl
   go_wp2_with fail
   with_reducible refine PL.out.mono ?_
   rintro e w9 ⟨t, rfl, him, hb9⟩
   have HB9 := Lib.hid (HK7.out _ hb9)
   have HS9 : Hid (base ≤ w9.heap.size) := Lib.hid (Nat.le_trans HS78.out hb9.size)
   have HB89 := Lib.hid hb9
   clear hb9 PL HB8 HV8 HT8
   rcases him with ⟨b, r, d, m, s, Z, S, L, X, Ar, G, C, hds, rfl, hst⟩ | ⟨hno, rfl, hai, ht9⟩
   ·rw [show sB ([104, 97, 110, 100, 108, 101, 32] ++ Lib.itoa 1) = ⟨#[104, 97, 110, 100, 108, 101, 32, 49]⟩ by rw [it1]; rfl]
    have HDS := Lib.hid hds
    have HST := Lib.hid hst
    have hnew := Blk.new w9 9 #[.string (tri 0), .string (tri 1), .string (tri 2)]
    have hal : Below w9.heap.size w9 (w9.alloc (.cells #[.string (tri 0), .string (tri 1), .string (tri 2)] 9)) := (Below.refl _ _).alloc (Nat.le_refl _) _
    have hlt := hst.base_le
    have PT := Lib.hid (tri_lines _ l HCY.out (by have := HCL.out; omega) base A bm w9.heap.size b r d m s S L X Ar G C Z hds HG.out (by omega) (by omega) _ (Nat.le_trans HS9.out hal.size) ⟨hst.kept hal, hnew, Below.refl _ _, fun h => by omega⟩)
    have HB10 := Lib.hid (HB89.out.trans (hal.mono HS9.out))
    have htr0 : tri 0 = ⟨#[116, 105, 99, 107]⟩ := rfl
    have htr1 : tri 1 = ⟨#[97, 100, 100, 32, 49, 32, 48, 32, 48]⟩ := rfl
    have htr2 : tri 2 = ⟨#[101, 120, 112, 111, 114, 116, 32, 49]⟩ := rfl
    rw [htr0, htr1, htr2] at PT HB10
    clear hds hst hnew hal hlt htr0 htr1 htr2
    go_wp2_with fail
    with_reducible refine PT.out.mono ?_
    rintro e w11 ⟨t, rfl, -, -, hb11, ht3⟩
    have HT3 := Lib.hid (ht3 rfl)
    have HK11 := Lib.hid (HK7.out _ (HB10.out.trans hb11))
    have PD2 := Lib.hid (decode_any w11 (.slice yo yl yc) l HK11.out.1 HCY.out (by have := HCL.out; omega))
    rw [HT3.out, HBY2.out]
    clear hb11 ht3 PT
    go_wp2_with fail
    with_reducible refine PD2.out.mono ?_
    rintro e w12 ⟨⟨b', r', d', m', s', Z', S', L', X', A', G', C', -, rfl, -, -⟩ | ⟨hno, rfl⟩, hb12⟩
    ·have HB12 := Lib.hid (btr HK11.out.2 hb12)
     clear hb12 PD2
     go_wp2_with fail
     go_ret
     exact ⟨rfl, HB12.out⟩
    ·exact absurd HDS.out (hno _ _ _ _ _ _)
   ·have PH := Lib.hid (handles_any w9 A bm 0 _ hai (by omega))
    have he : ∃ E : List UInt8, (E = [56] ∨ E = [57]) ∧ sB ([101, 114, 114, 111, 114, 32] ++ Lib.itoa (errOf l)) = sB ([101, 114, 114, 111, 114, 32] ++ E) := by
     rcases errOf_in l with e | e
     ·exact ⟨[56], .inl rfl, by rw [e, show Lib.itoa 8 = [56] from itoaS 8 (by decide)]⟩
     ·exact ⟨[57], .inr rfl, by rw [e, it9]⟩
    obtain ⟨E, hE, he⟩ := he
    simp only [he]
    clear hno hai ht9 he
    rcases hE with rfl | rfl
    all_goals
     first
     | rw [show sB ([101, 114, 114, 111, 114, 32] ++ [56]) = ⟨#[101, 114, 114, 111, 114, 32, 56]⟩ from rfl]
     | rw [show sB ([101, 114, 114, 111, 114, 32] ++ [57]) = ⟨#[101, 114, 114, 111, 114, 32, 57]⟩ from rfl]
     go_wp2_with fail
     with_reducible refine PH.out.mono ?_
     rintro e w10 ⟨v, ss, rfl, hlen, -, hi, hb10⟩
     obtain ⟨ao2, cap2, rfl, -⟩ := hi
     rw [hlen]
     have HB10 := Lib.hid (btr HB9.out.2 hb10)
     clear hb10 hlen PH
     go_wp2_with fail
     go_ret
     exact ⟨rfl, HB10.out⟩
end Go.Proofs.YtfeficdndjiijaaGreatDoor

