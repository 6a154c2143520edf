/-
  The walks of varint: Clone, Put, PutRow's closure. Conditions: none beyond those stated at each theorem.
-/
import Derived.Test.YtbghchgmoiniiaaVarP
import Derived.Test.YtbghchgmoiniiaaWirA
namespace Go.Proofs.Ytbghchgmoiniiaa
open Go.RowKit
set_option linter.unusedVariables false
set_option linter.unusedSimpArgs false

def PostC (w : World) (bs : List Int) (e : Ending) (w' : World) : Prop :=
  ∃ v', e = .returned v' ∧ OwnB w' w.heap.size v' bs ∧ Below w.heap.size w w'
theorem or128 (u : Int) (h0 : 0 ≤ u) : bits BinOp.or IntKind.u8 (u % 256) 128 = 128 + u % 128 := by
  obtain ⟨n, rfl⟩ := Int.eq_ofNat_of_zero_le h0
  have hb : (BitVec.ofInt 8 ((n : Int) % 256) ||| BitVec.ofInt 8 128).toNat = 128 + n % 128 := by
    have e1 : BitVec.ofInt 8 ((n : Int) % 256) = BitVec.ofNat 8 (n % 256) := by
      rw [show ((n : Int) % 256) = ((n % 256 : Nat) : Int) by omega]
      exact BitVec.ofInt_natCast ..
    have e2 : BitVec.ofInt 8 128 = BitVec.ofNat 8 128 := by decide
    rw [e1, e2, BitVec.toNat_or, BitVec.toNat_ofNat, BitVec.toNat_ofNat]
    have h : ∀ m, m < 256 → (m % 2 ^ 8 ||| 128 % 2 ^ 8) = 128 + m % 128 := by decide +kernel
    rw [h _ (Nat.mod_lt _ (by decide))]
    omega
  show IntKind.u8.wrap ((BitVec.ofInt 8 ((n : Int) % 256) ||| BitVec.ofInt 8 128).toNat : Int) = _
  rw [hb]
  simp [IntKind.wrap, IntKind.bits, IntKind.signed]
  omega
theorem OwnB.pre {w : World} {base b' : Nat} {v : Value} {bs : List Int} (h : OwnB w base v bs) (hb : b' ≤ base) : OwnB w b' v bs := by
  refine ⟨h.1, ?_⟩
  rcases h.2 with h | ⟨g, cap, cur, e1, e2, e3⟩
  · exact .inl h
  · exact .inr ⟨g, cap, cur, e1, Nat.le_trans hb e2, e3⟩

theorem Try.sl8 (w : World) (a : Option Addr) (n c : Nat) : Sem.run Try.prog (binOp .eql 22 (.slice a n c) (.slice none 0 0)) w = .ok (.bool a.isNone) w := Go.Lib.run_eql_slice_nil w 22 5 a n c 0 0 Try.underlying22
set_option maxRecDepth 100000 in
set_option maxHeartbeats 4000000 in
theorem bclone_any (w : World) (v : Value) (bs : List Int) (hv : BytesAt w v bs) (hl : bs.length ≤ 100000000) :
    Calls Try.prog 52 #[v] w (PostC w bs) := by
  obtain ⟨i0', hi, hz0, hz1, hz2⟩ := info_parts Try.info8
  have HV := Lib.hid hv
  have hown0 := World.ownsRow_lit (base := w.heap.size) (e := 5) (size := 1) w #[] 0 (by exact Nat.le_refl _) (by unfold maxLen; omega) (by simp)
  have HO1 := Lib.hid hown0
  have HB1 : Hid (Below w.heap.size w (w.alloc (.cells #[] 5))) := Lib.hid ((Below.refl _ _).alloc (Nat.le_refl _) _)
  clear hown0
  obtain ⟨ao, cap, rfl, hcap, hmx, hc⟩ := hv
  rcases hc with ⟨rfl, rfl⟩ | ⟨g, off, rfl, -, -⟩
  · have he := Try.sl8 w none 0 cap
    simp only [Option.isNone_none] at he
    simp only [List.length_nil]
    clear hcap hmx HV
    go_enter Try.func52, Try.ntmps52
    go_wp2
    go_ret
    exact ⟨_, rfl, World.ownsRow_nil _ _ _ _, Below.refl _ _⟩
  · obtain ⟨n, hn⟩ : ∃ n, n = bs.length := ⟨_, rfl⟩
    have HN := Lib.hid hn
    have HNEWS := Lib.hid (HV.out.news rfl _ HB1.out)
    have he := Try.sl8 w (some ⟨g, off, none⟩) bs.length cap
    simp only [Option.isNone_some] at he
    rw [← hn] at hcap hl HNEWS he ⊢
    clear hn
    go_enter Try.func52, Try.ntmps52
    go_wp2_with (at_builtin; refine wpList_append_lit rfl _ _ 22 rfl w.heap.size 5 i0' (.int .u8 0) 1 Try.underlying22 hi hz0 hz1 hz2 rfl w.heap.size 0 rfl HO1.out _ n cap (bs.map (Value.int .u8)) rfl (by rw [List.length_map]; exact HN.out.symm) HNEWS.out (fun u hu => by obtain ⟨z, -, rfl⟩ := List.mem_map.1 hu; rfl) (by unfold maxLen; omega) (by omega) (by simp) ?_)
    intro v5 w5 o5 g5 n5 q5
    have HO5 : Hid (OwnB w5 w.heap.size v5 bs) := Lib.hid (by unfold OwnB; rw [← HN.out]; exact o5)
    have HB5 : Hid (Below w.heap.size w w5) := Lib.hid (HB1.out.grown g5 (by simp) (fun k e => by have := Option.some.inj e; omega))
    clear o5 g5 n5 q5 HO1 HB1
    go_wp2
    go_ret
    exact ⟨_, rfl, HO5.out, HB5.out⟩
set_option maxRecDepth 100000 in
set_option maxHeartbeats 4000000 in
theorem putc_any (w : World) (base : Nat) (v : Value) (bs : List Int) (u : Nat) (hv : OwnB w base v bs) (hb : base ≤ w.heap.size) (u1 : u < 18446744073709551616) (hl : bs.length ≤ 100000000) :
    Calls Try.prog 53 #[v, .int .u64 (u : Int)] w (OwnPost w base v (bs ++ putN u)) := by
  obtain ⟨i0', hi, hz0, hz1, hz2⟩ := info_parts Try.info8
  have HV := Lib.hid hv
  have HL := Lib.hid hl
  obtain ⟨ob, hob⟩ : ∃ ob, ob = v.ownBlock := ⟨_, rfl⟩
  unfold OwnPost
  rw [← hob]
  have HOB := Lib.hid hob
  have HU10 := Lib.hid (putN_len10 u1)
  clear hv hob
  go_enter Try.func53, Try.ntmps53
  go_wp2_with fail
  go_loopw [0, 1] (fun x y wr => ∃ (j : Nat) (pre : List Int), y = .int .u64 (j : Int) ∧ pre ++ putN j = putN u ∧ OwnB wr base x (bs ++ pre) ∧ w.grownBy wr ob ∧ Owned w ob x.ownBlock ∧ j < 18446744073709551616) (fun _ y _ => (intOf y).toNat)
  case atStart => exact ⟨u, [], rfl, by simp, by simpa using HV.out, below_gr (Below.refl _ _), by rw [HOB.out]; exact Owned.refl _ _, u1⟩
  case round =>
    obtain ⟨j, pre, rfl, hpre, hown, hgr, hq, hj64⟩ := hrel
    have HO := Lib.hid hown
    have HGR := Lib.hid hgr
    have HQ := Lib.hid hq
    have HP := Lib.hid hpre
    have hsz := hgr.size
    have hpl : pre.length ≤ 10 := by have := congrArg List.length hpre; rw [List.length_append] at this; have := HU10.out; have := putN_pos j; omega
    have hcl : (bs ++ pre).length ≤ 100000010 := by rw [List.length_append]; omega
    have hc1 : (bs ++ pre).length + 1 ≤ maxLen := by unfold maxLen; omega
    have hc4 : ((bs ++ pre).length + 1) * 1 ≤ 140737488355328 := by omega
    clear hown hgr hq hpre
    by_cases hlt : 128 ≤ j
    · have HST := Lib.hid (putN_ge (u := j) (by omega))
      have e1 : bits BinOp.or IntKind.u8 ((j : Int) % 256) 128 = ((128 + j % 128 : Nat) : Int) := by rw [or128 _ (by omega)]; omega
      have HNX : Hid (pre ++ [((128 + j % 128 : Nat) : Int)] ++ putN (j / 128) = putN u) := Lib.hid (by rw [← HP.out, HST.out]; simp)
      go_wp2_with (at_builtin; go_loud (refine wpList_append_own_at _ rfl _ _ 22 rfl base 5 i0' (.int .u8 0) 1 1 Try.underlying22 hi hz0 hz1 hz2 rfl (by decide) _ (bs ++ pre).length _ rfl (World.ownsRow.alloc HO.out _) ⟨wr.heap.size, 0, none⟩ 1 1 [.int .u8 ((128 + j % 128 : Nat) : Int)] rfl rfl (cell_one_new _ _ _) ?c2 hc1 hc4 ?c5 ?_))
      case c2 => simp [Value.oneCell']
      case c5 => simp; omega
      intro v8 w8 hown' hgrow hnil' hq9
      have HO8 : Hid (OwnB w8 base v8 (bs ++ (pre ++ [((128 + j % 128 : Nat) : Int)]))) := Lib.hid (by unfold OwnB; rw [show (bs ++ (pre ++ [((128 + j % 128 : Nat) : Int)])).length = (bs ++ pre).length + 1 by simp only [List.length_append, List.length_singleton]; omega]; simpa using hown')
      have HG8 := Lib.hid (gr_new (gr_trans HGR.out (below_gr ((Below.refl _ _).alloc (Nat.le_refl _) _))) hgrow HQ.out)
      have HQ8 := Lib.hid (HQ.out.next hq9 (by omega))
      clear hown' hgrow hnil' hq9
      go_wp2
      go_roundw
      case rel => exact ⟨j / 128, pre ++ [((128 + j % 128 : Nat) : Int)], by go_num, HNX.out, HO8.out, HG8.out, HQ8.out, by omega⟩
      case measure => simp [intOf]; omega
    · have HST := Lib.hid (putN_lt (u := j) (by omega))
      have e1 : (j : Int) % 256 = (j : Int) := by omega
      have HNX : Hid (bs ++ pre ++ [(j : Int)] = bs ++ putN u) := Lib.hid (by rw [← HP.out, HST.out]; simp)
      go_wp2_with (at_builtin; refine wpList_append_own_at _ rfl _ _ 22 rfl base 5 i0' (.int .u8 0) 1 1 Try.underlying22 hi hz0 hz1 hz2 rfl (by decide) _ (bs ++ pre).length _ rfl (World.ownsRow.alloc HO.out _) ⟨wr.heap.size, 0, none⟩ 1 1 [.int .u8 (j : Int)] rfl rfl (cell_one_new _ _ _) ?c2 hc1 hc4 ?c5 ?_)
      case c2 => simp [Value.oneCell']
      case c5 => simp; omega
      intro v8 w8 hown' hgrow hnil' hq9
      have HO8 : Hid (OwnB w8 base v8 (bs ++ putN u)) := Lib.hid (by rw [← HNX.out]; unfold OwnB; rw [show (bs ++ pre ++ [(j : Int)]).length = (bs ++ pre).length + 1 by simp only [List.length_append, List.length_singleton]]; simpa using hown')
      have HG8 := Lib.hid (gr_new (gr_trans HGR.out (below_gr ((Below.refl _ _).alloc (Nat.le_refl _) _))) hgrow HQ.out)
      have HQ8 := Lib.hid (HQ.out.next hq9 (by omega))
      clear hown' hgrow hnil' hq9
      go_wp2
      go_ret
      exact ⟨_, rfl, HO8.out, HG8.out, HQ8.out⟩
set_option maxRecDepth 100000 in
set_option maxHeartbeats 4000000 in
theorem put_any' (w : World) (v : Value) (bs : List Int) (u : Nat) (hv : BytesAt w v bs) (u1 : u < 18446744073709551616) (hl : bs.length ≤ 100000000) :
    Calls Try.prog 37 #[v, .int .u64 (u : Int)] w (PostC w (bs ++ putN u)) := by
  obtain ⟨i0', hi, hz0, hz1, hz2⟩ := info_parts Try.info8
  have HL := Lib.hid hl
  have HU10 := Lib.hid (putN_len10 u1)
  have PC := Lib.hid (bclone_any w v bs hv hl)
  obtain ⟨ao, cap, rfl, hcap, hmx, hc⟩ := hv
  clear hc hcap
  generalize hnn : bs.length = nn at *
  have HNN := Lib.hid hnn
  clear hnn
  go_enter Try.func37, Try.ntmps37
  go_wp2_with fail
  with_reducible refine PC.out.mono ?_
  rintro e w2 ⟨v2, rfl, ho2, hb2⟩
  have HO2 := Lib.hid ho2
  have HB2 := Lib.hid hb2
  clear ho2 hb2
  go_wp2_with fail
  go_loopw [1, 5] (fun y x wr => ∃ (j : Nat) (pre : List Int), y = .int .u64 (j : Int) ∧ pre ++ putN j = putN u ∧ OwnB wr w.heap.size x (bs ++ pre) ∧ Below w.heap.size w wr ∧ j < 18446744073709551616) (fun y _ _ => (intOf y).toNat)
  case atStart => exact ⟨u, [], rfl, by simp, by simpa using HO2.out, HB2.out, u1⟩
  case round =>
    obtain ⟨j, pre, rfl, hpre, hown, hbel, hj64⟩ := hrel
    have HO := Lib.hid hown
    have HB := Lib.hid hbel
    have HP := Lib.hid hpre
    have hsz := hbel.size
    have hpl : pre.length ≤ 10 := by have := congrArg List.length hpre; rw [List.length_append] at this; have := HU10.out; have := putN_pos j; omega
    have hcl : (bs ++ pre).length ≤ 100000010 := by rw [List.length_append, HNN.out]; omega
    have hc1 : (bs ++ pre).length + 1 ≤ maxLen := by unfold maxLen; omega
    have hc4 : ((bs ++ pre).length + 1) * 1 ≤ 140737488355328 := by omega
    clear hown hbel hpre HO2 HB2
    by_cases hlt : 128 ≤ j
    · have HST := Lib.hid (putN_ge (u := j) (by omega))
      have e1 : bits BinOp.or IntKind.u8 ((j : Int) % 256) 128 = ((128 + j % 128 : Nat) : Int) := by rw [or128 _ (by omega)]; omega
      have HNX : Hid (pre ++ [((128 + j % 128 : Nat) : Int)] ++ putN (j / 128) = putN u) := Lib.hid (by rw [← HP.out, HST.out]; simp)
      go_wp2_with (at_builtin; refine wpList_append_own_at _ rfl _ _ 22 rfl w.heap.size 5 i0' (.int .u8 0) 1 1 Try.underlying22 hi hz0 hz1 hz2 rfl (by decide) _ (bs ++ pre).length _ rfl (World.ownsRow.alloc HO.out _) ⟨wr.heap.size, 0, none⟩ 1 1 [.int .u8 ((128 + j % 128 : Nat) : Int)] rfl rfl (cell_one_new _ _ _) ?c2 hc1 hc4 ?c5 ?_)
      case c2 => simp [Value.oneCell']
      case c5 => simp; omega
      intro v8 w8 hown' hgrow hnil' hq9
      have HO8 : Hid (OwnB w8 w.heap.size v8 (bs ++ (pre ++ [((128 + j % 128 : Nat) : Int)]))) := Lib.hid (by unfold OwnB; rw [show (bs ++ (pre ++ [((128 + j % 128 : Nat) : Int)])).length = (bs ++ pre).length + 1 by simp only [List.length_append, List.length_singleton]; omega]; simpa using hown')
      have HB8 : Hid (Below w.heap.size w w8) := Lib.hid ((HB.out.alloc HB.out.size _).grown hgrow (by simp; omega) (fun k e => (HO.out.lt k e).1))
      clear hown' hgrow hnil' hq9
      go_wp2
      go_roundw
      case rel => exact ⟨j / 128, pre ++ [((128 + j % 128 : Nat) : Int)], by go_num, HNX.out, HO8.out, HB8.out, by omega⟩
      case measure => simp [intOf]; omega
    · have HST := Lib.hid (putN_lt (u := j) (by omega))
      have e1 : (j : Int) % 256 = (j : Int) := by omega
      have HNX : Hid (bs ++ pre ++ [(j : Int)] = bs ++ putN u) := Lib.hid (by rw [← HP.out, HST.out]; simp)
      go_wp2_with (at_builtin; refine wpList_append_own_at _ rfl _ _ 22 rfl w.heap.size 5 i0' (.int .u8 0) 1 1 Try.underlying22 hi hz0 hz1 hz2 rfl (by decide) _ (bs ++ pre).length _ rfl (World.ownsRow.alloc HO.out _) ⟨wr.heap.size, 0, none⟩ 1 1 [.int .u8 (j : Int)] rfl rfl (cell_one_new _ _ _) ?c2 hc1 hc4 ?c5 ?_)
      case c2 => simp [Value.oneCell']
      case c5 => simp; omega
      intro v8 w8 hown' hgrow hnil' hq9
      have HO8 : Hid (OwnB w8 w.heap.size v8 (bs ++ putN u)) := Lib.hid (by rw [← HNX.out]; unfold OwnB; rw [show (bs ++ pre ++ [(j : Int)]).length = (bs ++ pre).length + 1 by simp only [List.length_append, List.length_singleton]]; simpa using hown')
      have HB8 : Hid (Below w.heap.size w w8) := Lib.hid ((HB.out.alloc HB.out.size _).grown hgrow (by simp; omega) (fun k e => (HO.out.lt k e).1))
      clear hown' hgrow hnil' hq9
      go_wp2
      go_ret
      exact ⟨_, rfl, HO8.out, HB8.out⟩
end Go.Proofs.Ytbghchgmoiniiaa
