import Derived.Test.YtbghchgmoiniiaaGreatQaa
import Derived.Test.YtbghchgmoiniiaaGreatQab
import Derived.Lib.BitFns
import Derived.Lib.Strings
import Derived.Lib.Slices
import Derived.Lib.Small
import Derived.Lib.Walk
import Derived.Laws.EntriesVeiled
import Derived.Test.YtbghchgmoiniiaaGreatQac
import Derived.WalkLawsBesides
import Derived.Defers
import Derived.Recover
import Derived.Lib.SmallJoins
import Derived.ArgAppend
/-
  Plain: numbers written in groups of seven bits, one writing each. Conditions: none beyond those stated at each theorem.
-/
namespace Go.Proofs.YtbghchgmoiniiaaGreat
open Go.RowKit
set_option linter.unusedVariables false
set_option linter.unusedSimpArgs false

/-- a number's bytes, seven bits each, the lowest first, 128 more on all but the last -/
def putN (u : Nat) : List Int := if h : u < 128 then [(u : Int)] else ((128 + u % 128 : Nat) : Int) :: putN (u / 128)
termination_by u
decreasing_by omega
theorem putN_lt {u : Nat} (h : u < 128) : putN u = [(u : Int)] := by rw [putN, dif_pos h]
theorem putN_ge {u : Nat} (h : ¬ u < 128) : putN u = ((128 + u % 128 : Nat) : Int) :: putN (u / 128) := by rw [putN, dif_neg h]
/-- what bytes tell, seven bits each -/
def valL : List Int → Nat
  | [] => 0
  | x :: l => x.toNat % 128 + 128 * valL l
/-- bytes that are one number, written as it should be -/
def VL : List Int → Prop
  | [] => False
  | x :: l => if l = [] then 0 ≤ x ∧ x < 128 else 128 ≤ x ∧ x ≤ 255 ∧ VL l ∧ l ≠ [0]
theorem putN_ne (u : Nat) : putN u ≠ [] := by
  by_cases h : u < 128
  · rw [putN_lt h]; simp
  · rw [putN_ge h]; simp
theorem putN_val (u : Nat) : valL (putN u) = u := by
  induction u using Nat.strongRecOn with
  | ind u ih =>
    by_cases h : u < 128
    · rw [putN_lt h]; simp [valL]; omega
    · rw [putN_ge h, valL, ih _ (by omega)]; omega
theorem putN_inj {u v : Nat} (h : putN u = putN v) : u = v := by rw [← putN_val u, h, putN_val]
theorem putN_zero {u : Nat} (h : putN u = [0]) : u = 0 := by rw [← putN_val u, h]; rfl
theorem putN_VL (u : Nat) : VL (putN u) := by
  induction u using Nat.strongRecOn with
  | ind u ih =>
    by_cases h : u < 128
    · rw [putN_lt h]; simp [VL]; omega
    · rw [putN_ge h, VL, if_neg (putN_ne _)]
      exact ⟨by omega, by omega, ih _ (by omega), fun e => by have := putN_zero e; omega⟩
theorem VL_put {l : List Int} (h : VL l) : putN (valL l) = l := by
  induction l with
  | nil => exact absurd h (by simp [VL])
  | cons x l ih =>
    unfold VL at h
    by_cases hl : l = []
    · rw [if_pos hl] at h
      subst hl
      rw [valL, valL, putN_lt (by omega)]
      have : ((x.toNat % 128 + 128 * 0 : Nat) : Int) = x := by omega
      rw [this]
    · rw [if_neg hl] at h
      obtain ⟨h1, h2, h3, h4⟩ := h
      have ih := ih h3
      have hv : valL l ≠ 0 := fun e => by
        rw [e, putN_lt (by decide)] at ih
        exact h4 ih.symm
      rw [valL, putN_ge (by omega)]
      have e1 : ((128 + (x.toNat % 128 + 128 * valL l) % 128 : Nat) : Int) = x := by omega
      have e2 : (x.toNat % 128 + 128 * valL l) / 128 = valL l := by omega
      rw [e1, e2, ih]
theorem VL_byts {l : List Int} (h : VL l) : Byts l := by
  induction l with
  | nil => exact Byts.nil
  | cons x l ih =>
    unfold VL at h
    intro u hu
    by_cases hl : l = []
    · rw [if_pos hl] at h
      subst hl
      simp at hu
      subst hu
      omega
    · rw [if_neg hl] at h
      rcases List.mem_cons.1 hu with rfl | hu
      · omega
      · exact ih h.2.2.1 u hu
theorem putN_byts (u : Nat) : Byts (putN u) := VL_byts (putN_VL u)
/-- all but the last have the mark, the last has not -/
theorem VL_marks {l : List Int} (h : VL l) : ∀ k, (k + 1 < l.length → 128 ≤ cellD l k ∧ cellD l k ≤ 255) ∧ (k + 1 = l.length → 0 ≤ cellD l k ∧ cellD l k < 128) := by
  induction l with
  | nil => exact absurd h (by simp [VL])
  | cons x l ih =>
    unfold VL at h
    intro k
    by_cases hl : l = []
    · rw [if_pos hl] at h
      subst hl
      refine ⟨fun hk => by simp at hk, fun hk => ?_⟩
      have : k = 0 := by simpa using hk
      subst this
      simpa [cellD] using h
    · rw [if_neg hl] at h
      cases k with
      | zero => exact ⟨fun _ => by simpa [cellD] using ⟨h.1, h.2.1⟩, fun hk => by
          have : l.length = 0 := by simpa using hk.symm
          exact absurd (List.eq_nil_of_length_eq_zero this) hl⟩
      | succ k =>
        have := ih h.2.2.1 k
        refine ⟨fun hk => ?_, fun hk => ?_⟩
        · have := this.1 (by simpa using hk)
          simpa [cellD] using this
        · have := this.2 (by simpa using hk)
          simpa [cellD] using this
theorem VL_last {l : List Int} (h : VL l) (h1 : 1 < l.length) : cellD l (l.length - 1) ≠ 0 := by
  induction l with
  | nil => simp at h1
  | cons x l ih =>
    unfold VL at h
    have hl : l ≠ [] := fun e => by subst e; simp at h1
    rw [if_neg hl] at h
    obtain ⟨h2, h3, h4, h5⟩ := h
    obtain ⟨y, m, rfl⟩ : ∃ y m, l = y :: m := by
      cases l with
      | nil => exact absurd rfl hl
      | cons y m => exact ⟨y, m, rfl⟩
    cases m with
    | nil =>
      simp [cellD]
      intro e
      exact h5 (by rw [e])
    | cons z m =>
      have := ih h4 (by simp)
      simpa [cellD] using this
/-- a prefix that is a number's writing: there is at most one -/
theorem VL_prefix {l m r s : List Int} (h1 : VL l) (h2 : VL m) (h : l ++ r = m ++ s) : l = m := by
  induction l generalizing m with
  | nil => exact absurd h1 (by simp [VL])
  | cons x l ih =>
    cases m with
    | nil => exact absurd h2 (by simp [VL])
    | cons y m =>
      simp only [List.cons_append, List.cons.injEq] at h
      obtain ⟨rfl, h⟩ := h
      unfold VL at h1 h2
      by_cases hl : l = []
      · rw [if_pos hl] at h1
        by_cases hm : m = []
        · rw [hl, hm]
        · rw [if_neg hm] at h2; omega
      · rw [if_neg hl] at h1
        by_cases hm : m = []
        · rw [if_pos hm] at h2; omega
        · rw [if_neg hm] at h2
          rw [ih h1.2.2.1 h2.2.2.1 h]
/-- bytes begin with the writing of a number of 64 bits: which, and how many bytes that is -/
def TakeS (bs : List Int) (u n : Nat) : Prop := u < 18446744073709551616 ∧ n = (putN u).length ∧ ∃ r, bs = putN u ++ r
theorem TakeS.unique {bs : List Int} {u v n m : Nat} (h : TakeS bs u n) (k : TakeS bs v m) : u = v ∧ n = m := by
  obtain ⟨-, h2, r, h3⟩ := h
  obtain ⟨-, k2, s, k3⟩ := k
  have := VL_prefix (putN_VL u) (putN_VL v) (by rw [← h3, k3])
  have e := putN_inj this
  subst e
  exact ⟨rfl, by omega⟩
theorem putN_len {u : Nat} : ∀ {k : Nat}, u < 128 ^ (k + 1) → (putN u).length ≤ k + 1 := by
  induction u using Nat.strongRecOn with
  | ind u ih =>
    intro k hu
    by_cases h : u < 128
    · rw [putN_lt h]; simp
    · rw [putN_ge h]
      cases k with
      | zero => omega
      | succ k =>
        have := ih (u / 128) (by omega) (k := k) (by rw [Nat.pow_succ] at hu; exact Nat.div_lt_of_lt_mul (by rw [Nat.mul_comm]; exact hu))
        simp only [List.length_cons]
        omega
theorem putN_len10 {u : Nat} (h : u < 18446744073709551616) : (putN u).length ≤ 10 := putN_len (k := 9) (by omega)
theorem putN_pos (u : Nat) : 1 ≤ (putN u).length := by
  cases h : putN u with
  | nil => exact absurd h (putN_ne u)
  | cons x l => simp
end Go.Proofs.YtbghchgmoiniiaaGreat

/-
  The walks of varint: Clone, Put, PutRow's closure. Conditions: none beyond those stated at each theorem.
-/
namespace Go.Proofs.YtbghchgmoiniiaaGreat
open Go.RowKit
set_option linter.unusedVariables false
set_option linter.unusedSimpArgs false

def PostC (w : World) (bs : List Int) (e : Ending) (w' : World) : Prop :=
  ∃ v', e = .returned v' ∧ OwnB w' w.heap.size v' bs ∧ Below w.heap.size w w'
theorem or128 (u : Int) (h0 : 0 ≤ u) : bits BinOp.or IntKind.u8 (u % 256) 128 = 128 + u % 128 := by
  obtain ⟨n, rfl⟩ := Int.eq_ofNat_of_zero_le h0
  have hb : (BitVec.ofInt 8 ((n : Int) % 256) ||| BitVec.ofInt 8 128).toNat = 128 + n % 128 := by
    have e1 : BitVec.ofInt 8 ((n : Int) % 256) = BitVec.ofNat 8 (n % 256) := by
      rw [show ((n : Int) % 256) = ((n % 256 : Nat) : Int) by omega]
      exact BitVec.ofInt_natCast ..
    have e2 : BitVec.ofInt 8 128 = BitVec.ofNat 8 128 := by decide
    rw [e1, e2, BitVec.toNat_or, BitVec.toNat_ofNat, BitVec.toNat_ofNat]
    have h : ∀ m, m < 256 → (m % 2 ^ 8 ||| 128 % 2 ^ 8) = 128 + m % 128 := by decide +kernel
    rw [h _ (Nat.mod_lt _ (by decide))]
    omega
  show IntKind.u8.wrap ((BitVec.ofInt 8 ((n : Int) % 256) ||| BitVec.ofInt 8 128).toNat : Int) = _
  rw [hb]
  simp [IntKind.wrap, IntKind.bits, IntKind.signed]
  omega
theorem OwnB.pre {w : World} {base b' : Nat} {v : Value} {bs : List Int} (h : OwnB w base v bs) (hb : b' ≤ base) : OwnB w b' v bs := by
  refine ⟨h.1, ?_⟩
  rcases h.2 with h | ⟨g, cap, cur, e1, e2, e3⟩
  · exact .inl h
  · exact .inr ⟨g, cap, cur, e1, Nat.le_trans hb e2, e3⟩

theorem Tryz.sl8 (w : World) (a : Option Addr) (n c : Nat) : Sem.run Tryz.prog (binOp .eql 33 (.slice a n c) (.slice none 0 0)) w = .ok (.bool a.isNone) w := Go.Lib.run_eql_slice_nil w 33 5 a n c 0 0 Tryz.underlying33
set_option maxRecDepth 100000 in
set_option maxHeartbeats 4000000 in
theorem bclone_any (w : World) (v : Value) (bs : List Int) (hv : BytesAt w v bs) (hl : bs.length ≤ 100000000) :
    Calls Tryz.prog 49 #[v] w (PostC w bs) := by
  obtain ⟨i0', hi, hz0, hz1, hz2⟩ := info_parts Tryz.info8
  have HV := Lib.hid hv
  have hown0 := World.ownsRow_lit (base := w.heap.size) (e := 5) (size := 1) w #[] 0 (by exact Nat.le_refl _) (by unfold maxLen; omega) (by simp)
  have HO1 := Lib.hid hown0
  have HB1 : Hid (Below w.heap.size w (w.alloc (.cells #[] 5))) := Lib.hid ((Below.refl _ _).alloc (Nat.le_refl _) _)
  clear hown0
  obtain ⟨ao, cap, rfl, hcap, hmx, hc⟩ := hv
  rcases hc with ⟨rfl, rfl⟩ | ⟨g, off, rfl, -, -⟩
  · have he := Tryz.sl8 w none 0 cap
    simp only [Option.isNone_none] at he
    simp only [List.length_nil]
    clear hcap hmx HV
    go_enter Tryz.func49, Tryz.ntmps49
    go_wp2
    go_ret
    exact ⟨_, rfl, World.ownsRow_nil _ _ _ _, Below.refl _ _⟩
  · obtain ⟨n, hn⟩ : ∃ n, n = bs.length := ⟨_, rfl⟩
    have HN := Lib.hid hn
    have HNEWS := Lib.hid (HV.out.news rfl _ HB1.out)
    have he := Tryz.sl8 w (some ⟨g, off, none⟩) bs.length cap
    simp only [Option.isNone_some] at he
    rw [← hn] at hcap hl HNEWS he ⊢
    clear hn
    go_enter Tryz.func49, Tryz.ntmps49
    go_wp2_with (at_builtin; refine wpList_append_lit rfl _ _ 33 rfl w.heap.size 5 i0' (.int .u8 0) 1 Tryz.underlying33 hi hz0 hz1 hz2 rfl w.heap.size 0 rfl HO1.out _ n cap (bs.map (Value.int .u8)) rfl (by rw [List.length_map]; exact HN.out.symm) HNEWS.out (fun u hu => by obtain ⟨z, -, rfl⟩ := List.mem_map.1 hu; rfl) (by unfold maxLen; omega) (by omega) (by simp) ?_)
    intro v5 w5 o5 g5 n5 q5
    have HO5 : Hid (OwnB w5 w.heap.size v5 bs) := Lib.hid (by unfold OwnB; rw [← HN.out]; exact o5)
    have HB5 : Hid (Below w.heap.size w w5) := Lib.hid (HB1.out.grown g5 (by simp) (fun k e => by have := Option.some.inj e; omega))
    clear o5 g5 n5 q5 HO1 HB1
    go_wp2
    go_ret
    exact ⟨_, rfl, HO5.out, HB5.out⟩
set_option maxRecDepth 100000 in
set_option maxHeartbeats 4000000 in
theorem putc_any (w : World) (base : Nat) (v : Value) (bs : List Int) (u : Nat) (hv : OwnB w base v bs) (hb : base ≤ w.heap.size) (u1 : u < 18446744073709551616) (hl : bs.length ≤ 100000000) :
    Calls Tryz.prog 50 #[v, .int .u64 (u : Int)] w (OwnPost w base v (bs ++ putN u)) := by
  obtain ⟨i0', hi, hz0, hz1, hz2⟩ := info_parts Tryz.info8
  have HV := Lib.hid hv
  have HL := Lib.hid hl
  obtain ⟨ob, hob⟩ : ∃ ob, ob = v.ownBlock := ⟨_, rfl⟩
  unfold OwnPost
  rw [← hob]
  have HOB := Lib.hid hob
  have HU10 := Lib.hid (putN_len10 u1)
  clear hv hob
  go_enter Tryz.func50, Tryz.ntmps50
  go_wp2_with fail
  go_loopw [0, 1] (fun x y wr => ∃ (j : Nat) (pre : List Int), y = .int .u64 (j : Int) ∧ pre ++ putN j = putN u ∧ OwnB wr base x (bs ++ pre) ∧ w.grownBy wr ob ∧ Owned w ob x.ownBlock ∧ j < 18446744073709551616) (fun _ y _ => (intOf y).toNat)
  case atStart => exact ⟨u, [], rfl, by simp, by simpa using HV.out, below_gr (Below.refl _ _), by rw [HOB.out]; exact Owned.refl _ _, u1⟩
  case round =>
    obtain ⟨j, pre, rfl, hpre, hown, hgr, hq, hj64⟩ := hrel
    have HO := Lib.hid hown
    have HGR := Lib.hid hgr
    have HQ := Lib.hid hq
    have HP := Lib.hid hpre
    have hsz := hgr.size
    have hpl : pre.length ≤ 10 := by have := congrArg List.length hpre; rw [List.length_append] at this; have := HU10.out; have := putN_pos j; omega
    have hcl : (bs ++ pre).length ≤ 100000010 := by rw [List.length_append]; omega
    have hc1 : (bs ++ pre).length + 1 ≤ maxLen := by unfold maxLen; omega
    have hc4 : ((bs ++ pre).length + 1) * 1 ≤ 140737488355328 := by omega
    clear hown hgr hq hpre
    by_cases hlt : 128 ≤ j
    · have HST := Lib.hid (putN_ge (u := j) (by omega))
      have e1 : bits BinOp.or IntKind.u8 ((j : Int) % 256) 128 = ((128 + j % 128 : Nat) : Int) := by rw [or128 _ (by omega)]; omega
      have HNX : Hid (pre ++ [((128 + j % 128 : Nat) : Int)] ++ putN (j / 128) = putN u) := Lib.hid (by rw [← HP.out, HST.out]; simp)
      go_wp2_with (at_builtin; go_loud (refine wpList_append_own_at _ rfl _ _ 33 rfl base 5 i0' (.int .u8 0) 1 1 Tryz.underlying33 hi hz0 hz1 hz2 rfl (by decide) _ (bs ++ pre).length _ rfl (World.ownsRow.alloc HO.out _) ⟨wr.heap.size, 0, none⟩ 1 1 [.int .u8 ((128 + j % 128 : Nat) : Int)] rfl rfl (cell_one_new _ _ _) ?c2 hc1 hc4 ?c5 ?_))
      case c2 => simp [Value.oneCell']
      case c5 => simp; omega
      intro v8 w8 hown' hgrow hnil' hq9
      have HO8 : Hid (OwnB w8 base v8 (bs ++ (pre ++ [((128 + j % 128 : Nat) : Int)]))) := Lib.hid (by unfold OwnB; rw [show (bs ++ (pre ++ [((128 + j % 128 : Nat) : Int)])).length = (bs ++ pre).length + 1 by simp only [List.length_append, List.length_singleton]; omega]; simpa using hown')
      have HG8 := Lib.hid (gr_new (gr_trans HGR.out (below_gr ((Below.refl _ _).alloc (Nat.le_refl _) _))) hgrow HQ.out)
      have HQ8 := Lib.hid (HQ.out.next hq9 (by omega))
      clear hown' hgrow hnil' hq9
      go_wp2
      go_roundw
      case rel => exact ⟨j / 128, pre ++ [((128 + j % 128 : Nat) : Int)], by go_num, HNX.out, HO8.out, HG8.out, HQ8.out, by omega⟩
      case measure => simp [intOf]; omega
    · have HST := Lib.hid (putN_lt (u := j) (by omega))
      have e1 : (j : Int) % 256 = (j : Int) := by omega
      have HNX : Hid (bs ++ pre ++ [(j : Int)] = bs ++ putN u) := Lib.hid (by rw [← HP.out, HST.out]; simp)
      go_wp2_with (at_builtin; refine wpList_append_own_at _ rfl _ _ 33 rfl base 5 i0' (.int .u8 0) 1 1 Tryz.underlying33 hi hz0 hz1 hz2 rfl (by decide) _ (bs ++ pre).length _ rfl (World.ownsRow.alloc HO.out _) ⟨wr.heap.size, 0, none⟩ 1 1 [.int .u8 (j : Int)] rfl rfl (cell_one_new _ _ _) ?c2 hc1 hc4 ?c5 ?_)
      case c2 => simp [Value.oneCell']
      case c5 => simp; omega
      intro v8 w8 hown' hgrow hnil' hq9
      have HO8 : Hid (OwnB w8 base v8 (bs ++ putN u)) := Lib.hid (by rw [← HNX.out]; unfold OwnB; rw [show (bs ++ pre ++ [(j : Int)]).length = (bs ++ pre).length + 1 by simp only [List.length_append, List.length_singleton]]; simpa using hown')
      have HG8 := Lib.hid (gr_new (gr_trans HGR.out (below_gr ((Below.refl _ _).alloc (Nat.le_refl _) _))) hgrow HQ.out)
      have HQ8 := Lib.hid (HQ.out.next hq9 (by omega))
      clear hown' hgrow hnil' hq9
      go_wp2
      go_ret
      exact ⟨_, rfl, HO8.out, HG8.out, HQ8.out⟩
set_option maxRecDepth 100000 in
set_option maxHeartbeats 4000000 in
theorem put_any' (w : World) (v : Value) (bs : List Int) (u : Nat) (hv : BytesAt w v bs) (u1 : u < 18446744073709551616) (hl : bs.length ≤ 100000000) :
    Calls Tryz.prog 21 #[v, .int .u64 (u : Int)] w (PostC w (bs ++ putN u)) := by
  obtain ⟨i0', hi, hz0, hz1, hz2⟩ := info_parts Tryz.info8
  have HL := Lib.hid hl
  have HU10 := Lib.hid (putN_len10 u1)
  have PC := Lib.hid (bclone_any w v bs hv hl)
  obtain ⟨ao, cap, rfl, hcap, hmx, hc⟩ := hv
  clear hc hcap
  generalize hnn : bs.length = nn at *
  have HNN := Lib.hid hnn
  clear hnn
  go_enter Tryz.func21, Tryz.ntmps21
  go_wp2_with fail
  with_reducible refine PC.out.mono ?_
  rintro e w2 ⟨v2, rfl, ho2, hb2⟩
  have HO2 := Lib.hid ho2
  have HB2 := Lib.hid hb2
  clear ho2 hb2
  go_wp2_with fail
  go_loopw [1, 5] (fun y x wr => ∃ (j : Nat) (pre : List Int), y = .int .u64 (j : Int) ∧ pre ++ putN j = putN u ∧ OwnB wr w.heap.size x (bs ++ pre) ∧ Below w.heap.size w wr ∧ j < 18446744073709551616) (fun y _ _ => (intOf y).toNat)
  case atStart => exact ⟨u, [], rfl, by simp, by simpa using HO2.out, HB2.out, u1⟩
  case round =>
    obtain ⟨j, pre, rfl, hpre, hown, hbel, hj64⟩ := hrel
    have HO := Lib.hid hown
    have HB := Lib.hid hbel
    have HP := Lib.hid hpre
    have hsz := hbel.size
    have hpl : pre.length ≤ 10 := by have := congrArg List.length hpre; rw [List.length_append] at this; have := HU10.out; have := putN_pos j; omega
    have hcl : (bs ++ pre).length ≤ 100000010 := by rw [List.length_append, HNN.out]; omega
    have hc1 : (bs ++ pre).length + 1 ≤ maxLen := by unfold maxLen; omega
    have hc4 : ((bs ++ pre).length + 1) * 1 ≤ 140737488355328 := by omega
    clear hown hbel hpre HO2 HB2
    by_cases hlt : 128 ≤ j
    · have HST := Lib.hid (putN_ge (u := j) (by omega))
      have e1 : bits BinOp.or IntKind.u8 ((j : Int) % 256) 128 = ((128 + j % 128 : Nat) : Int) := by rw [or128 _ (by omega)]; omega
      have HNX : Hid (pre ++ [((128 + j % 128 : Nat) : Int)] ++ putN (j / 128) = putN u) := Lib.hid (by rw [← HP.out, HST.out]; simp)
      go_wp2_with (at_builtin; refine wpList_append_own_at _ rfl _ _ 33 rfl w.heap.size 5 i0' (.int .u8 0) 1 1 Tryz.underlying33 hi hz0 hz1 hz2 rfl (by decide) _ (bs ++ pre).length _ rfl (World.ownsRow.alloc HO.out _) ⟨wr.heap.size, 0, none⟩ 1 1 [.int .u8 ((128 + j % 128 : Nat) : Int)] rfl rfl (cell_one_new _ _ _) ?c2 hc1 hc4 ?c5 ?_)
      case c2 => simp [Value.oneCell']
      case c5 => simp; omega
      intro v8 w8 hown' hgrow hnil' hq9
      have HO8 : Hid (OwnB w8 w.heap.size v8 (bs ++ (pre ++ [((128 + j % 128 : Nat) : Int)]))) := Lib.hid (by unfold OwnB; rw [show (bs ++ (pre ++ [((128 + j % 128 : Nat) : Int)])).length = (bs ++ pre).length + 1 by simp only [List.length_append, List.length_singleton]; omega]; simpa using hown')
      have HB8 : Hid (Below w.heap.size w w8) := Lib.hid ((HB.out.alloc HB.out.size _).grown hgrow (by simp; omega) (fun k e => (HO.out.lt k e).1))
      clear hown' hgrow hnil' hq9
      go_wp2
      go_roundw
      case rel => exact ⟨j / 128, pre ++ [((128 + j % 128 : Nat) : Int)], by go_num, HNX.out, HO8.out, HB8.out, by omega⟩
      case measure => simp [intOf]; omega
    · have HST := Lib.hid (putN_lt (u := j) (by omega))
      have e1 : (j : Int) % 256 = (j : Int) := by omega
      have HNX : Hid (bs ++ pre ++ [(j : Int)] = bs ++ putN u) := Lib.hid (by rw [← HP.out, HST.out]; simp)
      go_wp2_with (at_builtin; refine wpList_append_own_at _ rfl _ _ 33 rfl w.heap.size 5 i0' (.int .u8 0) 1 1 Tryz.underlying33 hi hz0 hz1 hz2 rfl (by decide) _ (bs ++ pre).length _ rfl (World.ownsRow.alloc HO.out _) ⟨wr.heap.size, 0, none⟩ 1 1 [.int .u8 (j : Int)] rfl rfl (cell_one_new _ _ _) ?c2 hc1 hc4 ?c5 ?_)
      case c2 => simp [Value.oneCell']
      case c5 => simp; omega
      intro v8 w8 hown' hgrow hnil' hq9
      have HO8 : Hid (OwnB w8 w.heap.size v8 (bs ++ putN u)) := Lib.hid (by rw [← HNX.out]; unfold OwnB; rw [show (bs ++ pre ++ [(j : Int)]).length = (bs ++ pre).length + 1 by simp only [List.length_append, List.length_singleton]]; simpa using hown')
      have HB8 : Hid (Below w.heap.size w w8) := Lib.hid ((HB.out.alloc HB.out.size _).grown hgrow (by simp; omega) (fun k e => (HO.out.lt k e).1))
      clear hown' hgrow hnil' hq9
      go_wp2
      go_ret
      exact ⟨_, rfl, HO8.out, HB8.out⟩
end Go.Proofs.YtbghchgmoiniiaaGreat

/-
  The walks of varint: Len64 of seven bits, Zig, Zag, PutRow. Conditions: none beyond those stated at each theorem.
-/
namespace Go.Proofs.YtbghchgmoiniiaaGreat
open Go.RowKit
set_option linter.unusedVariables false
set_option linter.unusedSimpArgs false

theorem tab_size : Lib.len8tab.size = 256 := by kernel_rfl
theorem tab_at : ∀ n : Fin 128, (Lib.len8tab[n.val]'(by rw [tab_size]; have := n.isLt; omega)).toNat = Lib.bitLen n.val := by decide +kernel
theorem len_le7 : ∀ n : Fin 128, Lib.bitLen n.val ≤ 7 := by decide +kernel
set_option maxRecDepth 100000 in
set_option maxHeartbeats 4000000 in
theorem len7 (x : Nat) (w : World) (h1 : x < 128) :
    Calls Tryz.prog 72 #[.int .u64 (x : Int)] w fun e w' => e = .returned (.int .i64 (Lib.bitLen x)) ∧ w = w' := by
  have e1 : decide ((4294967296 : Int) ≤ (x : Int)) = false := decide_eq_false (by omega)
  have e2 : decide ((65536 : Int) ≤ (x : Int)) = false := decide_eq_false (by omega)
  have e3 : decide ((256 : Int) ≤ (x : Int)) = false := decide_eq_false (by omega)
  have hs := tab_size
  have h2 : (x : Int) < 256 := by omega
  have h3 : (0 : Int) ≤ (x : Int) := by omega
  have h4 : x < 256 := by omega
  have HT := Lib.hid (tab_at ⟨x, h1⟩)
  have HL := Lib.hid (len_le7 ⟨x, h1⟩)
  go_enter Tryz.func72, Tryz.ntmps72
  go_wp2
  go_ret
  refine ⟨congrArg Ending.returned (congrArg (Value.int IntKind.i64) ?_), rfl⟩
  have h5 := HT.out
  have h6 := HL.out
  first | (simp only [Int.toNat_natCast]; rw [h5]; unfold wrap64; omega) | (rw [h5]; unfold wrap64; omega)
theorem not_u64 (a : Int) (h0 : 0 ≤ a) (h1 : a ≤ 18446744073709551615) : bits BinOp.xor IntKind.u64 a 18446744073709551615 = 18446744073709551615 - a := by
  obtain ⟨n, rfl⟩ := Int.eq_ofNat_of_zero_le h0
  have hx : (BitVec.ofInt 64 (n : Int) ^^^ BitVec.ofInt 64 18446744073709551615).toNat = 18446744073709551615 - n := by
    have e1 : BitVec.ofInt 64 18446744073709551615 = BitVec.allOnes 64 := by decide +kernel
    have e2 : BitVec.ofInt 64 (n : Int) = BitVec.ofNat 64 n := BitVec.ofInt_natCast ..
    rw [e1, e2, BitVec.xor_allOnes, BitVec.toNat_not, BitVec.toNat_ofNat]
    omega
  show IntKind.u64.wrap ((BitVec.ofInt 64 (n : Int) ^^^ BitVec.ofInt 64 18446744073709551615).toNat : Int) = _
  rw [hx, wrapU_mod]
  omega
theorem xor_zero_u64 (a : Int) (h0 : 0 ≤ a) (h1 : a ≤ 18446744073709551615) : bits BinOp.xor IntKind.u64 a 0 = a := by
  obtain ⟨n, rfl⟩ := Int.eq_ofNat_of_zero_le h0
  have := u64_xor_nat n 0 (by omega) (by decide)
  simpa using this
theorem not_i64 (a : Int) (h0 : 0 ≤ a) (h1 : a ≤ 9223372036854775807) : bits BinOp.xor IntKind.i64 a (-1) = -a - 1 := by
  obtain ⟨n, rfl⟩ := Int.eq_ofNat_of_zero_le h0
  have hx : (BitVec.ofInt 64 (n : Int) ^^^ BitVec.ofInt 64 (-1)).toNat = 18446744073709551615 - n := by
    have e1 : BitVec.ofInt 64 (-1) = BitVec.allOnes 64 := by decide +kernel
    have e2 : BitVec.ofInt 64 (n : Int) = BitVec.ofNat 64 n := BitVec.ofInt_natCast ..
    rw [e1, e2, BitVec.xor_allOnes, BitVec.toNat_not, BitVec.toNat_ofNat]
    omega
  show IntKind.i64.wrap ((BitVec.ofInt 64 (n : Int) ^^^ BitVec.ofInt 64 (-1)).toNat : Int) = _
  rw [hx, wrapI_eq64]
  unfold wrap64
  omega
theorem xor_zero_i64 (a : Int) (h0 : 0 ≤ a) (h1 : a ≤ 9223372036854775807) : bits BinOp.xor IntKind.i64 a 0 = a := by
  obtain ⟨n, rfl⟩ := Int.eq_ofNat_of_zero_le h0
  have hx : (BitVec.ofInt 64 (n : Int) ^^^ BitVec.ofInt 64 0).toNat = n := by
    have e1 : BitVec.ofInt 64 0 = 0#64 := by decide +kernel
    have e2 : BitVec.ofInt 64 (n : Int) = BitVec.ofNat 64 n := BitVec.ofInt_natCast ..
    rw [e1, e2, BitVec.xor_zero, BitVec.toNat_ofNat]
    omega
  show IntKind.i64.wrap ((BitVec.ofInt 64 (n : Int) ^^^ BitVec.ofInt 64 0).toNat : Int) = _
  rw [hx, wrapI_eq64]
  unfold wrap64
  omega
theorem and1_u64 (u : Nat) (h : u < 18446744073709551616) : bits BinOp.and IntKind.u64 (u : Int) 1 = ((u % 2 : Nat) : Int) := by
  have := u64_and (u : Int) 1 (by omega) (by omega) (by decide) (by decide)
  rw [this]
  have e : ((u : Int).toNat &&& (1 : Int).toNat) = u % 2 := by
    rw [show (1 : Int).toNat = 2 ^ 1 - 1 from rfl, Nat.and_two_pow_sub_one_eq_mod]
    simp
  rw [e]
def zigI (n : Int) : Nat := if 0 ≤ n then (2 * n).toNat else (-2 * n - 1).toNat
def zagI (u : Nat) : Int := if u % 2 = 0 then (u / 2 : Nat) else -((u / 2 : Nat) : Int) - 1
theorem zag_zig (n : Int) : zagI (zigI n) = n := by unfold zagI zigI; split <;> split <;> omega
theorem zig_zag (u : Nat) : zigI (zagI u) = u := by unfold zagI zigI; split <;> split <;> omega
theorem zig_lt {n : Int} (h : -9223372036854775808 ≤ n ∧ n ≤ 9223372036854775807) : zigI n < 18446744073709551616 := by unfold zigI; split <;> omega
theorem zag_fit {u : Nat} (h : u < 18446744073709551616) : -9223372036854775808 ≤ zagI u ∧ zagI u ≤ 9223372036854775807 := by unfold zagI; split <;> omega
theorem zig_any (n : Int) (w : World) (h : -9223372036854775808 ≤ n ∧ n ≤ 9223372036854775807) : Calls Tryz.prog 51 #[.int .i64 n] w fun e w' => e = .returned (.int .u64 (zigI n : Int)) ∧ w = w' := by
  have key : bits BinOp.xor IntKind.u64 (IntKind.u64.wrap (IntKind.u64.wrap n * 2)) (IntKind.u64.wrap (n / 9223372036854775808)) = (zigI n : Int) := by
    rw [wrapU_mod n, wrapU_mod, wrapU_mod]
    by_cases h0 : 0 ≤ n
    · rw [show n / 9223372036854775808 % 18446744073709551616 = 0 by omega, xor_zero_u64 _ (by omega) (by omega)]
      unfold zigI
      rw [if_pos h0]
      omega
    · rw [show n / 9223372036854775808 % 18446744073709551616 = 18446744073709551615 by omega, not_u64 _ (by omega) (by omega)]
      unfold zigI
      rw [if_neg h0]
      omega
  have HKEY := Lib.hid key
  clear key
  go_enter Tryz.func51, Tryz.ntmps51
  go_wp2
  go_ret
  exact ⟨congrArg (fun z => Ending.returned (.int .u64 z)) HKEY.out, rfl⟩
theorem zag_any (u : Nat) (w : World) (h : u < 18446744073709551616) : Calls Tryz.prog 61 #[.int .u64 (u : Int)] w fun e w' => e = .returned (.int .i64 (zagI u)) ∧ w = w' := by
  have key : bits BinOp.xor IntKind.i64 ((u : Int) / 2) (wrap64 (-wrap64 (bits BinOp.and IntKind.u64 (u : Int) 1))) = zagI u := by
    rw [and1_u64 u h]
    by_cases h0 : u % 2 = 0
    · rw [h0, show wrap64 (-wrap64 ((0 : Nat) : Int)) = 0 by unfold wrap64; omega, xor_zero_i64 _ (by omega) (by omega)]
      unfold zagI
      rw [if_pos h0]
      omega
    · rw [show u % 2 = 1 by omega, show wrap64 (-wrap64 ((1 : Nat) : Int)) = -1 by unfold wrap64; omega, not_i64 _ (by omega) (by omega)]
      unfold zagI
      rw [if_neg h0]
      omega
  have HKEY := Lib.hid key
  clear key
  go_enter Tryz.func61, Tryz.ntmps61
  go_wp2
  go_ret
  exact ⟨congrArg (fun z => Ending.returned (.int .i64 z)) HKEY.out, rfl⟩
end Go.Proofs.YtbghchgmoiniiaaGreat

/-
  Plain: when bytes begin with a number's writing. Conditions: none beyond those stated at each theorem.
-/
namespace Go.Proofs.YtbghchgmoiniiaaGreat
open Go.RowKit
set_option linter.unusedVariables false
set_option linter.unusedSimpArgs false

theorem VL_of_marks {l : List Int} (hb : Byts l) (h0 : l ≠ []) (h1 : ∀ k, k + 1 < l.length → 128 ≤ cellD l k) (h2 : cellD l (l.length - 1) < 128) (h3 : l.length = 1 ∨ cellD l (l.length - 1) ≠ 0) : VL l := by
  induction l with
  | nil => exact absurd rfl h0
  | cons x l ih =>
    unfold VL
    by_cases hl : l = []
    · rw [if_pos hl]
      subst hl
      have := hb x (by simp)
      have h2 : x < 128 := by simpa [cellD] using h2
      omega
    · rw [if_neg hl]
      have hlen : 1 ≤ l.length := by
        cases l with
        | nil => exact absurd rfl hl
        | cons y m => simp
      have hx := hb x (by simp)
      have hx2 : 128 ≤ x := by simpa [cellD] using h1 0 (by simp; omega)
      have e : cellD (x :: l) ((x :: l).length - 1) = cellD l (l.length - 1) := by
        have : (x :: l).length - 1 = (l.length - 1) + 1 := by simp; omega
        rw [this]; simp [cellD]
      rw [e] at h2 h3
      have h3' : cellD l (l.length - 1) ≠ 0 := by
        rcases h3 with h3 | h3
        · rw [List.length_cons] at h3; omega
        · exact h3
      refine ⟨hx2, hx.2, ih (fun u hu => hb u (by simp [hu])) hl (fun k hk => by
        have := h1 (k + 1) (by simp; omega)
        simpa [cellD] using this) h2 (.inr h3'), fun e2 => h3' (by rw [e2]; rfl)⟩
theorem valL_ge (l : List Int) (k : Nat) (hk : k < l.length) : ((cellD l k).toNat % 128) * 128 ^ k ≤ valL l := by
  induction l generalizing k with
  | nil => simp at hk
  | cons x l ih =>
    cases k with
    | zero => simp [valL, cellD]
    | succ k =>
      have := ih k (by simpa using hk)
      have e : cellD (x :: l) (k + 1) = cellD l k := by simp [cellD]
      rw [e, valL, Nat.pow_succ, ← Nat.mul_assoc, Nat.mul_comm _ 128]
      omega
theorem valL_append (l : List Int) (x : Int) : valL (l ++ [x]) = valL l + 128 ^ l.length * (x.toNat % 128) := by
  induction l with
  | nil => simp [valL]
  | cons y l ih =>
    rw [List.cons_append, valL, ih, valL, List.length_cons, Nat.pow_succ, Nat.mul_comm (128 ^ l.length) 128, Nat.mul_assoc]
    omega
theorem valL_lt (l : List Int) : valL l < 128 ^ l.length := by
  induction l with
  | nil => simp [valL]
  | cons x l ih =>
    rw [valL, List.length_cons, Nat.pow_succ]
    have := Nat.mod_lt x.toNat (show 0 < 128 by decide)
    omega
theorem take_cell {bs : List Int} {j k : Nat} (h : k < j) : cellD (bs.take j) k = cellD bs k := by
  unfold cellD
  rw [List.getElem?_take, if_pos h]
theorem take_step {bs : List Int} {j : Nat} (h : j < bs.length) : bs.take (j + 1) = bs.take j ++ [cellD bs j] := by
  have e : bs[j]? = some (cellD bs j) := by simp [cellD, h]
  rw [List.take_add_one, e]; rfl
theorem TakeS.parts {bs : List Int} {u m : Nat} (h : TakeS bs u m) : u < 18446744073709551616 ∧ bs.take m = putN u ∧ m ≤ bs.length ∧ 1 ≤ m ∧ m ≤ 10 ∧ (putN u).length = m := by
  obtain ⟨h1, h2, r, rfl⟩ := h
  have := putN_pos u
  have := putN_len10 h1
  exact ⟨h1, by rw [h2, List.take_append_of_le_length (Nat.le_refl _), List.take_length], by simp; omega, by omega, by omega, h2.symm⟩
/-- where the first j bytes have the mark, a number's writing is longer than that -/
theorem TakeS.past {bs : List Int} {u m j : Nat} (h : TakeS bs u m) (hj : ∀ k, k < j → 128 ≤ cellD bs k) : j < m := by
  obtain ⟨h1, h2, h3, h4, h5, h6⟩ := h.parts
  rcases Nat.lt_or_ge j m with h | h
  · exact h
  · have := (VL_marks (putN_VL u) (m - 1)).2 (by omega)
    rw [← h2, take_cell (by omega)] at this
    have := hj (m - 1) (by omega)
    omega
theorem take_yes {bs : List Int} {j : Nat} (hb : Byts bs) (hj : j < bs.length) (h1 : ∀ k, k < j → 128 ≤ cellD bs k) (h2 : cellD bs j < 128) (h3 : j = 0 ∨ cellD bs j ≠ 0) (h4 : valL (bs.take (j + 1)) < 18446744073709551616) : TakeS bs (valL (bs.take (j + 1))) (j + 1) := by
  have hl : (bs.take (j + 1)).length = j + 1 := by simp; omega
  have hv : VL (bs.take (j + 1)) := by
    refine VL_of_marks (hb.take _) (fun e => by rw [e] at hl; simp at hl) (fun k hk => ?_) ?_ ?_
    · rw [hl] at hk
      rw [take_cell (by omega)]
      exact h1 k (by omega)
    · rw [hl, take_cell (by omega)]; exact h2
    · rw [hl, take_cell (by omega)]
      rcases h3 with h3 | h3
      · exact .inl (by omega)
      · exact .inr h3
  refine ⟨h4, ?_, bs.drop (j + 1), ?_⟩
  · rw [VL_put hv, hl]
  · rw [VL_put hv, List.take_append_drop]
def TakeNo (bs : List Int) : Prop := ∀ u m, ¬ TakeS bs u m
theorem bl_two : ∀ n : Fin 128, 2 ≤ Lib.bitLen n.val → 2 ≤ n.val := by decide +kernel
theorem take_big {bs : List Int} {j : Nat} (h1 : ∀ k, k < j → 128 ≤ cellD bs k) (hj : j < bs.length) (h2 : 64 < Lib.bitLen ((cellD bs j).toNat % 128) + 7 * j) : TakeNo bs := by
  intro u m h
  have hp := h.past h1
  obtain ⟨p1, p2, p3, p4, p5, p6⟩ := h.parts
  have hge := valL_ge (putN u) j (by omega)
  rw [putN_val, ← p2, take_cell hp] at hge
  have hlow : (cellD bs j).toNat % 128 < 128 := Nat.mod_lt _ (by decide)
  have h7 := len_le7 ⟨_, hlow⟩
  have h8 := bl_two ⟨_, hlow⟩
  simp only at h7 h8
  generalize (cellD bs j).toNat % 128 = q at *
  have hj9 : j = 9 := by omega
  subst hj9
  have := h8 (by omega)
  omega
theorem take_zero {bs : List Int} {j : Nat} (h1 : ∀ k, k < j → 128 ≤ cellD bs k) (hj : 0 < j) (h2 : cellD bs j = 0) : TakeNo bs := by
  intro u m h
  have hp := h.past h1
  obtain ⟨p1, p2, p3, p4, p5, p6⟩ := h.parts
  have hm : m = j + 1 := by
    rcases Nat.lt_or_ge (j + 1) m with hlt | hge
    · have := ((VL_marks (putN_VL u) j).1 (by omega)).1
      rw [← p2, take_cell hp, h2] at this
      omega
    · omega
  have := VL_last (putN_VL u) (by omega)
  rw [p6, ← p2, take_cell (by omega), hm] at this
  exact this h2
theorem take_end {bs : List Int} (h1 : ∀ k, k < bs.length → 128 ≤ cellD bs k) : TakeNo bs := by
  intro u m h
  have hp := h.past h1
  have := h.parts
  omega
end Go.Proofs.YtbghchgmoiniiaaGreat

/-
  The walk of varint.Take. Conditions: none beyond those stated at each theorem.
-/
namespace Go.Proofs.YtbghchgmoiniiaaGreat
open Go.RowKit
set_option linter.unusedVariables false
set_option linter.unusedSimpArgs false

def TakeRes (bs : List Int) (e : Ending) : Prop :=
  (∃ u n : Nat, TakeS bs u n ∧ e = .returned (.tuple #[.int .u64 (u : Int), .int .i64 (n : Int), .int .i64 0])) ∨ (TakeNo bs ∧ e = .returned (.tuple #[.int .u64 0, .int .i64 0, .int .i64 8]))
theorem and127 (u : Int) (h : 0 ≤ u ∧ u ≤ 255) : bits BinOp.and IntKind.u8 u 127 = ((u.toNat % 128 : Nat) : Int) := by
  obtain ⟨n, rfl⟩ := Int.eq_ofNat_of_zero_le h.1
  have hn : n ≤ 255 := by omega
  have hb : (BitVec.ofInt 8 (n : Int) &&& BitVec.ofInt 8 127).toNat = n % 128 := by
    have e1 : BitVec.ofInt 8 (n : Int) = BitVec.ofNat 8 n := BitVec.ofInt_natCast ..
    have e2 : BitVec.ofInt 8 127 = BitVec.ofNat 8 127 := by decide
    rw [e1, e2, BitVec.toNat_and, BitVec.toNat_ofNat, BitVec.toNat_ofNat]
    have h : ∀ m, m < 256 → (m % 2 ^ 8 &&& 127 % 2 ^ 8) = m % 128 := by decide +kernel
    exact h n (by omega)
  show IntKind.u8.wrap ((BitVec.ofInt 8 (n : Int) &&& BitVec.ofInt 8 127).toNat : Int) = _
  rw [hb]
  simp [IntKind.wrap, IntKind.bits, IntKind.signed]
  omega
theorem shift_pow (q j : Nat) : q * 2 ^ (7 * j) = 128 ^ j * q := by
  rw [Nat.pow_mul, Nat.mul_comm]
theorem lift_lt {r j : Nat} (hq : r < 128) (h : Lib.bitLen r + 7 * j ≤ 64) : j ≤ 9 ∧ 128 ^ j * r + 128 ^ j ≤ 18446744073709551616 := by
  have hc : j = 0 ∨ j = 1 ∨ j = 2 ∨ j = 3 ∨ j = 4 ∨ j = 5 ∨ j = 6 ∨ j = 7 ∨ j = 8 ∨ j = 9 := by omega
  have hr : j = 9 → r ≤ 1 := fun e => by
    rcases Nat.lt_or_ge 1 r with h9 | h9
    · have h10 : ∀ n : Fin 128, 1 < n.val → 2 ≤ Lib.bitLen n.val := by decide +kernel
      have := h10 ⟨r, hq⟩ h9
      simp only at this
      omega
    · exact h9
  refine ⟨by omega, ?_⟩
  rcases hc with rfl | rfl | rfl | rfl | rfl | rfl | rfl | rfl | rfl | rfl
  all_goals first | omega | (have := hr rfl; omega)
theorem or_lift {U q j : Nat} (hj : j ≤ 9) (hU : U < 128 ^ j) (h : 128 ^ j * q + 128 ^ j ≤ 18446744073709551616) : bits BinOp.or IntKind.u64 (U : Int) (IntKind.u64.wrap ((q : Int) * 2 ^ (7 * j))) = ((U + 128 ^ j * q : Nat) : Int) := by
  have e : (128 : Nat) ^ j = 2 ^ (7 * j) := by rw [Nat.pow_mul]
  have e2 : ((2 : Int) ^ (7 * j)) = ((128 ^ j : Nat) : Int) := by rw [e]; exact (Int.natCast_pow ..).symm
  have e3 : ((128 ^ j : Nat) : Int) * (q : Int) = ((128 ^ j * q : Nat) : Int) := (Int.natCast_mul ..).symm
  have h9 : (128 : Nat) ^ j ≤ 128 ^ 9 := Nat.pow_le_pow_right (by decide) hj
  have h9' : (128 : Nat) ^ 9 = 9223372036854775808 := by decide
  have hp : 1 ≤ (128 : Nat) ^ j := Nat.pow_pos (by decide)
  have hw : IntKind.u64.wrap ((q : Int) * 2 ^ (7 * j)) = (q : Int) * 2 ^ (7 * j) := by
    rw [wrapU_mod, e2, Int.mul_comm, e3]; omega
  rw [hw]
  have h1 := or_at (U : Int) (q : Int) (7 * j) (by omega) (by rw [e2]; omega) (by omega) (by rw [e2, e3]; omega) (by rw [e2]; omega)
  rw [h1, e2, e3]; omega
set_option maxRecDepth 100000 in
set_option maxHeartbeats 8000000 in
theorem take_any (w : World) (v : Value) (bs : List Int) (hv : BytesAt w v bs) (hb : Byts bs) (hlen : bs.length ≤ 100000) :
    Calls Tryz.prog 60 #[v] w fun e w' => TakeRes bs e ∧ w = w' := by
  have HV := Lib.hid hv
  have HB := Lib.hid hb
  obtain ⟨ao, cap, rfl, hcap, hmx, hc⟩ := hv
  obtain ⟨n, hn⟩ : ∃ n, n = bs.length := ⟨_, rfl⟩
  have HN := Lib.hid hn
  rw [← hn] at hcap hlen ⊢
  clear hc hn hb
  go_enter Tryz.func60, Tryz.ntmps60
  go_wp2_with fail
  go_loop [5, 11] (fun u i => ∃ j : Nat, j ≤ n ∧ j ≤ 10 ∧ i = .int .i64 (j : Int) ∧ u = .int .u64 (valL (bs.take j) : Int) ∧ (∀ k, k < j → 128 ≤ cellD bs k) ∧ valL (bs.take j) < 18446744073709551616) (fun _ i => n - (intOf i).toNat)
  case atStart => exact ⟨0, by omega, by omega, rfl, by simp [valL], fun k hk => by omega, by simp [valL]⟩
  case round =>
    obtain ⟨j, hj, hj10, rfl, rfl, hmk, hvl⟩ := hrel
    have HMK := Lib.hid hmk
    have HVL := Lib.hid hvl
    clear hmk hvl
    by_cases hlt : j < n
    · have hjl : j < bs.length := by have := HN.out; omega
      obtain ⟨g, off, rfl, hg, cx⟩ := HV.out.cell hjl
      have hb8 := HB.out.cellD j
      have HST := Lib.hid (take_step hjl)
      have HBIG := Lib.hid (take_big HMK.out hjl)
      have HZERO := Lib.hid (fun h => take_zero (bs := bs) (j := j) HMK.out h)
      have HYES := Lib.hid (take_yes HB.out hjl HMK.out)
      have HTL : Hid ((bs.take j).length = j) := Lib.hid (by simp; omega)
      have HVN : Hid (valL (bs.take (j + 1)) = valL (bs.take j) + 128 ^ j * ((cellD bs j).toNat % 128)) := Lib.hid (by rw [HST.out, valL_append, HTL.out])
      have HVJ := Lib.hid (by have := valL_lt (bs.take j); rwa [HTL.out] at this)
      have HMK2 : Hid (128 ≤ cellD bs j → ∀ k, k < j + 1 → 128 ≤ cellD bs k) := Lib.hid (fun h k hk => by
        by_cases e : k = j
        · subst e; exact h
        · exact HMK.out k (by omega))
      generalize cellD bs j = x at *
      obtain ⟨q, hq⟩ : ∃ q, q = x.toNat % 128 := ⟨_, rfl⟩
      have e1 : bits BinOp.and IntKind.u8 x 127 = (q : Int) := by rw [and127 x hb8, hq]
      rw [← hq] at HBIG HVN
      have hq128 : q < 128 := by omega
      have PL := Lib.hid (len7 q w hq128)
      have HQ := Lib.hid hq
      have HLIFT := Lib.hid (fun h => lift_lt (j := j) hq128 h)
      have i0 : (0 : Int) ≤ (j : Int) := by omega
      have i1 : (j : Int) < (n : Int) := by omega
      have hbl : Lib.bitLen q ≤ 7 := len_le7 ⟨q, hq128⟩
      clear hjl hq
      generalize Lib.bitLen q = bl at *
      go_wp2_with fail
      with_reducible refine PL.out.mono ?_
      rintro e w2 ⟨rfl, hw2⟩
      subst hw2
      by_cases hover : 64 < bl + 7 * j
      · have d1 : decide ((64 : Int) < (bl : Int) + 7 * (j : Int)) = true := decide_eq_true (by omega)
        have HP : Hid (TakeRes bs (.returned (.tuple #[.int .u64 0, .int .i64 0, .int .i64 8]))) := Lib.hid (.inr ⟨HBIG.out hover, rfl⟩)
        go_wp2
        go_ret3
        exact ⟨HP.out, rfl⟩
      · have d1 : decide ((64 : Int) < (bl : Int) + 7 * (j : Int)) = false := decide_eq_false (by omega)
        obtain ⟨hj9, hlift⟩ := HLIFT.out (by omega)
        have hor := or_lift hj9 HVJ.out hlift
        have HNV : Hid (valL (bs.take (j + 1)) = valL (bs.take j) + 128 ^ j * q) := Lib.hid (by rw [HVN.out])
        have HLT : Hid (valL (bs.take j) + 128 ^ j * q < 18446744073709551616) := Lib.hid (by have := HVJ.out; omega)
        generalize valL (bs.take j) + 128 ^ j * q = nv at *
        generalize valL (bs.take j) = ov at *
        by_cases hx : 128 ≤ x
        · have d2 : decide ((128 : Int) ≤ x) = true := decide_eq_true hx
          have HMK3 := Lib.hid (HMK2.out hx)
          go_wp2
          go_round
          case rel => exact ⟨j + 1, by omega, by omega, by go_num, by rw [HNV.out], HMK3.out, by rw [HNV.out]; exact HLT.out⟩
          case measure => simp [intOf]; omega
        · have d2 : decide ((128 : Int) ≤ x) = false := decide_eq_false hx
          by_cases hx0 : x = 0 ∧ 0 < j
          · obtain ⟨rfl, hj0⟩ := hx0
            have d3 : decide ((0 : Int) < (j : Int)) = true := decide_eq_true (by omega)
            have d4 : decide (0 < j) = true := decide_eq_true hj0
            have HP : Hid (TakeRes bs (.returned (.tuple #[.int .u64 0, .int .i64 0, .int .i64 8]))) := Lib.hid (.inr ⟨HZERO.out hj0 rfl, rfl⟩)
            go_wp2
            go_ret3
            exact ⟨HP.out, rfl⟩
          · have HP : Hid (TakeRes bs (.returned (.tuple #[.int .u64 (nv : Int), .int .i64 ((j : Int) + 1), .int .i64 0]))) := Lib.hid (.inl ⟨nv, j + 1, by
              have := HYES.out (by omega) (by omega) (by rw [HNV.out]; exact HLT.out)
              rwa [HNV.out] at this, rfl⟩)
            have d3 : (x == 0) = false ∨ (decide ((0 : Int) < (j : Int)) = false ∧ decide (0 < j) = false) := by
              by_cases h : x = 0
              · exact .inr ⟨decide_eq_false (fun h2 => hx0 ⟨h, by omega⟩), decide_eq_false (fun h2 => hx0 ⟨h, h2⟩)⟩
              · exact .inl (by simp [h])
            rcases d3 with d3 | ⟨d3, d4⟩
            · go_wp2
              go_ret3
              exact ⟨HP.out, rfl⟩
            · by_cases h0 : x = 0
              · have d5 : (x == 0) = true := by simp [h0]
                clear h0 hx0
                go_wp2
                go_ret3
                exact ⟨HP.out, rfl⟩
              · have d5 : (x == 0) = false := by simp [h0]
                clear h0 hx0
                go_wp2
                go_ret3
                exact ⟨HP.out, rfl⟩
    · obtain rfl : j = n := by omega
      have HP : Hid (TakeRes bs (.returned (.tuple #[.int .u64 0, .int .i64 0, .int .i64 8]))) := Lib.hid (.inr ⟨take_end (by rw [← HN.out]; exact HMK.out), rfl⟩)
      go_wp2
      go_ret3
      exact ⟨HP.out, rfl⟩
end Go.Proofs.YtbghchgmoiniiaaGreat

/-
  The walks of the reference's numbers: Bytes, Take. Conditions: none beyond those stated at each theorem.
-/
namespace Go.Proofs.YtbghchgmoiniiaaGreat
open Go.RowKit
set_option linter.unusedVariables false
set_option linter.unusedSimpArgs false

theorem take_only {bs : List Int} {n u m : Nat} (h : TakeS bs u m) (h1 : ∀ k, k < n → 128 ≤ cellD bs k) (h2 : cellD bs n < 128) : m = n + 1 ∧ putN u = bs.take (n + 1) ∧ u = valL (bs.take (n + 1)) := by
  have hp := h.past h1
  obtain ⟨p1, p2, p3, p4, p5, p6⟩ := h.parts
  have hm : m = n + 1 := by
    rcases Nat.lt_or_ge (n + 1) m with hlt | hge
    · have := ((VL_marks (putN_VL u) n).1 (by omega)).1
      rw [← p2, take_cell (by omega)] at this
      omega
    · omega
  subst hm
  exact ⟨rfl, p2.symm, by rw [p2, putN_val]⟩
theorem take_mark {bs : List Int} {n u m : Nat} (h : TakeS bs u m) (h1 : ∀ k, k < n → 128 ≤ cellD bs k) : n ≤ 9 := by
  have hp := h.past h1
  have := h.parts
  omega
theorem take_of {bs : List Int} {n U : Nat} (hU : U < 18446744073709551616) (hn : n < bs.length) (h : putN U = bs.take (n + 1)) : TakeS bs U (n + 1) := by
  refine ⟨hU, ?_, bs.drop (n + 1), ?_⟩
  · rw [h]; simp; omega
  · rw [h, List.take_append_drop]
theorem take_differs {bs : List Int} {n : Nat} (h1 : ∀ k, k < n → 128 ≤ cellD bs k) (h2 : cellD bs n < 128) (h : putN (valL (bs.take (n + 1)) % 18446744073709551616) ≠ bs.take (n + 1)) : TakeNo bs := by
  intro u m ht
  obtain ⟨-, h3, h4⟩ := take_only ht h1 h2
  apply h
  rw [← h4, Nat.mod_eq_of_lt ht.1, h3]
/-- what the bytes from one place on tell -/
theorem valL_drop {l : List Int} {k : Nat} (h : k < l.length) : valL (l.drop k) = (cellD l k).toNat % 128 + 128 * valL (l.drop (k + 1)) := by
  have e : l.drop k = cellD l k :: l.drop (k + 1) := by
    rw [List.drop_eq_getElem_cons h]; simp [cellD, h]
  rw [e, valL]
theorem eq_of_cells {a b : List Int} (hl : a.length = b.length) (h : ∀ k, k < a.length → cellD a k = cellD b k) : a = b := by
  apply List.ext_getElem hl
  intro i h1 h2
  have := h i h1
  simpa [cellD, h1, h2] using this
set_option maxRecDepth 100000 in
set_option maxHeartbeats 4000000 in
theorem rput_b (w : World) (u : Nat) (u1 : u < 18446744073709551616) :
    Calls Tryz.prog 54 #[.int .u64 (u : Int)] w (NewB w (putN u)) := by
  obtain ⟨i0', hi, hz0, hz1, hz2⟩ := info_parts Tryz.info8
  have hown0 := World.ownsRow_lit (base := w.heap.size) (e := 5) (size := 1) w #[] 0 (by exact Nat.le_refl _) (by unfold maxLen; omega) (by simp)
  have HO1 := Lib.hid hown0
  have HB1 : Hid (Below w.heap.size w (w.alloc (.cells #[] 5))) := Lib.hid ((Below.refl _ _).alloc (Nat.le_refl _) _)
  have HU10 := Lib.hid (putN_len10 u1)
  clear hown0
  go_enter Tryz.func54, Tryz.ntmps54
  go_wp2_with fail
  go_loopw [0, 3] (fun y x wr => ∃ (j : Nat) (pre : List Int), y = .int .u64 (j : Int) ∧ pre ++ putN j = putN u ∧ OwnB wr w.heap.size x pre ∧ Below w.heap.size w wr ∧ j < 18446744073709551616) (fun y _ _ => (intOf y).toNat)
  case atStart => exact ⟨u, [], rfl, by simp, HO1.out, HB1.out, u1⟩
  case round =>
    obtain ⟨j, pre, rfl, hpre, hown, hbel, hj64⟩ := hrel
    have HO := Lib.hid hown
    have HB := Lib.hid hbel
    have HP := Lib.hid hpre
    have hsz := hbel.size
    have hpl : pre.length ≤ 10 := by have := congrArg List.length hpre; rw [List.length_append] at this; have := HU10.out; have := putN_pos j; omega
    have hc1 : pre.length + 1 ≤ maxLen := by unfold maxLen; omega
    have hc4 : (pre.length + 1) * 1 ≤ 140737488355328 := by omega
    clear hown hbel hpre HO1 HB1
    by_cases hlt : 128 ≤ j
    · have HST := Lib.hid (putN_ge (u := j) (by omega))
      have e1 : (128 + (j : Int) % 128) % 256 = ((128 + j % 128 : Nat) : Int) := by omega
      have e0 : (j : Int).tmod 128 = (j : Int) % 128 := Int.tmod_eq_emod_of_nonneg (by omega)
      have e2 : (j : Int).tdiv 128 = (j : Int) / 128 := Int.tdiv_eq_ediv_of_nonneg (by omega)
      have HNX : Hid (pre ++ [((128 + j % 128 : Nat) : Int)] ++ putN (j / 128) = putN u) := Lib.hid (by rw [← HP.out, HST.out]; simp)
      go_wp2_with (at_builtin; go_loud (refine wpList_append_own_at _ rfl _ _ 33 rfl w.heap.size 5 i0' (.int .u8 0) 1 1 Tryz.underlying33 hi hz0 hz1 hz2 rfl (by decide) _ pre.length _ rfl (World.ownsRow.alloc HO.out _) ⟨wr.heap.size, 0, none⟩ 1 1 [.int .u8 ((128 + j % 128 : Nat) : Int)] rfl rfl (cell_one_new _ _ _) ?c2 hc1 hc4 ?c5 ?_))
      case c2 => simp [Value.oneCell']
      case c5 => simp; omega
      intro v8 w8 hown' hgrow hnil' hq9
      have HO8 : Hid (OwnB w8 w.heap.size v8 (pre ++ [((128 + j % 128 : Nat) : Int)])) := Lib.hid (by unfold OwnB; rw [show (pre ++ [((128 + j % 128 : Nat) : Int)]).length = pre.length + 1 by simp only [List.length_append, List.length_singleton]]; simpa using hown')
      have HB8 : Hid (Below w.heap.size w w8) := Lib.hid ((HB.out.alloc HB.out.size _).grown hgrow (by simp; omega) (fun k e => (HO.out.lt k e).1))
      clear hown' hgrow hnil' hq9
      go_wp2
      go_roundw
      case rel => exact ⟨j / 128, pre ++ [((128 + j % 128 : Nat) : Int)], by go_num, HNX.out, HO8.out, HB8.out, by omega⟩
      case measure => simp [intOf]; omega
    · have HST := Lib.hid (putN_lt (u := j) (by omega))
      have e1 : (j : Int) % 256 = (j : Int) := by omega
      have HNX : Hid (pre ++ [(j : Int)] = putN u) := Lib.hid (by rw [← HP.out, HST.out])
      go_wp2_with (at_builtin; refine wpList_append_own_at _ rfl _ _ 33 rfl w.heap.size 5 i0' (.int .u8 0) 1 1 Tryz.underlying33 hi hz0 hz1 hz2 rfl (by decide) _ pre.length _ rfl (World.ownsRow.alloc HO.out _) ⟨wr.heap.size, 0, none⟩ 1 1 [.int .u8 (j : Int)] rfl rfl (cell_one_new _ _ _) ?c2 hc1 hc4 ?c5 ?_)
      case c2 => simp [Value.oneCell']
      case c5 => simp; omega
      intro v8 w8 hown' hgrow hnil' hq9
      have HO8 : Hid (OwnB w8 w.heap.size v8 (putN u)) := Lib.hid (by rw [← HNX.out]; unfold OwnB; rw [show (pre ++ [(j : Int)]).length = pre.length + 1 by simp only [List.length_append, List.length_singleton]]; simpa using hown')
      have HB8 : Hid (Below w.heap.size w w8) := Lib.hid ((HB.out.alloc HB.out.size _).grown hgrow (by simp; omega) (fun k e => (HO.out.lt k e).1))
      have HNIL : Hid (v8 ≠ .slice none 0 0) := Lib.hid hnil'
      clear hown' hgrow hnil' hq9
      go_wp2
      go_ret
      exact ⟨_, rfl, HO8.out, HNIL.out, HB8.out⟩
end Go.Proofs.YtbghchgmoiniiaaGreat

/-
  The walk of the reference's Take. Conditions: none beyond those stated at each theorem.
-/
namespace Go.Proofs.YtbghchgmoiniiaaGreat
open Go.RowKit
set_option linter.unusedVariables false
set_option linter.unusedSimpArgs false

def TakeResB (w : World) (bs : List Int) (e : Ending) (w' : World) : Prop := TakeRes bs e ∧ Below w.heap.size w w'
end Go.Proofs.YtbghchgmoiniiaaGreat

/-
  Rows of numbers written one behind the other; the walk of varint.PutRow. Conditions: none beyond those stated at each theorem.
-/
namespace Go.Proofs.YtbghchgmoiniiaaGreat
open Go.RowKit
set_option linter.unusedVariables false
set_option linter.unusedSimpArgs false

/-- the bytes of a row of numbers -/
def rowB (zs : List Int) : List Int := zs.flatMap fun z => putN (zigI z)
theorem rowB_nil : rowB [] = [] := rfl
theorem rowB_cons (z : Int) (zs : List Int) : rowB (z :: zs) = putN (zigI z) ++ rowB zs := by simp [rowB]
theorem rowB_append (a b : List Int) : rowB (a ++ b) = rowB a ++ rowB b := by simp [rowB]
theorem rowB_snoc (zs : List Int) (z : Int) : rowB (zs ++ [z]) = rowB zs ++ putN (zigI z) := by rw [rowB_append, rowB_cons, rowB_nil, List.append_nil]
theorem rowB_byts (zs : List Int) : Byts (rowB zs) := by
  induction zs with
  | nil => exact Byts.nil
  | cons z zs ih => rw [rowB_cons]; exact (putN_byts _).append ih
theorem rowB_ge (zs : List Int) : zs.length ≤ (rowB zs).length := by
  induction zs with
  | nil => simp
  | cons z zs ih => rw [rowB_cons, List.length_append, List.length_cons]; have := putN_pos (zigI z); omega
theorem rowB_le (zs : List Int) (h : Fit zs) : (rowB zs).length ≤ 10 * zs.length := by
  induction zs with
  | nil => simp [rowB]
  | cons z zs ih =>
    rw [rowB_cons, List.length_append, List.length_cons]
    have := putN_len10 (zig_lt (h z (by simp)))
    have := ih (fun u hu => h u (by simp [hu]))
    omega
theorem Fit.take {zs : List Int} (h : Fit zs) (n : Nat) : Fit (zs.take n) := fun u hu => h u (List.mem_of_mem_take hu)
theorem rowB_take {zs : List Int} {j : Nat} (h : j < zs.length) : rowB (zs.take (j + 1)) = rowB (zs.take j) ++ putN (zigI (cellD zs j)) := by
  have e : zs[j]? = some (cellD zs j) := by simp [cellD, h]
  rw [List.take_add_one, e, ← rowB_snoc]; rfl
theorem IntsAt.cell {w : World} {ao : Option Addr} {n cap : Nat} {zs : List Int} (h : IntsAt w (.slice ao n cap) zs) {j : Nat} (hj : j < zs.length) : ∃ g, ao = some ⟨g, 0, none⟩ ∧ g < w.heap.size ∧ w.cell? ⟨g, j, none⟩ = some (.int .i64 (cellD zs j)) := by
  obtain ⟨ao2, cap2, e, h1, h2⟩ := h
  simp only [Value.slice.injEq] at e
  obtain ⟨rfl, -, rfl⟩ := e
  obtain ⟨g, rfl, hg, hc⟩ := h2 (by omega)
  exact ⟨g, rfl, hg, hc j _ (by simp [cellD, hj])⟩
theorem OwnB.far {w : World} {base : Nat} {v : Value} {bs : List Int} {g : Nat} {t : TypeId} {cs : Array Value} (h : OwnB w base v bs) (hb : Blk w g t cs) (ht : t ≠ 5) : some g ≠ v.ownBlock := by
  intro e
  rcases h.2 with ⟨rfl, -⟩ | ⟨g2, cap, cur, rfl, -, e3, -⟩
  · simp [Value.ownBlock] at e
  · simp [Value.ownBlock] at e
    subst e
    exact (hb.ne_ (show Blk w g 5 cur from e3) ht) rfl
theorem OwnB.open2 {w : World} {base : Nat} {v : Value} {bs : List Int} (h : OwnB w base v bs) : ∃ ao n cap, v = .slice ao n cap := by
  obtain ⟨ao, cap, e, -⟩ := h.at
  exact ⟨ao, _, cap, e⟩
set_option maxRecDepth 100000 in
set_option maxHeartbeats 8000000 in
theorem putrow_any (w : World) (v vl : Value) (bs zs : List Int) (hv : BytesAt w v bs) (hz : IntsAt w vl zs) (hf : Fit zs) (hl : bs.length ≤ 100000) (hl2 : zs.length ≤ 100000) :
    Calls Tryz.prog 23 #[v, vl] w (PostC w (bs ++ rowB zs)) := by
  have HZ := Lib.hid hz
  have HF := Lib.hid hf
  have PC := Lib.hid (bclone_any w v bs hv (by omega))
  obtain ⟨ao, cap, rfl, hcap, -⟩ := hz
  obtain ⟨n, hn⟩ : ∃ n, n = zs.length := ⟨_, rfl⟩
  have HN := Lib.hid hn
  rw [← hn] at hcap hl2 ⊢
  clear hn hf hv
  go_enter Tryz.func23, Tryz.ntmps23
  go_wp2_with fail
  with_reducible refine PC.out.mono ?_
  rintro e w2 ⟨v2, rfl, ho2, hb2⟩
  obtain ⟨ao2, cap2, rfl, hcap2, -⟩ := ho2.open_
  have HO2 := Lib.hid ho2
  have HB2 := Lib.hid hb2
  clear ho2 hb2 PC
  go_wp2_with fail
  have HWB := Lib.hid (Blk.new w2 96 #[.slice ao2 bs.length cap2, .func (.func 50) #[] #[]])
  have HO3 := Lib.hid (HO2.out.kept ((Below.refl _ _).alloc (Nat.le_refl _) (.cells #[.slice ao2 bs.length cap2, .func (.func 50) #[] #[]] 96)))
  have HB3 := Lib.hid (HB2.out.alloc HB2.out.size (.cells #[.slice ao2 bs.length cap2, .func (.func 50) #[] #[]] 96))
  have HWL : Hid (w.heap.size ≤ w2.heap.size) := Lib.hid HB2.out.size
  clear HO2 HB2
  generalize w2.alloc (.cells #[.slice ao2 bs.length cap2, .func (.func 50) #[] #[]] 96) = w3 at *
  generalize w2.heap.size = WB at *
  go_loopw [14] (fun i wr => ∃ (j : Nat) (x : Value), j ≤ n ∧ i = .int .i64 (j : Int) ∧ Blk wr WB 96 #[x, .func (.func 50) #[] #[]] ∧ OwnB wr w.heap.size x (bs ++ rowB (zs.take j)) ∧ Below w.heap.size w wr) (fun i _ => n - (intOf i).toNat)
  case atStart => exact ⟨0, _, by omega, rfl, HWB.out, by simpa [rowB] using HO3.out, HB3.out⟩
  case round =>
    obtain ⟨j, x, hj, rfl, hwb, ho, hbel⟩ := hrel
    obtain ⟨ao5, ql, cap5, rfl⟩ := ho.open2
    have HW5 := Lib.hid hwb
    have HO5 := Lib.hid ho
    have HB5 := Lib.hid hbel
    clear hwb ho hbel HWB HO3 HB3
    by_cases hlt : j < n
    · have hjz : j < zs.length := by have := HN.out; omega
      obtain ⟨g, rfl, hg, cx⟩ := (HZ.out.kept HB5.out).cell hjz
      have HNX := Lib.hid (rowB_take hjz)
      have hzf := HF.out (cellD zs j) (List.mem_of_getElem? (by simp [cellD, hjz] : zs[j]? = some (cellD zs j)))
      have HLE : Hid ((bs ++ rowB (zs.take j)).length ≤ 100000000) := Lib.hid (by
        rw [List.length_append]
        have := rowB_le _ (HF.out.take j)
        have h2 : (zs.take j).length ≤ n := by have := HN.out; simp; omega
        omega)
      generalize cellD zs j = z at *
      have PZ := Lib.hid (fun w => zig_any z w hzf)
      have hzl := zig_lt hzf
      have HQ := Lib.hid (fun wq (h1 : OwnB wq w.heap.size (.slice ao5 ql cap5) (bs ++ rowB (zs.take j))) (h2 : w.heap.size ≤ wq.heap.size) => putc_any wq w.heap.size _ _ (zigI z) h1 h2 hzl HLE.out)
      have i0 : (0 : Int) ≤ (j : Int) := by omega
      have i1 : (j : Int) < (n : Int) := by omega
      generalize zigI z = q at *
      clear hjz hzf hzl
      go_wp2_with fail
      refine wp_region_still_tail 6 (by kernel_rfl) (by kernel_rfl) ?_
      simp only [List.take_succ_cons, List.take_zero, List.drop_succ_cons, List.drop_zero]
      have HW6 : Hid (Blk { heap := wr.heap, tape := wr.tape, drawn := wr.drawn + 1, os := wr.os, output := wr.output } WB 96 #[.slice ao5 ql cap5, .func (.func 50) #[] #[]]) := Lib.hid (HW5.out.drewN 1)
      have HB6 : Hid (Below w.heap.size w { heap := wr.heap, tape := wr.tape, drawn := wr.drawn + 1, os := wr.os, output := wr.output }) := Lib.hid (below_drewN HB5.out 1)
      have HO6 : Hid (OwnB { heap := wr.heap, tape := wr.tape, drawn := wr.drawn + 1, os := wr.os, output := wr.output } w.heap.size (.slice ao5 ql cap5) (bs ++ rowB (zs.take j))) := Lib.hid (HO5.out.kept (below_drewN (Below.refl _ _) 1))
      generalize ({ heap := wr.heap, tape := wr.tape, drawn := wr.drawn + 1, os := wr.os, output := wr.output } : World) = wd at *
      have c0 := HW6.out.cell 0
      have c1 := HW6.out.cell 1
      simp at c0 c1
      repeat still_step
      still_call (PZ.out _ |>.mono fun e w' ⟨p, q⟩ => ⟨p, q.symm⟩)
      repeat still_step
      refine wpStill_nil ?_
      clear c0 c1
      go_wp2_with fail
      with_reducible refine (HQ.out _ HO6.out HB6.out.size).mono ?_
      rintro e w7 ⟨v7, rfl, ho7, hg7, hq7⟩
      obtain ⟨ao7, n7, cap7, rfl⟩ := ho7.open2
      have HW7 := Lib.hid (HW6.out.grown hg7 (HO6.out.far HW6.out (by decide)))
      have HB7 : Hid (Below w.heap.size w w7) := Lib.hid (HB6.out.grown hg7 HB6.out.size (fun k e => (HO6.out.lt k e).1))
      have HF7 := Lib.hid (ho7.far HW7.out (by decide))
      have HO7 := Lib.hid ho7
      have HEQ : Hid (bs ++ rowB (zs.take (j + 1)) = bs ++ rowB (zs.take j) ++ putN q) := Lib.hid (by rw [HNX.out, List.append_assoc])
      clear ho7 hg7 hq7 HO6 HW6 HB6
      have c0 := HW7.out.cell 0
      have f0 := HW7.out.frozen 0
      simp at c0
      go_wp2
      go_roundw
      case rel => exact ⟨j + 1, _, by omega, by go_num, by simpa using HW7.out.set_ 0 _, by rw [HEQ.out]; exact World.ownsRow.kept HO7.out (grown_set _ WB 0 _) (.inr (Ne.symm HF7.out)), HB7.out.setCell HWL.out _⟩
      case measure => simp [intOf]; omega
    · obtain rfl : j = n := by omega
      have HT : Hid (zs.take j = zs) := Lib.hid (List.take_of_length_le (by have := HN.out; omega))
      have HO9 : Hid (OwnB wr w.heap.size (.slice ao5 ql cap5) (bs ++ rowB zs)) := Lib.hid (by have := HO5.out; rwa [HT.out] at this)
      have c0 := HW5.out.cell 0
      simp at c0
      clear hlt HO5 HW5
      go_wp2
      go_ret
      exact ⟨_, rfl, HO9.out, HB5.out⟩
end Go.Proofs.YtbghchgmoiniiaaGreat

/-
  Rows of numbers read one behind the other; the walks of TakeRow and its reference. Conditions: none beyond those stated at each theorem.
-/
namespace Go.Proofs.YtbghchgmoiniiaaGreat
open Go.RowKit
set_option linter.unusedVariables false
set_option linter.unusedSimpArgs false

/-- bytes begin with the writing of n numbers zs, of so many bytes -/
def TRow (bs : List Int) (n : Nat) (zs : List Int) (at' : Nat) : Prop := zs.length = n ∧ Fit zs ∧ at' = (rowB zs).length ∧ ∃ r, bs = rowB zs ++ r
def TRowNo (bs : List Int) (n : Nat) : Prop := ∀ zs a, ¬ TRow bs n zs a
theorem Fit.nil : Fit [] := fun u hu => by cases hu
theorem Fit.snoc {zs : List Int} (h : Fit zs) {z : Int} (hz : -9223372036854775808 ≤ z ∧ z ≤ 9223372036854775807) : Fit (zs ++ [z]) := fun u hu => by
  rcases List.mem_append.1 hu with hu | hu
  · exact h u hu
  · rw [List.mem_singleton.1 hu]; exact hz
theorem TRow.zero (bs : List Int) : TRow bs 0 [] 0 := ⟨rfl, Fit.nil, rfl, bs, rfl⟩
theorem TRow.rest {bs : List Int} {n : Nat} {zs : List Int} {a : Nat} (h : TRow bs n zs a) : bs = rowB zs ++ bs.drop a ∧ a ≤ bs.length := by
  obtain ⟨-, -, rfl, r, rfl⟩ := h
  exact ⟨by rw [List.drop_left], by simp⟩
theorem TRow.le {bs : List Int} {n : Nat} {zs : List Int} {a : Nat} (h : TRow bs n zs a) : n ≤ a ∧ a ≤ 10 * n := by
  obtain ⟨rfl, h2, rfl, -⟩ := h
  exact ⟨rowB_ge zs, rowB_le zs h2⟩
theorem TRow.next {bs : List Int} {n : Nat} {zs : List Int} {a u m : Nat} (h : TRow bs n zs a) (k : TakeS (bs.drop a) u m) : TRow bs (n + 1) (zs ++ [zagI u]) (a + m) := by
  obtain ⟨h1, h2, h3, r, h4⟩ := h
  obtain ⟨k1, k2, s, k3⟩ := k
  refine ⟨by simp [h1], h2.snoc (zag_fit k1), ?_, s, ?_⟩
  · rw [rowB_snoc, zig_zag, List.length_append, h3, k2]
  · rw [rowB_snoc, zig_zag, List.append_assoc, ← k3, h3, h4, List.drop_left]
theorem row_split {zs ys : List Int} (hz : Fit zs) (hy : Fit ys) {r s : List Int} (h : rowB zs ++ r = rowB ys ++ s) (hl : zs.length < ys.length) : ∃ y t, ys = zs ++ y :: t ∧ r = putN (zigI y) ++ (rowB t ++ s) := by
  induction zs generalizing ys with
  | nil =>
    cases ys with
    | nil => simp at hl
    | cons y t => exact ⟨y, t, rfl, by simpa [rowB_cons, rowB_nil] using h⟩
  | cons z zs ih =>
    cases ys with
    | nil => simp at hl
    | cons y ys =>
      rw [rowB_cons, rowB_cons, List.append_assoc, List.append_assoc] at h
      have e := VL_prefix (putN_VL _) (putN_VL _) h
      have e2 := putN_inj e
      have e3 : z = y := by rw [← zag_zig z, e2, zag_zig]
      subst e3
      obtain ⟨y2, t, e4, e5⟩ := ih (fun u hu => hz u (by simp [hu])) (fun u hu => hy u (by simp [hu])) (List.append_cancel_left h) (by simpa using hl)
      exact ⟨y2, t, by rw [e4]; rfl, e5⟩
theorem row_same {zs ys : List Int} {r s : List Int} (h : rowB zs ++ r = rowB ys ++ s) (hl : zs.length = ys.length) : zs = ys := by
  induction zs generalizing ys with
  | nil => exact (List.eq_nil_of_length_eq_zero hl.symm).symm
  | cons z zs ih =>
    cases ys with
    | nil => simp at hl
    | cons y ys =>
      rw [rowB_cons, rowB_cons, List.append_assoc, List.append_assoc] at h
      have e2 := putN_inj (VL_prefix (putN_VL _) (putN_VL _) h)
      have e3 : z = y := by rw [← zag_zig z, e2, zag_zig]
      subst e3
      rw [ih (List.append_cancel_left h) (by simpa using hl)]
theorem TRow.unique {bs : List Int} {n : Nat} {zs ys : List Int} {a b : Nat} (h : TRow bs n zs a) (k : TRow bs n ys b) : zs = ys ∧ a = b := by
  obtain ⟨h1, -, h3, r, h4⟩ := h
  obtain ⟨k1, -, k3, s, k4⟩ := k
  have := row_same (h4.symm.trans k4) (by omega)
  subst this
  exact ⟨rfl, by omega⟩
theorem TRow.no {bs : List Int} {j n : Nat} {zs : List Int} {a : Nat} (h : TRow bs j zs a) (hn : TakeNo (bs.drop a)) (hj : j < n) : TRowNo bs n := by
  intro ys b k
  obtain ⟨h1, h2, h3, r, h4⟩ := h
  obtain ⟨k1, k2, k3, s, k4⟩ := k
  obtain ⟨y, t, e1, e2⟩ := row_split h2 k2 (h4.symm.trans k4) (by omega)
  refine hn (zigI y) (putN (zigI y)).length ⟨zig_lt (k2 y (by rw [e1]; simp)), rfl, rowB t ++ s, ?_⟩
  rw [h3, h4, List.drop_left, e2]
theorem trow_long {bs : List Int} {n : Nat} (h : bs.length < n) : TRowNo bs n := fun zs a k => by
  have := k.le
  have := k.rest
  omega
/-- a row of int64 made here -/
def OwnZ (w : World) (base : Nat) (v : Value) (zs : List Int) : Prop := w.ownsRow base 2 1 v zs.length (zs.map (Value.int .i64))
theorem OwnZ.ints {w : World} {base : Nat} {v : Value} {zs : List Int} (h : OwnZ w base v zs) : IntsAt w v zs := IntsAt.of_own h rfl
theorem OwnZ.kept {w w' : World} {base : Nat} {v : Value} {zs : List Int} (h : OwnZ w base v zs) (hb : Below w.heap.size w w') : OwnZ w' base v zs := World.ownsRow.kept h (below_gr (row := none) hb) (by cases v.ownBlock <;> simp)
theorem OwnZ.lt {w : World} {base : Nat} {v : Value} {zs : List Int} (h : OwnZ w base v zs) : ∀ k, v.ownBlock = some k → base ≤ k ∧ k < w.heap.size := World.ownsRow.lt h
def TRowRes (w : World) (bs : List Int) (n : Nat) (e : Ending) (w' : World) : Prop :=
  ((∃ zs a v, TRow bs n zs a ∧ e = .returned (.tuple #[v, .int .i64 (a : Int), .int .i64 0]) ∧ OwnZ w' w.heap.size v zs) ∨ (TRowNo bs n ∧ e = .returned (.tuple #[.slice none 0 0, .int .i64 0, .int .i64 8]))) ∧ Below w.heap.size w w'
/-- the part of a slice from one place on -/
theorem BytesAt.from_ {w : World} {g off n cap : Nat} {bs : List Int} (h : BytesAt w (.slice (some ⟨g, off, none⟩) n cap) bs) (a : Nat) (ha : a ≤ n) (k : Nat) (hk : a < cap → k = off + a) (hk2 : a = cap → k = off) : BytesAt w (.slice (some ⟨g, k, none⟩) (n - a) (cap - a)) (bs.drop a) := by
  obtain ⟨ao2, cap2, e, h1, h2, h3⟩ := h
  simp only [Value.slice.injEq] at e
  obtain ⟨rfl, rfl, rfl⟩ := e
  refine ⟨_, cap - a, by rw [List.length_drop], by rw [List.length_drop]; omega, by omega, ?_⟩
  rcases h3 with ⟨rfl, h3⟩ | ⟨g2, off2, e2, hg, hcc⟩
  · cases h3
  · have e2 := Option.some.inj e2
    cases e2
    refine .inr ⟨g, k, rfl, hg, fun i u hu => ?_⟩
    rw [List.getElem?_drop] at hu
    have hlt := (List.getElem?_eq_some_iff.1 hu).1
    rw [hk (by omega), Nat.add_assoc]
    exact hcc (a + i) u hu
set_option maxRecDepth 100000 in
set_option maxHeartbeats 8000000 in
theorem takerow_any (w : World) (v : Value) (bs : List Int) (n : Nat) (hv : BytesAt w v bs) (hb : Byts bs) (hl : bs.length ≤ 100000) (hn : n ≤ 100000) :
    Calls Tryz.prog 37 #[v, .int .i64 (n : Int)] w (TRowRes w bs n) := by
  obtain ⟨i0', hi, hz0, hz1, hz2⟩ := info_parts Tryz.info64
  have HV := Lib.hid hv
  have HB := Lib.hid hb
  obtain ⟨ao, cap, rfl, hcap, hmx, hc⟩ := hv
  obtain ⟨m, hm⟩ : ∃ m, m = bs.length := ⟨_, rfl⟩
  have HM := Lib.hid hm
  rw [← hm] at hcap hl ⊢
  clear hm hc hb
  by_cases hlong : m < n
  · have d1 : decide ((m : Int) < (n : Int)) = true := decide_eq_true (by omega)
    have d1' : decide (m < n) = true := decide_eq_true hlong
    have d2 : decide ((n : Int) < 0) = false := decide_eq_false (by omega)
    have HP : Hid (TRowNo bs n) := Lib.hid (trow_long (by rw [← HM.out]; exact hlong))
    clear hlong
    go_enter Tryz.func37, Tryz.ntmps37
    go_wp2
    go_ret3
    exact ⟨.inr ⟨HP.out, rfl⟩, Below.refl _ _⟩
  · have d1 : decide ((m : Int) < (n : Int)) = false := decide_eq_false (by omega)
    have d1' : decide (m < n) = false := decide_eq_false hlong
    have d2 : decide ((n : Int) < 0) = false := decide_eq_false (by omega)
    go_enter Tryz.func37, Tryz.ntmps37
    go_wp2_with (at_make; refine wpList_make_own _ rfl _ _ 62 rfl w.heap.size 2 i0' (.int .i64 0) 1 Tryz.underlying62 hi hz0 hz1 .i64 .i64 _ n rfl rfl rfl (by rw [hz2]; omega) (by unfold maxLen; omega) (Nat.le_refl _) ?_)
    intro w2 ho2 hg2
    have HO2 : Hid (OwnZ w2 w.heap.size (.slice (some ⟨w.heap.size, 0, none⟩) 0 n) []) := Lib.hid ho2
    have HB2 : Hid (Below w.heap.size w w2) := Lib.hid ((Below.refl _ _).grown hg2 (Nat.le_refl _) (fun k e => by cases e))
    clear ho2 hg2
    go_wp2_with fail
    go_loopw [7, 8, 23] (fun x y i wr => ∃ (j a : Nat) (zs : List Int), j ≤ n ∧ i = .int .i64 (j : Int) ∧ y = .int .i64 (a : Int) ∧ TRow bs j zs a ∧ OwnZ wr w.heap.size x zs ∧ Below w.heap.size w wr) (fun _ _ i _ => n - (intOf i).toNat)
    case atStart => exact ⟨0, 0, [], by omega, rfl, rfl, TRow.zero _, HO2.out, HB2.out⟩
    case round =>
      obtain ⟨j, a, zs, hj, rfl, rfl, htr, ho, hbel⟩ := hrel
      have HTR := Lib.hid htr
      have HO := Lib.hid ho
      have HBL := Lib.hid hbel
      have ha := htr.rest.2
      have ha10 := htr.le.2
      have hzl : zs.length ≤ 100000 := by have := htr.1; omega
      have HZL := Lib.hid hzl
      rw [← HM.out] at ha
      have hsz := hbel.size
      clear htr ho hbel hzl HO2 HB2
      by_cases hlt : j < n
      · obtain ⟨g, off, rfl, hg, -⟩ := HV.out.cell (j := 0) (by have := HM.out; omega)
        have i0 : (0 : Int) ≤ (a : Int) := by omega
        have i1 : (a : Int) ≤ (m : Int) := by omega
        have HVR := Lib.hid (HV.out.kept HBL.out)
        have HVF := Lib.hid (fun k h1 h2 => HVR.out.from_ a (by rw [← HM.out]; exact ha) k h1 h2)
        have HDB := Lib.hid (HB.out.drop a)
        have HDL : Hid ((bs.drop a).length ≤ 100000) := Lib.hid (by rw [List.length_drop, ← HM.out]; omega)
        have HNX := Lib.hid (fun u k h => HTR.out.next (u := u) (m := k) h)
        have HNO := Lib.hid (fun h => HTR.out.no h hlt)
        rw [← HM.out] at HVF
        clear hg
        by_cases hk : a < cap
        all_goals
          have PT : Hid (∀ k, (if a < cap then off + a else off) = k → Calls Tryz.prog 60 #[.slice (some ⟨g, k, none⟩) (m - a) (cap - a)] wr fun e w' => TakeRes (bs.drop a) e ∧ wr = w') := Lib.hid (fun k hk2 => take_any wr _ _ (HVF.out k (fun h => by rw [← hk2, if_pos h]) (fun h => by rw [← hk2, if_neg (by omega)])) HDB.out HDL.out)
          first | have PT := Lib.hid (PT.out (off + a) (if_pos hk)) | have PT := Lib.hid (PT.out off (if_neg hk))
          go_wp2_with fail
          with_reducible refine PT.out.mono ?_
          rintro e w5 ⟨hres, hw5⟩
          subst hw5
          rcases hres with ⟨u, k, hts, rfl⟩ | ⟨hno, rfl⟩
          · have HTS := Lib.hid (HNX.out _ _ hts)
            have hu := hts.1
            have hk10 : a + k ≤ 10000000 := by have := HTS.out.le.2; omega
            have PZ := Lib.hid (fun w => zag_any u w hu)
            have e3 : IntKind.i64.wrap ((a : Int) + (k : Int)) = ((a + k : Nat) : Int) := by rw [wrapI_eq64]; unfold wrap64; omega
            generalize zagI u = z at *
            have hc1 : zs.length + 1 ≤ maxLen := by have := HZL.out; unfold maxLen; omega
            have hc4 : (zs.length + 1) * 8 ≤ 140737488355328 := by have := HZL.out; omega
            clear hts hu
            go_wp2_with fail
            with_reducible refine (PZ.out _).mono ?_
            rintro e w6 ⟨rfl, hw6⟩
            subst hw6
            go_wp2_with (at_builtin; refine wpList_append_own_at _ rfl _ _ 62 rfl w.heap.size 2 i0' (.int .i64 0) 1 8 Tryz.underlying62 hi hz0 hz1 hz2 rfl (by decide) _ zs.length _ rfl (World.ownsRow.alloc HO.out _) ⟨wr.heap.size, 0, none⟩ 1 1 [.int .i64 z] rfl rfl (cell_one_new _ _ _) ?c2 hc1 hc4 ?c5 ?_)
            case c2 => simp [Value.oneCell']
            case c5 => simp; omega
            intro v8 w8 hown' hgrow hnil' hq9
            have HO8 : Hid (OwnZ w8 w.heap.size v8 (zs ++ [z])) := Lib.hid (by unfold OwnZ; rw [show (zs ++ [z]).length = zs.length + 1 by simp only [List.length_append, List.length_singleton]]; simpa using hown')
            have HB8 : Hid (Below w.heap.size w w8) := Lib.hid ((HBL.out.alloc HBL.out.size _).grown hgrow (by simp; omega) (fun k e => (HO.out.lt k e).1))
            clear hown' hgrow hnil' hq9
            go_wp2
            go_roundw
            case rel => exact ⟨j + 1, a + k, zs ++ [z], by omega, by go_num, by first | rfl | rw [e3] | go_num, HTS.out, HO8.out, HB8.out⟩
            case measure => simp [intOf]; omega
          · have HNR := Lib.hid (HNO.out hno)
            clear hno
            go_wp2
            go_ret3
            exact ⟨.inr ⟨HNR.out, rfl⟩, HBL.out⟩
      · obtain rfl : j = n := by omega
        clear hlt
        go_wp2
        go_ret3
        exact ⟨.inl ⟨zs, a, _, HTR.out, rfl, HO.out⟩, HBL.out⟩
end Go.Proofs.YtbghchgmoiniiaaGreat

/-
  The walks of wire.cells and wire.Size. Conditions: none beyond those stated at each theorem.
-/
namespace Go.Proofs.YtbghchgmoiniiaaGreat
open Go.RowKit
set_option linter.unusedVariables false
set_option linter.unusedSimpArgs false

/-- how many cells the levels below one have -/
def sizeUp (b r d m : Int) : Nat → Nat
  | 0 => 0
  | j + 1 => sizeUp b r d m j + cellsN b r d m (j : Int)
def sizeN (b r d m : Int) : Nat := if rightB b r d m = true then sizeUp b r d m (b.toNat + 1) else 0
theorem sizeUp_le {b r d m : Int} (hr : rightB b r d m = true) (j : Nat) : sizeUp b r d m j ≤ 1024 * j := by
  induction j with
  | zero => simp [sizeUp]
  | succ j ih => rw [sizeUp]; have := cellsN_le (l := (j : Int)) hr; omega
theorem sizeN_le (b r d m : Int) : sizeN b r d m ≤ 61440 := by
  unfold sizeN
  split
  · rename_i h
    have := sizeUp_le h (b.toNat + 1)
    have := right_of h
    omega
  · omega
set_option maxRecDepth 100000 in
set_option maxHeartbeats 4000000 in
theorem wcells_any (b r d m s l : Int) (hr : rightB b r d m = true) (w : World) :
    Calls Tryz.prog 30 #[.agg #[.int .i64 b, .int .i64 r, .int .i64 d, .int .i64 m, .int .u64 s], .int .i64 l] w fun e w' => e = .returned (.int .i64 (cellsN b r d m l : Int)) ∧ Below w.heap.size w w' := by
  have PE := fun w => exact_any b r d m s l w
  have PK := Lib.hid (fun w => keys_any b r d m s l w)
  have hR := right_of hr
  have hkb := keysI_bd b r d m l
  obtain ⟨g1, hb1, hsz1⟩ := news1 w (.cells #[.int .i64 b, .int .i64 r, .int .i64 d, .int .i64 m, .int .u64 s] 24)
  have hx1 : Blk _ w.heap.size 24 #[.int .i64 b, .int .i64 r, .int .i64 d, .int .i64 m, .int .u64 s] := g1
  have HB1 := Lib.hid hb1
  have HX1 := Lib.hid hx1
  clear g1 hb1 hsz1
  cases he : exactB b r d m l
  · rw [he] at PE
    have PE := Lib.hid PE
    obtain ⟨n, hn⟩ : ∃ n, n = cellsN b r d m l := ⟨_, rfl⟩
    have HCN : Hid (n = r.toNat * d.toNat) := Lib.hid (by rw [hn]; unfold cellsN; rw [he]; simp)
    rw [← hn]
    have hp : (r.toNat : Int) * (d.toNat : Int) = (n : Int) := by rw [HCN.out]; exact (Int.natCast_mul ..).symm
    rw [show (r.toNat : Int) = r by omega, show (d.toNat : Int) = d by omega] at hp
    have hle : n ≤ 1024 := by rw [HCN.out]; exact Nat.mul_le_mul (show r.toNat ≤ 8 by omega) (show d.toNat ≤ 128 by omega)
    have hw : IntKind.i64.wrap (n : Int) = (n : Int) := by rw [wrapI_eq64]; unfold wrap64; omega
    clear he hr hn hR hkb
    go_enter Tryz.func30, Tryz.ntmps30
    go_wp2_with (refine wpList_load_row rfl 24 _ rfl w.heap.size rfl 24 _ (0, 0) _ hx1 Tryz.underlying24 rfl (by kernel_rfl) ?_)
    with_reducible refine (PE.out _).mono ?_
    rintro e w2 ⟨rfl, hb⟩
    have HB2 := Lib.hid (btr HB1.out hb)
    have hx2 := HX1.out.kept hb
    have q1 := hx2.cell 1
    have q2 := hx2.cell 2
    simp at q1 q2
    clear hb hx1 hx2
    go_wp2
    go_ret
    exact ⟨congrArg (fun z => Ending.returned (.int .i64 z)) (by omega), HB2.out⟩
  · rw [he] at PE
    have PE := Lib.hid PE
    obtain ⟨n, hn⟩ : ∃ n, n = cellsN b r d m l := ⟨_, rfl⟩
    have HCN : Hid (keysI b r d m l = (n : Int)) := Lib.hid (by rw [hn]; unfold cellsN; rw [he]; simp; omega)
    rw [← hn]
    have hkd := of_decide_eq_true he
    rw [HCN.out] at PK hkd
    have hw : IntKind.i64.wrap (n : Int) = (n : Int) := by rw [wrapI_eq64]; unfold wrap64; omega
    clear he hr hn hR hkb hkd
    go_enter Tryz.func30, Tryz.ntmps30
    go_wp2_with (refine wpList_load_row rfl 24 _ rfl w.heap.size rfl 24 _ (0, 0) _ hx1 Tryz.underlying24 rfl (by kernel_rfl) ?_)
    with_reducible refine (PE.out _).mono ?_
    rintro e w2 ⟨rfl, hb⟩
    have HB2 := Lib.hid (btr HB1.out hb)
    have HX2 := Lib.hid (HX1.out.kept hb)
    clear hb hx1
    go_wp2_with (refine wpList_load_row rfl 24 _ rfl w.heap.size rfl 24 _ (0, 0) _ HX2.out Tryz.underlying24 rfl (by kernel_rfl) ?_)
    with_reducible refine (PK.out _).mono ?_
    rintro e w3 ⟨rfl, hb⟩
    have HB3 := Lib.hid (btr HB2.out hb)
    clear hb
    go_wp2
    go_ret
    exact ⟨rfl, HB3.out⟩
set_option maxRecDepth 100000 in
set_option maxHeartbeats 4000000 in
theorem wsize_any (b r d m s : Int) (w : World) :
    Calls Tryz.prog 10 #[.agg #[.int .i64 b, .int .i64 r, .int .i64 d, .int .i64 m, .int .u64 s]] w fun e w' => e = .returned (.int .i64 (sizeN b r d m : Int)) ∧ Below w.heap.size w w' := by
  have PR := fun w => right_any b r d m s w
  obtain ⟨g1, hb1, hsz1⟩ := news1 w (.cells #[.int .i64 b, .int .i64 r, .int .i64 d, .int .i64 m, .int .u64 s] 24)
  have hx1 : Blk _ w.heap.size 24 #[.int .i64 b, .int .i64 r, .int .i64 d, .int .i64 m, .int .u64 s] := g1
  have HB1 := Lib.hid hb1
  have HX1 := Lib.hid hx1
  clear g1 hb1 hsz1
  cases hr : rightB b r d m
  · rw [hr] at PR
    have PR := Lib.hid PR
    have HN : Hid (sizeN b r d m = 0) := Lib.hid (by unfold sizeN; rw [hr]; rfl)
    rw [HN.out]
    clear hr
    go_enter Tryz.func10, Tryz.ntmps10
    go_wp2_with (refine wpList_load_row rfl 24 _ rfl w.heap.size rfl 24 _ (0, 0) _ hx1 Tryz.underlying24 rfl (by kernel_rfl) ?_)
    with_reducible refine (PR.out _).mono ?_
    rintro e w2 ⟨rfl, hb⟩
    have HB2 := Lib.hid (btr HB1.out hb)
    clear hb
    go_wp2
    go_ret
    exact ⟨rfl, HB2.out⟩
  · rw [hr] at PR
    have PR := Lib.hid PR
    have PC := Lib.hid (fun (j : Nat) w => wcells_any b r d m s (j : Int) hr w)
    have hR := right_of hr
    obtain ⟨n, hn⟩ : ∃ n : Nat, b = (n : Int) := ⟨b.toNat, by omega⟩
    subst hn
    have HN : Hid (sizeN (n : Int) r d m = sizeUp (n : Int) r d m (n + 1)) := Lib.hid (by unfold sizeN; rw [if_pos hr]; rfl)
    have HLE := Lib.hid (fun j => sizeUp_le hr j)
    have HCL := Lib.hid (fun (j : Nat) => cellsN_le (l := (j : Int)) hr)
    rw [HN.out]
    have hn59 : n ≤ 59 := by omega
    clear hr hR
    go_enter Tryz.func10, Tryz.ntmps10
    go_wp2_with (refine wpList_load_row rfl 24 _ rfl w.heap.size rfl 24 _ (0, 0) _ hx1 Tryz.underlying24 rfl (by kernel_rfl) ?_)
    with_reducible refine (PR.out _).mono ?_
    rintro e w2 ⟨rfl, hb⟩
    have HB2 := Lib.hid (btr HB1.out hb)
    have HX2 := Lib.hid (HX1.out.kept hb)
    have q0 := HX2.out.cell 0
    simp at q0
    clear hb hx1
    go_wp2_with fail
    clear q0
    go_loopw [3, 11] (fun y i wr => ∃ j : Nat, j ≤ n + 1 ∧ i = .int .i64 (j : Int) ∧ y = .int .i64 (sizeUp (n : Int) r d m j : Int) ∧ Blk wr w.heap.size 24 #[.int .i64 (n : Int), .int .i64 r, .int .i64 d, .int .i64 m, .int .u64 s] ∧ Below w.heap.size w wr) (fun _ i _ => n + 1 - (intOf i).toNat)
    case atStart => exact ⟨0, by omega, rfl, rfl, HX2.out, HB2.out⟩
    case round =>
      obtain ⟨j, hj, rfl, rfl, hx, hbel⟩ := hrel
      have HX := Lib.hid hx
      have HBL := Lib.hid hbel
      clear hx hbel HX2 HB2
      by_cases hlt : j < n + 1
      · have PC2 := Lib.hid (PC.out j)
        have HSU : Hid (sizeUp (n : Int) r d m (j + 1) = sizeUp (n : Int) r d m j + cellsN (n : Int) r d m (j : Int)) := Lib.hid rfl
        have hc := HCL.out j
        have hz := HLE.out j
        generalize cellsN (n : Int) r d m (j : Int) = cn at *
        generalize sizeUp (n : Int) r d m j = su at *
        go_wp2_with (refine wpList_load_row rfl 24 _ rfl w.heap.size rfl 24 _ (0, 0) _ HX.out Tryz.underlying24 rfl (by kernel_rfl) ?_)
        with_reducible refine (PC2.out _).mono ?_
        rintro e w3 ⟨rfl, hb⟩
        have HX3 := Lib.hid (HX.out.kept hb)
        have HB3 := Lib.hid (btr HBL.out hb)
        clear hb
        go_wp2
        go_roundw
        case rel => exact ⟨j + 1, by omega, by go_num, by rw [HSU.out]; go_num, HX3.out, HB3.out⟩
        case measure => simp [intOf]; omega
      · obtain rfl : j = n + 1 := by omega
        have i1 : ¬ (((n + 1 : Nat) : Int) < (n : Int) + 1) := by omega
        clear hlt
        go_wp2
        go_ret
        exact ⟨rfl, HBL.out⟩
end Go.Proofs.YtbghchgmoiniiaaGreat

/-
  Plain: which bytes are a stack. Conditions: none beyond those stated at each theorem.
-/
namespace Go.Proofs.YtbghchgmoiniiaaGreat
open Go.RowKit
set_option linter.unusedVariables false
set_option linter.unusedSimpArgs false

theorem putN_head {u v : Nat} {r s : List Int} (h : putN u ++ r = putN v ++ s) : u = v ∧ r = s := by
  have e := VL_prefix (putN_VL u) (putN_VL v) h
  have e2 := putN_inj e
  subst e2
  exact ⟨rfl, List.append_cancel_left h⟩
/-- what bytes tell, the lowest one first -/
def leV : List Int → Int
  | [] => 0
  | x :: l => x + 256 * leV l
theorem leV_bd {l : List Int} (h : Byts l) : 0 ≤ leV l ∧ leV l < 256 ^ l.length := by
  induction l with
  | nil => exact ⟨by simp [leV], by simp [leV]⟩
  | cons x l ih =>
    have hx := h x (by simp)
    obtain ⟨h1, h2⟩ := ih (fun u hu => h u (by simp [hu]))
    rw [leV, List.length_cons, Int.pow_succ]
    exact ⟨by omega, by omega⟩
theorem leV_append (l : List Int) (x : Int) : leV (l ++ [x]) = leV l + 256 ^ l.length * x := by
  induction l with
  | nil => simp [leV]
  | cons y l ih =>
    rw [List.cons_append, leV, ih, leV, List.length_cons, Int.pow_succ, Int.mul_add, Int.mul_comm (256 ^ l.length) 256, Int.mul_assoc]
    omega
theorem leB_cons (u : Int) (n : Nat) : leB u (n + 1) = (u % 256) :: leB (u / 256) n := by
  unfold leB
  rw [List.range_succ_eq_map, List.map_cons, List.map_map]
  congr 1
  · simp
  · apply List.map_congr_left
    intro i _
    simp only [Function.comp_apply, Nat.succ_eq_add_one]
    rw [Int.pow_succ, Int.mul_comm (256 ^ i) 256, ← Int.ediv_ediv_of_nonneg (by decide)]
theorem leB_leV {l : List Int} (h : Byts l) : leB (leV l) l.length = l := by
  induction l with
  | nil => rfl
  | cons x l ih =>
    have hx := h x (by simp)
    have e1 : (x + 256 * leV l) % 256 = x := by omega
    have e2 : (x + 256 * leV l) / 256 = leV l := by omega
    rw [List.length_cons, leV, leB_cons, e1, e2, ih (fun u hu => h u (by simp [hu]))]
theorem leV_leB (n : Nat) (u : Int) (h0 : 0 ≤ u) (h1 : u < 256 ^ n) : leV (leB u n) = u := by
  induction n generalizing u with
  | zero => simp [leB, leV] at h1 ⊢; omega
  | succ n ih =>
    rw [leB_cons, leV, ih (u / 256) (by omega) (by rw [Int.pow_succ] at h1; omega)]
    omega
theorem leB_head {s t : Int} {n : Nat} {r q : List Int} (hs : 0 ≤ s) (ht : 0 ≤ t) (hs1 : s < 256 ^ n) (ht1 : t < 256 ^ n) (h : leB s n ++ r = leB t n ++ q) : s = t ∧ r = q := by
  have e := List.append_inj h (by rw [leB_len, leB_len])
  refine ⟨?_, e.2⟩
  rw [← leV_leB n s hs hs1, e.1, leV_leB n t ht ht1]
theorem p256 : (256 : Int) ^ 8 = 18446744073709551616 := by decide
/-- bytes begin with a right config -/
def CfgS (bs : List Int) (b r d m s : Int) (rest : List Int) : Prop :=
  rightB b r d m = true ∧ 0 ≤ s ∧ s < 18446744073709551616 ∧ bs = putN b.toNat ++ (putN r.toNat ++ (putN d.toNat ++ (putN m.toNat ++ (leB s 8 ++ rest))))
theorem CfgS.unique {bs : List Int} {b r d m s b' r' d' m' s' : Int} {q q' : List Int} (h : CfgS bs b r d m s q) (k : CfgS bs b' r' d' m' s' q') : b = b' ∧ r = r' ∧ d = d' ∧ m = m' ∧ s = s' ∧ q = q' := by
  obtain ⟨h1, h2, h3, h4⟩ := h
  obtain ⟨k1, k2, k3, k4⟩ := k
  have hr := right_of h1
  have kr := right_of k1
  rw [h4] at k4
  obtain ⟨e1, k4⟩ := putN_head k4
  obtain ⟨e2, k4⟩ := putN_head k4
  obtain ⟨e3, k4⟩ := putN_head k4
  obtain ⟨e4, k4⟩ := putN_head k4
  obtain ⟨e5, e6⟩ := leB_head h2 k2 (by rw [p256]; exact h3) (by rw [p256]; exact k3) k4
  exact ⟨by omega, by omega, by omega, by omega, e5, e6⟩
/-- the bytes of the levels below one -/
def rowsB (Z : Nat → List Int) : Nat → List Int
  | 0 => []
  | j + 1 => rowsB Z j ++ rowB (Z j)
def allZ (Z : Nat → List Int) : Nat → List Int
  | 0 => []
  | j + 1 => allZ Z j ++ Z j
theorem rowsB_all (Z : Nat → List Int) (j : Nat) : rowsB Z j = rowB (allZ Z j) := by
  induction j with
  | zero => rfl
  | succ j ih => rw [rowsB, allZ, rowB_append, ih]
theorem rowsB_byts (Z : Nat → List Int) (j : Nat) : Byts (rowsB Z j) := by rw [rowsB_all]; exact rowB_byts _
theorem rowsB_congr {Z Y : Nat → List Int} {j : Nat} (h : ∀ n, n < j → Z n = Y n) : rowsB Z j = rowsB Y j := by
  induction j with
  | zero => rfl
  | succ j ih => rw [rowsB, rowsB, ih (fun n hn => h n (by omega)), h j (by omega)]
def Shaped (b r d m : Int) (Z : Nat → List Int) (j : Nat) : Prop := ∀ n, n < j → (Z n).length = cellsN b r d m (n : Int) ∧ Fit (Z n)
theorem allZ_len {b r d m : Int} {Z : Nat → List Int} {j : Nat} (h : Shaped b r d m Z j) : (allZ Z j).length = sizeUp b r d m j := by
  induction j with
  | zero => rfl
  | succ j ih => rw [allZ, sizeUp, List.length_append, ih (fun n hn => h n (by omega)), (h j (by omega)).1]
theorem allZ_fit {b r d m : Int} {Z : Nat → List Int} {j : Nat} (h : Shaped b r d m Z j) : Fit (allZ Z j) := by
  induction j with
  | zero => exact Fit.nil
  | succ j ih =>
    intro u hu
    rw [allZ] at hu
    rcases List.mem_append.1 hu with hu | hu
    · exact ih (fun n hn => h n (by omega)) u hu
    · exact (h j (by omega)).2 u hu
theorem rowsB_le {b r d m : Int} {Z : Nat → List Int} {j : Nat} (h : Shaped b r d m Z j) : sizeUp b r d m j ≤ (rowsB Z j).length ∧ (rowsB Z j).length ≤ 10 * sizeUp b r d m j := by
  rw [rowsB_all, ← allZ_len h]
  exact ⟨rowB_ge _, rowB_le _ (allZ_fit h)⟩
theorem rowsB_inj {b r d m : Int} {Z Y : Nat → List Int} {j : Nat} {p q : List Int} (hz : Shaped b r d m Z j) (hy : Shaped b r d m Y j) (h : rowsB Z j ++ p = rowsB Y j ++ q) : (∀ n, n < j → Z n = Y n) ∧ p = q := by
  induction j generalizing p q with
  | zero => exact ⟨fun n hn => by omega, by simpa [rowsB] using h⟩
  | succ j ih =>
    rw [rowsB, rowsB, List.append_assoc, List.append_assoc] at h
    obtain ⟨h1, h2⟩ := ih (fun n hn => hz n (by omega)) (fun n hn => hy n (by omega)) h
    have e := row_same h2 (by rw [(hz j (by omega)).1, (hy j (by omega)).1])
    refine ⟨fun n hn => ?_, ?_⟩
    · by_cases e2 : n = j
      · subst e2; exact e
      · exact h1 n (by omega)
    · rw [e] at h2; exact List.append_cancel_left h2
/-- what stands ahead of a stack's cells -/
def headB (b r d m s : Int) : List Int := [71, 65] ++ (putN b.toNat ++ (putN r.toNat ++ (putN d.toNat ++ (putN m.toNat ++ leB s 8))))
theorem headB_byts (b r d m s : Int) : Byts (headB b r d m s) := by
  unfold headB
  refine Byts.append (fun u hu => ?_) ((putN_byts _).append ((putN_byts _).append ((putN_byts _).append ((putN_byts _).append (leB_byts _ _)))))
  simp at hu
  omega
/-- the bytes of a stack -/
def encB (b r d m s : Int) (Z : Nat → List Int) : List Int := signB (headB b r d m s ++ rowsB Z (b.toNat + 1))
/-- bytes are a stack -/
def DecS (bs : List Int) (b r d m s : Int) (Z : Nat → List Int) : Prop :=
  rightB b r d m = true ∧ 0 ≤ s ∧ s < 18446744073709551616 ∧ Shaped b r d m Z (b.toNat + 1) ∧ bs = encB b r d m s Z
def DecNo (bs : List Int) : Prop := ∀ b r d m s Z, ¬ DecS bs b r d m s Z
theorem signB_inj {a c : List Int} (h : signB a = signB c) : a = c := (List.append_inj h (by have := congrArg List.length h; rw [signB_len, signB_len] at this; omega)).1
theorem headB_cfg (b r d m s : Int) (q : List Int) : headB b r d m s ++ q = [71, 65] ++ (putN b.toNat ++ (putN r.toNat ++ (putN d.toNat ++ (putN m.toNat ++ (leB s 8 ++ q))))) := by simp [headB]
theorem DecS.unique {bs : List Int} {b r d m s b' r' d' m' s' : Int} {Z Z' : Nat → List Int} (h : DecS bs b r d m s Z) (k : DecS bs b' r' d' m' s' Z') : b = b' ∧ r = r' ∧ d = d' ∧ m = m' ∧ s = s' ∧ ∀ n, n ≤ b.toNat → Z n = Z' n := by
  obtain ⟨h1, h2, h3, h4, h5⟩ := h
  obtain ⟨k1, k2, k3, k4, k5⟩ := k
  have e := signB_inj (h5.symm.trans k5)
  rw [headB_cfg, headB_cfg] at e
  have e := List.append_cancel_left e
  obtain ⟨rfl, rfl, rfl, rfl, rfl, e6⟩ := CfgS.unique (bs := putN b.toNat ++ (putN r.toNat ++ (putN d.toNat ++ (putN m.toNat ++ (leB s 8 ++ rowsB Z (b.toNat + 1)))))) ⟨h1, h2, h3, rfl⟩ ⟨k1, k2, k3, e⟩
  refine ⟨rfl, rfl, rfl, rfl, rfl, ?_⟩
  have := rowsB_inj (p := []) (q := []) h4 k4 (by rw [List.append_nil, List.append_nil]; exact e6)
  exact fun n hn => this.1 n (by omega)
/-- which error the bytes have that are none -/
def errOf (bs : List Int) : Int := if bs.length < 4 then 8 else if signB (bs.take (bs.length - 4)) = bs then 8 else 9
theorem dec_short {bs : List Int} (h : bs.length < 4) : DecNo bs := fun b r d m s Z k => by
  have := k.2.2.2.2
  rw [this, encB, signB_len] at h
  omega
theorem dec_own {bs : List Int} {b r d m s : Int} {Z : Nat → List Int} (k : DecS bs b r d m s Z) : bs.take (bs.length - 4) = headB b r d m s ++ rowsB Z (b.toNat + 1) ∧ signB (bs.take (bs.length - 4)) = bs := by
  have e := k.2.2.2.2
  have h1 : bs.take (bs.length - 4) = headB b r d m s ++ rowsB Z (b.toNat + 1) := by
    rw [e, encB, signB_len, Nat.add_sub_cancel, signB, List.take_left]
  exact ⟨h1, by rw [h1, e]; rfl⟩
theorem dec_sum {bs : List Int} (h : signB (bs.take (bs.length - 4)) ≠ bs) : DecNo bs := fun b r d m s Z k => h (dec_own k).2
theorem dec_mark {bs : List Int} (h : ∀ q, bs.take (bs.length - 4) ≠ [71, 65] ++ q) : DecNo bs := fun b r d m s Z k => by
  have := (dec_own k).1
  rw [headB_cfg] at this
  exact h _ this
theorem dec_cfg {bs q : List Int} (h : bs.take (bs.length - 4) = [71, 65] ++ q) (hn : ∀ b r d m s p, CfgS q b r d m s p → p.length < sizeN b r d m) : DecNo bs := fun b r d m s Z k => by
  have e := (dec_own k).1
  rw [headB_cfg, h] at e
  have := hn b r d m s _ ⟨k.1, k.2.1, k.2.2.1, List.append_cancel_left e⟩
  have h2 := (rowsB_le k.2.2.2.1).1
  unfold sizeN at this
  rw [if_pos k.1] at this
  omega
theorem dec_row {bs q p : List Int} {b r d m s : Int} {Z : Nat → List Int} {j : Nat} {t : List Int} (h : bs.take (bs.length - 4) = [71, 65] ++ q) (hc : CfgS q b r d m s p) (hj : j ≤ b.toNat) (hz : Shaped b r d m Z j) (hp : p = rowsB Z j ++ t) (hn : TRowNo t (cellsN b r d m (j : Int))) : DecNo bs := fun b' r' d' m' s' Z' k => by
  have e := (dec_own k).1
  rw [headB_cfg, h] at e
  obtain ⟨rfl, rfl, rfl, rfl, rfl, e6⟩ := CfgS.unique hc ⟨k.1, k.2.1, k.2.2.1, List.append_cancel_left e⟩
  have hk := k.2.2.2.1
  have hsplit : ∀ i, rowsB Z' (j + 1 + i) = rowsB Z' j ++ (rowB (Z' j) ++ rowsB (fun n => Z' (j + 1 + n)) i) := by
    intro i
    induction i with
    | zero => simp [rowsB]
    | succ i ih => rw [← Nat.add_assoc, rowsB, ih, rowsB]; simp
  have h2 := hsplit (b.toNat - j)
  rw [show j + 1 + (b.toNat - j) = b.toNat + 1 by omega, ← e6, hp] at h2
  obtain ⟨-, h3⟩ := rowsB_inj hz (fun n hn => hk n (by omega)) h2
  exact hn (Z' j) _ ⟨(hk j (by omega)).1, (hk j (by omega)).2, rfl, _, h3⟩
theorem dec_rest {bs q p : List Int} {b r d m s : Int} {Z : Nat → List Int} {t : List Int} (h : bs.take (bs.length - 4) = [71, 65] ++ q) (hc : CfgS q b r d m s p) (hz : Shaped b r d m Z (b.toNat + 1)) (hp : p = rowsB Z (b.toNat + 1) ++ t) (ht : t ≠ []) : DecNo bs := fun b' r' d' m' s' Z' k => by
  have e := (dec_own k).1
  rw [headB_cfg, h] at e
  obtain ⟨rfl, rfl, rfl, rfl, rfl, e6⟩ := CfgS.unique hc ⟨k.1, k.2.1, k.2.2.1, List.append_cancel_left e⟩
  rw [hp] at e6
  have := (rowsB_inj (p := t) (q := []) hz k.2.2.2.1 (by rw [List.append_nil]; exact e6)).2
  exact ht this
theorem dec_yes {bs q p : List Int} {b r d m s : Int} {Z : Nat → List Int} (h : bs.take (bs.length - 4) = [71, 65] ++ q) (hs : signB (bs.take (bs.length - 4)) = bs) (hc : CfgS q b r d m s p) (hz : Shaped b r d m Z (b.toNat + 1)) (hp : p = rowsB Z (b.toNat + 1)) : DecS bs b r d m s Z := by
  obtain ⟨h1, h2, h3, h4⟩ := hc
  refine ⟨h1, h2, h3, hz, ?_⟩
  rw [encB, ← hs, h, h4, hp, headB_cfg]
end Go.Proofs.YtbghchgmoiniiaaGreat

/-
  The walks of wire's reader: some, number. Conditions: none beyond those stated at each theorem.
-/
namespace Go.Proofs.YtbghchgmoiniiaaGreat
open Go.RowKit
set_option linter.unusedVariables false
set_option linter.unusedSimpArgs false

theorem BytesAt.gr {w w' : World} {v : Value} {bs : List Int} {R : Nat} (h : BytesAt w v bs) (hg : w.grownBy w' (some R)) (hne : ∀ g off n c, v = .slice (some ⟨g, off, none⟩) n c → g ≠ R) : BytesAt w' v bs := by
  obtain ⟨ao, cap, e, h1, h2, h3⟩ := h
  refine ⟨ao, cap, e, h1, h2, ?_⟩
  rcases h3 with h3 | ⟨g, off, e2, hgl, hc⟩
  · exact .inl h3
  · have hn := hne g off bs.length cap (by rw [e, e2])
    exact .inr ⟨g, off, e2, Nat.lt_of_lt_of_le hgl hg.size, fun i u hu => hg.cell (hc i u hu) (by simpa using hn)⟩
/-- block R is a reader that still has the bytes bs -/
def RdIs (w : World) (N R : Nat) (bs : List Int) : Prop :=
  ∃ g off cap, Blk w R 78 #[.slice (some ⟨g, off, none⟩) bs.length cap] ∧ BytesAt w (.slice (some ⟨g, off, none⟩) bs.length cap) bs ∧ g < N ∧ N ≤ R
theorem RdIs.kept {w w' : World} {N R : Nat} {bs : List Int} (h : RdIs w N R bs) (hb : Below w.heap.size w w') : RdIs w' N R bs := by
  obtain ⟨g, off, cap, h1, h2, h3⟩ := h
  exact ⟨g, off, cap, h1.kept hb, h2.kept hb, h3⟩
theorem RdIs.gr {w w' : World} {N R C : Nat} {bs : List Int} (h : RdIs w N R bs) (hg : w.grownBy w' (some C)) (hC : N ≤ C) (hne : R ≠ C) : RdIs w' N R bs := by
  obtain ⟨g, off, cap, h1, h2, h3, h4⟩ := h
  exact ⟨g, off, cap, h1.grown hg (by simpa using hne), h2.gr hg (fun g2 off2 n2 c2 e => by cases e; omega), h3, h4⟩
theorem RdIs.lt {w : World} {N R : Nat} {bs : List Int} (h : RdIs w N R bs) : R < w.heap.size := by
  obtain ⟨g, off, cap, h1, h2, h3⟩ := h
  exact h1.lt
/-- what wire panics with -/
def BadP (e : Ending) : Prop := e = .panicked [{ v := .iface 114 (.agg #[]), recovered := false }]
theorem BytesAt.upto {w : World} {g off n cap : Nat} {bs : List Int} (h : BytesAt w (.slice (some ⟨g, off, none⟩) n cap) bs) (a : Nat) (ha : a ≤ n) : BytesAt w (.slice (some ⟨g, off, none⟩) a a) (bs.take a) := by
  obtain ⟨ao2, cap2, e, h1, h2, h3⟩ := h
  simp only [Value.slice.injEq] at e
  obtain ⟨rfl, rfl, rfl⟩ := e
  have hl : (bs.take a).length = a := by simp; omega
  refine ⟨_, a, by rw [hl], by rw [hl]; omega, by omega, ?_⟩
  rcases h3 with ⟨rfl, h3⟩ | ⟨g2, off2, e2, hg, hcc⟩
  · cases h3
  · have e2 := Option.some.inj e2
    cases e2
    refine .inr ⟨g, off, rfl, hg, fun i u hu => ?_⟩
    rw [List.getElem?_take] at hu
    split at hu
    · exact hcc i u hu
    · cases hu
def SomePost (w : World) (N R : Nat) (bs : List Int) (n : Nat) (e : Ending) (w' : World) : Prop :=
  ∃ v, e = .returned v ∧ (∀ g off n c, v = .slice (some ⟨g, off, none⟩) n c → g < N) ∧ BytesAt w' v (bs.take n) ∧ RdIs w' N R (bs.drop n) ∧ w.grownBy w' (some R)
set_option maxRecDepth 100000 in
set_option maxHeartbeats 4000000 in
theorem some_no (w : World) (N R : Nat) (bs : List Int) (n : Nat) (h : RdIs w N R bs) (hn : bs.length < n) :
    Calls Tryz.prog 35 #[.pointer (some ⟨R, 0, none⟩), .int .i64 (n : Int)] w fun e w' => BadP e ∧ w = w' := by
  obtain ⟨g, off, cap, h1, h2, h3⟩ := h
  have c0 := h1.cell 0
  simp at c0
  obtain ⟨m, hm⟩ : ∃ m, m = bs.length := ⟨_, rfl⟩
  rw [← hm] at c0 hn
  have d1 : decide ((m : Int) < (n : Int)) = true := decide_eq_true (by omega)
  have d2 : decide (m < n) = true := decide_eq_true hn
  clear h1 h2 hm
  go_enter Tryz.func35, Tryz.ntmps35
  go_wp2_with fail
  exact ⟨rfl, rfl, rfl⟩
set_option maxRecDepth 100000 in
set_option maxHeartbeats 4000000 in
theorem some_yes (w : World) (N R : Nat) (bs : List Int) (n : Nat) (h : RdIs w N R bs) (hn : n ≤ bs.length) (hl : bs.length ≤ 100000) :
    Calls Tryz.prog 35 #[.pointer (some ⟨R, 0, none⟩), .int .i64 (n : Int)] w (SomePost w N R bs n) := by
  obtain ⟨g, off, cap, h1, h2, h3⟩ := h
  have c0 := h1.cell 0
  have f0 := h1.frozen 0
  simp at c0
  have HV := Lib.hid h2
  have HB := Lib.hid h1
  obtain ⟨m, hm⟩ : ∃ m, m = bs.length := ⟨_, rfl⟩
  have HM := Lib.hid hm
  have hcap : m ≤ cap := by
    obtain ⟨ao2, cap2, e, e1, e2, -⟩ := h2
    simp only [Value.slice.injEq] at e
    obtain ⟨-, -, rfl⟩ := e
    omega
  rw [← hm] at c0 hn hl
  have HUP := Lib.hid (HV.out.upto n (by rw [← HM.out]; exact hn))
  have HFR := Lib.hid (fun k h1 h2 => HV.out.from_ n (by rw [← HM.out]; exact hn) k h1 h2)
  have d1 : decide ((m : Int) < (n : Int)) = false := decide_eq_false (by omega)
  have d2 : decide (m < n) = false := decide_eq_false (by omega)
  have HDL : Hid ((bs.drop n).length = m - n) := Lib.hid (by rw [List.length_drop, HM.out])
  rw [← HM.out] at HFR
  clear h1 h2 hm
  by_cases hk : n < cap
  · have HFR := Lib.hid (HFR.out (off + n) (fun _ => rfl) (fun e => by omega))
    go_enter Tryz.func35, Tryz.ntmps35
    go_wp2_with fail
    go_ret
    refine ⟨_, rfl, fun g2 off2 n2 c2 e => by cases e; exact h3.1, HUP.out.gr (grown_set w R 0 _) (fun g2 off2 n2 c2 e => by cases e; omega), ⟨g, off + n, cap - n, ?_, ?_, h3⟩, grown_set _ _ _ _⟩
    · rw [HDL.out]
      have := HB.out.set_ 0 (.slice (some ⟨g, off + n, none⟩) (m - n) (cap - n))
      simpa using this
    · rw [HDL.out]
      exact HFR.out.gr (grown_set w R 0 _) (fun g2 off2 n2 c2 e => by cases e; omega)
  · obtain rfl : n = cap := by omega
    obtain rfl : m = n := by omega
    have HFK := Lib.hid (HFR.out off (fun e => by omega) (fun _ => rfl))
    rw [Nat.sub_self] at HFK HDL
    go_enter Tryz.func35, Tryz.ntmps35
    go_wp2_with fail
    go_ret
    refine ⟨_, rfl, fun g2 off2 n2 c2 e => by cases e; exact h3.1, HUP.out.gr (grown_set w R 0 _) (fun g2 off2 n2 c2 e => by cases e; omega), ⟨g, off, 0, ?_, ?_, h3⟩, grown_set _ _ _ _⟩
    · rw [HDL.out]
      have := HB.out.set_ 0 (.slice (some ⟨g, off, none⟩) 0 0)
      simpa using this
    · rw [HDL.out]
      exact HFK.out.gr (grown_set w R 0 _) (fun g2 off2 n2 c2 e => by cases e; omega)
def NumRes (w : World) (N R : Nat) (bs : List Int) (most : Nat) (e : Ending) (w' : World) : Prop :=
  (∃ u m, TakeS bs u m ∧ u ≤ most ∧ e = .returned (.int .i64 (u : Int)) ∧ RdIs w' N R (bs.drop m) ∧ w.grownBy w' (some R)) ∨ ((∀ u m, TakeS bs u m → most < u) ∧ BadP e ∧ w = w')
set_option maxRecDepth 100000 in
set_option maxHeartbeats 4000000 in
theorem number_any (w : World) (N R : Nat) (bs : List Int) (most : Nat) (h : RdIs w N R bs) (hb : Byts bs) (hm : most ≤ 1000000) (hl : bs.length ≤ 100000) :
    Calls Tryz.prog 59 #[.pointer (some ⟨R, 0, none⟩), .int .i64 (most : Int)] w (NumRes w N R bs most) := by
  have H := Lib.hid h
  have HL := Lib.hid hl
  obtain ⟨g, off, cap, h1, h2, h3⟩ := h
  have c0 := h1.cell 0
  simp at c0
  have PT := Lib.hid (take_any w _ bs h2 hb hl)
  obtain ⟨l, hll⟩ : ∃ l, l = bs.length := ⟨_, rfl⟩
  rw [← hll] at c0 PT
  clear h1 h2 hll hl hb
  go_enter Tryz.func59, Tryz.ntmps59
  go_wp2_with fail
  with_reducible refine PT.out.mono ?_
  rintro e w2 ⟨hres, hw2⟩
  subst hw2
  rcases hres with ⟨u, m, hts, rfl⟩ | ⟨hno, rfl⟩
  · have hml := hts.parts
    have HT := Lib.hid hts
    have hu64 := hml.1
    have hm10 : m ≤ 10 := hml.2.2.2.2.1
    have PS := Lib.hid (some_yes w N R bs m H.out hml.2.2.1 HL.out)
    clear hml hts PT
    by_cases hu : u ≤ most
    · have d1 : decide ((most : Int) < (u : Int)) = false := decide_eq_false (by omega)
      have d2 : decide (most < u) = false := decide_eq_false (by omega)
      go_wp2_with fail
      with_reducible refine PS.out.mono ?_
      rintro e w3 ⟨v, rfl, -, -, hrd, hg⟩
      have HRD := Lib.hid hrd
      have HG := Lib.hid hg
      clear hrd hg
      go_wp2
      go_ret
      exact .inl ⟨u, m, HT.out, hu, rfl, HRD.out, HG.out⟩
    · have d1 : decide ((most : Int) < (u : Int)) = true := decide_eq_true (by omega)
      have d2 : decide (most < u) = true := decide_eq_true (by omega)
      have HN : Hid (∀ u m, TakeS bs u m → most < u) := Lib.hid (fun u2 m2 h => by rw [← (HT.out.unique h).1]; omega)
      go_wp2_with fail
      exact ⟨rfl, .inr ⟨HN.out, rfl, rfl⟩⟩
  · have HN : Hid (∀ u m, TakeS bs u m → most < u) := Lib.hid (fun u2 m2 h => absurd h (hno u2 m2))
    clear hno PT
    go_wp2_with fail
    exact ⟨rfl, .inr ⟨HN.out, rfl, rfl⟩⟩
end Go.Proofs.YtbghchgmoiniiaaGreat

/-
  The walk of wire's reader: config. Conditions: none beyond those stated at each theorem.
-/
namespace Go.Proofs.YtbghchgmoiniiaaGreat
open Go.RowKit
set_option linter.unusedVariables false
set_option linter.unusedSimpArgs false

def NumRes2 (w : World) (N R : Nat) (bs : List Int) (most : Nat) (e : Ending) (w' : World) : Prop :=
  (∃ u r, bs = putN u ++ r ∧ u ≤ most ∧ e = .returned (.int .i64 (u : Int)) ∧ RdIs w' N R r ∧ w.grownBy w' (some R)) ∨ ((∀ u r, u ≤ most → bs ≠ putN u ++ r) ∧ BadP e ∧ w = w')
theorem number2 (w : World) (N R : Nat) (bs : List Int) (most : Nat) (h : RdIs w N R bs) (hb : Byts bs) (hm : most ≤ 1000000) (hl : bs.length ≤ 100000) :
    Calls Tryz.prog 59 #[.pointer (some ⟨R, 0, none⟩), .int .i64 (most : Int)] w (NumRes2 w N R bs most) := by
  refine (number_any w N R bs most h hb hm hl).mono ?_
  rintro e w' (⟨u, m, h1, h2, h3, h4, h5⟩ | ⟨h1, h2, h3⟩)
  · obtain ⟨k1, k2, r, k3⟩ := h1
    refine .inl ⟨u, r, k3, h2, h3, ?_, h5⟩
    rw [k3, k2, List.drop_left] at h4
    exact h4
  · refine .inr ⟨fun u r hu e => ?_, h2, h3⟩
    have := h1 u (putN u).length ⟨by omega, rfl, r, e⟩
    omega
def CfgRes (w : World) (N R : Nat) (bs : List Int) (e : Ending) (w' : World) : Prop :=
  (∃ b r d m s rest, CfgS bs b r d m s rest ∧ sizeN b r d m ≤ rest.length ∧ e = .returned (.agg #[.int .i64 b, .int .i64 r, .int .i64 d, .int .i64 m, .int .u64 s]) ∧ RdIs w' N R rest ∧ w.grownBy w' (some R)) ∨ ((∀ b r d m s rest, CfgS bs b r d m s rest → rest.length < sizeN b r d m) ∧ BadP e ∧ w.grownBy w' (some R))
def CfgNo (bs : List Int) : Prop := ∀ b r d m s rest, CfgS bs b r d m s rest → rest.length < sizeN b r d m
theorem Byts.tail {a b : List Int} (h : Byts (a ++ b)) : Byts b := fun u hu => h u (by simp [hu])
theorem cfg_no1 {bs : List Int} (h : ∀ u r, u ≤ 59 → bs ≠ putN u ++ r) : CfgNo bs := fun b r d m s rest k => by
  have := right_of k.1
  exact absurd k.2.2.2 (h _ _ (by omega))
theorem cfg_no2 {u1 : Nat} {q : List Int} (h : ∀ u r, u ≤ 8 → q ≠ putN u ++ r) : CfgNo (putN u1 ++ q) := fun b r d m s rest k => by
  have := right_of k.1
  obtain ⟨-, e⟩ := putN_head k.2.2.2
  exact absurd e (h _ _ (by omega))
theorem cfg_no3 {u1 u2 : Nat} {q : List Int} (h : ∀ u r, u ≤ 128 → q ≠ putN u ++ r) : CfgNo (putN u1 ++ (putN u2 ++ q)) := fun b r d m s rest k => by
  have := right_of k.1
  obtain ⟨-, e⟩ := putN_head k.2.2.2
  obtain ⟨-, e⟩ := putN_head e
  exact absurd e (h _ _ (by omega))
theorem cfg_no4 {u1 u2 u3 : Nat} {q : List Int} (h : ∀ u r, u ≤ 3 → q ≠ putN u ++ r) : CfgNo (putN u1 ++ (putN u2 ++ (putN u3 ++ q))) := fun b r d m s rest k => by
  have := right_of k.1
  obtain ⟨-, e⟩ := putN_head k.2.2.2
  obtain ⟨-, e⟩ := putN_head e
  obtain ⟨-, e⟩ := putN_head e
  exact absurd e (h _ _ (by omega))
theorem cfg_no5 {u1 u2 u3 u4 : Nat} {q : List Int} (h : q.length < 8) : CfgNo (putN u1 ++ (putN u2 ++ (putN u3 ++ (putN u4 ++ q)))) := fun b r d m s rest k => by
  obtain ⟨-, e⟩ := putN_head k.2.2.2
  obtain ⟨-, e⟩ := putN_head e
  obtain ⟨-, e⟩ := putN_head e
  obtain ⟨-, e⟩ := putN_head e
  rw [e, List.length_append, leB_len] at h
  omega
theorem cfg_in {u1 u2 u3 u4 : Nat} {q : List Int} (hq : Byts q) (h : 8 ≤ q.length) {b r d m s : Int} {rest : List Int} (k : CfgS (putN u1 ++ (putN u2 ++ (putN u3 ++ (putN u4 ++ q)))) b r d m s rest) : b = u1 ∧ r = u2 ∧ d = u3 ∧ m = u4 ∧ s = leV (q.take 8) ∧ rest = q.drop 8 := by
  have hr := right_of k.1
  obtain ⟨e1, e⟩ := putN_head k.2.2.2
  obtain ⟨e2, e⟩ := putN_head e
  obtain ⟨e3, e⟩ := putN_head e
  obtain ⟨e4, e⟩ := putN_head e
  have h5 : q.take 8 = leB s 8 := by rw [e, List.take_append_of_le_length (by rw [leB_len]; omega), List.take_of_length_le (by rw [leB_len]; omega)]
  have h6 : q.drop 8 = rest := by rw [e, List.drop_append_of_le_length (by rw [leB_len]; omega), List.drop_eq_nil_of_le (by rw [leB_len]; omega), List.nil_append]
  refine ⟨by omega, by omega, by omega, by omega, ?_, h6.symm⟩
  rw [h5, leV_leB 8 s k.2.1 (by rw [p256]; exact k.2.2.1)]
theorem cfg_of {u1 u2 u3 u4 : Nat} {q : List Int} (hq : Byts q) (h : 8 ≤ q.length) (hr : rightB u1 u2 u3 u4 = true) : CfgS (putN u1 ++ (putN u2 ++ (putN u3 ++ (putN u4 ++ q)))) u1 u2 u3 u4 (leV (q.take 8)) (q.drop 8) := by
  have hl : (q.take 8).length = 8 := by simp; omega
  have hb := leV_bd (hq.take 8)
  rw [hl, p256] at hb
  refine ⟨hr, hb.1, hb.2, ?_⟩
  have := leB_leV (hq.take 8)
  rw [hl] at this
  rw [this, List.take_append_drop]
  simp only [Int.toNat_natCast]
theorem seed_or {U x : Int} {j : Nat} (hj : j < 8) (hU : 0 ≤ U ∧ U < 256 ^ j) (hx : 0 ≤ x ∧ x ≤ 255) : bits BinOp.or IntKind.u64 U (IntKind.u64.wrap (x * 2 ^ (8 * (j : Int)).toNat)) = U + 256 ^ j * x := by
  have e1 : (8 * (j : Int)).toNat = 8 * j := by omega
  have e2 : (2 : Int) ^ (8 * j) = 256 ^ j := by rw [Int.pow_mul]; rfl
  have hm : (256 : Int) ^ j ≤ 256 ^ 7 := by
    rcases (show j = 0 ∨ j = 1 ∨ j = 2 ∨ j = 3 ∨ j = 4 ∨ j = 5 ∨ j = 6 ∨ j = 7 by omega) with rfl | rfl | rfl | rfl | rfl | rfl | rfl | rfl <;> decide
  have h7 : (256 : Int) ^ 7 = 72057594037927936 := by decide
  have hp : (0 : Int) < 256 ^ j := Int.pow_pos (by decide)
  have hb1 : (256 : Int) ^ j * x ≤ 72057594037927936 * 255 := Int.mul_le_mul (by omega) hx.2 hx.1 (by decide)
  have hb0 : 0 ≤ (256 : Int) ^ j * x := Int.mul_nonneg (by omega) hx.1
  rw [e1]
  have hw : IntKind.u64.wrap (x * 2 ^ (8 * j)) = x * 2 ^ (8 * j) := by rw [wrapU_mod, e2, Int.mul_comm]; omega
  rw [hw, or_at U x (8 * j) hU.1 (by rw [e2]; exact hU.2) hx.1 (by rw [e2]; omega) (by rw [e2]; omega), e2]
theorem cfg_one (b r d m s : Int) : (#[Value.int .i64 b, .int .i64 r, .int .i64 d, .int .i64 m, .int .u64 s] : Array Value).all (·.oneCell') = true := by simp [Value.oneCell']
set_option maxRecDepth 100000 in
set_option maxHeartbeats 8000000 in
theorem config_any (w : World) (N R : Nat) (bs : List Int) (h : RdIs w N R bs) (hb : Byts bs) (hl : bs.length ≤ 100000) :
    Calls Tryz.prog 36 #[.pointer (some ⟨R, 0, none⟩)] w (CfgRes w N R bs) := by
  have hRlt := h.lt
  have hNR : N ≤ R := by obtain ⟨g, off, cap, -, -, -, h4⟩ := h; exact h4
  obtain ⟨g1, g2, hb1, hsz1⟩ := news2 w (.cells #[.int .i64 0, .int .i64 0, .int .i64 0, .int .i64 0, .int .u64 0] 24) (.cells #[.int .i64 0, .int .i64 0, .int .i64 0, .int .i64 0, .int .u64 0] 24)
  have HR0 := Lib.hid (h.kept hb1)
  have HG0 : Hid (w.grownBy ((w.alloc (.cells #[.int .i64 0, .int .i64 0, .int .i64 0, .int .i64 0, .int .u64 0] 24)).alloc (.cells #[.int .i64 0, .int .i64 0, .int .i64 0, .int .i64 0, .int .u64 0] 24)) (some R)) := Lib.hid (below_gr hb1)
  have HX0 : Hid (Blk ((w.alloc (.cells #[.int .i64 0, .int .i64 0, .int .i64 0, .int .i64 0, .int .u64 0] 24)).alloc (.cells #[.int .i64 0, .int .i64 0, .int .i64 0, .int .i64 0, .int .u64 0] 24)) w.heap.size 24 #[.int .i64 0, .int .i64 0, .int .i64 0, .int .i64 0, .int .u64 0]) := Lib.hid g1
  have HC0 : Hid (Blk ((w.alloc (.cells #[.int .i64 0, .int .i64 0, .int .i64 0, .int .i64 0, .int .u64 0] 24)).alloc (.cells #[.int .i64 0, .int .i64 0, .int .i64 0, .int .i64 0, .int .u64 0] 24)) (w.heap.size + 1) 24 #[.int .i64 0, .int .i64 0, .int .i64 0, .int .i64 0, .int .u64 0]) := Lib.hid g2
  have HBY0 := Lib.hid hb
  have hl0 := hl
  clear h hb g1 g2 hb1 hsz1
  go_enter Tryz.func36, Tryz.ntmps36
  go_wp2_with fail
  generalize (w.alloc (.cells #[.int .i64 0, .int .i64 0, .int .i64 0, .int .i64 0, .int .u64 0] 24)).alloc (.cells #[.int .i64 0, .int .i64 0, .int .i64 0, .int .i64 0, .int .u64 0] 24) = w0 at *
  obtain ⟨q0, hq0⟩ : ∃ q, q = bs := ⟨_, rfl⟩
  subst hq0
  have PN1 : Hid (Calls Tryz.prog 59 #[.pointer (some ⟨R, 0, none⟩), .int .i64 59] w0 (NumRes2 w0 N R q0 59)) := Lib.hid (number2 w0 N R q0 59 HR0.out HBY0.out (by decide) hl0)
  with_reducible refine PN1.out.mono ?_
  rintro e v1 (⟨nn1, q1, rfl, hle1, rfl, hrd, hg⟩ | ⟨hno, hbad, hw⟩)
  rotate_left
  · have hbad2 : e = .panicked [{ v := .iface 114 (.agg #[]), recovered := false }] := hbad
    subst hbad2
    subst hw
    exact ⟨rfl, .inr ⟨cfg_no1 hno, rfl, HG0.out⟩⟩
  have HBY1 := Lib.hid HBY0.out.tail
  have hl1 : q1.length ≤ 100000 := by rw [List.length_append] at hl0; omega
  have HXa := Lib.hid (HX0.out.grown hg (by simp; omega))
  have HCa := Lib.hid (HC0.out.grown hg (by simp; omega))
  have HGa := Lib.hid (gr_trans HG0.out hg)
  have HRa := Lib.hid hrd
  have c1 := HCa.out.cell 0
  have f1 := HCa.out.frozen 0
  simp at c1
  clear hrd hg HX0 HC0 HG0 HR0 HBY0 PN1
  go_wp2_with fail
  have HC1 : Hid (Blk (v1.setCell ⟨w.heap.size + 1, 0, none⟩ (.int .i64 (nn1 : Int))) (w.heap.size + 1) 24 #[.int .i64 (nn1 : Int), .int .i64 0, .int .i64 0, .int .i64 0, .int .u64 0]) := Lib.hid (by simpa using HCa.out.set_ 0 (.int .i64 (nn1 : Int)))
  have HX1 := Lib.hid (HXa.out.far (p := ⟨w.heap.size + 1, 0, none⟩) (by simp) (.int .i64 (nn1 : Int)))
  have HR1 := Lib.hid (HRa.out.gr (grown_set v1 (w.heap.size + 1) 0 (.int .i64 (nn1 : Int))) (by omega) (by omega))
  have HG1 := Lib.hid (gr_new HGa.out (grown_set v1 (w.heap.size + 1) 0 (.int .i64 (nn1 : Int))) (.inr ⟨_, rfl, by omega⟩))
  clear HCa HXa HRa HGa c1 f1
  generalize v1.setCell ⟨w.heap.size + 1, 0, none⟩ (.int .i64 (nn1 : Int)) = w1 at *
  have PN2 : Hid (Calls Tryz.prog 59 #[.pointer (some ⟨R, 0, none⟩), .int .i64 8] w1 (NumRes2 w1 N R q1 8)) := Lib.hid (number2 w1 N R q1 8 HR1.out HBY1.out (by decide) hl1)
  with_reducible refine PN2.out.mono ?_
  rintro e v2 (⟨nn2, q2, rfl, hle2, rfl, hrd, hg⟩ | ⟨hno, hbad, hw⟩)
  rotate_left
  · have hbad2 : e = .panicked [{ v := .iface 114 (.agg #[]), recovered := false }] := hbad
    subst hbad2
    subst hw
    exact ⟨rfl, .inr ⟨cfg_no2 hno, rfl, HG1.out⟩⟩
  have HBY2 := Lib.hid HBY1.out.tail
  have hl2 : q2.length ≤ 100000 := by rw [List.length_append] at hl1; omega
  have HXa := Lib.hid (HX1.out.grown hg (by simp; omega))
  have HCa := Lib.hid (HC1.out.grown hg (by simp; omega))
  have HGa := Lib.hid (gr_trans HG1.out hg)
  have HRa := Lib.hid hrd
  have c2 := HCa.out.cell 1
  have f2 := HCa.out.frozen 1
  simp at c2
  clear hrd hg HX1 HC1 HG1 HR1 HBY1 PN2
  go_wp2_with fail
  have HC2 : Hid (Blk (v2.setCell ⟨w.heap.size + 1, 1, none⟩ (.int .i64 (nn2 : Int))) (w.heap.size + 1) 24 #[.int .i64 (nn1 : Int), .int .i64 (nn2 : Int), .int .i64 0, .int .i64 0, .int .u64 0]) := Lib.hid (by simpa using HCa.out.set_ 1 (.int .i64 (nn2 : Int)))
  have HX2 := Lib.hid (HXa.out.far (p := ⟨w.heap.size + 1, 1, none⟩) (by simp) (.int .i64 (nn2 : Int)))
  have HR2 := Lib.hid (HRa.out.gr (grown_set v2 (w.heap.size + 1) 1 (.int .i64 (nn2 : Int))) (by omega) (by omega))
  have HG2 := Lib.hid (gr_new HGa.out (grown_set v2 (w.heap.size + 1) 1 (.int .i64 (nn2 : Int))) (.inr ⟨_, rfl, by omega⟩))
  clear HCa HXa HRa HGa c2 f2
  generalize v2.setCell ⟨w.heap.size + 1, 1, none⟩ (.int .i64 (nn2 : Int)) = w2 at *
  have PN3 : Hid (Calls Tryz.prog 59 #[.pointer (some ⟨R, 0, none⟩), .int .i64 128] w2 (NumRes2 w2 N R q2 128)) := Lib.hid (number2 w2 N R q2 128 HR2.out HBY2.out (by decide) hl2)
  with_reducible refine PN3.out.mono ?_
  rintro e v3 (⟨nn3, q3, rfl, hle3, rfl, hrd, hg⟩ | ⟨hno, hbad, hw⟩)
  rotate_left
  · have hbad2 : e = .panicked [{ v := .iface 114 (.agg #[]), recovered := false }] := hbad
    subst hbad2
    subst hw
    exact ⟨rfl, .inr ⟨cfg_no3 hno, rfl, HG2.out⟩⟩
  have HBY3 := Lib.hid HBY2.out.tail
  have hl3 : q3.length ≤ 100000 := by rw [List.length_append] at hl2; omega
  have HXa := Lib.hid (HX2.out.grown hg (by simp; omega))
  have HCa := Lib.hid (HC2.out.grown hg (by simp; omega))
  have HGa := Lib.hid (gr_trans HG2.out hg)
  have HRa := Lib.hid hrd
  have c3 := HCa.out.cell 2
  have f3 := HCa.out.frozen 2
  simp at c3
  clear hrd hg HX2 HC2 HG2 HR2 HBY2 PN3
  go_wp2_with fail
  have HC3 : Hid (Blk (v3.setCell ⟨w.heap.size + 1, 2, none⟩ (.int .i64 (nn3 : Int))) (w.heap.size + 1) 24 #[.int .i64 (nn1 : Int), .int .i64 (nn2 : Int), .int .i64 (nn3 : Int), .int .i64 0, .int .u64 0]) := Lib.hid (by simpa using HCa.out.set_ 2 (.int .i64 (nn3 : Int)))
  have HX3 := Lib.hid (HXa.out.far (p := ⟨w.heap.size + 1, 2, none⟩) (by simp) (.int .i64 (nn3 : Int)))
  have HR3 := Lib.hid (HRa.out.gr (grown_set v3 (w.heap.size + 1) 2 (.int .i64 (nn3 : Int))) (by omega) (by omega))
  have HG3 := Lib.hid (gr_new HGa.out (grown_set v3 (w.heap.size + 1) 2 (.int .i64 (nn3 : Int))) (.inr ⟨_, rfl, by omega⟩))
  clear HCa HXa HRa HGa c3 f3
  generalize v3.setCell ⟨w.heap.size + 1, 2, none⟩ (.int .i64 (nn3 : Int)) = w3 at *
  have PN4 : Hid (Calls Tryz.prog 59 #[.pointer (some ⟨R, 0, none⟩), .int .i64 3] w3 (NumRes2 w3 N R q3 3)) := Lib.hid (number2 w3 N R q3 3 HR3.out HBY3.out (by decide) hl3)
  with_reducible refine PN4.out.mono ?_
  rintro e v4 (⟨nn4, q4, rfl, hle4, rfl, hrd, hg⟩ | ⟨hno, hbad, hw⟩)
  rotate_left
  · have hbad2 : e = .panicked [{ v := .iface 114 (.agg #[]), recovered := false }] := hbad
    subst hbad2
    subst hw
    exact ⟨rfl, .inr ⟨cfg_no4 hno, rfl, HG3.out⟩⟩
  have HBY4 := Lib.hid HBY3.out.tail
  have hl4 : q4.length ≤ 100000 := by rw [List.length_append] at hl3; omega
  have HXa := Lib.hid (HX3.out.grown hg (by simp; omega))
  have HCa := Lib.hid (HC3.out.grown hg (by simp; omega))
  have HGa := Lib.hid (gr_trans HG3.out hg)
  have HRa := Lib.hid hrd
  have c4 := HCa.out.cell 3
  have f4 := HCa.out.frozen 3
  simp at c4
  clear hrd hg HX3 HC3 HG3 HR3 HBY3 PN4
  go_wp2_with fail
  have HC4 : Hid (Blk (v4.setCell ⟨w.heap.size + 1, 3, none⟩ (.int .i64 (nn4 : Int))) (w.heap.size + 1) 24 #[.int .i64 (nn1 : Int), .int .i64 (nn2 : Int), .int .i64 (nn3 : Int), .int .i64 (nn4 : Int), .int .u64 0]) := Lib.hid (by simpa using HCa.out.set_ 3 (.int .i64 (nn4 : Int)))
  have HX4 := Lib.hid (HXa.out.far (p := ⟨w.heap.size + 1, 3, none⟩) (by simp) (.int .i64 (nn4 : Int)))
  have HR4 := Lib.hid (HRa.out.gr (grown_set v4 (w.heap.size + 1) 3 (.int .i64 (nn4 : Int))) (by omega) (by omega))
  have HG4 := Lib.hid (gr_new HGa.out (grown_set v4 (w.heap.size + 1) 3 (.int .i64 (nn4 : Int))) (.inr ⟨_, rfl, by omega⟩))
  clear HCa HXa HRa HGa c4 f4
  generalize v4.setCell ⟨w.heap.size + 1, 3, none⟩ (.int .i64 (nn4 : Int)) = w4 at *
  by_cases hsh : q4.length < 8
  · have PS : Hid (Calls Tryz.prog 35 #[.pointer (some ⟨R, 0, none⟩), .int .i64 8] w4 fun e w' => BadP e ∧ w4 = w') := Lib.hid (some_no w4 N R q4 8 HR4.out hsh)
    with_reducible refine PS.out.mono ?_
    rintro e v5 ⟨hbad, hw⟩
    have hbad2 : e = .panicked [{ v := .iface 114 (.agg #[]), recovered := false }] := hbad
    subst hbad2
    subst hw
    exact ⟨rfl, .inr ⟨cfg_no5 hsh, rfl, HG4.out⟩⟩
  · have PS : Hid (Calls Tryz.prog 35 #[.pointer (some ⟨R, 0, none⟩), .int .i64 8] w4 (SomePost w4 N R q4 8)) := Lib.hid (some_yes w4 N R q4 8 HR4.out (by omega) hl4)
    have h8 : 8 ≤ q4.length := by omega
    have HT8 : Hid ((q4.take 8).length = 8) := Lib.hid (by simp; omega)
    have HBT := Lib.hid (HBY4.out.take 8)
    have HIN := Lib.hid (fun b r d m s rest k => cfg_in (u1 := nn1) (u2 := nn2) (u3 := nn3) (u4 := nn4) HBY4.out h8 (b := b) (r := r) (d := d) (m := m) (s := s) (rest := rest) k)
    have HOF := Lib.hid (fun hr => cfg_of (u1 := nn1) (u2 := nn2) (u3 := nn3) (u4 := nn4) HBY4.out h8 hr)
    have HDL : Hid ((q4.drop 8).length ≤ 100000) := Lib.hid (by rw [List.length_drop]; omega)
    with_reducible refine PS.out.mono ?_
    rintro e v5 ⟨v, rfl, hvN, hv, hrd, hg⟩
    obtain ⟨ao, cap, rfl, hcap, hmx, hc⟩ := hv
    have HV5 : Hid (BytesAt v5 (.slice ao (q4.take 8).length cap) (q4.take 8)) := Lib.hid ⟨ao, cap, rfl, hcap, hmx, hc⟩
    rw [HT8.out] at HV5 hvN hcap
    have HVN := Lib.hid hvN
    have HX5 := Lib.hid (HX4.out.grown hg (by simp; omega))
    have HC5 := Lib.hid (HC4.out.grown hg (by simp; omega))
    have HG5 := Lib.hid (gr_trans HG4.out hg)
    have HR5 := Lib.hid hrd
    clear hsh hl hl0 hl1 hl2 hl3 hl4 hvN hc hrd hg PS HX4 HC4 HG4 HR4
    rw [HT8.out]
    generalize q4.take 8 = sb at *
    generalize q4.drop 8 = rb at *
    go_wp2_with fail
    go_loopw [21] (fun i wr => ∃ j : Nat, j ≤ 8 ∧ i = .int .i64 (j : Int) ∧ Blk wr (w.heap.size + 1) 24 #[.int .i64 (nn1 : Int), .int .i64 (nn2 : Int), .int .i64 (nn3 : Int), .int .i64 (nn4 : Int), .int .u64 (leV (sb.take j))] ∧ Blk wr w.heap.size 24 #[.int .i64 0, .int .i64 0, .int .i64 0, .int .i64 0, .int .u64 0] ∧ BytesAt wr (.slice ao 8 cap) sb ∧ RdIs wr N R rb ∧ w.grownBy wr (some R)) (fun i _ => 8 - (intOf i).toNat)
    case atStart => exact ⟨0, by omega, rfl, HC5.out, HX5.out, HV5.out, HR5.out, HG5.out⟩
    case round =>
      obtain ⟨j, hj, rfl, hcb, hx, hv, hrd, hg⟩ := hrel
      have HCB := Lib.hid hcb
      have HX := Lib.hid hx
      have HV := Lib.hid hv
      have HRD := Lib.hid hrd
      have HG := Lib.hid hg
      clear hcb hx hv hrd hg HC5 HX5 HV5 HR5 HG5
      by_cases hlt : j < 8
      · have hjs : j < sb.length := by rw [HT8.out]; exact hlt
        obtain ⟨g, off, rfl, hgl, cx⟩ := HV.out.cell hjs
        have hgN : g < N := HVN.out g off 8 cap rfl
        have hb8 := HBT.out.cellD j
        have HNX : Hid (leV (sb.take (j + 1)) = leV (sb.take j) + 256 ^ j * cellD sb j) := Lib.hid (by rw [take_step hjs, leV_append, List.length_take, Nat.min_eq_left (by omega)])
        have hlv := leV_bd (HBT.out.take j)
        rw [List.length_take, Nat.min_eq_left (by omega)] at hlv
        generalize leV (sb.take j) = U at *
        generalize cellD sb j = x at *
        have i0 : (0 : Int) ≤ (j : Int) := by omega
        have i1 : (j : Int) < 8 := by omega
        clear hjs hgl
        go_wp2_with fail
        refine wp_region_still_tail 9 (by kernel_rfl) (by kernel_rfl) ?_
        simp only [List.take_succ_cons, List.take_zero, List.drop_succ_cons, List.drop_zero]
        have HB1 : Hid (Below wr.heap.size wr { heap := wr.heap, tape := wr.tape, drawn := wr.drawn + 1, os := wr.os, output := wr.output }) := Lib.hid (below_drewN (Below.refl _ _) 1)
        have HCB6 := Lib.hid (HCB.out.kept HB1.out)
        have HX6 := Lib.hid (HX.out.kept HB1.out)
        have HV6 := Lib.hid (HV.out.kept HB1.out)
        have HRD6 := Lib.hid (HRD.out.kept HB1.out)
        have HG6 := Lib.hid (gr_trans HG.out (below_gr (row := some R) HB1.out))
        clear HCB HX HV HRD HG HB1
        generalize ({ heap := wr.heap, tape := wr.tape, drawn := wr.drawn + 1, os := wr.os, output := wr.output } : World) = wd at *
        have k4 := HCB6.out.cell 4
        have f4 := HCB6.out.frozen 4
        simp at k4
        have s1 : IntKind.i64.wrap (8 * (j : Int)) = 8 * (j : Int) := by rw [wrapI_eq64]; unfold wrap64; omega
        have s2 : IntKind.u64.wrap x = x := by rw [wrapU_mod]; omega
        have s3 : ¬ ((8 * (j : Int)) < 0) := by omega
        have KEY := Lib.hid (seed_or hlt hlv hb8)
        repeat still_step
        refine wpStill_nil ?_
        simp only [KEY.out, ← HNX.out]
        clear s1 s2 s3 KEY
        go_wp2_with fail
        have HCB7 : Hid (Blk (wd.setCell ⟨w.heap.size + 1, 4, none⟩ (.int .u64 (leV (sb.take (j + 1))))) (w.heap.size + 1) 24 #[.int .i64 (nn1 : Int), .int .i64 (nn2 : Int), .int .i64 (nn3 : Int), .int .i64 (nn4 : Int), .int .u64 (leV (sb.take (j + 1)))]) := Lib.hid (by simpa using HCB6.out.set_ 4 (.int .u64 (leV (sb.take (j + 1)))))
        have HGS := Lib.hid (grown_set wd (w.heap.size + 1) 4 (.int .u64 (leV (sb.take (j + 1)))))
        go_roundw
        case rel => exact ⟨j + 1, by omega, by go_num, HCB7.out, HX6.out.grown HGS.out (by simp), HV6.out.gr HGS.out (fun g2 off2 n2 c2 e => by have := HVN.out g2 off2 n2 c2 e; omega), HRD6.out.gr HGS.out (by omega) (by omega), gr_new HG6.out HGS.out (.inr ⟨_, rfl, by omega⟩)⟩
        case measure => simp [intOf]; omega
      · obtain rfl : j = 8 := by omega
        have hts : sb.take 8 = sb := List.take_of_length_le (by have := HT8.out; omega)
        have HCB9 : Hid (Blk wr (w.heap.size + 1) 24 #[.int .i64 (nn1 : Int), .int .i64 (nn2 : Int), .int .i64 (nn3 : Int), .int .i64 (nn4 : Int), .int .u64 (leV sb)]) := Lib.hid (by have := HCB.out; rw [hts] at this; exact this)
        obtain ⟨rg, roff, rcap, hrb, hrv, -⟩ := HRD.out
        obtain ⟨rl, hrl⟩ : ∃ rl, rl = rb.length := ⟨_, rfl⟩
        have HRL := Lib.hid hrl
        rw [← hrl] at hrb
        have HRB := Lib.hid hrb
        have PR := fun w => right_any (nn1 : Int) nn2 nn3 nn4 (leV sb) w
        have PZ := Lib.hid (fun w => wsize_any (nn1 : Int) nn2 nn3 nn4 (leV sb) w)
        have hrl5 : rl ≤ 100000 := by have := HDL.out; omega
        have hzz := sizeN_le (nn1 : Int) nn2 nn3 nn4
        have HEX := Lib.hid (fun wq (hq : Below wr.heap.size wr wq) => gr_trans HG.out (below_gr (row := some R) hq))
        have i1 : ¬ ((8 : Nat) : Int) < 8 := by omega
        clear hrb hrv hrl hts hlt HCB HDL hj
        cases hr : rightB (nn1 : Int) nn2 nn3 nn4
        · rw [hr] at PR
          have PR := Lib.hid PR
          have HNR := Lib.hid hr
          have HNO : Hid (CfgNo (putN nn1 ++ (putN nn2 ++ (putN nn3 ++ (putN nn4 ++ q4))))) := Lib.hid (fun b r d m s rest k => by
            obtain ⟨rfl, rfl, rfl, rfl, -, -⟩ := HIN.out b r d m s rest k
            have := k.1
            rw [HNR.out] at this
            cases this)
          clear hr hzz HIN HOF PZ
          go_wp2_with fail
          refine wp_region_held_drew (S := fun w' => Blk w' (w.heap.size + 1) 24 #[.int .i64 (nn1 : Int), .int .i64 (nn2 : Int), .int .i64 (nn3 : Int), .int .i64 (nn4 : Int), .int .u64 (leV sb)] ∧ Blk w' R 78 #[.slice (some ⟨rg, roff, none⟩) rl rcap] ∧ Below wr.heap.size wr w') (by kernel_rfl) (by exact ⟨HCB9.out.drewN 1, HRB.out.drewN 1, below_drewN (Below.refl _ _) 1⟩) (fun hHeld => ?_)
          refine wpAnyH_take (i := 0) (v := ?_) rfl (by kernel_rfl) (by kernel_rfl) (by kernel_rfl) (fun _ _ _ h => h) (Or.inl ⟨by rfl, ?_⟩) (by assumption) ?_
          rotate_left
          · intro w hSw
            have q0 := hSw.2.1.cell 0
            simp at q0
            try refine (exec_load_row 24 _ rfl _ rfl 24 _ (0, 0) _ hSw.1 Tryz.underlying24 rfl (by kernel_rfl)).trans ?_
            go_simp
            try with_reducible rfl
          simp only [Act.put, List.setIfInBounds_toArray, List.set_cons_zero, List.set_cons_succ, List.getElem_toArray, List.getElem_cons_zero, List.getElem_cons_succ]
          refine wpAnyH_ready (rs := [1]) (by kernel_rfl) (by simp) ?_
          refine AllReadyH.cons rfl (fun Kc hKc => ?_) AllReadyH.nil
          go_simp
          go_wp2_with (go_at_call 29; refine (PR.out _).mono ?_; rintro e w6 ⟨rfl, hb'⟩)
          refine hKc.out _ _ ?_ (fun hHeld => ?_)
          · first | assumption | exact ⟨hHeld.1.kept hb', hHeld.2.1.kept hb', btr hHeld.2.2 hb'⟩
          clear hKc Kc
          refine wpAnyH_take (i := 2) (v := ?_) rfl (by kernel_rfl) (by kernel_rfl) (by kernel_rfl) (fun _ _ _ h => h) (Or.inl ⟨by rfl, ?_⟩) (by assumption) ?_
          rotate_left
          · intro w hSw
            try dsimp only at hSw
            go_simp
            try with_reducible rfl
          simp only [Act.put, List.setIfInBounds_toArray, List.set_cons_zero, List.set_cons_succ, List.getElem_toArray, List.getElem_cons_zero, List.getElem_cons_succ]
          refine wpAnyH_take (i := 3) (v := ?_) rfl (by kernel_rfl) (by kernel_rfl) (by kernel_rfl) (fun _ _ _ h => h) (Or.inl ⟨by rfl, ?_⟩) (by assumption) ?_
          rotate_left
          · intro w hSw
            try dsimp only at hSw
            go_simp
            try with_reducible rfl
          simp only [Act.put, List.setIfInBounds_toArray, List.set_cons_zero, List.set_cons_succ, List.getElem_toArray, List.getElem_cons_zero, List.getElem_cons_succ]
          refine wpAnyH_take (i := 4) (v := undef) rfl (by kernel_rfl) (by kernel_rfl) (by kernel_rfl) (fun _ _ _ h => h) (Or.inr ⟨by rfl, rfl⟩) (by assumption) ?_
          simp only [Act.put, List.setIfInBounds_toArray, List.set_cons_zero, List.set_cons_succ, List.getElem_toArray, List.getElem_cons_zero, List.getElem_cons_succ]
          refine wpAnyH_take (i := 6) (v := undef) rfl (by kernel_rfl) (by kernel_rfl) (by kernel_rfl) (fun _ _ _ h => h) (Or.inr ⟨by rfl, rfl⟩) (by assumption) ?_
          simp only [Act.put, List.setIfInBounds_toArray, List.set_cons_zero, List.set_cons_succ, List.getElem_toArray, List.getElem_cons_zero, List.getElem_cons_succ]
          refine wpAnyH_take (i := 7) (v := undef) rfl (by kernel_rfl) (by kernel_rfl) (by kernel_rfl) (fun _ _ _ h => h) (Or.inr ⟨by rfl, rfl⟩) (by assumption) ?_
          simp only [Act.put, List.setIfInBounds_toArray, List.set_cons_zero, List.set_cons_succ, List.getElem_toArray, List.getElem_cons_zero, List.getElem_cons_succ]
          refine wpAnyH_take (i := 8) (v := undef) rfl (by kernel_rfl) (by kernel_rfl) (by kernel_rfl) (fun _ _ _ h => h) (Or.inr ⟨by rfl, rfl⟩) (by assumption) ?_
          simp only [Act.put, List.setIfInBounds_toArray, List.set_cons_zero, List.set_cons_succ, List.getElem_toArray, List.getElem_cons_zero, List.getElem_cons_succ]
          refine wpAnyH_take (i := 9) (v := undef) rfl (by kernel_rfl) (by kernel_rfl) (by kernel_rfl) (fun _ _ _ h => h) (Or.inr ⟨by rfl, rfl⟩) (by assumption) ?_
          simp only [Act.put, List.setIfInBounds_toArray, List.set_cons_zero, List.set_cons_succ, List.getElem_toArray, List.getElem_cons_zero, List.getElem_cons_succ]
          refine wpAnyH_take (i := 10) (v := undef) rfl (by kernel_rfl) (by kernel_rfl) (by kernel_rfl) (fun _ _ _ h => h) (Or.inr ⟨by rfl, rfl⟩) (by assumption) ?_
          simp only [Act.put, List.setIfInBounds_toArray, List.set_cons_zero, List.set_cons_succ, List.getElem_toArray, List.getElem_cons_zero, List.getElem_cons_succ]
          refine wpAnyH_ready (rs := [5]) (by kernel_rfl) (by simp) ?_
          refine AllReadyH.cons rfl (fun Kc hKc => ?_) AllReadyH.nil
          go_simp
          refine hKc.out _ _ ?_ (fun hHeld => ?_)
          · first | assumption | exact ⟨hHeld.1.kept hb', hHeld.2.1.kept hb', btr hHeld.2.2 hb'⟩
          clear hKc Kc
          refine wpAnyH_take (i := 11) (v := undef) rfl (by kernel_rfl) (by kernel_rfl) (by kernel_rfl) (fun _ _ _ h => h) (Or.inr ⟨by rfl, rfl⟩) (by assumption) ?_
          simp only [Act.put, List.setIfInBounds_toArray, List.set_cons_zero, List.set_cons_succ, List.getElem_toArray, List.getElem_cons_zero, List.getElem_cons_succ]
          refine wpAnyH_take (i := 12) (v := ?_) rfl (by kernel_rfl) (by kernel_rfl) (by kernel_rfl) (fun _ _ _ h => h) (Or.inl ⟨by rfl, ?_⟩) (by assumption) ?_
          rotate_left
          · intro w hSw
            try dsimp only at hSw
            go_simp
            try with_reducible rfl
          simp only [Act.put, List.setIfInBounds_toArray, List.set_cons_zero, List.set_cons_succ, List.getElem_toArray, List.getElem_cons_zero, List.getElem_cons_succ]
          refine wpAnyH_done (by kernel_rfl) ?_ _
          go_wp2_with fail
          exact ⟨rfl, .inr ⟨HNO.out, rfl, HEX.out _ hHeld.2.2⟩⟩
        · rw [hr] at PR
          have PR := Lib.hid PR
          have HCS := Lib.hid (HOF.out hr)
          clear hr HOF
          obtain ⟨sz, hsz⟩ : ∃ sz, sz = sizeN (nn1 : Int) nn2 nn3 nn4 := ⟨_, rfl⟩
          have HSZ := Lib.hid hsz
          rw [← hsz] at PZ hzz
          clear hsz
          by_cases hsl : rl < sz
          · have d1 : decide ((rl : Int) < (sz : Int)) = true := decide_eq_true (by omega)
            have d1' : decide (rl < sz) = true := decide_eq_true hsl
            have HNO : Hid (CfgNo (putN nn1 ++ (putN nn2 ++ (putN nn3 ++ (putN nn4 ++ q4))))) := Lib.hid (fun b r d m s rest k => by
              obtain ⟨rfl, rfl, rfl, rfl, -, rfl⟩ := HIN.out b r d m s rest k
              rw [← HSZ.out, ← HRL.out]; exact hsl)
            clear HIN
            go_wp2_with fail
            refine wp_region_held_drew (S := fun w' => Blk w' (w.heap.size + 1) 24 #[.int .i64 (nn1 : Int), .int .i64 (nn2 : Int), .int .i64 (nn3 : Int), .int .i64 (nn4 : Int), .int .u64 (leV sb)] ∧ Blk w' R 78 #[.slice (some ⟨rg, roff, none⟩) rl rcap] ∧ Below wr.heap.size wr w') (by kernel_rfl) (by exact ⟨HCB9.out.drewN 1, HRB.out.drewN 1, below_drewN (Below.refl _ _) 1⟩) (fun hHeld => ?_)
            refine wpAnyH_take (i := 0) (v := ?_) rfl (by kernel_rfl) (by kernel_rfl) (by kernel_rfl) (fun _ _ _ h => h) (Or.inl ⟨by rfl, ?_⟩) (by assumption) ?_
            rotate_left
            · intro w hSw
              have q0 := hSw.2.1.cell 0
              simp at q0
              try refine (exec_load_row 24 _ rfl _ rfl 24 _ (0, 0) _ hSw.1 Tryz.underlying24 rfl (by kernel_rfl)).trans ?_
              go_simp
              try with_reducible rfl
            simp only [Act.put, List.setIfInBounds_toArray, List.set_cons_zero, List.set_cons_succ, List.getElem_toArray, List.getElem_cons_zero, List.getElem_cons_succ]
            refine wpAnyH_ready (rs := [1]) (by kernel_rfl) (by simp) ?_
            refine AllReadyH.cons rfl (fun Kc hKc => ?_) AllReadyH.nil
            go_simp
            go_wp2_with (first | (go_at_call 29; refine (PR.out _).mono ?_; rintro e w6 ⟨rfl, hb'⟩) | (go_at_call 10; refine (PZ.out _).mono ?_; rintro e w7 ⟨rfl, hb'⟩))
            refine hKc.out _ _ ?_ (fun hHeld => ?_)
            · first | assumption | exact ⟨hHeld.1.kept hb', hHeld.2.1.kept hb', btr hHeld.2.2 hb'⟩
            clear hKc Kc
            refine wpAnyH_take (i := 2) (v := ?_) rfl (by kernel_rfl) (by kernel_rfl) (by kernel_rfl) (fun _ _ _ h => h) (Or.inl ⟨by rfl, ?_⟩) (by assumption) ?_
            rotate_left
            · intro w hSw
              try dsimp only at hSw
              go_simp
              try with_reducible rfl
            simp only [Act.put, List.setIfInBounds_toArray, List.set_cons_zero, List.set_cons_succ, List.getElem_toArray, List.getElem_cons_zero, List.getElem_cons_succ]
            refine wpAnyH_take (i := 3) (v := ?_) rfl (by kernel_rfl) (by kernel_rfl) (by kernel_rfl) (fun _ _ _ h => h) (Or.inl ⟨by rfl, ?_⟩) (by assumption) ?_
            rotate_left
            · intro w hSw
              try dsimp only at hSw
              go_simp
              try with_reducible rfl
            simp only [Act.put, List.setIfInBounds_toArray, List.set_cons_zero, List.set_cons_succ, List.getElem_toArray, List.getElem_cons_zero, List.getElem_cons_succ]
            refine wpAnyH_take (i := 4) (v := ?_) rfl (by kernel_rfl) (by kernel_rfl) (by kernel_rfl) (fun _ _ _ h => h) (Or.inl ⟨by rfl, ?_⟩) (by assumption) ?_
            rotate_left
            · intro w hSw
              have q0 := hSw.2.1.cell 0
              simp at q0
              try refine (exec_load_row 24 _ rfl _ rfl 24 _ (0, 0) _ hSw.1 Tryz.underlying24 rfl (by kernel_rfl)).trans ?_
              go_simp
              try with_reducible rfl
            simp only [Act.put, List.setIfInBounds_toArray, List.set_cons_zero, List.set_cons_succ, List.getElem_toArray, List.getElem_cons_zero, List.getElem_cons_succ]
            refine wpAnyH_take (i := 6) (v := ?_) rfl (by kernel_rfl) (by kernel_rfl) (by kernel_rfl) (fun _ _ _ h => h) (Or.inl ⟨by rfl, ?_⟩) (by assumption) ?_
            rotate_left
            · intro w hSw
              try dsimp only at hSw
              go_simp
              try with_reducible rfl
            simp only [Act.put, List.setIfInBounds_toArray, List.set_cons_zero, List.set_cons_succ, List.getElem_toArray, List.getElem_cons_zero, List.getElem_cons_succ]
            refine wpAnyH_take (i := 7) (v := ?_) rfl (by kernel_rfl) (by kernel_rfl) (by kernel_rfl) (fun _ _ _ h => h) (Or.inl ⟨by rfl, ?_⟩) (by assumption) ?_
            rotate_left
            · intro w hSw
              try dsimp only at hSw
              go_simp
              try with_reducible rfl
            simp only [Act.put, List.setIfInBounds_toArray, List.set_cons_zero, List.set_cons_succ, List.getElem_toArray, List.getElem_cons_zero, List.getElem_cons_succ]
            refine wpAnyH_take (i := 8) (v := ?_) rfl (by kernel_rfl) (by kernel_rfl) (by kernel_rfl) (fun _ _ _ h => h) (Or.inl ⟨by rfl, ?_⟩) (by assumption) ?_
            rotate_left
            · intro w hSw
              try dsimp only at hSw
              go_simp
              try with_reducible rfl
            simp only [Act.put, List.setIfInBounds_toArray, List.set_cons_zero, List.set_cons_succ, List.getElem_toArray, List.getElem_cons_zero, List.getElem_cons_succ]
            refine wpAnyH_take (i := 9) (v := ?_) rfl (by kernel_rfl) (by kernel_rfl) (by kernel_rfl) (fun _ _ _ h => h) (Or.inl ⟨by rfl, ?_⟩) (by assumption) ?_
            rotate_left
            · intro w hSw
              have q0 := hSw.2.1.cell 0
              simp at q0
              try refine (exec_load_row 24 _ rfl _ rfl 24 _ (0, 0) _ hSw.1 Tryz.underlying24 rfl (by kernel_rfl)).trans ?_
              go_simp
              try with_reducible rfl
            simp only [Act.put, List.setIfInBounds_toArray, List.set_cons_zero, List.set_cons_succ, List.getElem_toArray, List.getElem_cons_zero, List.getElem_cons_succ]
            refine wpAnyH_take (i := 10) (v := ?_) rfl (by kernel_rfl) (by kernel_rfl) (by kernel_rfl) (fun _ _ _ h => h) (Or.inl ⟨by rfl, ?_⟩) (by assumption) ?_
            rotate_left
            · intro w hSw
              try dsimp only at hSw
              go_simp
              try with_reducible rfl
            simp only [Act.put, List.setIfInBounds_toArray, List.set_cons_zero, List.set_cons_succ, List.getElem_toArray, List.getElem_cons_zero, List.getElem_cons_succ]
            refine wpAnyH_ready (rs := [5]) (by kernel_rfl) (by simp) ?_
            refine AllReadyH.cons rfl (fun Kc hKc => ?_) AllReadyH.nil
            go_simp
            go_wp2_with (first | (go_at_call 29; refine (PR.out _).mono ?_; rintro e w6 ⟨rfl, hb'⟩) | (go_at_call 10; refine (PZ.out _).mono ?_; rintro e w7 ⟨rfl, hb'⟩))
            refine hKc.out _ _ ?_ (fun hHeld => ?_)
            · first | assumption | exact ⟨hHeld.1.kept hb', hHeld.2.1.kept hb', btr hHeld.2.2 hb'⟩
            clear hKc Kc
            refine wpAnyH_take (i := 11) (v := ?_) rfl (by kernel_rfl) (by kernel_rfl) (by kernel_rfl) (fun _ _ _ h => h) (Or.inl ⟨by rfl, ?_⟩) (by assumption) ?_
            rotate_left
            · intro w hSw
              try dsimp only at hSw
              go_simp
              try with_reducible rfl
            simp only [Act.put, List.setIfInBounds_toArray, List.set_cons_zero, List.set_cons_succ, List.getElem_toArray, List.getElem_cons_zero, List.getElem_cons_succ]
            refine wpAnyH_take (i := 12) (v := ?_) rfl (by kernel_rfl) (by kernel_rfl) (by kernel_rfl) (fun _ _ _ h => h) (Or.inl ⟨by rfl, ?_⟩) (by assumption) ?_
            rotate_left
            · intro w hSw
              try dsimp only at hSw
              go_simp
              try with_reducible rfl
            simp only [Act.put, List.setIfInBounds_toArray, List.set_cons_zero, List.set_cons_succ, List.getElem_toArray, List.getElem_cons_zero, List.getElem_cons_succ]
            refine wpAnyH_done (by kernel_rfl) ?_ _
            go_wp2_with fail
            exact ⟨rfl, .inr ⟨HNO.out, rfl, HEX.out _ hHeld.2.2⟩⟩
          · have d1 : decide ((rl : Int) < (sz : Int)) = false := decide_eq_false (by omega)
            have d1' : decide (rl < sz) = false := decide_eq_false hsl
            have HLE : Hid (sizeN (nn1 : Int) nn2 nn3 nn4 ≤ rb.length) := Lib.hid (by rw [← HSZ.out, ← HRL.out]; omega)
            clear HIN
            go_wp2_with fail
            refine wp_region_held_drew (S := fun w' => Blk w' (w.heap.size + 1) 24 #[.int .i64 (nn1 : Int), .int .i64 (nn2 : Int), .int .i64 (nn3 : Int), .int .i64 (nn4 : Int), .int .u64 (leV sb)] ∧ Blk w' R 78 #[.slice (some ⟨rg, roff, none⟩) rl rcap] ∧ Below wr.heap.size wr w') (by kernel_rfl) (by exact ⟨HCB9.out.drewN 1, HRB.out.drewN 1, below_drewN (Below.refl _ _) 1⟩) (fun hHeld => ?_)
            refine wpAnyH_take (i := 0) (v := ?_) rfl (by kernel_rfl) (by kernel_rfl) (by kernel_rfl) (fun _ _ _ h => h) (Or.inl ⟨by rfl, ?_⟩) (by assumption) ?_
            rotate_left
            · intro w hSw
              have q0 := hSw.2.1.cell 0
              simp at q0
              try refine (exec_load_row 24 _ rfl _ rfl 24 _ (0, 0) _ hSw.1 Tryz.underlying24 rfl (by kernel_rfl)).trans ?_
              go_simp
              try with_reducible rfl
            simp only [Act.put, List.setIfInBounds_toArray, List.set_cons_zero, List.set_cons_succ, List.getElem_toArray, List.getElem_cons_zero, List.getElem_cons_succ]
            refine wpAnyH_ready (rs := [1]) (by kernel_rfl) (by simp) ?_
            refine AllReadyH.cons rfl (fun Kc hKc => ?_) AllReadyH.nil
            go_simp
            go_wp2_with (first | (go_at_call 29; refine (PR.out _).mono ?_; rintro e w6 ⟨rfl, hb'⟩) | (go_at_call 10; refine (PZ.out _).mono ?_; rintro e w7 ⟨rfl, hb'⟩))
            refine hKc.out _ _ ?_ (fun hHeld => ?_)
            · first | assumption | exact ⟨hHeld.1.kept hb', hHeld.2.1.kept hb', btr hHeld.2.2 hb'⟩
            clear hKc Kc
            refine wpAnyH_take (i := 2) (v := ?_) rfl (by kernel_rfl) (by kernel_rfl) (by kernel_rfl) (fun _ _ _ h => h) (Or.inl ⟨by rfl, ?_⟩) (by assumption) ?_
            rotate_left
            · intro w hSw
              try dsimp only at hSw
              go_simp
              try with_reducible rfl
            simp only [Act.put, List.setIfInBounds_toArray, List.set_cons_zero, List.set_cons_succ, List.getElem_toArray, List.getElem_cons_zero, List.getElem_cons_succ]
            refine wpAnyH_take (i := 3) (v := ?_) rfl (by kernel_rfl) (by kernel_rfl) (by kernel_rfl) (fun _ _ _ h => h) (Or.inl ⟨by rfl, ?_⟩) (by assumption) ?_
            rotate_left
            · intro w hSw
              try dsimp only at hSw
              go_simp
              try with_reducible rfl
            simp only [Act.put, List.setIfInBounds_toArray, List.set_cons_zero, List.set_cons_succ, List.getElem_toArray, List.getElem_cons_zero, List.getElem_cons_succ]
            refine wpAnyH_take (i := 4) (v := ?_) rfl (by kernel_rfl) (by kernel_rfl) (by kernel_rfl) (fun _ _ _ h => h) (Or.inl ⟨by rfl, ?_⟩) (by assumption) ?_
            rotate_left
            · intro w hSw
              have q0 := hSw.2.1.cell 0
              simp at q0
              try refine (exec_load_row 24 _ rfl _ rfl 24 _ (0, 0) _ hSw.1 Tryz.underlying24 rfl (by kernel_rfl)).trans ?_
              go_simp
              try with_reducible rfl
            simp only [Act.put, List.setIfInBounds_toArray, List.set_cons_zero, List.set_cons_succ, List.getElem_toArray, List.getElem_cons_zero, List.getElem_cons_succ]
            refine wpAnyH_take (i := 6) (v := ?_) rfl (by kernel_rfl) (by kernel_rfl) (by kernel_rfl) (fun _ _ _ h => h) (Or.inl ⟨by rfl, ?_⟩) (by assumption) ?_
            rotate_left
            · intro w hSw
              try dsimp only at hSw
              go_simp
              try with_reducible rfl
            simp only [Act.put, List.setIfInBounds_toArray, List.set_cons_zero, List.set_cons_succ, List.getElem_toArray, List.getElem_cons_zero, List.getElem_cons_succ]
            refine wpAnyH_take (i := 7) (v := ?_) rfl (by kernel_rfl) (by kernel_rfl) (by kernel_rfl) (fun _ _ _ h => h) (Or.inl ⟨by rfl, ?_⟩) (by assumption) ?_
            rotate_left
            · intro w hSw
              try dsimp only at hSw
              go_simp
              try with_reducible rfl
            simp only [Act.put, List.setIfInBounds_toArray, List.set_cons_zero, List.set_cons_succ, List.getElem_toArray, List.getElem_cons_zero, List.getElem_cons_succ]
            refine wpAnyH_take (i := 8) (v := ?_) rfl (by kernel_rfl) (by kernel_rfl) (by kernel_rfl) (fun _ _ _ h => h) (Or.inl ⟨by rfl, ?_⟩) (by assumption) ?_
            rotate_left
            · intro w hSw
              try dsimp only at hSw
              go_simp
              try with_reducible rfl
            simp only [Act.put, List.setIfInBounds_toArray, List.set_cons_zero, List.set_cons_succ, List.getElem_toArray, List.getElem_cons_zero, List.getElem_cons_succ]
            refine wpAnyH_take (i := 9) (v := ?_) rfl (by kernel_rfl) (by kernel_rfl) (by kernel_rfl) (fun _ _ _ h => h) (Or.inl ⟨by rfl, ?_⟩) (by assumption) ?_
            rotate_left
            · intro w hSw
              have q0 := hSw.2.1.cell 0
              simp at q0
              try refine (exec_load_row 24 _ rfl _ rfl 24 _ (0, 0) _ hSw.1 Tryz.underlying24 rfl (by kernel_rfl)).trans ?_
              go_simp
              try with_reducible rfl
            simp only [Act.put, List.setIfInBounds_toArray, List.set_cons_zero, List.set_cons_succ, List.getElem_toArray, List.getElem_cons_zero, List.getElem_cons_succ]
            refine wpAnyH_take (i := 10) (v := ?_) rfl (by kernel_rfl) (by kernel_rfl) (by kernel_rfl) (fun _ _ _ h => h) (Or.inl ⟨by rfl, ?_⟩) (by assumption) ?_
            rotate_left
            · intro w hSw
              try dsimp only at hSw
              go_simp
              try with_reducible rfl
            simp only [Act.put, List.setIfInBounds_toArray, List.set_cons_zero, List.set_cons_succ, List.getElem_toArray, List.getElem_cons_zero, List.getElem_cons_succ]
            refine wpAnyH_ready (rs := [5]) (by kernel_rfl) (by simp) ?_
            refine AllReadyH.cons rfl (fun Kc hKc => ?_) AllReadyH.nil
            go_simp
            go_wp2_with (first | (go_at_call 29; refine (PR.out _).mono ?_; rintro e w6 ⟨rfl, hb'⟩) | (go_at_call 10; refine (PZ.out _).mono ?_; rintro e w7 ⟨rfl, hb'⟩))
            refine hKc.out _ _ ?_ (fun hHeld => ?_)
            · first | assumption | exact ⟨hHeld.1.kept hb', hHeld.2.1.kept hb', btr hHeld.2.2 hb'⟩
            clear hKc Kc
            refine wpAnyH_take (i := 11) (v := ?_) rfl (by kernel_rfl) (by kernel_rfl) (by kernel_rfl) (fun _ _ _ h => h) (Or.inl ⟨by rfl, ?_⟩) (by assumption) ?_
            rotate_left
            · intro w hSw
              try dsimp only at hSw
              go_simp
              try with_reducible rfl
            simp only [Act.put, List.setIfInBounds_toArray, List.set_cons_zero, List.set_cons_succ, List.getElem_toArray, List.getElem_cons_zero, List.getElem_cons_succ]
            refine wpAnyH_take (i := 12) (v := ?_) rfl (by kernel_rfl) (by kernel_rfl) (by kernel_rfl) (fun _ _ _ h => h) (Or.inl ⟨by rfl, ?_⟩) (by assumption) ?_
            rotate_left
            · intro w hSw
              try dsimp only at hSw
              go_simp
              try with_reducible rfl
            simp only [Act.put, List.setIfInBounds_toArray, List.set_cons_zero, List.set_cons_succ, List.getElem_toArray, List.getElem_cons_zero, List.getElem_cons_succ]
            refine wpAnyH_done (by kernel_rfl) ?_ _
            have HC7 := Lib.hid hHeld.1
            have HX7 : Hid (Blk w7 w.heap.size 24 #[.int .i64 0, .int .i64 0, .int .i64 0, .int .i64 0, .int .u64 0]) := Lib.hid (HX.out.kept hHeld.2.2)
            have HGS : Hid (w7.grownBy (w7.setRow w.heap.size #[.int .i64 (nn1 : Int), .int .i64 (nn2 : Int), .int .i64 (nn3 : Int), .int .i64 (nn4 : Int), .int .u64 (leV sb)]) (some w.heap.size)) := Lib.hid ⟨rfl, rfl, rfl, by simp, fun k hk hne => setRow_other w7 w.heap.size k _ (by simpa using hne)⟩
            have HG8 : Hid (w.grownBy (w7.setRow w.heap.size #[.int .i64 (nn1 : Int), .int .i64 (nn2 : Int), .int .i64 (nn3 : Int), .int .i64 (nn4 : Int), .int .u64 (leV sb)]) (some R)) := Lib.hid (gr_new (HEX.out _ hHeld.2.2) HGS.out (.inr ⟨_, rfl, Nat.le_refl _⟩))
            have HRD8 : Hid (RdIs (w7.setRow w.heap.size #[.int .i64 (nn1 : Int), .int .i64 (nn2 : Int), .int .i64 (nn3 : Int), .int .i64 (nn4 : Int), .int .u64 (leV sb)]) N R rb) := Lib.hid ((HRD.out.kept hHeld.2.2).gr HGS.out (by omega) (by omega))
            have HH8 : Hid ((w7.setRow w.heap.size #[.int .i64 (nn1 : Int), .int .i64 (nn2 : Int), .int .i64 (nn3 : Int), .int .i64 (nn4 : Int), .int .u64 (leV sb)]).heap[w.heap.size]? = some (.cells #[.int .i64 (nn1 : Int), .int .i64 (nn2 : Int), .int .i64 (nn3 : Int), .int .i64 (nn4 : Int), .int .u64 (leV sb)] 24 (0, 0))) := Lib.hid (setRow_heap _ _ _ _ _ _ HX7.out)
            clear hHeld
            go_wp2_with (first | refine wpList_load_row rfl 24 _ rfl (w.heap.size + 1) rfl 24 _ (0, 0) _ HC7.out Tryz.underlying24 rfl (by kernel_rfl) ?_ | refine wpList_store_row rfl 24 _ _ rfl w.heap.size #[.int .i64 (nn1 : Int), .int .i64 (nn2 : Int), .int .i64 (nn3 : Int), .int .i64 (nn4 : Int), .int .u64 (leV sb)] rfl rfl 24 _ HX7.out (by kernel_rfl) rfl (cfg_one _ _ _ _ _) ?_)
            refine bodyPost_ret (v := .agg #[.int .i64 (nn1 : Int), .int .i64 (nn2 : Int), .int .i64 (nn3 : Int), .int .i64 (nn4 : Int), .int .u64 (leV sb)]) (results_cell_row rfl _ _ w.heap.size 24 _ (0, 0) _ rfl HH8.out Tryz.underlying24 rfl (by kernel_rfl)) rfl ?_
            exact .inl ⟨_, _, _, _, _, rb, HCS.out, HLE.out, rfl, HRD8.out, HG8.out⟩
end Go.Proofs.YtbghchgmoiniiaaGreat

/-
  The walk of wire.Decode. Conditions: none beyond those stated at each theorem.
-/
namespace Go.Proofs.YtbghchgmoiniiaaGreat
open Go.RowKit
set_option linter.unusedVariables false
set_option linter.unusedSimpArgs false

set_option maxRecDepth 100000 in
theorem catch_panic (p q : Addr) (x y : Value) (u : TypeId) (pv : Value) (older : List PanicEntry) (w : World) (hp : w.cell? p = some x) (hq : w.cell? q = some y) (hpz : w.frozen? p = false) (hqz : w.frozen? q = false) (hne : p ≠ q) :
    CallsD Tryz.prog 34 #[.pointer (some p), .pointer (some q)] (.panicking ({ v := .iface u pv, recovered := false } :: older)) w fun e u' w' =>
      e = .returned (.tuple #[]) ∧ u' = .panicking ({ v := .iface u pv, recovered := true } :: older) ∧ w' = (w.setCell p (.pointer none)).setCell q (.int .i64 8) := by
  refine callsD_of_wpS Tryz.func34 rfl fun c₀ cs hu => ?_
  apply wpS_seq
  apply wpS_region
  simp [wpOpsS, go_sem, recoverD, hu, Tryz.ntmps34, Exit.thenS]
  refine wpS_cond (t := true) (by simp [Act.eval, Array.replicate]) ?_
  simp only [if_true]
  apply wpS_region
  have h1 : (w.setCell p (.pointer none)).cell? q = some y := by rw [World.cell?_setCell_other]; exact hq; exact hne
  have h2 : (w.setCell p (.pointer none)).frozen? q = false := by rw [World.frozen?_setCell]; exact hqz
  simp [wpOpsS, go_sem, hp, hpz, h1, h2, bodyPostS, results, Tryz.results34]
set_option maxRecDepth 100000 in
theorem catch_idle (p q : Addr) (w : World) :
    CallsD Tryz.prog 34 #[.pointer (some p), .pointer (some q)] .returning w fun e u' w' => e = .returned (.tuple #[]) ∧ u' = .returning ∧ w' = w := by
  refine callsD_of_wpS Tryz.func34 rfl fun c₀ cs hu => ?_
  apply wpS_seq
  apply wpS_region
  simp [wpOpsS, go_sem, recoverD, hu, Tryz.ntmps34, Exit.thenS]
  refine wpS_cond (t := false) (by simp [Act.eval, Array.replicate]) ?_
  simp only [Bool.false_eq_true, if_false]
  refine wpS_of_wp (wp_skip ?_)
  cases c₀
  simp_all [bodyPostS, results, Tryz.results34]
set_option maxRecDepth 100000 in
theorem dec_results (tmps : Array Value) (w : World) (p q : Addr) (x : Option Addr) (y : Int) (h2 : tmps[2]?.getD undef = .pointer (some p)) (h3 : tmps[3]?.getD undef = .pointer (some q)) (hp : w.cell? p = some (.pointer x)) (hq : w.cell? q = some (.int .i64 y)) :
    (results Tryz.f13 tmps).run Tryz.prog w = .ok (.tuple #[.pointer x, .int .i64 y]) w := by
  simp [results, Tryz.results13, go_sem, h2, h3, hp, hq]
def DecRes (w : World) (bs : List Int) (e : Ending) (w' : World) : Prop :=
  ((∃ b r d m s Z S L X A G C, DecS bs b r d m s Z ∧ e = .returned (.tuple #[.pointer (some ⟨S, 0, none⟩), .int .i64 0]) ∧ w.heap.size ≤ S ∧ StIs w' w.heap.size S L b r d m s X A G C Z) ∨ (DecNo bs ∧ e = .returned (.tuple #[.pointer none, .int .i64 (errOf bs)]))) ∧ Below w.heap.size w w'
theorem news1b (w : World) (a b : Obj) : Below w.heap.size w ((w.alloc a).alloc b) := ((Below.refl _ _).alloc (Nat.le_refl _) _).alloc (by simp) _
set_option maxRecDepth 100000 in
set_option maxHeartbeats 8000000 in
theorem dec_few (w : World) (v : Value) (bs : List Int) (hv : BytesAt w v bs) (hl : bs.length < 4) :
    Calls Tryz.prog 13 #[v] w (DecRes w bs) := by
  have HNO := Lib.hid (dec_short hl)
  have HER : Hid (errOf bs = 8) := Lib.hid (by unfold errOf; rw [if_pos hl])
  obtain ⟨ao, cap, rfl, hcap, hmx, hc⟩ := hv
  obtain ⟨n, hn⟩ : ∃ n, n = bs.length := ⟨_, rfl⟩
  rw [← hn] at hcap hl ⊢
  clear hn hc
  have d1 : decide ((n : Int) < 4) = true := decide_eq_true (by omega)
  have HB := Lib.hid (news1b w (.cells #[.pointer none] 29) (.cells #[.int .i64 0] 44))
  go_enter_defers Tryz.func13, Tryz.ntmps13
  go_wp2_with fail
  obtain ⟨g1, g2, -, -⟩ := news2 w (.cells #[.pointer none] 29) (.cells #[.int .i64 8] 44)
  have c0 : World.cell? ((w.alloc (.cells #[.pointer none] 29)).alloc (.cells #[.int .i64 8] 44)) ⟨w.heap.size, 0, none⟩ = some (.pointer none) := (show Blk _ w.heap.size 29 #[.pointer none] from g1).cell 0
  have c1 : World.cell? ((w.alloc (.cells #[.pointer none] 29)).alloc (.cells #[.int .i64 8] 44)) ⟨w.heap.size + 1, 0, none⟩ = some (.int .i64 8) := (show Blk _ (w.heap.size + 1) 44 #[.int .i64 8] from g2).cell 0
  refine ⟨_, dec_results _ _ ⟨w.heap.size, 0, none⟩ ⟨w.heap.size + 1, 0, none⟩ none 8 rfl rfl c0 c1, .inr ⟨HNO.out, by rw [HER.out]⟩, news1b _ _ _⟩
theorem door_ret {w wz : World} {bs : List Int} {t : Array Value} {S E : Nat} {x : Option Addr} {y : Int} (h2 : t[2]?.getD undef = .pointer (some ⟨S, 0, none⟩)) (h3 : t[3]?.getD undef = .pointer (some ⟨E, 0, none⟩)) (hS : Blk wz S 29 #[.pointer x]) (hE : Blk wz E 44 #[.int .i64 y])
    (hR : DecRes w bs (.returned (.tuple #[.pointer x, .int .i64 y])) wz) : bodyPostD Tryz.prog Tryz.f13 (DecRes w bs) Exit.ret { tmps := t, defers := [{ target := .fn (.func 34) #[.pointer (some ⟨S, 0, none⟩), .pointer (some ⟨E, 0, none⟩)], args := #[] }] } wz := by
  refine leaves_cons (f := 34) (args := #[.pointer (some ⟨S, 0, none⟩), .pointer (some ⟨E, 0, none⟩)]) (by simp) (by simp [go_sem]) ?_
  refine (catch_idle ⟨S, 0, none⟩ ⟨E, 0, none⟩ wz).mono ?_
  rintro e u' w'' ⟨rfl, rfl, rfl⟩
  exact ⟨_, dec_results t _ _ _ x y h2 h3 (hS.cell 0) (hE.cell 0), hR⟩
theorem door_panic {w wz : World} {bs : List Int} {t : Array Value} {S E : Nat} {x : Option Addr} {y : Int} (h2 : t[2]?.getD undef = .pointer (some ⟨S, 0, none⟩)) (h3 : t[3]?.getD undef = .pointer (some ⟨E, 0, none⟩)) (hS : Blk wz S 29 #[.pointer x]) (hE : Blk wz E 44 #[.int .i64 y]) (hne : S ≠ E)
    (h0 : w.heap.size ≤ S) (h1 : w.heap.size ≤ E) (hb : Below w.heap.size w wz) (hn : DecNo bs) (he : errOf bs = 8) : bodyPostD Tryz.prog Tryz.f13 (DecRes w bs) (Exit.panic [{ v := .iface 114 (.agg #[]), recovered := false }]) { tmps := t, defers := [{ target := .fn (.func 34) #[.pointer (some ⟨S, 0, none⟩), .pointer (some ⟨E, 0, none⟩)], args := #[] }] } wz := by
  have hS' : Blk ((wz.setCell ⟨S, 0, none⟩ (.pointer none)).setCell ⟨E, 0, none⟩ (.int .i64 8)) S 29 #[.pointer none] := by
    have := (hS.set_ 0 (.pointer none)).far (p := ⟨E, 0, none⟩) hne (.int .i64 8)
    simpa using this
  have hE' : Blk ((wz.setCell ⟨S, 0, none⟩ (.pointer none)).setCell ⟨E, 0, none⟩ (.int .i64 8)) E 44 #[.int .i64 8] := by
    have := (hE.far (p := ⟨S, 0, none⟩) (Ne.symm hne) (.pointer none)).set_ 0 (.int .i64 8)
    simpa using this
  have hB' := (hb.setCell (p := ⟨S, 0, none⟩) h0 (.pointer none)).setCell (p := ⟨E, 0, none⟩) h1 (.int .i64 8)
  refine leaves_cons (f := 34) (args := #[.pointer (some ⟨S, 0, none⟩), .pointer (some ⟨E, 0, none⟩)]) (by simp) (by simp [go_sem]) ?_
  refine (catch_panic ⟨S, 0, none⟩ ⟨E, 0, none⟩ _ _ _ _ [] wz (hS.cell 0) (hE.cell 0) (hS.frozen 0) (hE.frozen 0) (fun h => hne (by cases h; rfl))).mono ?_
  rintro e u' w'' ⟨rfl, rfl, rfl⟩
  exact ⟨_, dec_results t _ _ _ none 8 h2 h3 (hS'.cell 0) (hE'.cell 0), .inr ⟨hn, by rw [he]⟩, hB'⟩
theorem sign_iff {bs : List Int} {n : Nat} (hn : bs.length = n + 4) : leB (sumI 0 (bs.take n)) 4 = bs.drop n ↔ signB (bs.take (bs.length - 4)) = bs := by
  have e : bs.length - 4 = n := by omega
  rw [e, signB]
  constructor
  · intro h
    rw [h, List.take_append_drop]
  · intro h
    have h2 : bs.take n ++ leB (sumI 0 (bs.take n)) 4 = bs.take n ++ bs.drop n := by rw [h, List.take_append_drop]
    exact List.append_cancel_left h2
theorem leaves_tmps {P : Program} {fn : Func} {t t' : Array Value} {R : Ending → World → Prop} (h : results fn t = results fn t') : ∀ (ds : List Deferred) (u : FrameMode) (w : World), Leaves P fn t R ds u w → Leaves P fn t' R ds u w := by
  intro ds
  induction ds with
  | nil =>
    intro u w hl
    cases u with
    | run => exact hl
    | returning => obtain ⟨v, h1, h2⟩ := hl; exact ⟨v, h ▸ h1, h2⟩
    | panicking chain => exact hl
  | cons d ds ih =>
    intro u w hl
    obtain ⟨h1, fv, cap, f, args, h2, h3, h4⟩ := hl
    refine ⟨h1, fv, cap, f, args, h2, h3, h4.mono ?_⟩
    intro e u' w' he
    cases e with
    | returned v => exact ih _ _ he
    | panicked chain => exact ih _ _ he
    | outgrown => exact he
theorem dec_tmps (t : Array Value) (k : Nat) (v : Value) (h2 : k ≠ 2) (h3 : k ≠ 3) : results Tryz.f13 (t.setIfInBounds k v) = results Tryz.f13 t := by
  have e2 : (t.setIfInBounds k v)[2]? = t[2]? := by rw [Array.getElem?_setIfInBounds]; simp [h2]
  have e3 : (t.setIfInBounds k v)[3]? = t[3]? := by rw [Array.getElem?_setIfInBounds]; simp [h3]
  simp [results, Tryz.results13, e2, e3]
theorem dec_put {R : Ending → World → Prop} {c : List PanicEntry} {a : Act} {k : Nat} {v : Value} {w : World} (hk : k ≠ 2 ∧ k ≠ 3) (h : bodyPostD Tryz.prog Tryz.f13 R (Exit.panic c) (a.put (some k) v) w) : bodyPostD Tryz.prog Tryz.f13 R (Exit.panic c) a w :=
  leaves_tmps (dec_tmps a.tmps k v hk.1 hk.2) _ _ _ h
theorem BytesAt.upto2 {w : World} {g off n cap : Nat} {bs : List Int} (h : BytesAt w (.slice (some ⟨g, off, none⟩) n cap) bs) (a : Nat) (ha : a ≤ n) : BytesAt w (.slice (some ⟨g, off, none⟩) a cap) (bs.take a) := by
  obtain ⟨ao2, cap2, e, h1, h2, h3⟩ := h
  simp only [Value.slice.injEq] at e
  obtain ⟨rfl, rfl, rfl⟩ := e
  have hl : (bs.take a).length = a := by simp; omega
  refine ⟨_, cap, by rw [hl], by rw [hl]; omega, by omega, ?_⟩
  rcases h3 with ⟨rfl, h3⟩ | ⟨g2, off2, e2, hg, hcc⟩
  · cases h3
  · have e2 := Option.some.inj e2
    cases e2
    refine .inr ⟨g, off, rfl, hg, fun i u hu => ?_⟩
    rw [List.getElem?_take] at hu
    split at hu
    · exact hcc i u hu
    · cases hu
theorem u32_u64 (x : Int) (h0 : 0 ≤ x) (h1 : x ≤ 4294967295) : IntKind.u64.wrap x = x := by rw [wrapU_mod]; omega
theorem takerow_yes (w : World) (v : Value) (bs : List Int) (n : Nat) (hv : BytesAt w v bs) (hb : Byts bs) (hl : bs.length ≤ 100000) (hn : n ≤ 100000) {zs : List Int} {a : Nat} (h : TRow bs n zs a) :
    Calls Tryz.prog 37 #[v, .int .i64 (n : Int)] w fun e w' => ∃ x, e = .returned (.tuple #[x, .int .i64 (a : Int), .int .i64 0]) ∧ OwnZ w' w.heap.size x zs ∧ Below w.heap.size w w' := by
  refine (takerow_any w v bs n hv hb hl hn).mono ?_
  rintro e w' ⟨⟨ys, c, x, h1, h2, h3⟩ | ⟨h1, h2⟩, h4⟩
  · obtain ⟨rfl, rfl⟩ := h.unique h1
    exact ⟨x, h2, h3, h4⟩
  · exact absurd h (h1 _ _)
theorem takerow_no (w : World) (v : Value) (bs : List Int) (n : Nat) (hv : BytesAt w v bs) (hb : Byts bs) (hl : bs.length ≤ 100000) (hn : n ≤ 100000) (h : TRowNo bs n) :
    Calls Tryz.prog 37 #[v, .int .i64 (n : Int)] w fun e w' => e = .returned (.tuple #[.slice none 0 0, .int .i64 0, .int .i64 8]) ∧ Below w.heap.size w w' := by
  refine (takerow_any w v bs n hv hb hl hn).mono ?_
  rintro e w' ⟨⟨ys, c, x, h1, h2, h3⟩ | ⟨h1, h2⟩, h4⟩
  · exact absurd h1 (h _ _)
  · exact ⟨h2, h4⟩
theorem RdIs.blk {w : World} {N R : Nat} {bs : List Int} (h : RdIs w N R bs) : ∃ cs, Blk w R 78 cs := by
  obtain ⟨g, off, cap, h1, -⟩ := h
  exact ⟨_, h1⟩
theorem rowsB_up {Z : Nat → List Int} {j : Nat} {cs : List Int} : rowsB (upN Z j cs) (j + 1) = rowsB Z j ++ rowB cs := by
  rw [rowsB, upN_same, rowsB_congr (fun n hn => upN_other Z cs (show n ≠ j by omega))]
theorem Shaped.up {b r d m : Int} {Z : Nat → List Int} {j : Nat} {cs : List Int} (h : Shaped b r d m Z j) (hl : cs.length = cellsN b r d m (j : Int)) (hf : Fit cs) : Shaped b r d m (upN Z j cs) (j + 1) := fun n hn => by
  by_cases e : n = j
  · subst e; rw [upN_same]; exact ⟨hl, hf⟩
  · rw [upN_other _ _ e]; exact h n (by omega)
end Go.Proofs.YtbghchgmoiniiaaGreat

/-
  The walk of wire.Decode: bytes that have a sum. Conditions: none beyond those stated at each theorem.
-/
namespace Go.Proofs.YtbghchgmoiniiaaGreat
open Go.RowKit
set_option linter.unusedVariables false
set_option linter.unusedSimpArgs false

set_option maxRecDepth 100000 in
set_option maxHeartbeats 8000000 in
theorem dec_many (w : World) (g off cap : Nat) (bs : List Int) (hv : BytesAt w (.slice (some ⟨g, off, none⟩) bs.length cap) bs) (hb : Byts bs) (h4 : 4 ≤ bs.length) (hl : bs.length ≤ 100000) :
    Calls Tryz.prog 13 #[.slice (some ⟨g, off, none⟩) bs.length cap] w (DecRes w bs) := by
  have HV := Lib.hid hv
  have HBY := Lib.hid hb
  have hcap : bs.length ≤ cap := by
    obtain ⟨ao2, cap2, e, e1, e2, -⟩ := hv
    simp only [Value.slice.injEq] at e
    obtain ⟨-, -, rfl⟩ := e
    omega
  have hgl : g < w.heap.size := by
    obtain ⟨ao2, cap2, e, e1, e2, e3⟩ := hv
    simp only [Value.slice.injEq] at e
    obtain ⟨rfl, -, rfl⟩ := e
    rcases e3 with ⟨rfl, e3⟩ | ⟨g2, off2, e4, hg, -⟩
    · cases e3
    · cases e4; exact hg
  obtain ⟨at_, hat⟩ : ∃ a, bs.length = a + 4 := ⟨bs.length - 4, by omega⟩
  have HN := Lib.hid hat
  rw [hat] at hcap hl HV ⊢
  clear h4 hv hb hat
  obtain ⟨g1, g2, hb1, hsz1⟩ := news2 w (.cells #[.pointer none] 29) (.cells #[.int .i64 0] 44)
  have HS1 : Hid (Blk _ w.heap.size 29 #[.pointer none]) := Lib.hid g1
  have HE1 : Hid (Blk _ (w.heap.size + 1) 44 #[.int .i64 0]) := Lib.hid g2
  have HB1 := Lib.hid hb1
  have d1 : decide ((at_ : Int) + 4 < 4) = false := decide_eq_false (by omega)
  have d2 : decide (at_ + 4 < 4) = false := decide_eq_false (by omega)
  have hatc : at_ < cap := by omega
  have a0 : (0 : Int) ≤ (at_ : Int) := by omega
  have a2 : at_ ≤ cap := by omega
  have a3 : ¬ cap = at_ := by omega
  have a4 : ¬ at_ = cap := by omega
  have a1 : (at_ : Int) ≤ (at_ : Int) + 4 := by omega
  have hV1 := HV.out.kept HB1.out
  have hmf : ∀ (fn : Fn) (first cap : Array Value) (w : World), (Instr.makeFunc fn first cap).run Tryz.prog w = .ok (.func fn first cap) w := fun _ _ _ _ => rfl
  clear g1 g2 hb1 hsz1
  go_enter_defers Tryz.func13, Tryz.ntmps13
  go_wp2_with fail
  generalize (w.alloc (.cells #[.pointer none] 29)).alloc (.cells #[.int .i64 0] 44) = w1 at *
  have HV1 := Lib.hid hV1
  have HTL : Hid ((bs.take at_).length = at_) := Lib.hid (by simp; have := HN.out; omega)
  have PS := Lib.hid (fun wq (hq : BytesAt wq (.slice (some ⟨g, off, none⟩) (at_ + 4) cap) bs) => sum_any (.slice (some ⟨g, off, none⟩) at_ cap) (bs.take at_) wq (hq.upto2 at_ (by omega)) (HBY.out.take _) (by rw [HTL.out]; omega))
  have hsb := sumI_bd 0 (bs.take at_)
  obtain ⟨sm, hsm⟩ : ∃ sm, sm = sumI 0 (bs.take at_) := ⟨_, rfl⟩
  have HSM := Lib.hid hsm
  rw [← hsm] at PS hsb
  have s1 : IntKind.u64.wrap sm = sm := u32_u64 sm hsb.1 hsb.2
  have PLW : Hid (∀ wq, Calls Tryz.prog 22 #[.slice none 0 0, .int .u64 sm, .int .i64 4] wq (OwnPost wq wq.heap.size (.slice none 0 0) (leB sm 4))) := Lib.hid (fun wq => by simpa using low_any wq wq.heap.size (.slice none 0 0) [] sm 4 (World.ownsRow_nil _ _ _ _) (Nat.le_refl _) hsb.1 (by omega) (by decide) (by simp))
  have HCV := Lib.hid (fun (wq : World) (hq : BytesAt wq (.slice (some ⟨g, off, none⟩) (at_ + 4) cap) bs) => strB_conv (P := Tryz.prog) (hq.from_ at_ (by omega) (off + at_) (fun _ => rfl) (fun e => by omega)) 33 5 9 Tryz.underlying33 Tryz.underlying5 Tryz.underlying9)
  have HCL := Lib.hid (fun (wq : World) (v : Value) (l : List Int) (hq : BytesAt wq v l) => strB_conv (P := Tryz.prog) hq 33 5 9 Tryz.underlying33 Tryz.underlying5 Tryz.underlying9)
  have e4 : at_ + 4 - at_ = 4 := by omega
  rw [e4] at HCV
  clear hV1 hsm
  refine wp_region_held_drew (S := fun w' => BytesAt w' (.slice (some ⟨g, off, none⟩) (at_ + 4) cap) bs ∧ Sem.run Tryz.prog (convert 33 9 (.slice (some ⟨g, off + at_, none⟩) 4 (cap - at_))) w' = .ok (.string (strB (bs.drop at_))) w' ∧ Below w1.heap.size w1 w') (by kernel_rfl) (by exact ⟨HV1.out.kept (below_drewN (Below.refl _ _) 1), HCV.out _ (HV1.out.kept (below_drewN (Below.refl _ _) 1)), below_drewN (Below.refl _ _) 1⟩) (fun hHeld => ?_)
  refine wpAnyH_take (i := 0) (v := ?_) rfl (by kernel_rfl) (by kernel_rfl) (by kernel_rfl) (fun _ _ _ h => dec_put (by decide) h) (Or.inl ⟨by rfl, ?_⟩) (by assumption) ?_
  rotate_left
  · intro w hSw
    try dsimp only at hSw
    go_simp
    try with_reducible rfl
  simp only [Act.put, List.setIfInBounds_toArray, List.set_cons_zero, List.set_cons_succ, List.getElem_toArray, List.getElem_cons_zero, List.getElem_cons_succ]
  refine wpAnyH_take (i := 1) (v := ?_) rfl (by kernel_rfl) (by kernel_rfl) (by kernel_rfl) (fun _ _ _ h => dec_put (by decide) h) (Or.inl ⟨by rfl, ?_⟩) (by assumption) ?_
  rotate_left
  · intro w hSw
    try dsimp only at hSw
    go_simp
    try with_reducible rfl
  simp only [Act.put, List.setIfInBounds_toArray, List.set_cons_zero, List.set_cons_succ, List.getElem_toArray, List.getElem_cons_zero, List.getElem_cons_succ]
  refine wpAnyH_take (i := 2) (v := ?_) rfl (by kernel_rfl) (by kernel_rfl) (by kernel_rfl) (fun _ _ _ h => dec_put (by decide) h) (Or.inl ⟨by rfl, ?_⟩) (by assumption) ?_
  rotate_left
  · intro w hSw
    try dsimp only at hSw
    go_simp
    try with_reducible rfl
  simp only [Act.put, List.setIfInBounds_toArray, List.set_cons_zero, List.set_cons_succ, List.getElem_toArray, List.getElem_cons_zero, List.getElem_cons_succ]
  refine wpAnyH_take (i := 7) (v := ?_) rfl (by kernel_rfl) (by kernel_rfl) (by kernel_rfl) (fun _ _ _ h => dec_put (by decide) h) (Or.inl ⟨by rfl, ?_⟩) (by assumption) ?_
  rotate_left
  · intro w hSw
    try dsimp only at hSw
    go_simp
    try with_reducible rfl
  simp only [Act.put, List.setIfInBounds_toArray, List.set_cons_zero, List.set_cons_succ, List.getElem_toArray, List.getElem_cons_zero, List.getElem_cons_succ]
  refine wpAnyH_take (i := 8) (v := ?_) rfl (by kernel_rfl) (by kernel_rfl) (by kernel_rfl) (fun _ _ _ h => dec_put (by decide) h) (Or.inl ⟨by rfl, ?_⟩) (by assumption) ?_
  rotate_left
  · intro w hSw
    try dsimp only at hSw
    go_simp
    try with_reducible rfl
  simp only [Act.put, List.setIfInBounds_toArray, List.set_cons_zero, List.set_cons_succ, List.getElem_toArray, List.getElem_cons_zero, List.getElem_cons_succ]
  refine wpAnyH_take (i := 9) (v := ?_) rfl (by kernel_rfl) (by kernel_rfl) (by kernel_rfl) (fun _ _ _ h => dec_put (by decide) h) (Or.inl ⟨by rfl, ?_⟩) (by assumption) ?_
  rotate_left
  · intro w hSw
    try dsimp only at hSw
    go_simp
    try with_reducible rfl
  simp only [Act.put, List.setIfInBounds_toArray, List.set_cons_zero, List.set_cons_succ, List.getElem_toArray, List.getElem_cons_zero, List.getElem_cons_succ]
  refine wpAnyH_take (i := 10) (v := ?_) rfl (by kernel_rfl) (by kernel_rfl) (by kernel_rfl) (fun _ _ _ h => dec_put (by decide) h) (Or.inl ⟨by rfl, ?_⟩) (by assumption) ?_
  rotate_left
  · intro w hSw
    try dsimp only at hSw
    go_simp
    try with_reducible rfl
  simp only [Act.put, List.setIfInBounds_toArray, List.set_cons_zero, List.set_cons_succ, List.getElem_toArray, List.getElem_cons_zero, List.getElem_cons_succ]
  refine wpAnyH_ready (rs := [3]) (by kernel_rfl) (by simp) ?_
  refine AllReadyH.cons rfl (fun Kc hKc => ?_) AllReadyH.nil
  go_simp
  go_wp2_with (first | (go_at_call 25; refine (PS.out _ hHeld.1).mono ?_; rintro e w3 ⟨rfl, hb'⟩) | (go_at_call 22; refine (PLW.out _).mono ?_; rintro e w4 ⟨v4, rfl, ho4, hg4, -⟩; have cv4 := HCL.out _ _ _ ho4.at; have hb' := (Below.refl w3.heap.size w3).grown hg4 (Nat.le_refl _) (fun k e => by simp [Value.ownBlock] at e); clear hg4))
  refine hKc.out _ _ ?_ (fun hHeld => ?_)
  · first | assumption | exact ⟨hHeld.1.kept hb', HCV.out _ (hHeld.1.kept hb'), btr hHeld.2.2 hb'⟩
  clear hKc Kc
  refine wpAnyH_take (i := 4) (v := ?_) rfl (by kernel_rfl) (by kernel_rfl) (by kernel_rfl) (fun _ _ _ h => dec_put (by decide) h) (Or.inl ⟨by rfl, ?_⟩) (by assumption) ?_
  rotate_left
  · intro w hSw
    try dsimp only at hSw
    go_simp
    try with_reducible rfl
  simp only [Act.put, List.setIfInBounds_toArray, List.set_cons_zero, List.set_cons_succ, List.getElem_toArray, List.getElem_cons_zero, List.getElem_cons_succ]
  refine wpAnyH_ready (rs := [5]) (by kernel_rfl) (by simp) ?_
  refine AllReadyH.cons rfl (fun Kc hKc => ?_) AllReadyH.nil
  go_simp
  go_wp2_with (first | (go_at_call 25; refine (PS.out _ hHeld.1).mono ?_; rintro e w3 ⟨rfl, hb'⟩) | (go_at_call 22; refine (PLW.out _).mono ?_; rintro e w4 ⟨v4, rfl, ho4, hg4, -⟩; have cv4 := HCL.out _ _ _ ho4.at; have hb' := (Below.refl w3.heap.size w3).grown hg4 (Nat.le_refl _) (fun k e => by simp [Value.ownBlock] at e); clear hg4))
  refine hKc.out _ _ ?_ (fun hHeld => ?_)
  · first | assumption | exact ⟨hHeld.1.kept hb', HCV.out _ (hHeld.1.kept hb'), btr hHeld.2.2 hb'⟩
  clear hKc Kc
  refine wpAnyH_ready (rs := [6]) (by kernel_rfl) (by simp) ?_
  refine AllReadyH.cons rfl (fun Kc hKc => ?_) AllReadyH.nil
  go_simp
  refine hKc.out _ _ ?_ (fun hHeld => ?_)
  · first | assumption | exact ⟨hHeld.1.kept hb', HCV.out _ (hHeld.1.kept hb'), btr hHeld.2.2 hb'⟩
  clear hKc Kc
  refine wpAnyH_take (i := 11) (v := ?_) rfl (by kernel_rfl) (by kernel_rfl) (by kernel_rfl) (fun _ _ _ h => dec_put (by decide) h) (Or.inl ⟨by rfl, ?_⟩) (by assumption) ?_
  rotate_left
  · intro w hSw
    try dsimp only at hSw
    go_simp
    try with_reducible rfl
  simp only [Act.put, List.setIfInBounds_toArray, List.set_cons_zero, List.set_cons_succ, List.getElem_toArray, List.getElem_cons_zero, List.getElem_cons_succ]
  refine wpAnyH_done (by kernel_rfl) ?_ _
  have HO4 := Lib.hid ho4
  have HB4 := Lib.hid (btr HB1.out hHeld.2.2)
  have HS4 := Lib.hid (HS1.out.kept hHeld.2.2)
  have HE4 := Lib.hid (HE1.out.kept hHeld.2.2)
  have HV4 := Lib.hid hHeld.1
  have HSQ := Lib.hid (strB_inj (leB_byts sm 4) (HBY.out.drop at_))
  have HS4L := HB4.out.size
  have HOWN : Hid (bs.take (bs.length - 4) = bs.take at_) := Lib.hid (by rw [HN.out]; rfl)
  have HSIG : Hid (leB sm 4 = bs.drop at_ ↔ signB (bs.take (bs.length - 4)) = bs) := Lib.hid (by
    rw [HSM.out]; exact sign_iff HN.out)
  clear hHeld ho4 hb' cv4
  by_cases hsum : leB sm 4 = bs.drop at_
  · have HSQ2 : (!((strB (leB sm 4)).toList == (strB (bs.drop at_)).toList)) = false := by rw [HSQ.out, decide_eq_true hsum]; rfl
    have HSG := Lib.hid (HSIG.out.1 hsum)
    have HER : Hid (errOf bs = 8) := Lib.hid (by unfold errOf; rw [if_neg (by rw [HN.out]; omega), if_pos HSG.out])
    rw [HSQ2]
    have HR5 : Hid (RdIs (w4.alloc (.cells #[.slice (some ⟨g, off, none⟩) at_ at_] 78)) w.heap.size w4.heap.size (bs.take at_)) := Lib.hid ⟨g, off, at_, by rw [HTL.out]; exact Blk.new _ _ _, by rw [HTL.out]; exact (HV4.out.upto at_ (by omega)).kept ((Below.refl _ _).alloc (Nat.le_refl _) _), hgl, HS4L⟩
    have HB5 := Lib.hid (HB4.out.alloc HB4.out.size (.cells #[.slice (some ⟨g, off, none⟩) at_ at_] 78))
    have HS5 := Lib.hid (HS4.out.alloc (.cells #[.slice (some ⟨g, off, none⟩) at_ at_] 78))
    have HE5 := Lib.hid (HE4.out.alloc (.cells #[.slice (some ⟨g, off, none⟩) at_ at_] 78))
    have HS4L2 : w.heap.size + 1 < w4.heap.size := HE4.out.lt
    have HBO := Lib.hid (HBY.out.take at_)
    clear hsum HSQ2 HSIG HSQ PS PLW HCV HV HV4 HB4 HS4 HE4 HO4 s1 hsb
    go_wp2_with fail
    generalize w4.alloc (.cells #[.slice (some ⟨g, off, none⟩) at_ at_] 78) = w5 at *
    generalize w4.heap.size = RB at *
    generalize bs.take at_ = own at *
    by_cases h2 : at_ < 2
    · have PN : Hid (Calls Tryz.prog 35 #[.pointer (some ⟨RB, 0, none⟩), .int .i64 2] w5 fun e w' => BadP e ∧ w5 = w') := Lib.hid (some_no w5 w.heap.size RB own 2 HR5.out (by rw [HTL.out]; exact h2))
      have HNO : Hid (DecNo bs) := Lib.hid (dec_mark (fun q e => by rw [HOWN.out] at e; have := congrArg List.length e; rw [HTL.out] at this; simp at this; omega))
      with_reducible refine PN.out.mono ?_
      rintro e w6 ⟨hbad, hw⟩
      have hbad2 : e = .panicked [{ v := .iface 114 (.agg #[]), recovered := false }] := hbad
      subst hbad2
      subst hw
      exact door_panic rfl rfl HS5.out HE5.out (by omega) (Nat.le_refl _) (by omega) HB5.out HNO.out HER.out
    · have PN : Hid (Calls Tryz.prog 35 #[.pointer (some ⟨RB, 0, none⟩), .int .i64 2] w5 (SomePost w5 w.heap.size RB own 2)) := Lib.hid (some_yes w5 w.heap.size RB own 2 HR5.out (by rw [HTL.out]; omega) (by rw [HTL.out]; omega))
      with_reducible refine PN.out.mono ?_
      rintro e w6 ⟨v6, rfl, -, hv6, hrd, hg⟩
      have cv6 := HCL.out w6 v6 _ hv6
      have HR6 := Lib.hid hrd
      have HS6 := Lib.hid (HS5.out.grown hg (by simp; omega))
      have HE6 := Lib.hid (HE5.out.grown hg (by simp; omega))
      have HB6 : Hid (Below w.heap.size w w6) := Lib.hid (HB5.out.grown hg HB5.out.size (fun k e => by have := Option.some.inj e; omega))
      have HBD := Lib.hid (HBO.out.drop 2)
      obtain ⟨vo, vc, rfl, hv6c, -⟩ := hv6
      have hl2 : (own.take 2).length = 2 := by have := HTL.out; simp; omega
      rw [hl2] at cv6 ⊢
      have HGA : Hid (((strB (own.take 2)).toList == [71, 65]) = decide (own.take 2 = [71, 65])) := Lib.hid (by
        have := strB_inj (HBO.out.take 2) (show Byts [71, 65] from fun u hu => by simp at hu; omega)
        rw [← this, strB_list [71, 65]]
        rfl)
      clear hrd hg PN HCL HR5 HS5 HE5 HB5 hl2
      by_cases hga : own.take 2 = [71, 65]
      rotate_left
      · have q1 : ((strB (own.take 2)).toList == [71, 65]) = false := by rw [HGA.out]; exact decide_eq_false hga
        have q2 : (!((strB (own.take 2)).toList == [71, 65])) = true := by rw [q1]; rfl
        have HNO : Hid (DecNo bs) := Lib.hid (dec_mark (fun q e => hga (by rw [HOWN.out] at e; rw [e]; rfl)))
        clear hga
        have f3 := HE6.out.frozen 0
        have f2 := HS6.out.frozen 0
        have c3 := HE6.out.cell 0
        have c2 := HS6.out.cell 0
        simp at c2 c3
        go_wp2_with fail
        have HS9 := Lib.hid ((HS6.out.set_ 0 (.pointer none)).far (p := ⟨w.heap.size + 1, 0, none⟩) (by simp) (.int .i64 8))
        have HE9 := Lib.hid ((HE6.out.far (p := ⟨w.heap.size, 0, none⟩) (by simp) (.pointer none)).set_ 0 (.int .i64 8))
        have HB9 := Lib.hid ((HB6.out.setCell (p := ⟨w.heap.size, 0, none⟩) (by simp) (.pointer none)).setCell (p := ⟨w.heap.size + 1, 0, none⟩) (by simp) (.int .i64 8))
        exact door_ret rfl rfl HS9.out HE9.out (And.intro (Or.inr ⟨HNO.out, by rw [HER.out]⟩) HB9.out)
      have q1 : ((strB (own.take 2)).toList == [71, 65]) = true := by rw [HGA.out]; exact decide_eq_true hga
      have q2 : (!((strB (own.take 2)).toList == [71, 65])) = false := by rw [q1]; rfl
      have HG2 := Lib.hid hga
      clear hga
      go_wp2_with fail
      have HMK : Hid (bs.take (bs.length - 4) = [71, 65] ++ own.drop 2) := Lib.hid (by rw [HOWN.out, ← HG2.out, List.take_append_drop])
      have PC := Lib.hid (config_any w6 w.heap.size RB (own.drop 2) HR6.out HBD.out (by rw [List.length_drop, HTL.out]; omega))
      clear q1 q2 cv6 HGA HG2
      generalize own.drop 2 = q at *
      with_reducible refine PC.out.mono ?_
      rintro e w7 (⟨b, r, d, m, s, rest, hcs, hsz, rfl, hrd, hg⟩ | ⟨hno, hbad, hg⟩)
      rotate_left
      · have hbad2 : e = .panicked [{ v := .iface 114 (.agg #[]), recovered := false }] := hbad
        subst hbad2
        exact door_panic rfl rfl (HS6.out.grown hg (by simp; omega)) (HE6.out.grown hg (by simp; omega)) (by omega) (Nat.le_refl _) (by omega) (HB6.out.grown hg HB6.out.size (fun k e => by have := Option.some.inj e; omega)) (dec_cfg HMK.out hno) HER.out
      have HCS := Lib.hid hcs
      have HR7 := Lib.hid hrd
      have HS7 := Lib.hid (HS6.out.grown hg (by simp; omega))
      have HE7 := Lib.hid (HE6.out.grown hg (by simp; omega))
      have HB7 : Hid (Below w.heap.size w w7) := Lib.hid (HB6.out.grown hg HB6.out.size (fun k e => by have := Option.some.inj e; omega))
      have HRT := Lib.hid hcs.1
      have hR := right_of hcs.1
      have HRLE : Hid (rest.length ≤ 100000) := Lib.hid (by
        have e := hcs.2.2.2
        have h := HMK.out
        rw [e] at h
        have := congrArg List.length h
        rw [HOWN.out, HTL.out] at this
        simp only [List.length_append] at this
        omega)
      clear hcs hsz hrd hg PC HR6 HS6 HE6 HB6
      obtain ⟨n, hn⟩ : ∃ n : Nat, b = (n : Int) := ⟨b.toNat, by omega⟩
      subst hn
      have hn59 : n ≤ 59 := by omega
      have HCB8 := Lib.hid (Blk.new w7 24 #[.int .i64 (n : Int), .int .i64 r, .int .i64 d, .int .i64 m, .int .u64 s])
      have HAL : Hid (Below w7.heap.size w7 (w7.alloc (.cells #[.int .i64 (n : Int), .int .i64 r, .int .i64 d, .int .i64 m, .int .u64 s] 24))) := Lib.hid ((Below.refl _ _).alloc (Nat.le_refl _) _)
      have HR8 := Lib.hid (HR7.out.kept HAL.out)
      have HS8 := Lib.hid (HS7.out.kept HAL.out)
      have HE8 := Lib.hid (HE7.out.kept HAL.out)
      have HB8 := Lib.hid (btr HB7.out HAL.out)
      have HCBL : Hid (w.heap.size + 1 < w7.heap.size) := Lib.hid HE7.out.lt
      have HRB7 : Hid (RB < w7.heap.size) := Lib.hid HR7.out.lt
      clear HR7 HS7 HE7 HB7 HAL
      go_upto_region 11 with fail
      generalize w7.alloc (.cells #[.int .i64 (n : Int), .int .i64 r, .int .i64 d, .int .i64 m, .int .u64 s] 24) = w8 at *
      generalize w7.heap.size = CB at *
      have PN8 := Lib.hid (stnew_yes (n : Int) r d m s HRT.out w8)
      go_wp2_with (refine wpList_load_row rfl 24 _ rfl CB rfl 24 _ (0, 0) _ HCB8.out Tryz.underlying24 rfl (by kernel_rfl) ?_)
      with_reducible refine PN8.out.mono ?_
      rintro e w9 ⟨SB, L, X, A, G, C, rfl, hSB, hst, hb9⟩
      have HSB := Lib.hid (Nat.le_trans HB8.out.size hSB)
      have HST9 := Lib.hid (hst.low_ HB8.out.size)
      have HCB9 := Lib.hid (HCB8.out.kept hb9)
      have HR9 := Lib.hid (HR8.out.kept hb9)
      have HS9 := Lib.hid (HS8.out.kept hb9)
      have HE9 := Lib.hid (HE8.out.kept hb9)
      have HB9 := Lib.hid (btr HB8.out hb9)
      clear hst hb9 hSB HCB8 HR8 HS8 HE8 HB8 PN8
      have c2 := HS9.out.cell 0
      have f2 := HS9.out.frozen 0
      simp at c2
      go_upto_region 12 with fail
      have HGS := Lib.hid (grown_set w9 w.heap.size 0 (.pointer (some ⟨SB, 0, none⟩)))
      have HSA : Hid (Blk (w9.setCell ⟨w.heap.size, 0, none⟩ (.pointer (some ⟨SB, 0, none⟩))) w.heap.size 29 #[.pointer (some ⟨SB, 0, none⟩)]) := Lib.hid (by simpa using HS9.out.set_ 0 (.pointer (some ⟨SB, 0, none⟩)))
      have HEA := Lib.hid (HE9.out.grown HGS.out (by simp))
      have HCBA := Lib.hid (HCB9.out.grown HGS.out (by simp; have := HCBL.out; omega))
      have HRA := Lib.hid (HR9.out.gr HGS.out (Nat.le_refl _) (by omega))
      have HSTA := Lib.hid (HST9.out.far HS9.out (by decide) (by decide) HGS.out)
      have HBA := Lib.hid (HB9.out.setCell (p := ⟨w.heap.size, 0, none⟩) (Nat.le_refl _) (.pointer (some ⟨SB, 0, none⟩)))
      have HBR : Hid (Byts rest) := Lib.hid (by
        have e := HCS.out.2.2.2
        have h := HBD.out
        rw [e] at h
        exact h.tail.tail.tail.tail.tail)
      clear HGS HS9 HE9 HCB9 HR9 HST9 HB9 c2 f2
      generalize w9.setCell ⟨w.heap.size, 0, none⟩ (.pointer (some ⟨SB, 0, none⟩)) = wA at *
      have k0 := HCBA.out.cell 0
      simp at k0
      go_wp2_with fail
      clear k0
      go_loopw [50] (fun i wr => ∃ (j : Nat) (Z : Nat → List Int) (t : List Int), j ≤ n + 1 ∧ i = .int .i64 (j : Int) ∧ Shaped (n : Int) r d m Z j ∧ rest = rowsB Z j ++ t ∧ RdIs wr w.heap.size RB t ∧ StIs wr w.heap.size SB L (n : Int) r d m s X A G C Z ∧ Blk wr CB 24 #[.int .i64 (n : Int), .int .i64 r, .int .i64 d, .int .i64 m, .int .u64 s] ∧ Blk wr w.heap.size 29 #[.pointer (some ⟨SB, 0, none⟩)] ∧ Blk wr (w.heap.size + 1) 44 #[.int .i64 0] ∧ Below w.heap.size w wr) (fun i _ => n + 1 - (intOf i).toNat)
      case atStart => exact ⟨0, _, rest, by omega, rfl, fun k hk => by omega, rfl, HRA.out, HSTA.out, HCBA.out, HSA.out, HEA.out, HBA.out⟩
      case round =>
        obtain ⟨j, Z, t, hj, rfl, hsh, hrest, hrd, hst, hcb, hs, he, hbel⟩ := hrel
        have HSH := Lib.hid hsh
        have HRS := Lib.hid hrest
        have HRD := Lib.hid hrd
        have HST := Lib.hid hst
        have HCB := Lib.hid hcb
        have HS := Lib.hid hs
        have HE := Lib.hid he
        have HBL := Lib.hid hbel
        have HBT : Hid (Byts t) := Lib.hid (by have := HBR.out; rw [hrest] at this; exact this.tail)
        have HTLL : Hid (t.length ≤ 100000) := Lib.hid (by have := HRLE.out; rw [hrest, List.length_append] at this; omega)
        obtain ⟨rg, roff, rcap, hrb, hrv, -, -⟩ := hrd
        obtain ⟨tl, htl⟩ : ∃ tl, tl = t.length := ⟨_, rfl⟩
        have HTL2 := Lib.hid htl
        rw [← htl] at hrb hrv
        have HRB := Lib.hid hrb
        have HRV := Lib.hid hrv
        clear hsh hrest hst hcb hs he hbel hrb hrv htl HRA HSTA HCBA HSA HEA HBA
        by_cases hlt : j < n + 1
        · have i0 : (0 : Int) ≤ (j : Int) := by omega
          have i1 : (j : Int) < (n : Int) + 1 := by omega
          have PCL := Lib.hid (fun wq => wcells_any (n : Int) r d m s (j : Int) HRT.out wq)
          have hcn := cellsN_le (l := (j : Int)) HRT.out
          by_cases hrow : ∃ zs a, TRow t (cellsN (n : Int) r d m (j : Int)) zs a
          · obtain ⟨zs, a, hrow⟩ := hrow
            have HROW := Lib.hid hrow
            have PTR := Lib.hid (fun wq hq => takerow_yes wq (.slice (some ⟨rg, roff, none⟩) tl rcap) t _ hq HBT.out HTLL.out (by omega) hrow)
            have ha := hrow.rest.2
            have hal : a ≤ 100000 := by have := HTLL.out; omega
            clear hrow
            generalize hcd : cellsN (n : Int) r d m (j : Int) = cd at *
            have HCD := Lib.hid hcd
            clear hcd
            go_wp2_with fail
            refine wp_region_held_drew (S := fun w' => Blk w' CB 24 #[.int .i64 (n : Int), .int .i64 r, .int .i64 d, .int .i64 m, .int .u64 s] ∧ Blk w' RB 78 #[.slice (some ⟨rg, roff, none⟩) tl rcap] ∧ BytesAt w' (.slice (some ⟨rg, roff, none⟩) tl rcap) t ∧ Below wr.heap.size wr w') (by kernel_rfl) (by exact ⟨HCB.out.drewN 1, HRB.out.drewN 1, HRV.out.kept (below_drewN (Below.refl _ _) 1), below_drewN (Below.refl _ _) 1⟩) (fun hHeld => ?_)
            refine wpAnyH_take (i := 0) (v := ?_) rfl (by kernel_rfl) (by kernel_rfl) (by kernel_rfl) (fun _ _ _ h => dec_put (by decide) h) (Or.inl ⟨by rfl, ?_⟩) (by assumption) ?_
            rotate_left
            · intro w hSw
              try dsimp only at hSw
              go_simp
              try with_reducible rfl
            simp only [Act.put, List.setIfInBounds_toArray, List.set_cons_zero, List.set_cons_succ, List.getElem_toArray, List.getElem_cons_zero, List.getElem_cons_succ]
            refine wpAnyH_take (i := 1) (v := ?_) rfl (by kernel_rfl) (by kernel_rfl) (by kernel_rfl) (fun _ _ _ h => dec_put (by decide) h) (Or.inl ⟨by rfl, ?_⟩) (by assumption) ?_
            rotate_left
            · intro w hSw
              try dsimp only at hSw
              go_simp
              try with_reducible rfl
            simp only [Act.put, List.setIfInBounds_toArray, List.set_cons_zero, List.set_cons_succ, List.getElem_toArray, List.getElem_cons_zero, List.getElem_cons_succ]
            refine wpAnyH_take (i := 2) (v := ?_) rfl (by kernel_rfl) (by kernel_rfl) (by kernel_rfl) (fun _ _ _ h => dec_put (by decide) h) (Or.inl ⟨by rfl, ?_⟩) (by assumption) ?_
            rotate_left
            · intro w hSw
              try dsimp only at hSw
              go_simp
              try with_reducible rfl
            simp only [Act.put, List.setIfInBounds_toArray, List.set_cons_zero, List.set_cons_succ, List.getElem_toArray, List.getElem_cons_zero, List.getElem_cons_succ]
            refine wpAnyH_take (i := 3) (v := ?_) rfl (by kernel_rfl) (by kernel_rfl) (by kernel_rfl) (fun _ _ _ h => dec_put (by decide) h) (Or.inl ⟨by rfl, ?_⟩) (by assumption) ?_
            rotate_left
            · intro w hSw
              have q0 := hSw.2.1.cell 0
              simp at q0
              try refine (exec_load_row 24 _ rfl _ rfl 24 _ (0, 0) _ hSw.1 Tryz.underlying24 rfl (by kernel_rfl)).trans ?_
              go_simp
              try with_reducible rfl
            simp only [Act.put, List.setIfInBounds_toArray, List.set_cons_zero, List.set_cons_succ, List.getElem_toArray, List.getElem_cons_zero, List.getElem_cons_succ]
            refine wpAnyH_take (i := 4) (v := ?_) rfl (by kernel_rfl) (by kernel_rfl) (by kernel_rfl) (fun _ _ _ h => dec_put (by decide) h) (Or.inl ⟨by rfl, ?_⟩) (by assumption) ?_
            rotate_left
            · intro w hSw
              have q0 := hSw.2.1.cell 0
              simp at q0
              try refine (exec_load_row 24 _ rfl _ rfl 24 _ (0, 0) _ hSw.1 Tryz.underlying24 rfl (by kernel_rfl)).trans ?_
              go_simp
              try with_reducible rfl
            simp only [Act.put, List.setIfInBounds_toArray, List.set_cons_zero, List.set_cons_succ, List.getElem_toArray, List.getElem_cons_zero, List.getElem_cons_succ]
            refine wpAnyH_take (i := 5) (v := ?_) rfl (by kernel_rfl) (by kernel_rfl) (by kernel_rfl) (fun _ _ _ h => dec_put (by decide) h) (Or.inl ⟨by rfl, ?_⟩) (by assumption) ?_
            rotate_left
            · intro w hSw
              try dsimp only at hSw
              go_simp
              try with_reducible rfl
            simp only [Act.put, List.setIfInBounds_toArray, List.set_cons_zero, List.set_cons_succ, List.getElem_toArray, List.getElem_cons_zero, List.getElem_cons_succ]
            refine wpAnyH_ready (rs := [6]) (by kernel_rfl) (by simp) ?_
            refine AllReadyH.cons rfl (fun Kc hKc => ?_) AllReadyH.nil
            go_simp
            go_wp2_with (first | (go_at_call 30; refine (PCL.out _).mono ?_; rintro e w3 ⟨rfl, hb'⟩; have hs3 : wr.heap.size ≤ w3.heap.size := (btr hHeld.2.2.2 hb').size) | (go_at_call 37; refine (PTR.out _ hHeld.2.2.1).mono ?_; rintro e w4 ⟨x4, rfl, ho4, hb'⟩; have HO4 := Lib.hid ho4; clear ho4))
            refine hKc.out _ _ ?_ (fun hHeld => ?_)
            · first | assumption | exact ⟨hHeld.1.kept hb', hHeld.2.1.kept hb', hHeld.2.2.1.kept hb', btr hHeld.2.2.2 hb'⟩
            clear hKc Kc
            refine wpAnyH_ready (rs := [7]) (by kernel_rfl) (by simp) ?_
            refine AllReadyH.cons rfl (fun Kc hKc => ?_) AllReadyH.nil
            go_simp
            go_wp2_with (first | (go_at_call 30; refine (PCL.out _).mono ?_; rintro e w3 ⟨rfl, hb'⟩; have hs3 : wr.heap.size ≤ w3.heap.size := (btr hHeld.2.2.2 hb').size) | (go_at_call 37; refine (PTR.out _ hHeld.2.2.1).mono ?_; rintro e w4 ⟨x4, rfl, ho4, hb'⟩; have HO4 := Lib.hid ho4; clear ho4))
            refine hKc.out _ _ ?_ (fun hHeld => ?_)
            · first | assumption | exact ⟨hHeld.1.kept hb', hHeld.2.1.kept hb', hHeld.2.2.1.kept hb', btr hHeld.2.2.2 hb'⟩
            clear hKc Kc
            refine wpAnyH_take (i := 8) (v := ?_) rfl (by kernel_rfl) (by kernel_rfl) (by kernel_rfl) (fun _ _ _ h => dec_put (by decide) h) (Or.inl ⟨by rfl, ?_⟩) (by assumption) ?_
            rotate_left
            · intro w hSw
              try dsimp only at hSw
              go_simp
              try with_reducible rfl
            simp only [Act.put, List.setIfInBounds_toArray, List.set_cons_zero, List.set_cons_succ, List.getElem_toArray, List.getElem_cons_zero, List.getElem_cons_succ]
            refine wpAnyH_take (i := 9) (v := ?_) rfl (by kernel_rfl) (by kernel_rfl) (by kernel_rfl) (fun _ _ _ h => dec_put (by decide) h) (Or.inl ⟨by rfl, ?_⟩) (by assumption) ?_
            rotate_left
            · intro w hSw
              try dsimp only at hSw
              go_simp
              try with_reducible rfl
            simp only [Act.put, List.setIfInBounds_toArray, List.set_cons_zero, List.set_cons_succ, List.getElem_toArray, List.getElem_cons_zero, List.getElem_cons_succ]
            refine wpAnyH_take (i := 10) (v := ?_) rfl (by kernel_rfl) (by kernel_rfl) (by kernel_rfl) (fun _ _ _ h => dec_put (by decide) h) (Or.inl ⟨by rfl, ?_⟩) (by assumption) ?_
            rotate_left
            · intro w hSw
              try dsimp only at hSw
              go_simp
              try with_reducible rfl
            simp only [Act.put, List.setIfInBounds_toArray, List.set_cons_zero, List.set_cons_succ, List.getElem_toArray, List.getElem_cons_zero, List.getElem_cons_succ]
            refine wpAnyH_take (i := 11) (v := ?_) rfl (by kernel_rfl) (by kernel_rfl) (by kernel_rfl) (fun _ _ _ h => dec_put (by decide) h) (Or.inl ⟨by rfl, ?_⟩) (by assumption) ?_
            rotate_left
            · intro w hSw
              try dsimp only at hSw
              go_simp
              try with_reducible rfl
            simp only [Act.put, List.setIfInBounds_toArray, List.set_cons_zero, List.set_cons_succ, List.getElem_toArray, List.getElem_cons_zero, List.getElem_cons_succ]
            refine wpAnyH_take (i := 12) (v := ?_) rfl (by kernel_rfl) (by kernel_rfl) (by kernel_rfl) (fun _ _ _ h => dec_put (by decide) h) (Or.inl ⟨by rfl, ?_⟩) (by assumption) ?_
            rotate_left
            · intro w hSw
              try dsimp only at hSw
              go_simp
              try with_reducible rfl
            simp only [Act.put, List.setIfInBounds_toArray, List.set_cons_zero, List.set_cons_succ, List.getElem_toArray, List.getElem_cons_zero, List.getElem_cons_succ]
            refine wpAnyH_take (i := 13) (v := ?_) rfl (by kernel_rfl) (by kernel_rfl) (by kernel_rfl) (fun _ _ _ h => dec_put (by decide) h) (Or.inl ⟨by rfl, ?_⟩) (by assumption) ?_
            rotate_left
            · intro w hSw
              try dsimp only at hSw
              go_simp
              try with_reducible rfl
            simp only [Act.put, List.setIfInBounds_toArray, List.set_cons_zero, List.set_cons_succ, List.getElem_toArray, List.getElem_cons_zero, List.getElem_cons_succ]
            refine wpAnyH_take (i := 14) (v := ?_) rfl (by kernel_rfl) (by kernel_rfl) (by kernel_rfl) (fun _ _ _ h => dec_put (by decide) h) (Or.inl ⟨by rfl, ?_⟩) (by assumption) ?_
            rotate_left
            · intro w hSw
              try dsimp only at hSw
              go_simp
              try with_reducible rfl
            simp only [Act.put, List.setIfInBounds_toArray, List.set_cons_zero, List.set_cons_succ, List.getElem_toArray, List.getElem_cons_zero, List.getElem_cons_succ]
            refine wpAnyH_done (by kernel_rfl) ?_ _
            have HB4 := Lib.hid (btr HBL.out hHeld.2.2.2)
            have HRD4 := Lib.hid (HRD.out.kept hHeld.2.2.2)
            have HST4 := Lib.hid (HST.out.kept hHeld.2.2.2)
            have HS4 := Lib.hid (HS.out.kept hHeld.2.2.2)
            have HE4 := Lib.hid (HE.out.kept hHeld.2.2.2)
            have HCB4 := Lib.hid hHeld.1
            have HCJ : Hid (C j < wr.heap.size) := Lib.hid (HST.out.lev j (by simp; omega)).ltC
            obtain ⟨xo, xl, xc, rfl⟩ : ∃ xo xl xc, x4 = .slice xo xl xc := by obtain ⟨xo, xc, e, -⟩ := HO4.out.ints; exact ⟨xo, _, xc, e⟩
            have PSM := Lib.hid (some_yes w4 w.heap.size RB t a HRD4.out ha HTLL.out)
            clear hHeld HCB HRB HRV HRD HST HS HE HBL
            go_wp2_with fail
            with_reducible refine PSM.out.mono ?_
            rintro e w5 ⟨v5, rfl, -, -, hrd, hg⟩
            obtain ⟨cs5, hbk⟩ := HRD4.out.blk
            have HRD5 := Lib.hid hrd
            have HST5 := Lib.hid (HST4.out.far hbk (by decide) (by decide) hg)
            have HO5 : Hid (OwnZ w5 w3.heap.size (.slice xo xl xc) zs) := Lib.hid (World.ownsRow.kept HO4.out hg (.inr (own_ne HO4.out hbk (by decide))))
            have HS5 := Lib.hid (HS4.out.grown hg (by simp; omega))
            have HE5 := Lib.hid (HE4.out.grown hg (by simp; omega))
            have HCB5 := Lib.hid (HCB4.out.grown hg (by simp; have := HRB7.out; omega))
            have HB5 : Hid (Below w.heap.size w w5) := Lib.hid (HB4.out.grown hg HB4.out.size (fun k e => by have := Option.some.inj e; omega))
            have c2 := HS5.out.cell 0
            simp at c2
            have PLD := Lib.hid (stload w5 w.heap.size SB L (n : Int) r d m s X A G C Z HST5.out j (by simp; omega) (.slice xo xl xc) zs HO5.out.ints (by rw [HCD.out]; exact HROW.out.1) HROW.out.2.1 (fun e => by have := (HO5.out.lt _ e).1; have := HCJ.out; omega))
            clear hrd hg hbk HRD4 HST4 HO4 HS4 HE4 HCB4 HB4 PSM
            go_wp2_with fail
            with_reducible refine PLD.out.mono ?_
            rintro e w6 ⟨rfl, hst, hg⟩
            obtain ⟨cj, hcj⟩ := (HST5.out.lev j (by simp; omega)).cells
            have hlowj := HST5.out.low j (by simp; omega)
            obtain ⟨cs6, hbk⟩ := HRD5.out.blk
            have HST6 := Lib.hid hst
            have HRD6 := Lib.hid (HRD5.out.gr hg hlowj (hbk.ne_ hcj (by decide)))
            have HS6 := Lib.hid (HS5.out.grown hg (by simpa using HS5.out.ne_ hcj (by decide)))
            have HE6 := Lib.hid (HE5.out.grown hg (by simpa using HE5.out.ne_ hcj (by decide)))
            have HCB6 := Lib.hid (HCB5.out.grown hg (by simpa using HCB5.out.ne_ hcj (by decide)))
            have HB6 : Hid (Below w.heap.size w w6) := Lib.hid (HB5.out.grown hg HB5.out.size (fun k e => by have := Option.some.inj e; omega))
            have HSH6 := Lib.hid (HSH.out.up (by rw [HCD.out]; exact HROW.out.1) HROW.out.2.1)
            have HRS6 : Hid (rest = rowsB (upN Z j zs) (j + 1) ++ t.drop a) := Lib.hid (by
              rw [rowsB_up, List.append_assoc, ← HROW.out.rest.1]; exact HRS.out)
            clear hst hg hcj hbk PLD HO5 HRD5 HS5 HE5 HCB5 HB5 HST5 c2
            go_wp2
            go_roundw
            case rel => exact ⟨j + 1, upN Z j zs, t.drop a, by omega, by go_num, HSH6.out, HRS6.out, HRD6.out, HST6.out, HCB6.out, HS6.out, HE6.out, HB6.out⟩
            case measure => simp [intOf]; omega
          · have hno : TRowNo t (cellsN (n : Int) r d m (j : Int)) := fun zs a h => hrow ⟨zs, a, h⟩
            have PTR := Lib.hid (fun wq hq => takerow_no wq (.slice (some ⟨rg, roff, none⟩) tl rcap) t _ hq HBT.out HTLL.out (by omega) hno)
            have HNO := Lib.hid (dec_row HMK.out HCS.out (by simp; omega) HSH.out HRS.out hno)
            clear hrow hno
            generalize hcd : cellsN (n : Int) r d m (j : Int) = cd at *
            clear hcd
            go_wp2_with fail
            refine wp_region_held_drew (S := fun w' => Blk w' CB 24 #[.int .i64 (n : Int), .int .i64 r, .int .i64 d, .int .i64 m, .int .u64 s] ∧ Blk w' RB 78 #[.slice (some ⟨rg, roff, none⟩) tl rcap] ∧ BytesAt w' (.slice (some ⟨rg, roff, none⟩) tl rcap) t ∧ Below wr.heap.size wr w') (by kernel_rfl) (by exact ⟨HCB.out.drewN 1, HRB.out.drewN 1, HRV.out.kept (below_drewN (Below.refl _ _) 1), below_drewN (Below.refl _ _) 1⟩) (fun hHeld => ?_)
            refine wpAnyH_take (i := 0) (v := ?_) rfl (by kernel_rfl) (by kernel_rfl) (by kernel_rfl) (fun _ _ _ h => dec_put (by decide) h) (Or.inl ⟨by rfl, ?_⟩) (by assumption) ?_
            rotate_left
            · intro w hSw
              try dsimp only at hSw
              go_simp
              try with_reducible rfl
            simp only [Act.put, List.setIfInBounds_toArray, List.set_cons_zero, List.set_cons_succ, List.getElem_toArray, List.getElem_cons_zero, List.getElem_cons_succ]
            refine wpAnyH_take (i := 1) (v := ?_) rfl (by kernel_rfl) (by kernel_rfl) (by kernel_rfl) (fun _ _ _ h => dec_put (by decide) h) (Or.inl ⟨by rfl, ?_⟩) (by assumption) ?_
            rotate_left
            · intro w hSw
              try dsimp only at hSw
              go_simp
              try with_reducible rfl
            simp only [Act.put, List.setIfInBounds_toArray, List.set_cons_zero, List.set_cons_succ, List.getElem_toArray, List.getElem_cons_zero, List.getElem_cons_succ]
            refine wpAnyH_take (i := 2) (v := ?_) rfl (by kernel_rfl) (by kernel_rfl) (by kernel_rfl) (fun _ _ _ h => dec_put (by decide) h) (Or.inl ⟨by rfl, ?_⟩) (by assumption) ?_
            rotate_left
            · intro w hSw
              try dsimp only at hSw
              go_simp
              try with_reducible rfl
            simp only [Act.put, List.setIfInBounds_toArray, List.set_cons_zero, List.set_cons_succ, List.getElem_toArray, List.getElem_cons_zero, List.getElem_cons_succ]
            refine wpAnyH_take (i := 3) (v := ?_) rfl (by kernel_rfl) (by kernel_rfl) (by kernel_rfl) (fun _ _ _ h => dec_put (by decide) h) (Or.inl ⟨by rfl, ?_⟩) (by assumption) ?_
            rotate_left
            · intro w hSw
              have q0 := hSw.2.1.cell 0
              simp at q0
              try refine (exec_load_row 24 _ rfl _ rfl 24 _ (0, 0) _ hSw.1 Tryz.underlying24 rfl (by kernel_rfl)).trans ?_
              go_simp
              try with_reducible rfl
            simp only [Act.put, List.setIfInBounds_toArray, List.set_cons_zero, List.set_cons_succ, List.getElem_toArray, List.getElem_cons_zero, List.getElem_cons_succ]
            refine wpAnyH_take (i := 4) (v := ?_) rfl (by kernel_rfl) (by kernel_rfl) (by kernel_rfl) (fun _ _ _ h => dec_put (by decide) h) (Or.inl ⟨by rfl, ?_⟩) (by assumption) ?_
            rotate_left
            · intro w hSw
              have q0 := hSw.2.1.cell 0
              simp at q0
              try refine (exec_load_row 24 _ rfl _ rfl 24 _ (0, 0) _ hSw.1 Tryz.underlying24 rfl (by kernel_rfl)).trans ?_
              go_simp
              try with_reducible rfl
            simp only [Act.put, List.setIfInBounds_toArray, List.set_cons_zero, List.set_cons_succ, List.getElem_toArray, List.getElem_cons_zero, List.getElem_cons_succ]
            refine wpAnyH_take (i := 5) (v := ?_) rfl (by kernel_rfl) (by kernel_rfl) (by kernel_rfl) (fun _ _ _ h => dec_put (by decide) h) (Or.inl ⟨by rfl, ?_⟩) (by assumption) ?_
            rotate_left
            · intro w hSw
              try dsimp only at hSw
              go_simp
              try with_reducible rfl
            simp only [Act.put, List.setIfInBounds_toArray, List.set_cons_zero, List.set_cons_succ, List.getElem_toArray, List.getElem_cons_zero, List.getElem_cons_succ]
            refine wpAnyH_ready (rs := [6]) (by kernel_rfl) (by simp) ?_
            refine AllReadyH.cons rfl (fun Kc hKc => ?_) AllReadyH.nil
            go_simp
            go_wp2_with (first | (go_at_call 30; refine (PCL.out _).mono ?_; rintro e w3 ⟨rfl, hb'⟩) | (go_at_call 37; refine (PTR.out _ hHeld.2.2.1).mono ?_; rintro e w4 ⟨rfl, hb'⟩))
            refine hKc.out _ _ ?_ (fun hHeld => ?_)
            · first | assumption | exact ⟨hHeld.1.kept hb', hHeld.2.1.kept hb', hHeld.2.2.1.kept hb', btr hHeld.2.2.2 hb'⟩
            clear hKc Kc
            refine wpAnyH_ready (rs := [7]) (by kernel_rfl) (by simp) ?_
            refine AllReadyH.cons rfl (fun Kc hKc => ?_) AllReadyH.nil
            go_simp
            go_wp2_with (first | (go_at_call 30; refine (PCL.out _).mono ?_; rintro e w3 ⟨rfl, hb'⟩) | (go_at_call 37; refine (PTR.out _ hHeld.2.2.1).mono ?_; rintro e w4 ⟨rfl, hb'⟩))
            refine hKc.out _ _ ?_ (fun hHeld => ?_)
            · first | assumption | exact ⟨hHeld.1.kept hb', hHeld.2.1.kept hb', hHeld.2.2.1.kept hb', btr hHeld.2.2.2 hb'⟩
            clear hKc Kc
            refine wpAnyH_take (i := 8) (v := ?_) rfl (by kernel_rfl) (by kernel_rfl) (by kernel_rfl) (fun _ _ _ h => dec_put (by decide) h) (Or.inl ⟨by rfl, ?_⟩) (by assumption) ?_
            rotate_left
            · intro w hSw
              try dsimp only at hSw
              go_simp
              try with_reducible rfl
            simp only [Act.put, List.setIfInBounds_toArray, List.set_cons_zero, List.set_cons_succ, List.getElem_toArray, List.getElem_cons_zero, List.getElem_cons_succ]
            refine wpAnyH_take (i := 9) (v := ?_) rfl (by kernel_rfl) (by kernel_rfl) (by kernel_rfl) (fun _ _ _ h => dec_put (by decide) h) (Or.inl ⟨by rfl, ?_⟩) (by assumption) ?_
            rotate_left
            · intro w hSw
              try dsimp only at hSw
              go_simp
              try with_reducible rfl
            simp only [Act.put, List.setIfInBounds_toArray, List.set_cons_zero, List.set_cons_succ, List.getElem_toArray, List.getElem_cons_zero, List.getElem_cons_succ]
            refine wpAnyH_take (i := 10) (v := ?_) rfl (by kernel_rfl) (by kernel_rfl) (by kernel_rfl) (fun _ _ _ h => dec_put (by decide) h) (Or.inl ⟨by rfl, ?_⟩) (by assumption) ?_
            rotate_left
            · intro w hSw
              try dsimp only at hSw
              go_simp
              try with_reducible rfl
            simp only [Act.put, List.setIfInBounds_toArray, List.set_cons_zero, List.set_cons_succ, List.getElem_toArray, List.getElem_cons_zero, List.getElem_cons_succ]
            refine wpAnyH_take (i := 11) (v := ?_) rfl (by kernel_rfl) (by kernel_rfl) (by kernel_rfl) (fun _ _ _ h => dec_put (by decide) h) (Or.inl ⟨by rfl, ?_⟩) (by assumption) ?_
            rotate_left
            · intro w hSw
              try dsimp only at hSw
              go_simp
              try with_reducible rfl
            simp only [Act.put, List.setIfInBounds_toArray, List.set_cons_zero, List.set_cons_succ, List.getElem_toArray, List.getElem_cons_zero, List.getElem_cons_succ]
            refine wpAnyH_take (i := 12) (v := ?_) rfl (by kernel_rfl) (by kernel_rfl) (by kernel_rfl) (fun _ _ _ h => dec_put (by decide) h) (Or.inl ⟨by rfl, ?_⟩) (by assumption) ?_
            rotate_left
            · intro w hSw
              try dsimp only at hSw
              go_simp
              try with_reducible rfl
            simp only [Act.put, List.setIfInBounds_toArray, List.set_cons_zero, List.set_cons_succ, List.getElem_toArray, List.getElem_cons_zero, List.getElem_cons_succ]
            refine wpAnyH_take (i := 13) (v := ?_) rfl (by kernel_rfl) (by kernel_rfl) (by kernel_rfl) (fun _ _ _ h => dec_put (by decide) h) (Or.inl ⟨by rfl, ?_⟩) (by assumption) ?_
            rotate_left
            · intro w hSw
              try dsimp only at hSw
              go_simp
              try with_reducible rfl
            simp only [Act.put, List.setIfInBounds_toArray, List.set_cons_zero, List.set_cons_succ, List.getElem_toArray, List.getElem_cons_zero, List.getElem_cons_succ]
            refine wpAnyH_take (i := 14) (v := ?_) rfl (by kernel_rfl) (by kernel_rfl) (by kernel_rfl) (fun _ _ _ h => dec_put (by decide) h) (Or.inl ⟨by rfl, ?_⟩) (by assumption) ?_
            rotate_left
            · intro w hSw
              try dsimp only at hSw
              go_simp
              try with_reducible rfl
            simp only [Act.put, List.setIfInBounds_toArray, List.set_cons_zero, List.set_cons_succ, List.getElem_toArray, List.getElem_cons_zero, List.getElem_cons_succ]
            refine wpAnyH_done (by kernel_rfl) ?_ _
            have HB4 := Lib.hid (btr HBL.out hHeld.2.2.2)
            have HS4 := Lib.hid (HS.out.kept hHeld.2.2.2)
            have HE4 := Lib.hid (HE.out.kept hHeld.2.2.2)
            clear hHeld HCB HRB HRV HRD HST HS HE HBL
            have c2 := HS4.out.cell 0
            have f2 := HS4.out.frozen 0
            have c3 := HE4.out.cell 0
            have f3 := HE4.out.frozen 0
            simp at c2 c3
            have HS9 := Lib.hid ((HS4.out.set_ 0 (.pointer none)).far (p := ⟨w.heap.size + 1, 0, none⟩) (by simp) (.int .i64 8))
            have HE9 := Lib.hid ((HE4.out.far (p := ⟨w.heap.size, 0, none⟩) (by simp) (.pointer none)).set_ 0 (.int .i64 8))
            have HB9 := Lib.hid ((HB4.out.setCell (p := ⟨w.heap.size, 0, none⟩) (by simp) (.pointer none)).setCell (p := ⟨w.heap.size + 1, 0, none⟩) (by simp) (.int .i64 8))
            go_wp2_with fail
            exact door_ret rfl rfl HS9.out HE9.out (And.intro (Or.inr ⟨HNO.out, by rw [HER.out]⟩) HB9.out)
        · obtain rfl : j = n + 1 := by omega
          have i1 : ¬ (((n + 1 : Nat) : Int) < (n : Int) + 1) := by omega
          have c0 := HRB.out.cell 0
          have c2 := HS.out.cell 0
          have f2 := HS.out.frozen 0
          have c3 := HE.out.cell 0
          have f3 := HE.out.frozen 0
          simp at c0 c2 c3
          clear hlt
          by_cases ht : t = []
          · have htl0 : tl = 0 := by rw [HTL2.out, ht]; rfl
            subst htl0
            have HDS := Lib.hid (dec_yes HMK.out HSG.out HCS.out HSH.out (by rw [HRS.out, ht, List.append_nil]; rfl))
            have HS9 := Lib.hid ((HS.out.set_ 0 (.pointer (some ⟨SB, 0, none⟩))).far (p := ⟨w.heap.size + 1, 0, none⟩) (by simp) (.int .i64 0))
            have HE9 := Lib.hid ((HE.out.far (p := ⟨w.heap.size, 0, none⟩) (by simp) (.pointer (some ⟨SB, 0, none⟩))).set_ 0 (.int .i64 0))
            have HB9 := Lib.hid ((HBL.out.setCell (p := ⟨w.heap.size, 0, none⟩) (by simp) (.pointer (some ⟨SB, 0, none⟩))).setCell (p := ⟨w.heap.size + 1, 0, none⟩) (by simp) (.int .i64 0))
            have HST9 := Lib.hid ((HST.out.far HS.out (by decide) (by decide) (grown_set wr w.heap.size 0 (.pointer (some ⟨SB, 0, none⟩)))).far (HE.out.far (p := ⟨w.heap.size, 0, none⟩) (by simp) (.pointer (some ⟨SB, 0, none⟩))) (by decide) (by decide) (grown_set _ (w.heap.size + 1) 0 (.int .i64 0)))
            clear ht HRS HSH
            go_wp2_with fail
            exact door_ret rfl rfl HS9.out HE9.out (And.intro (Or.inl ⟨_, _, _, _, _, Z, SB, L, X, A, G, C, HDS.out, rfl, HSB.out, HST9.out⟩) HB9.out)
          · have htl1 : 0 < tl := by rw [HTL2.out]; exact List.length_pos_iff.2 ht
            have HNO := Lib.hid (dec_rest HMK.out HCS.out HSH.out HRS.out ht)
            have HS9 := Lib.hid ((HS.out.set_ 0 (.pointer none)).far (p := ⟨w.heap.size + 1, 0, none⟩) (by simp) (.int .i64 8))
            have HE9 := Lib.hid ((HE.out.far (p := ⟨w.heap.size, 0, none⟩) (by simp) (.pointer none)).set_ 0 (.int .i64 8))
            have HB9 := Lib.hid ((HBL.out.setCell (p := ⟨w.heap.size, 0, none⟩) (by simp) (.pointer none)).setCell (p := ⟨w.heap.size + 1, 0, none⟩) (by simp) (.int .i64 8))
            have htl2 : ((0 : Int) < (tl : Int)) := by omega
            clear ht HRS HSH
            go_wp2_with fail
            exact door_ret rfl rfl HS9.out HE9.out (And.intro (Or.inr ⟨HNO.out, by rw [HER.out]⟩) HB9.out)
  · have c3 := HE4.out.cell 0
    have f3 := HE4.out.frozen 0
    have c2 := HS4.out.cell 0
    have f2 := HS4.out.frozen 0
    simp at c2 c3
    have HSQ2 : (!((strB (leB sm 4)).toList == (strB (bs.drop at_)).toList)) = true := by rw [HSQ.out, decide_eq_false hsum]; rfl
    have HS9 := Lib.hid ((HS4.out.set_ 0 (.pointer none)).far (p := ⟨w.heap.size + 1, 0, none⟩) (by simp) (.int .i64 9))
    have HE9 := Lib.hid ((HE4.out.far (p := ⟨w.heap.size, 0, none⟩) (by simp) (.pointer none)).set_ 0 (.int .i64 9))
    have HB9 := Lib.hid ((HB4.out.setCell (p := ⟨w.heap.size, 0, none⟩) (by simp) (.pointer none)).setCell (p := ⟨w.heap.size + 1, 0, none⟩) (by simp) (.int .i64 9))
    have HNO := Lib.hid (dec_sum (fun h => hsum (HSIG.out.2 h)))
    have HER : Hid (errOf bs = 9) := Lib.hid (by unfold errOf; rw [if_neg (by rw [HN.out]; omega), if_neg (fun h => hsum (HSIG.out.2 h))])
    rw [HSQ2]
    clear hsum HSQ2
    go_wp2_with fail
    exact ⟨_, dec_results _ _ ⟨w.heap.size, 0, none⟩ ⟨w.heap.size + 1, 0, none⟩ none 9 rfl rfl (HS9.out.cell 0) (HE9.out.cell 0), .inr ⟨HNO.out, by rw [HER.out]⟩, HB9.out⟩
end Go.Proofs.YtbghchgmoiniiaaGreat

/-
  The walk of wire.Encode; Decode of any bytes. Conditions: none beyond those stated at each theorem.
-/
namespace Go.Proofs.YtbghchgmoiniiaaGreat
open Go.RowKit
set_option linter.unusedVariables false
set_option linter.unusedSimpArgs false

theorem decode_any (w : World) (v : Value) (bs : List Int) (hv : BytesAt w v bs) (hb : Byts bs) (hl : bs.length ≤ 100000) :
    Calls Tryz.prog 13 #[v] w (DecRes w bs) := by
  by_cases h4 : bs.length < 4
  · exact dec_few w v bs hv h4
  · obtain ⟨ao, cap, rfl, hcap, hmx, hc⟩ := hv
    rcases hc with ⟨rfl, rfl⟩ | ⟨g, off, rfl, hg, hcc⟩
    · simp at h4
    · exact dec_many w g off cap bs ⟨_, cap, rfl, hcap, hmx, .inr ⟨g, off, rfl, hg, hcc⟩⟩ hb (by omega) hl
/-- the bytes of numbers, one behind the other -/
def numsB (ns : List Nat) : List Int := ns.flatMap putN
theorem numsB_snoc (ns : List Nat) (k : Nat) : numsB (ns ++ [k]) = numsB ns ++ putN k := by simp [numsB]
theorem numsB_le {ns : List Nat} (h : ∀ k ∈ ns, k ≤ 128) : (numsB ns).length ≤ 10 * ns.length := by
  induction ns with
  | nil => simp [numsB]
  | cons k ns ih =>
    have e : numsB (k :: ns) = putN k ++ numsB ns := by simp [numsB]
    rw [e, List.length_append, List.length_cons]
    have := putN_len10 (u := k) (by have := h k (by simp); omega)
    have := ih (fun k hk => h k (by simp [hk]))
    omega
theorem four_step {nb nr nd nm j : Nat} (hb : nb ≤ 59) (hr : nr ≤ 8) (hd : nd ≤ 128) (hm : nm ≤ 3) (hj : j < 4) : ∃ q : Nat, q ≤ 128 ∧ [nb, nr, nd, nm].take (j + 1) = [nb, nr, nd, nm].take j ++ [q] ∧ (#[.int .i64 (nb : Int), .int .i64 (nr : Int), .int .i64 (nd : Int), .int .i64 (nm : Int)] : Array Value)[j]? = some (.int .i64 (q : Int)) ∧ (numsB ([nb, nr, nd, nm].take j)).length ≤ 1000 := by
  have hall : ∀ k ∈ [nb, nr, nd, nm], k ≤ 128 := by
    intro k hk
    simp at hk
    omega
  have hle : (numsB ([nb, nr, nd, nm].take j)).length ≤ 1000 := by
    have := numsB_le (ns := [nb, nr, nd, nm].take j) (fun k hk => hall k (List.mem_of_mem_take hk))
    have h2 : ([nb, nr, nd, nm].take j).length ≤ 4 := by simp; omega
    omega
  rcases (show j = 0 ∨ j = 1 ∨ j = 2 ∨ j = 3 by omega) with rfl | rfl | rfl | rfl
  · exact ⟨nb, by omega, rfl, rfl, hle⟩
  · exact ⟨nr, by omega, rfl, rfl, hle⟩
  · exact ⟨nd, by omega, rfl, rfl, hle⟩
  · exact ⟨nm, by omega, rfl, rfl, hle⟩
set_option maxRecDepth 100000 in
set_option maxHeartbeats 8000000 in
theorem encode_any (w : World) (base S L : Nat) (b r d m s : Int) (X : Nat → Value) (A G C : Nat → Nat) (Z : Nat → List Int) (h : StIs w base S L b r d m s X A G C Z) (s0 : 0 ≤ s) (s1 : s < 18446744073709551616) (hl : (headB b r d m s ++ rowsB Z (b.toNat + 1)).length ≤ 100000) :
    Calls Tryz.prog 8 #[.pointer (some ⟨S, 0, none⟩)] w (PostC w (encB b r d m s Z)) := by
  obtain ⟨i0', hi, hz0, hz1, hz2⟩ := info_parts Tryz.info8
  have HST := Lib.hid h
  have HL := Lib.hid hl
  have hR := right_of h.right
  have PC := Lib.hid (stconfig w base S L b r d m s X A G C Z h)
  obtain ⟨nb, nr, nd, nm, rfl, rfl, rfl, rfl⟩ : ∃ nb nr nd nm : Nat, b = (nb : Int) ∧ r = (nr : Int) ∧ d = (nd : Int) ∧ m = (nm : Int) := ⟨b.toNat, r.toNat, d.toNat, m.toNat, by omega, by omega, by omega, by omega⟩
  have hb59 : nb ≤ 59 := by omega
  have hr8 : nr ≤ 8 := by omega
  have hd128 : nd ≤ 128 := by omega
  have hm3 : nm ≤ 3 := by omega
  clear h hl hR
  go_enter Tryz.func8, Tryz.ntmps8
  go_wp2_with fail
  with_reducible refine PC.out.mono ?_
  rintro e w2 ⟨rfl, hb2⟩
  have HB2 := Lib.hid hb2
  have HST2 := Lib.hid (HST.out.kept hb2)
  clear hb2 PC
  have kc := Joins.run_convert_bytes_const_at (P := Tryz.prog) (w2.alloc (.cells #[.int .i64 (nb : Int), .int .i64 (nr : Int), .int .i64 (nd : Int), .int .i64 (nm : Int), .int .u64 s] 24)) 33 5 #[.int .u8 71, .int .u8 65] 2 2 (w2.heap.size + 1) (by simp) Tryz.underlying33 Tryz.underlying5
  go_upto_region 3 with fail
  clear kc
  obtain ⟨g1, g2, hb3, hsz3⟩ := news2 w2 (.cells #[.int .i64 (nb : Int), .int .i64 (nr : Int), .int .i64 (nd : Int), .int .i64 (nm : Int), .int .u64 s] 24) (.cells #[.int .u8 71, .int .u8 65] 5 (2, 3))
  have HC3 : Hid (Blk _ w2.heap.size 24 #[.int .i64 (nb : Int), .int .i64 (nr : Int), .int .i64 (nd : Int), .int .i64 (nm : Int), .int .u64 s]) := Lib.hid g1
  have HB3 := Lib.hid (btr HB2.out hb3)
  have HST3 := Lib.hid (HST2.out.kept hb3)
  have HMK : Hid (BytesAt ((w2.alloc (.cells #[.int .i64 (nb : Int), .int .i64 (nr : Int), .int .i64 (nd : Int), .int .i64 (nm : Int), .int .u64 s] 24)).alloc (.cells #[.int .u8 71, .int .u8 65] 5 (2, 3))) (.slice (some ⟨w2.heap.size + 1, 0, none⟩) 2 2) [71, 65]) := Lib.hid ⟨_, 2, rfl, by simp, by unfold maxLen; omega, .inr ⟨w2.heap.size + 1, 0, rfl, by simp, fun i u hu => by
    have hc := Joins.cell_alloc_mark_at (w2.alloc (.cells #[.int .i64 (nb : Int), .int .i64 (nr : Int), .int .i64 (nd : Int), .int .i64 (nm : Int), .int .u64 s] 24)) #[.int .u8 71, .int .u8 65] 5 (2, 3) (w2.heap.size + 1) i (by simp)
    rw [Nat.zero_add, hc]
    have : ([71, 65] : List Int)[i]? = some u := hu
    match i, this with
    | 0, h => simpa using h
    | 1, h => simpa using h⟩⟩
  have HCL : Hid (w.heap.size ≤ w2.heap.size) := Lib.hid HB2.out.size
  clear g1 g2 hb3 hsz3 HST2 HB2
  generalize (w2.alloc (.cells #[.int .i64 (nb : Int), .int .i64 (nr : Int), .int .i64 (nd : Int), .int .i64 (nm : Int), .int .u64 s] 24)).alloc (.cells #[.int .u8 71, .int .u8 65] 5 (2, 3)) = w3 at *
  generalize w2.heap.size = CB at *
  have k0 := HC3.out.cell 0
  have k1 := HC3.out.cell 1
  have k2 := HC3.out.cell 2
  have k3 := HC3.out.cell 3
  simp at k0 k1 k2 k3
  have HLB := Lib.hid (Blk.new w3 3 #[.int .i64 (nb : Int), .int .i64 (nr : Int), .int .i64 (nd : Int), .int .i64 (nm : Int)])
  have HAL : Hid (Below w3.heap.size w3 (w3.alloc (.cells #[.int .i64 (nb : Int), .int .i64 (nr : Int), .int .i64 (nd : Int), .int .i64 (nm : Int)] 3))) := Lib.hid ((Below.refl _ _).alloc (Nat.le_refl _) _)
  have HC4 := Lib.hid (HC3.out.kept HAL.out)
  have HB4 := Lib.hid (btr HB3.out HAL.out)
  have HST4 := Lib.hid (HST3.out.kept HAL.out)
  have HMK4 := Lib.hid (HMK.out.kept HAL.out)
  have hsz4 := HB3.out.size
  go_wp2_with fail
  clear k0 k1 k2 k3 HC3 HB3 HST3 HMK HAL
  generalize w3.alloc (.cells #[.int .i64 (nb : Int), .int .i64 (nr : Int), .int .i64 (nd : Int), .int .i64 (nm : Int)] 3) = w4 at *
  generalize w3.heap.size = LB at *
  go_loopw [4, 22] (fun x i wr => ∃ j : Nat, j ≤ 4 ∧ i = .int .i64 (j : Int) ∧ BytesAt wr x ([71, 65] ++ numsB ([nb, nr, nd, nm].take j)) ∧ (0 < j → OwnB wr w.heap.size x ([71, 65] ++ numsB ([nb, nr, nd, nm].take j))) ∧ Blk wr LB 3 #[.int .i64 (nb : Int), .int .i64 (nr : Int), .int .i64 (nd : Int), .int .i64 (nm : Int)] ∧ Blk wr CB 24 #[.int .i64 (nb : Int), .int .i64 (nr : Int), .int .i64 (nd : Int), .int .i64 (nm : Int), .int .u64 s] ∧ StIs wr base S L nb nr nd nm s X A G C Z ∧ Below w.heap.size w wr) (fun _ i _ => 4 - (intOf i).toNat)
  case atStart => exact ⟨0, by omega, rfl, by simpa [numsB] using HMK4.out, fun h => by omega, HLB.out, HC4.out, HST4.out, HB4.out⟩
  case round =>
    obtain ⟨j, hj, rfl, hx, hox, hlb, hcb, hst, hbel⟩ := hrel
    obtain ⟨xo, xl, xc, rfl⟩ : ∃ xo xl xc, u4 = .slice xo xl xc := by obtain ⟨xo, xc, e, -⟩ := hx; exact ⟨xo, _, xc, e⟩
    have HX := Lib.hid hx
    have HOX := Lib.hid hox
    have HLB5 := Lib.hid hlb
    have HC5 := Lib.hid hcb
    have HST5 := Lib.hid hst
    have HB5 := Lib.hid hbel
    clear hx hox hlb hcb hst hbel HMK4 HLB HC4 HST4 HB4
    by_cases hlt : j < 4
    · obtain ⟨q, hq1, hq2, hq3, hq4⟩ := four_step hb59 hr8 hd128 hm3 hlt
      have HQ := Lib.hid hq2
      have cx := (HLB5.out.cell j).trans hq3
      have i0 : (0 : Int) ≤ (j : Int) := by omega
      have i1 : (j : Int) < 4 := by omega
      have PP := Lib.hid (put_any' wr _ _ q HX.out (by omega) (by simp; omega))
      have e1 : IntKind.u64.wrap (q : Int) = (q : Int) := by rw [wrapU_mod]; omega
      clear hq2 hq3
      go_wp2_with fail
      with_reducible refine PP.out.mono ?_
      rintro e w6 ⟨v6, rfl, ho6, hb6⟩
      have HO6 : Hid (OwnB w6 w.heap.size v6 ([71, 65] ++ numsB ([nb, nr, nd, nm].take (j + 1)))) := Lib.hid (by rw [HQ.out, numsB_snoc, ← List.append_assoc]; exact ho6.pre HB5.out.size)
      have HB6 := Lib.hid (btr HB5.out hb6)
      have HLB6 := Lib.hid (HLB5.out.kept hb6)
      have HC6 := Lib.hid (HC5.out.kept hb6)
      have HST6 := Lib.hid (HST5.out.kept hb6)
      obtain ⟨vo, vl, vc, rfl⟩ := ho6.open2
      clear ho6 hb6 PP HX HOX HLB5 HC5 HST5 HB5
      go_wp2
      go_roundw
      case rel => exact ⟨j + 1, by omega, by go_num, HO6.out.at, fun _ => HO6.out, HLB6.out, HC6.out, HST6.out, HB6.out⟩
      case measure => simp [intOf]; omega
    · obtain rfl : j = 4 := by omega
      have HO5 : Hid (OwnB wr w.heap.size (.slice xo xl xc) ([71, 65] ++ numsB [nb, nr, nd, nm])) := Lib.hid (HOX.out (by omega))
      have HLN : Hid (([71, 65] ++ numsB [nb, nr, nd, nm]).length ≤ 1000) := Lib.hid (by
        have := numsB_le (ns := [nb, nr, nd, nm]) (fun k hk => by simp at hk; omega)
        simp only [List.length_append, List.length_cons, List.length_nil] at this ⊢
        omega)
      have HHD : Hid ([71, 65] ++ numsB [nb, nr, nd, nm] ++ leB s 8 = headB (nb : Int) nr nd nm s) := Lib.hid (by simp [headB, numsB])
      have k4 := HC5.out.cell 4
      simp at k4
      have PLW : Hid (Calls Tryz.prog 22 #[.slice xo xl xc, .int .u64 s, .int .i64 8] wr (OwnPost wr w.heap.size (.slice xo xl xc) ([71, 65] ++ numsB [nb, nr, nd, nm] ++ leB s 8))) := Lib.hid (low_any wr w.heap.size _ _ s 8 HO5.out HB5.out.size s0 (by omega) (by decide) (by have := HLN.out; omega))
      have i1 : ¬ ((4 : Nat) : Int) < 4 := by omega
      rw [HHD.out] at PLW
      clear hlt HX HOX HLN
      go_wp2_with fail
      with_reducible refine PLW.out.mono ?_
      rintro e w6 ⟨v6, rfl, ho6, hg6, -⟩
      have HO6 := Lib.hid ho6
      have HB6 : Hid (Below w.heap.size w w6) := Lib.hid (HB5.out.grown hg6 HB5.out.size (fun k e => (HO5.out.lt k e).1))
      have HC6 : Hid (Blk w6 CB 24 #[.int .i64 (nb : Int), .int .i64 (nr : Int), .int .i64 (nd : Int), .int .i64 (nm : Int), .int .u64 s]) := Lib.hid (HC5.out.grown hg6 (HO5.out.far HC5.out (by decide)))
      obtain ⟨vo, vl, vc, rfl⟩ := ho6.open2
      have k0 := HC6.out.cell 0
      simp at k0
      have HLT : Hid (∀ j, j ≤ nb + 1 → (headB (nb : Int) nr nd nm s ++ rowsB Z j).length ≤ 100000) := Lib.hid (fun j hj => by
        have h1 := HL.out
        have h2 : ∀ i, (rowsB Z j).length ≤ (rowsB Z (j + i)).length := fun i => by
          induction i with
          | zero => exact Nat.le_refl _
          | succ i ih => rw [← Nat.add_assoc, rowsB, List.length_append]; omega
        have h3 := h2 (nb + 1 - j)
        rw [show j + (nb + 1 - j) = nb + 1 by omega] at h3
        rw [List.length_append] at h1 ⊢
        simp only [Int.toNat_natCast] at h1
        omega)
      clear ho6 hg6 PLW HO5 HC5 HB5 HST5 HLB5 HHD
      go_wp2_with fail
      clear k0 k4
      generalize wr = wo at *
      go_loopw [4, 38] (fun x i wr => ∃ j : Nat, j ≤ nb + 1 ∧ i = .int .i64 (j : Int) ∧ OwnB wr w.heap.size x (headB (nb : Int) nr nd nm s ++ rowsB Z j) ∧ Blk wr CB 24 #[.int .i64 (nb : Int), .int .i64 (nr : Int), .int .i64 (nd : Int), .int .i64 (nm : Int), .int .u64 s] ∧ Below w.heap.size w wr) (fun _ i _ => nb + 1 - (intOf i).toNat)
      case atStart => exact ⟨0, by omega, rfl, by simpa [rowsB] using HO6.out, HC6.out, HB6.out⟩
      case round =>
        obtain ⟨j, hj, rfl, hox, hcb, hbel⟩ := hrel
        have HO7 := Lib.hid hox
        have HC7 := Lib.hid hcb
        have HB7 := Lib.hid hbel
        obtain ⟨xo, xl, xc, rfl⟩ := hox.open2
        clear hox hcb hbel HO6 HC6 HB6
        by_cases hlt : j < nb + 1
        · have i0 : (0 : Int) ≤ (j : Int) := by omega
          have i1 : (j : Int) < (nb : Int) + 1 := by omega
          have hlev := HST.out.lev j (by simp; omega)
          have hzf := hlev.fit
          have hzl := hlev.le
          have hz0' : 0 < (Z j).length := by rw [hlev.len]; exact cellsN_pos HST.out.right (by omega) (by omega)
          have HZF := Lib.hid hzf
          have HZL := Lib.hid hzl
          have HRP : Hid (0 < (rowB (Z j)).length) := Lib.hid (by have := rowB_ge (Z j); omega)
          have HRL : Hid ((rowB (Z j)).length ≤ 10240) := Lib.hid (by have := rowB_le (Z j) hzf; omega)
          have PCE := Lib.hid (stcells wr base S L nb nr nd nm s X A G C Z (HST.out.kept HB7.out) j (by simp; omega))
          have HLJ := Lib.hid (HLT.out j (by omega))
          clear hlev hzf hzl hz0'
          go_wp2_with fail
          with_reducible refine PCE.out.mono ?_
          rintro e w8 ⟨v8, rfl, ho8, -, hb8⟩
          have HB8 := Lib.hid (btr HB7.out hb8)
          have HO8 := Lib.hid (HO7.out.kept hb8)
          have HC8 := Lib.hid (HC7.out.kept hb8)
          have hints : IntsAt w8 v8 (Z j) := IntsAt.of_own ho8 rfl
          have PPR : Hid (Calls Tryz.prog 23 #[.slice none 0 0, v8] w8 (PostC w8 (rowB (Z j)))) := Lib.hid (by simpa using putrow_any w8 (.slice none 0 0) v8 [] (Z j) ⟨none, 0, rfl, by simp, by unfold maxLen; omega, .inl ⟨rfl, rfl⟩⟩ hints HZF.out (by simp) (by have := HZL.out; omega))
          obtain ⟨yo, yl, yc, rfl⟩ : ∃ yo yl yc, v8 = .slice yo yl yc := by obtain ⟨yo, yc, e, -⟩ := hints; exact ⟨yo, _, yc, e⟩
          clear ho8 hb8 hints PCE HO7 HC7 HB7
          go_wp2_with fail
          with_reducible refine PPR.out.mono ?_
          rintro e w9 ⟨v9, rfl, ho9, hb9⟩
          have HB9 := Lib.hid (btr HB8.out hb9)
          have HO9 := Lib.hid (HO8.out.kept hb9)
          have HC9 := Lib.hid (HC8.out.kept hb9)
          obtain ⟨ao9, cap9, e9, hc9, hm9, -⟩ := ho9.at
          have HNW := Lib.hid (BytesAt.news (n := (rowB (Z j)).length) (by rw [← e9]; exact ho9.at) rfl w9 (Below.refl _ _))
          subst e9
          obtain ⟨ad9, ead, hnw⟩ := HNW.out HRP.out
          subst ead
          have HNW2 := Lib.hid hnw
          obtain ⟨rl, hrl⟩ : ∃ rl, rl = (rowB (Z j)).length := ⟨_, rfl⟩
          have HRLQ := Lib.hid hrl
          rw [← hrl] at hc9 HRL HRP HNW ⊢
          have hc1 : (headB (nb : Int) nr nd nm s ++ rowsB Z j).length + rl ≤ maxLen := by have := HLJ.out; have := HRL.out; unfold maxLen; omega
          have hc4 : ((headB (nb : Int) nr nd nm s ++ rowsB Z j).length + rl) * 1 ≤ 140737488355328 := by have := HLJ.out; have := HRL.out; omega
          clear hnw ho9 hb9 hrl PPR HO8 HC8 HB8
          go_wp2_with (at_builtin; go_loud (refine wpList_append_own_at _ rfl _ _ 33 rfl w.heap.size 5 i0' (.int .u8 0) 1 1 Tryz.underlying33 hi hz0 hz1 hz2 rfl (by decide) _ (headB (nb : Int) nr nd nm s ++ rowsB Z j).length _ rfl HO9.out ad9 rl cap9 ((rowB (Z j)).map (Value.int .u8)) rfl (by rw [List.length_map, Nat.mul_one]; exact HRLQ.out.symm) HNW2.out ?c2 hc1 hc4 ?c5 ?_))
          case c2 => exact fun u hu => by obtain ⟨z, -, rfl⟩ := List.mem_map.1 hu; rfl
          case c5 => exact HB9.out.size
          intro va wa hown' hgrow hnil' hq9
          have HOA : Hid (OwnB wa w.heap.size va (headB (nb : Int) nr nd nm s ++ rowsB Z (j + 1))) := Lib.hid (by
            unfold OwnB
            rw [rowsB, ← List.append_assoc, List.length_append (bs := rowB (Z j)), ← HRLQ.out, List.map_append]
            simpa using hown')
          have HBA : Hid (Below w.heap.size w wa) := Lib.hid (HB9.out.grown hgrow HB9.out.size (fun k e => (HO9.out.lt k e).1))
          have HCA : Hid (Blk wa CB 24 #[.int .i64 (nb : Int), .int .i64 (nr : Int), .int .i64 (nd : Int), .int .i64 (nm : Int), .int .u64 s]) := Lib.hid (HC9.out.grown hgrow (HO9.out.far HC9.out (by decide)))
          obtain ⟨zo, zl, zc, rfl⟩ := HOA.out.open2
          clear hown' hgrow hnil' hq9 HO9 HC9 HB9 hc1 hc4
          go_wp2
          go_roundw
          case rel => exact ⟨j + 1, by omega, by go_num, HOA.out, HCA.out, HBA.out⟩
          case measure => simp [intOf]; omega
        · obtain rfl : j = nb + 1 := by omega
          have i1 : ¬ (((nb + 1 : Nat) : Int) < (nb : Int) + 1) := by omega
          have HLJ := Lib.hid (HLT.out (nb + 1) (by omega))
          have HBY : Hid (Byts (headB (nb : Int) nr nd nm s ++ rowsB Z (nb + 1))) := Lib.hid ((headB_byts _ _ _ _ _).append (rowsB_byts _ _))
          have HEN : Hid (encB (nb : Int) nr nd nm s Z = (headB (nb : Int) nr nd nm s ++ rowsB Z (nb + 1)) ++ leB (sumI 0 (headB (nb : Int) nr nd nm s ++ rowsB Z (nb + 1))) 4) := Lib.hid rfl
          have PSU := Lib.hid (sum_any (.slice xo xl xc) _ wr HO7.out.at HBY.out HLJ.out)
          have hsb := sumI_bd 0 (headB (nb : Int) nr nd nm s ++ rowsB Z (nb + 1))
          generalize headB (nb : Int) nr nd nm s ++ rowsB Z (nb + 1) = body at *
          generalize sumI 0 body = sm at *
          have e5 : IntKind.u64.wrap sm = sm := u32_u64 sm hsb.1 hsb.2
          clear hlt HLT
          go_wp2_with fail
          with_reducible refine PSU.out.mono ?_
          rintro e w8 ⟨rfl, hb8⟩
          have HB8 := Lib.hid (btr HB7.out hb8)
          have HO8 := Lib.hid (HO7.out.kept hb8)
          have PLW : Hid (Calls Tryz.prog 22 #[.slice xo xl xc, .int .u64 sm, .int .i64 4] w8 (OwnPost w8 w.heap.size (.slice xo xl xc) (body ++ leB sm 4))) := Lib.hid (low_any w8 w.heap.size _ _ sm 4 HO8.out HB8.out.size hsb.1 (by omega) (by decide) (by have := HLJ.out; omega))
          clear hb8 PSU HO7 HB7 HC7
          go_wp2_with fail
          with_reducible refine PLW.out.mono ?_
          rintro e w9 ⟨v9, rfl, ho9, hg9, -⟩
          have HO9 := Lib.hid ho9
          have HB9 : Hid (Below w.heap.size w w9) := Lib.hid (HB8.out.grown hg9 HB8.out.size (fun k e => (HO8.out.lt k e).1))
          clear ho9 hg9 PLW
          go_wp2
          go_ret
          exact ⟨_, rfl, by rw [HEN.out]; exact HO9.out, HB9.out⟩
end Go.Proofs.YtbghchgmoiniiaaGreat

/-
  The walks of the document's writer: Zig, Row, Head. Conditions: none beyond those stated at each theorem.
-/
namespace Go.Proofs.YtbghchgmoiniiaaGreat
open Go.RowKit
set_option linter.unusedVariables false
set_option linter.unusedSimpArgs false

theorem rzig_any (n : Int) (w : World) (h : -9223372036854775808 ≤ n ∧ n ≤ 9223372036854775807) : Calls Tryz.prog 55 #[.int .i64 n] w fun e w' => e = .returned (.int .u64 (zigI n : Int)) ∧ w = w' := by
  obtain ⟨q, hq⟩ : ∃ q : Int, q = (zigI n : Int) := ⟨_, rfl⟩
  rw [← hq]
  unfold zigI at hq
  by_cases h0 : 0 ≤ n
  · rw [if_pos h0] at hq
    have HQ : Hid (IntKind.u64.wrap (2 * IntKind.u64.wrap n) = q) := Lib.hid (by rw [wrapU_mod, wrapU_mod]; omega)
    have e1 : IntKind.u64.wrap n = n := by rw [wrapU_mod]; omega
    have d0 : decide (0 ≤ n) = true := decide_eq_true h0
    have HQ2 : Hid (q = 2 * n) := Lib.hid (by omega)
    clear hq
    go_enter Tryz.func55, Tryz.ntmps55
    go_wp2
    go_ret
    refine ⟨?_, rfl⟩
    rw [HQ2.out]
    rfl
  · rw [if_neg h0] at hq
    have d0 : decide (0 ≤ n) = false := decide_eq_false h0
    have HQ2 : Hid (q = -2 * n - 1) := Lib.hid (by omega)
    clear hq
    go_enter Tryz.func55, Tryz.ntmps55
    go_wp2
    go_ret
    refine ⟨?_, rfl⟩
    rw [HQ2.out]
    congr 2
    simp [IntKind.wrap, IntKind.bits, IntKind.signed] <;> omega
/-- bytes are appended to a row of bytes of one's own -/
theorem wpList_app_b {w : World} {ops : Array Oper} {rest : List Oper} {o : Oper} {a : Act} {Q : Exit → Act → World → Prop} (hgd : o.guard = none) (s x : Operand)
    (ho : o.op = .call { callee := .builtin .append, args := #[s, x], argTypes := #[33, 33] }) (base : Nat) (v vx : Value) (bs xs : List Int) (hs : a.eval s = v) (hx : a.eval x = vx) (hown : OwnB w base v bs) (hbx : BytesAt w vx xs) (h0 : 0 < xs.length) (hl : bs.length + xs.length ≤ 1000000) (hb : base ≤ w.heap.size)
    (h : ∀ v' w', OwnB w' base v' (bs ++ xs) → w.grownBy w' v.ownBlock → v' ≠ .slice none 0 0 → (v'.ownBlock = v.ownBlock ∨ v'.ownBlock = some w.heap.size) → wpList Tryz.prog ops Q rest (a.put o.dst v') w') : wpList Tryz.prog ops Q (o :: rest) a w := by
  obtain ⟨i0', hi, hz0, hz1, hz2⟩ := info_parts Tryz.info8
  have hbx2 := hbx
  obtain ⟨ao, cap, e, hc, hm, -⟩ := hbx2
  subst e
  have hnews := BytesAt.news (n := xs.length) (ao := ao) (cap := cap) hbx rfl w (Below.refl _ _)
  obtain ⟨ad, rfl, hcells⟩ := hnews h0
  refine wpList_append_own_at _ hgd s x 33 ho base 5 i0' (.int .u8 0) 1 1 Tryz.underlying33 hi hz0 hz1 hz2 rfl (by decide) v bs.length (bs.map (Value.int .u8)) hs hown ad xs.length cap (xs.map (Value.int .u8)) hx (by simp) hcells (fun u hu => by obtain ⟨z, -, rfl⟩ := List.mem_map.1 hu; rfl) (by unfold maxLen; omega) (by omega) hb ?_
  intro v' w' h1 h2 h3 h4
  refine h v' w' ?_ h2 (fun hn => ?_) h4
  · unfold OwnB
    rw [List.length_append, List.map_append]
    exact h1
  · have := (h3.1 hn).2
    omega
set_option maxRecDepth 100000 in
set_option maxHeartbeats 4000000 in
theorem rrow_any (w : World) (vl : Value) (zs : List Int) (hz : IntsAt w vl zs) (hf : Fit zs) (hl2 : zs.length ≤ 10000) :
    Calls Tryz.prog 27 #[vl] w (NewB w (rowB zs)) := by
  have HZ := Lib.hid hz
  have HF := Lib.hid hf
  obtain ⟨ao, cap, rfl, hcap, -⟩ := hz
  obtain ⟨n, hn⟩ : ∃ n, n = zs.length := ⟨_, rfl⟩
  have HN := Lib.hid hn
  rw [← hn] at hcap hl2 HZ ⊢
  have hown0 := World.ownsRow_lit (base := w.heap.size) (e := 5) (size := 1) w #[] 0 (by exact Nat.le_refl _) (by unfold maxLen; omega) (by simp)
  have HO1 := Lib.hid hown0
  have HB1 : Hid (Below w.heap.size w (w.alloc (.cells #[] 5))) := Lib.hid ((Below.refl _ _).alloc (Nat.le_refl _) _)
  clear hf hn hown0
  go_enter Tryz.func27, Tryz.ntmps27
  go_wp2_with fail
  go_loopw [3, 4] (fun x i wr => ∃ j : Nat, j ≤ n ∧ i = .int .i64 (j : Int) ∧ OwnB wr w.heap.size x (rowB (zs.take j)) ∧ x ≠ .slice none 0 0 ∧ Below w.heap.size w wr) (fun _ i _ => n - (intOf i).toNat)
  case atStart => exact ⟨0, by omega, rfl, HO1.out, by simp, HB1.out⟩
  case round =>
    obtain ⟨j, hj, rfl, hown, hnil, hbel⟩ := hrel
    have HO := Lib.hid hown
    have HB := Lib.hid hbel
    have HNIL := Lib.hid hnil
    clear hown hnil HO1 HB1
    by_cases hlt : j < n
    · have hjz : j < zs.length := by have := HN.out; omega
      obtain ⟨g, rfl, hg, hc⟩ := (HZ.out.kept hbel).cell hjz
      have hfj := HF.out.get (show zs[j]? = some (cellD zs j) by simp [cellD, hjz])
      have HRT := Lib.hid (rowB_take hjz)
      have HRL : Hid ((rowB (zs.take j)).length ≤ 100000) := Lib.hid (by
        have := rowB_le (zs.take j) (Fit.take HF.out j)
        have h3 : (zs.take j).length ≤ j := List.length_take_le _ _
        omega)
      have PZ := Lib.hid (fun w => rzig_any (cellD zs j) w hfj)
      have PB := Lib.hid (fun w => rput_b w (zigI (cellD zs j)) (zig_lt hfj))
      have HPN := Lib.hid (putN_len10 (zig_lt hfj))
      have HPP := Lib.hid (putN_pos (zigI (cellD zs j)))
      have i0 : (0 : Int) ≤ (j : Int) := by omega
      have i1 : (j : Int) < (n : Int) := by omega
      clear hfj hjz hbel
      generalize cellD zs j = z at *
      go_wp2_with fail
      with_reducible refine (PZ.out _).mono ?_
      rintro e w5 ⟨rfl, hw5⟩
      subst hw5
      go_wp2_with fail
      with_reducible refine (PB.out _).mono ?_
      rintro e w6 ⟨v6, rfl, ho6, hn6, hb6⟩
      have HB6 := Lib.hid (btr HB.out hb6)
      have HO6 := Lib.hid (HO.out.kept hb6)
      have HAT := Lib.hid ho6.at
      obtain ⟨vo, vl, vc, rfl⟩ := ho6.open2
      clear ho6 hn6 hb6 hc
      go_wp2_with (at_builtin; refine wpList_app_b rfl _ _ rfl w.heap.size _ _ _ _ rfl rfl HO6.out HAT.out HPP.out (by have := HRL.out; have := HPN.out; omega) HB6.out.size ?_)
      intro v8 w8 h8 g8 n8 q8
      have HO8 : Hid (OwnB w8 w.heap.size v8 (rowB (zs.take (j + 1)))) := Lib.hid (by rw [HRT.out]; exact h8)
      have HB8 : Hid (Below w.heap.size w w8) := Lib.hid (HB6.out.grown g8 HB6.out.size (fun k e => (HO6.out.lt k e).1))
      have HN8 := Lib.hid n8
      clear h8 g8 n8 q8
      go_wp2
      go_roundw
      case rel => exact ⟨j + 1, by omega, by go_num, HO8.out, HN8.out, HB8.out⟩
      case measure => simp [intOf]; omega
    · obtain rfl : j = n := by omega
      have HE : Hid (zs.take j = zs) := Lib.hid (List.take_of_length_le (by have := HN.out; omega))
      clear hbel
      go_wp2
      go_ret
      exact ⟨_, rfl, by rw [← HE.out]; exact HO.out, HNIL.out, HB.out⟩
end Go.Proofs.YtbghchgmoiniiaaGreat
