/-
  Rows of numbers read one behind the other; the walks of TakeRow and its reference. Conditions: none beyond those stated at each theorem.
-/
import Derived.Test.YtbghchgmoiniiaaVarR
namespace Go.Proofs.Ytbghchgmoiniiaa
open Go.RowKit
set_option linter.unusedVariables false
set_option linter.unusedSimpArgs false

/-- bytes begin with the writing of n numbers zs, of so many bytes -/
def TRow (bs : List Int) (n : Nat) (zs : List Int) (at' : Nat) : Prop := zs.length = n ∧ Fit zs ∧ at' = (rowB zs).length ∧ ∃ r, bs = rowB zs ++ r
def TRowNo (bs : List Int) (n : Nat) : Prop := ∀ zs a, ¬ TRow bs n zs a
theorem Fit.nil : Fit [] := fun u hu => by cases hu
theorem Fit.snoc {zs : List Int} (h : Fit zs) {z : Int} (hz : -9223372036854775808 ≤ z ∧ z ≤ 9223372036854775807) : Fit (zs ++ [z]) := fun u hu => by
  rcases List.mem_append.1 hu with hu | hu
  · exact h u hu
  · rw [List.mem_singleton.1 hu]; exact hz
theorem TRow.zero (bs : List Int) : TRow bs 0 [] 0 := ⟨rfl, Fit.nil, rfl, bs, rfl⟩
theorem TRow.rest {bs : List Int} {n : Nat} {zs : List Int} {a : Nat} (h : TRow bs n zs a) : bs = rowB zs ++ bs.drop a ∧ a ≤ bs.length := by
  obtain ⟨-, -, rfl, r, rfl⟩ := h
  exact ⟨by rw [List.drop_left], by simp⟩
theorem TRow.le {bs : List Int} {n : Nat} {zs : List Int} {a : Nat} (h : TRow bs n zs a) : n ≤ a ∧ a ≤ 10 * n := by
  obtain ⟨rfl, h2, rfl, -⟩ := h
  exact ⟨rowB_ge zs, rowB_le zs h2⟩
theorem TRow.next {bs : List Int} {n : Nat} {zs : List Int} {a u m : Nat} (h : TRow bs n zs a) (k : TakeS (bs.drop a) u m) : TRow bs (n + 1) (zs ++ [zagI u]) (a + m) := by
  obtain ⟨h1, h2, h3, r, h4⟩ := h
  obtain ⟨k1, k2, s, k3⟩ := k
  refine ⟨by simp [h1], h2.snoc (zag_fit k1), ?_, s, ?_⟩
  · rw [rowB_snoc, zig_zag, List.length_append, h3, k2]
  · rw [rowB_snoc, zig_zag, List.append_assoc, ← k3, h3, h4, List.drop_left]
theorem row_split {zs ys : List Int} (hz : Fit zs) (hy : Fit ys) {r s : List Int} (h : rowB zs ++ r = rowB ys ++ s) (hl : zs.length < ys.length) : ∃ y t, ys = zs ++ y :: t ∧ r = putN (zigI y) ++ (rowB t ++ s) := by
  induction zs generalizing ys with
  | nil =>
    cases ys with
    | nil => simp at hl
    | cons y t => exact ⟨y, t, rfl, by simpa [rowB_cons, rowB_nil] using h⟩
  | cons z zs ih =>
    cases ys with
    | nil => simp at hl
    | cons y ys =>
      rw [rowB_cons, rowB_cons, List.append_assoc, List.append_assoc] at h
      have e := VL_prefix (putN_VL _) (putN_VL _) h
      have e2 := putN_inj e
      have e3 : z = y := by rw [← zag_zig z, e2, zag_zig]
      subst e3
      obtain ⟨y2, t, e4, e5⟩ := ih (fun u hu => hz u (by simp [hu])) (fun u hu => hy u (by simp [hu])) (List.append_cancel_left h) (by simpa using hl)
      exact ⟨y2, t, by rw [e4]; rfl, e5⟩
theorem row_same {zs ys : List Int} {r s : List Int} (h : rowB zs ++ r = rowB ys ++ s) (hl : zs.length = ys.length) : zs = ys := by
  induction zs generalizing ys with
  | nil => exact (List.eq_nil_of_length_eq_zero hl.symm).symm
  | cons z zs ih =>
    cases ys with
    | nil => simp at hl
    | cons y ys =>
      rw [rowB_cons, rowB_cons, List.append_assoc, List.append_assoc] at h
      have e2 := putN_inj (VL_prefix (putN_VL _) (putN_VL _) h)
      have e3 : z = y := by rw [← zag_zig z, e2, zag_zig]
      subst e3
      rw [ih (List.append_cancel_left h) (by simpa using hl)]
theorem TRow.unique {bs : List Int} {n : Nat} {zs ys : List Int} {a b : Nat} (h : TRow bs n zs a) (k : TRow bs n ys b) : zs = ys ∧ a = b := by
  obtain ⟨h1, -, h3, r, h4⟩ := h
  obtain ⟨k1, -, k3, s, k4⟩ := k
  have := row_same (h4.symm.trans k4) (by omega)
  subst this
  exact ⟨rfl, by omega⟩
theorem TRow.no {bs : List Int} {j n : Nat} {zs : List Int} {a : Nat} (h : TRow bs j zs a) (hn : TakeNo (bs.drop a)) (hj : j < n) : TRowNo bs n := by
  intro ys b k
  obtain ⟨h1, h2, h3, r, h4⟩ := h
  obtain ⟨k1, k2, k3, s, k4⟩ := k
  obtain ⟨y, t, e1, e2⟩ := row_split h2 k2 (h4.symm.trans k4) (by omega)
  refine hn (zigI y) (putN (zigI y)).length ⟨zig_lt (k2 y (by rw [e1]; simp)), rfl, rowB t ++ s, ?_⟩
  rw [h3, h4, List.drop_left, e2]
theorem trow_long {bs : List Int} {n : Nat} (h : bs.length < n) : TRowNo bs n := fun zs a k => by
  have := k.le
  have := k.rest
  omega
/-- a row of int64 made here -/
def OwnZ (w : World) (base : Nat) (v : Value) (zs : List Int) : Prop := w.ownsRow base 2 1 v zs.length (zs.map (Value.int .i64))
theorem OwnZ.ints {w : World} {base : Nat} {v : Value} {zs : List Int} (h : OwnZ w base v zs) : IntsAt w v zs := IntsAt.of_own h rfl
theorem OwnZ.kept {w w' : World} {base : Nat} {v : Value} {zs : List Int} (h : OwnZ w base v zs) (hb : Below w.heap.size w w') : OwnZ w' base v zs := World.ownsRow.kept h (below_gr (row := none) hb) (by cases v.ownBlock <;> simp)
theorem OwnZ.lt {w : World} {base : Nat} {v : Value} {zs : List Int} (h : OwnZ w base v zs) : ∀ k, v.ownBlock = some k → base ≤ k ∧ k < w.heap.size := World.ownsRow.lt h
def TRowRes (w : World) (bs : List Int) (n : Nat) (e : Ending) (w' : World) : Prop :=
  ((∃ zs a v, TRow bs n zs a ∧ e = .returned (.tuple #[v, .int .i64 (a : Int), .int .i64 0]) ∧ OwnZ w' w.heap.size v zs) ∨ (TRowNo bs n ∧ e = .returned (.tuple #[.slice none 0 0, .int .i64 0, .int .i64 8]))) ∧ Below w.heap.size w w'
/-- the part of a slice from one place on -/
theorem BytesAt.from_ {w : World} {g off n cap : Nat} {bs : List Int} (h : BytesAt w (.slice (some ⟨g, off, none⟩) n cap) bs) (a : Nat) (ha : a ≤ n) (k : Nat) (hk : a < cap → k = off + a) (hk2 : a = cap → k = off) : BytesAt w (.slice (some ⟨g, k, none⟩) (n - a) (cap - a)) (bs.drop a) := by
  obtain ⟨ao2, cap2, e, h1, h2, h3⟩ := h
  simp only [Value.slice.injEq] at e
  obtain ⟨rfl, rfl, rfl⟩ := e
  refine ⟨_, cap - a, by rw [List.length_drop], by rw [List.length_drop]; omega, by omega, ?_⟩
  rcases h3 with ⟨rfl, h3⟩ | ⟨g2, off2, e2, hg, hcc⟩
  · cases h3
  · have e2 := Option.some.inj e2
    cases e2
    refine .inr ⟨g, k, rfl, hg, fun i u hu => ?_⟩
    rw [List.getElem?_drop] at hu
    have hlt := (List.getElem?_eq_some_iff.1 hu).1
    rw [hk (by omega), Nat.add_assoc]
    exact hcc (a + i) u hu
set_option maxRecDepth 100000 in
set_option maxHeartbeats 8000000 in
theorem takerow_any (w : World) (v : Value) (bs : List Int) (n : Nat) (hv : BytesAt w v bs) (hb : Byts bs) (hl : bs.length ≤ 100000) (hn : n ≤ 100000) :
    Calls Try.prog 23 #[v, .int .i64 (n : Int)] w (TRowRes w bs n) := by
  obtain ⟨i0', hi, hz0, hz1, hz2⟩ := info_parts Try.info64
  have HV := Lib.hid hv
  have HB := Lib.hid hb
  obtain ⟨ao, cap, rfl, hcap, hmx, hc⟩ := hv
  obtain ⟨m, hm⟩ : ∃ m, m = bs.length := ⟨_, rfl⟩
  have HM := Lib.hid hm
  rw [← hm] at hcap hl ⊢
  clear hm hc hb
  by_cases hlong : m < n
  · have d1 : decide ((m : Int) < (n : Int)) = true := decide_eq_true (by omega)
    have d1' : decide (m < n) = true := decide_eq_true hlong
    have d2 : decide ((n : Int) < 0) = false := decide_eq_false (by omega)
    have HP : Hid (TRowNo bs n) := Lib.hid (trow_long (by rw [← HM.out]; exact hlong))
    clear hlong
    go_enter Try.func23, Try.ntmps23
    go_wp2
    go_ret3
    exact ⟨.inr ⟨HP.out, rfl⟩, Below.refl _ _⟩
  · have d1 : decide ((m : Int) < (n : Int)) = false := decide_eq_false (by omega)
    have d1' : decide (m < n) = false := decide_eq_false hlong
    have d2 : decide ((n : Int) < 0) = false := decide_eq_false (by omega)
    go_enter Try.func23, Try.ntmps23
    go_wp2_with (at_make; refine wpList_make_own _ rfl _ _ 51 rfl w.heap.size 2 i0' (.int .i64 0) 1 Try.underlying51 hi hz0 hz1 .i64 .i64 _ n rfl rfl rfl (by rw [hz2]; omega) (by unfold maxLen; omega) (Nat.le_refl _) ?_)
    intro w2 ho2 hg2
    have HO2 : Hid (OwnZ w2 w.heap.size (.slice (some ⟨w.heap.size, 0, none⟩) 0 n) []) := Lib.hid ho2
    have HB2 : Hid (Below w.heap.size w w2) := Lib.hid ((Below.refl _ _).grown hg2 (Nat.le_refl _) (fun k e => by cases e))
    clear ho2 hg2
    go_wp2_with fail
    go_loopw [7, 8, 23] (fun x y i wr => ∃ (j a : Nat) (zs : List Int), j ≤ n ∧ i = .int .i64 (j : Int) ∧ y = .int .i64 (a : Int) ∧ TRow bs j zs a ∧ OwnZ wr w.heap.size x zs ∧ Below w.heap.size w wr) (fun _ _ i _ => n - (intOf i).toNat)
    case atStart => exact ⟨0, 0, [], by omega, rfl, rfl, TRow.zero _, HO2.out, HB2.out⟩
    case round =>
      obtain ⟨j, a, zs, hj, rfl, rfl, htr, ho, hbel⟩ := hrel
      have HTR := Lib.hid htr
      have HO := Lib.hid ho
      have HBL := Lib.hid hbel
      have ha := htr.rest.2
      have ha10 := htr.le.2
      have hzl : zs.length ≤ 100000 := by have := htr.1; omega
      have HZL := Lib.hid hzl
      rw [← HM.out] at ha
      have hsz := hbel.size
      clear htr ho hbel hzl HO2 HB2
      by_cases hlt : j < n
      · obtain ⟨g, off, rfl, hg, -⟩ := HV.out.cell (j := 0) (by have := HM.out; omega)
        have i0 : (0 : Int) ≤ (a : Int) := by omega
        have i1 : (a : Int) ≤ (m : Int) := by omega
        have HVR := Lib.hid (HV.out.kept HBL.out)
        have HVF := Lib.hid (fun k h1 h2 => HVR.out.from_ a (by rw [← HM.out]; exact ha) k h1 h2)
        have HDB := Lib.hid (HB.out.drop a)
        have HDL : Hid ((bs.drop a).length ≤ 100000) := Lib.hid (by rw [List.length_drop, ← HM.out]; omega)
        have HNX := Lib.hid (fun u k h => HTR.out.next (u := u) (m := k) h)
        have HNO := Lib.hid (fun h => HTR.out.no h hlt)
        rw [← HM.out] at HVF
        clear hg
        by_cases hk : a < cap
        all_goals
          have PT : Hid (∀ k, (if a < cap then off + a else off) = k → Calls Try.prog 42 #[.slice (some ⟨g, k, none⟩) (m - a) (cap - a)] wr fun e w' => TakeRes (bs.drop a) e ∧ wr = w') := Lib.hid (fun k hk2 => take_any wr _ _ (HVF.out k (fun h => by rw [← hk2, if_pos h]) (fun h => by rw [← hk2, if_neg (by omega)])) HDB.out HDL.out)
          first | have PT := Lib.hid (PT.out (off + a) (if_pos hk)) | have PT := Lib.hid (PT.out off (if_neg hk))
          go_wp2_with fail
          with_reducible refine PT.out.mono ?_
          rintro e w5 ⟨hres, hw5⟩
          subst hw5
          rcases hres with ⟨u, k, hts, rfl⟩ | ⟨hno, rfl⟩
          · have HTS := Lib.hid (HNX.out _ _ hts)
            have hu := hts.1
            have hk10 : a + k ≤ 10000000 := by have := HTS.out.le.2; omega
            have PZ := Lib.hid (fun w => zag_any u w hu)
            have e3 : IntKind.i64.wrap ((a : Int) + (k : Int)) = ((a + k : Nat) : Int) := by rw [wrapI_eq64]; unfold wrap64; omega
            generalize zagI u = z at *
            have hc1 : zs.length + 1 ≤ maxLen := by have := HZL.out; unfold maxLen; omega
            have hc4 : (zs.length + 1) * 8 ≤ 140737488355328 := by have := HZL.out; omega
            clear hts hu
            go_wp2_with fail
            with_reducible refine (PZ.out _).mono ?_
            rintro e w6 ⟨rfl, hw6⟩
            subst hw6
            go_wp2_with (at_builtin; refine wpList_append_own_at _ rfl _ _ 51 rfl w.heap.size 2 i0' (.int .i64 0) 1 8 Try.underlying51 hi hz0 hz1 hz2 rfl (by decide) _ zs.length _ rfl (World.ownsRow.alloc HO.out _) ⟨wr.heap.size, 0, none⟩ 1 1 [.int .i64 z] rfl rfl (cell_one_new _ _ _) ?c2 hc1 hc4 ?c5 ?_)
            case c2 => simp [Value.oneCell']
            case c5 => simp; omega
            intro v8 w8 hown' hgrow hnil' hq9
            have HO8 : Hid (OwnZ w8 w.heap.size v8 (zs ++ [z])) := Lib.hid (by unfold OwnZ; rw [show (zs ++ [z]).length = zs.length + 1 by simp only [List.length_append, List.length_singleton]]; simpa using hown')
            have HB8 : Hid (Below w.heap.size w w8) := Lib.hid ((HBL.out.alloc HBL.out.size _).grown hgrow (by simp; omega) (fun k e => (HO.out.lt k e).1))
            clear hown' hgrow hnil' hq9
            go_wp2
            go_roundw
            case rel => exact ⟨j + 1, a + k, zs ++ [z], by omega, by go_num, by first | rfl | rw [e3] | go_num, HTS.out, HO8.out, HB8.out⟩
            case measure => simp [intOf]; omega
          · have HNR := Lib.hid (HNO.out hno)
            clear hno
            go_wp2
            go_ret3
            exact ⟨.inr ⟨HNR.out, rfl⟩, HBL.out⟩
      · obtain rfl : j = n := by omega
        clear hlt
        go_wp2
        go_ret3
        exact ⟨.inl ⟨zs, a, _, HTR.out, rfl, HO.out⟩, HBL.out⟩
set_option maxRecDepth 100000 in
set_option maxHeartbeats 8000000 in
theorem rtakerow_any (w : World) (g off cap : Nat) (bs : List Int) (n : Nat) (hv : BytesAt w (.slice (some ⟨g, off, none⟩) bs.length cap) bs) (hb : Byts bs) (hl : bs.length ≤ 100000) (hn : n ≤ 100000) :
    Calls Try.prog 27 #[.slice (some ⟨g, off, none⟩) bs.length cap, .int .i64 (n : Int)] w (TRowRes w bs n) := by
  obtain ⟨i0', hi, hz0, hz1, hz2⟩ := info_parts Try.info64
  have HV := Lib.hid hv
  have HB := Lib.hid hb
  obtain ⟨m, hm⟩ : ∃ m, m = bs.length := ⟨_, rfl⟩
  have HM := Lib.hid hm
  have hcap : m ≤ cap ∧ cap ≤ maxLen := by
    obtain ⟨ao2, cap2, e, h1, h2, -⟩ := hv
    simp only [Value.slice.injEq] at e
    obtain ⟨-, -, rfl⟩ := e
    exact ⟨by omega, h2⟩
  obtain ⟨hcap, hmx⟩ := hcap
  rw [← hm] at hl ⊢
  clear hm hv hb
  have d2 : decide ((n : Int) < 0) = false := decide_eq_false (by omega)
  have hown0 := World.ownsRow_lit (base := w.heap.size) (e := 2) (size := 1) w #[] 0 (by exact Nat.le_refl _) (by unfold maxLen; omega) (by simp)
  have HO2 : Hid (OwnZ (w.alloc (.cells #[] 2)) w.heap.size (.slice (some ⟨w.heap.size, 0, none⟩) 0 0) []) := Lib.hid hown0
  have HB2 : Hid (Below w.heap.size w (w.alloc (.cells #[] 2))) := Lib.hid ((Below.refl _ _).alloc (Nat.le_refl _) _)
  clear hown0
  go_enter Try.func27, Try.ntmps27
  go_wp2_with fail
  go_loopw [7, 8] (fun x y wr => ∃ (j a : Nat) (zs : List Int), j ≤ n ∧ (∃ ao c, x = .slice ao j c) ∧ y = .int .i64 (a : Int) ∧ TRow bs j zs a ∧ OwnZ wr w.heap.size x zs ∧ Below w.heap.size w wr) (fun x _ _ => match x with | .slice _ l _ => n - l | _ => 0)
  case atStart => exact ⟨0, 0, [], by omega, ⟨_, _, rfl⟩, rfl, TRow.zero _, HO2.out, HB2.out⟩
  case round =>
    obtain ⟨j, a, zs, hj, ⟨xo, xc, rfl⟩, rfl, htr, ho, hbel⟩ := hrel
    have HTR := Lib.hid htr
    have HO := Lib.hid ho
    have HBL := Lib.hid hbel
    have ha := htr.rest.2
    have ha10 := htr.le.2
    have hzl : zs.length ≤ 100000 := by have := htr.1; omega
    have HZL := Lib.hid hzl
    have HZJ := Lib.hid htr.1
    rw [← HM.out] at ha
    have hsz := hbel.size
    clear htr ho hbel hzl HO2 HB2
    by_cases hlt : j < n
    · have i0 : (0 : Int) ≤ (a : Int) := by omega
      have i1 : (a : Int) ≤ (m : Int) := by omega
      have HVR := Lib.hid (HV.out.kept HBL.out)
      have HVF := Lib.hid (fun k h1 h2 => HVR.out.from_ a (by rw [← HM.out]; exact ha) k h1 h2)
      have HDB := Lib.hid (HB.out.drop a)
      have HDL : Hid ((bs.drop a).length ≤ 100000) := Lib.hid (by rw [List.length_drop, ← HM.out]; omega)
      have HNX := Lib.hid (fun u k h => HTR.out.next (u := u) (m := k) h)
      have HNO := Lib.hid (fun h => HTR.out.no h hlt)
      rw [← HM.out] at HVF
      by_cases hk : a < cap
      all_goals
        have PT : Hid (∀ k, (if a < cap then off + a else off) = k → Calls Try.prog 47 #[.slice (some ⟨g, k, none⟩) (m - a) (cap - a)] wr (TakeResB wr (bs.drop a))) := Lib.hid (fun k hk2 => rtake_any wr _ _ (HVF.out k (fun h => by rw [← hk2, if_pos h]) (fun h => by rw [← hk2, if_neg (by omega)])) HDB.out HDL.out)
        first | have PT := Lib.hid (PT.out (off + a) (if_pos hk)) | have PT := Lib.hid (PT.out off (if_neg hk))
        go_wp2_with fail
        with_reducible refine PT.out.mono ?_
        rintro e w5 ⟨hres, hb5⟩
        have HBL := Lib.hid (btr HBL.out hb5)
        have HO := Lib.hid (HO.out.kept hb5)
        have hsz := HBL.out.size
        clear hb5
        rcases hres with ⟨u, k, hts, rfl⟩ | ⟨hno, rfl⟩
        · have HTS := Lib.hid (HNX.out _ _ hts)
          have hu := hts.1
          have hk10 : a + k ≤ 10000000 := by have := HTS.out.le.2; omega
          have PZ := Lib.hid (fun w => rzag_any u w hu)
          have e3 : IntKind.i64.wrap ((a : Int) + (k : Int)) = ((a + k : Nat) : Int) := by rw [wrapI_eq64]; unfold wrap64; omega
          generalize zagI u = z at *
          have hc1 : zs.length + 1 ≤ maxLen := by have := HZL.out; unfold maxLen; omega
          have hc4 : (zs.length + 1) * 8 ≤ 140737488355328 := by have := HZL.out; omega
          clear hts hu
          go_wp2_with fail
          with_reducible refine (PZ.out _).mono ?_
          rintro e w6 ⟨rfl, hw6⟩
          subst hw6
          go_wp2_with (at_builtin; refine wpList_append_own_at _ rfl _ _ 51 rfl w.heap.size 2 i0' (.int .i64 0) 1 8 Try.underlying51 hi hz0 hz1 hz2 rfl (by decide) _ zs.length _ rfl (World.ownsRow.alloc HO.out _) ⟨w5.heap.size, 0, none⟩ 1 1 [.int .i64 z] rfl rfl (cell_one_new _ _ _) ?c2 hc1 hc4 ?c5 ?_)
          case c2 => simp [Value.oneCell']
          case c5 => simp; omega
          intro v8 w8 hown' hgrow hnil' hq9
          have HO8 : Hid (OwnZ w8 w.heap.size v8 (zs ++ [z])) := Lib.hid (by unfold OwnZ; rw [show (zs ++ [z]).length = zs.length + 1 by simp only [List.length_append, List.length_singleton]]; simpa using hown')
          have HB8 : Hid (Below w.heap.size w w8) := Lib.hid ((HBL.out.alloc HBL.out.size _).grown hgrow (by simp; omega) (fun k e => (HO.out.lt k e).1))
          have HSH : Hid (∃ ao c, v8 = .slice ao (j + 1) c) := Lib.hid (by
            obtain ⟨ao, c, e, -⟩ := HO8.out.ints
            exact ⟨ao, c, by rw [e, List.length_append, HZJ.out]; rfl⟩)
          obtain ⟨o8, c8, rfl⟩ := HSH.out
          clear hown' hgrow hnil' hq9
          go_wp2
          go_roundw
          case rel => exact ⟨j + 1, a + k, zs ++ [z], by omega, ⟨_, _, rfl⟩, by first | rfl | rw [e3] | go_num, HTS.out, HO8.out, HB8.out⟩
          case measure => simp; omega
        · have HNR := Lib.hid (HNO.out hno)
          clear hno
          go_wp2
          go_ret3
          exact ⟨.inr ⟨HNR.out, rfl⟩, HBL.out⟩
    · obtain rfl : j = n := by omega
      clear hlt
      go_wp2
      go_ret3
      exact ⟨.inl ⟨zs, a, _, HTR.out, rfl, HO.out⟩, HBL.out⟩
end Go.Proofs.Ytbghchgmoiniiaa
