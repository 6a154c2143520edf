/-
  The walks of wire.low and the reference's bytes, Signed. Conditions: none beyond those stated at each theorem.
-/
import Derived.Test.YtbghchgmoiniiaaCrcE
import Derived.Test.YtbghchgmoiniiaaExc
namespace Go.Proofs.Ytbghchgmoiniiaa
open Go.RowKit
set_option linter.unusedVariables false
set_option linter.unusedSimpArgs false

/-- the bytes of a number, the lowest one first -/
def leB (u : Int) (n : Nat) : List Int := (List.range n).map fun i => u / 256 ^ i % 256
theorem leB_len (u : Int) (n : Nat) : (leB u n).length = n := by simp [leB]
theorem leB_byts (u : Int) (n : Nat) : Byts (leB u n) := fun x hx => by
  simp [leB] at hx
  obtain ⟨i, _, rfl⟩ := hx
  omega
theorem leB_succ (u : Int) (n : Nat) : leB u (n + 1) = leB u n ++ [u / 256 ^ n % 256] := by simp [leB, List.range_succ]
def OwnB (w : World) (base : Nat) (v : Value) (bs : List Int) : Prop := w.ownsRow base 5 1 v bs.length (bs.map (Value.int .u8))
theorem OwnB.at {w : World} {base : Nat} {v : Value} {bs : List Int} (h : OwnB w base v bs) : BytesAt w v bs := BytesAt.of_own h
theorem gr_new {w w1 w2 : World} {row : Option Nat} {o : Option Nat} (h : w.grownBy w1 row) (k : w1.grownBy w2 o) (ho : o = row ∨ ∃ g, o = some g ∧ w.heap.size ≤ g) : w.grownBy w2 row :=
  ⟨k.os.trans h.os, k.tape.trans h.tape, k.output.trans h.output, Nat.le_trans h.size k.size, fun j hj hne => (k.block j (Nat.lt_of_lt_of_le hj h.size) (by
    rcases ho with rfl | ⟨g, rfl, hg⟩
    · exact hne
    · intro e; have := Option.some.inj e; omega)).trans (h.block j hj hne)⟩
/-- what an append to a row of one's own leaves: its own block, or a new one -/
def Owned (w : World) (o o' : Option Nat) : Prop := o' = o ∨ ∃ g, o' = some g ∧ w.heap.size ≤ g
theorem Owned.refl (w : World) (o : Option Nat) : Owned w o o := .inl rfl
theorem Owned.next {w : World} {ob o1 o2 : Option Nat} {n : Nat} (h : Owned w ob o1) (k : o2 = o1 ∨ o2 = some n) (hs : w.heap.size ≤ n) : Owned w ob o2 := by
  rcases k with rfl | rfl
  · exact h
  · exact .inr ⟨_, rfl, hs⟩
theorem Owned.trans {w w1 : World} {o0 o1 o2 : Option Nat} (h : Owned w o0 o1) (k : Owned w1 o1 o2) (hs : w.heap.size ≤ w1.heap.size) : Owned w o0 o2 := by
  rcases k with rfl | ⟨g, rfl, hg⟩
  · exact h
  · exact .inr ⟨g, rfl, Nat.le_trans hs hg⟩
theorem OwnB.kept {w w' : World} {base : Nat} {v : Value} {bs : List Int} (h : OwnB w base v bs) (hb : Below w.heap.size w w') : OwnB w' base v bs := World.ownsRow.kept h (below_gr (row := none) hb) (by cases v.ownBlock <;> simp)
theorem OwnB.lt {w : World} {base : Nat} {v : Value} {bs : List Int} (h : OwnB w base v bs) : ∀ k, v.ownBlock = some k → base ≤ k ∧ k < w.heap.size := World.ownsRow.lt h
theorem OwnB.open_ {w : World} {base : Nat} {v : Value} {bs : List Int} (h : OwnB w base v bs) : ∃ ao cap, v = .slice ao bs.length cap ∧ bs.length ≤ cap ∧ cap ≤ maxLen := by
  obtain ⟨ao, cap, e, h1, h2, -⟩ := h.at
  exact ⟨ao, cap, e, h1, h2⟩
def OwnPost (w : World) (base : Nat) (v : Value) (bs : List Int) (e : Ending) (w' : World) : Prop :=
  ∃ v', e = .returned v' ∧ OwnB w' base v' bs ∧ w.grownBy w' v.ownBlock ∧ Owned w v.ownBlock v'.ownBlock
set_option maxRecDepth 100000 in
set_option maxHeartbeats 4000000 in
theorem low_any (w : World) (base : Nat) (v : Value) (bs : List Int) (u : Int) (n : Nat) (hv : OwnB w base v bs) (hb : base ≤ w.heap.size) (u0 : 0 ≤ u) (u1 : u ≤ 18446744073709551615) (hn : n ≤ 8) (hl : bs.length ≤ 100000000) :
    Calls Try.prog 18 #[v, .int .u64 u, .int .i64 (n : Int)] w (OwnPost w base v (bs ++ leB u n)) := by
  obtain ⟨i0', hi, hz0, hz1, hz2⟩ := info_parts Try.info8
  have HV := Lib.hid hv
  have HL := Lib.hid hl
  obtain ⟨ob, hob⟩ : ∃ ob, ob = v.ownBlock := ⟨_, rfl⟩
  unfold OwnPost
  rw [← hob]
  have HOB := Lib.hid hob
  clear hv hob
  go_enter Try.func18, Try.ntmps18
  go_wp2_with fail
  go_loopw [0, 9] (fun x i wr => ∃ j : Nat, j ≤ n ∧ i = .int .i64 (j : Int) ∧ OwnB wr base x (bs ++ leB u j) ∧ w.grownBy wr ob ∧ Owned w ob x.ownBlock) (fun _ i _ => n - (intOf i).toNat)
  case atStart => exact ⟨0, by omega, rfl, by simpa [leB] using HV.out, below_gr (Below.refl _ _), by rw [HOB.out]; exact Owned.refl _ _⟩
  case round =>
    obtain ⟨j, hj, rfl, hown, hgr, hq⟩ := hrel
    have HO := Lib.hid hown
    have HGR := Lib.hid hgr
    have HQ := Lib.hid hq
    clear hown hgr hq
    by_cases hlt : j < n
    · have i0 : (0 : Int) ≤ (j : Int) := by omega
      have i1 : (j : Int) < (n : Int) := by omega
      have hsz := HGR.out.size
      have HNX : Hid ((bs ++ leB u j).map (Value.int .u8) ++ [.int .u8 (u / 2 ^ (8 * j) % 256)] = (bs ++ leB u (j + 1)).map (Value.int .u8)) := Lib.hid (by
        rw [leB_succ, Int.pow_mul, ← List.append_assoc, List.map_append (l₂ := [_])]
        rfl)
      have HLN : Hid ((bs ++ leB u j).length + 1 = (bs ++ leB u (j + 1)).length) := Lib.hid (by simp only [List.length_append, leB_len]; omega)
      have hcl : (bs ++ leB u j).length ≤ 100000008 := by simp only [List.length_append, leB_len]; omega
      have hc1 : (bs ++ leB u j).length + 1 ≤ maxLen := by unfold maxLen; omega
      go_wp2_with (at_builtin; go_loud (refine wpList_append_own_at _ rfl _ _ 22 rfl base 5 i0' (.int .u8 0) 1 1 Try.underlying22 hi hz0 hz1 hz2 rfl (by decide) _ (bs ++ leB u j).length _ rfl (World.ownsRow.alloc HO.out _) ⟨wr.heap.size, 0, none⟩ 1 1 [.int .u8 (u / 2 ^ (8 * j) % 256)] rfl rfl (cell_one_new _ _ _) ?c2 hc1 ?c4 ?c5 ?_))
      case c2 => simp [Value.oneCell']
      case c4 => omega
      case c5 => simp; omega
      intro v8 w8 hown' hgrow hnil' hq9
      have HO8 : Hid (OwnB w8 base v8 (bs ++ leB u (j + 1))) := Lib.hid (by unfold OwnB; rw [← HNX.out, ← HLN.out]; simpa using hown')
      have HG8 := Lib.hid (gr_new (gr_trans HGR.out (below_gr ((Below.refl _ _).alloc (Nat.le_refl _) _))) hgrow HQ.out)
      have HQ8 := Lib.hid (HQ.out.next hq9 (by omega))
      clear hown' hgrow hnil' hq9
      go_wp2
      go_roundw
      case rel => exact ⟨j + 1, by omega, by go_num, HO8.out, HG8.out, HQ8.out⟩
      case measure => simp [intOf]; omega
    · obtain rfl : j = n := by omega
      go_wp2
      go_ret
      exact ⟨_, rfl, HO.out, HGR.out, HQ.out⟩
def NewB (w : World) (bs : List Int) (e : Ending) (w' : World) : Prop :=
  ∃ v', e = .returned v' ∧ OwnB w' w.heap.size v' bs ∧ v' ≠ .slice none 0 0 ∧ Below w.heap.size w w'
set_option maxRecDepth 100000 in
set_option maxHeartbeats 4000000 in
theorem rbytes_any (w : World) (u : Int) (n : Nat) (u0 : 0 ≤ u) (u1 : u ≤ 18446744073709551615) (hn : n ≤ 8) :
    Calls Try.prog 16 #[.int .u64 u, .int .i64 (n : Int)] w (NewB w (leB u n)) := by
  obtain ⟨i0', hi, hz0, hz1, hz2⟩ := info_parts Try.info8
  have hown0 := World.ownsRow_lit (base := w.heap.size) (e := 5) (size := 1) w #[] 0 (by exact Nat.le_refl _) (by unfold maxLen; omega) (by simp)
  have HO1 := Lib.hid hown0
  have HB1 : Hid (Below w.heap.size w (w.alloc (.cells #[] 5))) := Lib.hid ((Below.refl _ _).alloc (Nat.le_refl _) _)
  clear hown0
  go_enter Try.func16, Try.ntmps16
  go_wp2_with fail
  go_loopw [0, 5, 6] (fun y x i wr => ∃ j : Nat, j ≤ n ∧ i = .int .i64 (j : Int) ∧ y = .int .u64 (u / 256 ^ j) ∧ OwnB wr w.heap.size x (leB u j) ∧ x ≠ .slice none 0 0 ∧ Below w.heap.size w wr) (fun _ _ i _ => n - (intOf i).toNat)
  case atStart => exact ⟨0, by omega, rfl, by simp, HO1.out, by simp, HB1.out⟩
  case round =>
    obtain ⟨j, hj, rfl, rfl, hown, hnil, hbel⟩ := hrel
    have HO := Lib.hid hown
    have HNIL := Lib.hid hnil
    have HB := Lib.hid hbel
    clear hown hnil hbel HO1 HB1
    by_cases hlt : j < n
    · have i0 : (0 : Int) ≤ (j : Int) := by omega
      have i1 : (j : Int) < (n : Int) := by omega
      have x0 : 0 ≤ u / 256 ^ j := Int.ediv_nonneg u0 (Int.pow_nonneg (by decide))
      have x1 : u / 256 ^ j ≤ 18446744073709551615 := Int.le_trans (Int.ediv_le_self _ u0) u1
      have hsz := HB.out.size
      have HNX : Hid ((leB u j).map (Value.int .u8) ++ [.int .u8 (u / 256 ^ j % 256)] = (leB u (j + 1)).map (Value.int .u8)) := Lib.hid (by
        rw [leB_succ, List.map_append (l₂ := [_])]
        rfl)
      have HDV : Hid (u / 256 ^ j / 256 = u / 256 ^ (j + 1)) := Lib.hid (by rw [Int.pow_succ, Int.ediv_ediv_of_nonneg (Int.pow_nonneg (by decide))])
      have hll : (leB u j).length = j := leB_len u j
      have HLL := Lib.hid hll
      clear hll
      generalize u / 256 ^ j = x at *
      have e1 : x.tmod 256 = x % 256 := Int.tmod_eq_emod_of_nonneg x0
      have e2 : x.tdiv 256 = x / 256 := Int.tdiv_eq_ediv_of_nonneg x0
      have e3 : x % 256 % 256 = x % 256 := by omega
      have e4 : x / 256 % (18446744073709551616 : Int) = x / 256 := by omega
      have hc1 : (leB u j).length + 1 ≤ maxLen := by have := HLL.out; unfold maxLen; omega
      have hc4 : ((leB u j).length + 1) * 1 ≤ 140737488355328 := by have := HLL.out; omega
      go_wp2_with (at_builtin; refine wpList_append_own_at _ rfl _ _ 22 rfl w.heap.size 5 i0' (.int .u8 0) 1 1 Try.underlying22 hi hz0 hz1 hz2 rfl (by decide) _ (leB u j).length _ rfl (World.ownsRow.alloc HO.out _) ⟨wr.heap.size, 0, none⟩ 1 1 [.int .u8 (x % 256)] rfl rfl (cell_one_new _ _ _) ?c2 hc1 hc4 ?c5 ?_)
      case c2 => simp [Value.oneCell']
      case c5 => simp; omega
      intro v8 w8 hown' hgrow hnil' hq9
      have HO8 : Hid (OwnB w8 w.heap.size v8 (leB u (j + 1))) := Lib.hid (by unfold OwnB; rw [← HNX.out, show (leB u (j + 1)).length = (leB u j).length + 1 by rw [leB_len, leB_len]]; simpa using hown')
      have HB8 : Hid (Below w.heap.size w w8) := Lib.hid ((HB.out.alloc HB.out.size _).grown hgrow (by simp; omega) (fun k e => (HO.out.lt k e).1))
      have HNIL' : Hid (v8 ≠ .slice none 0 0) := Lib.hid hnil'
      clear hown' hgrow hnil' hq9
      go_wp2
      go_roundw
      case rel => exact ⟨j + 1, by omega, by go_num, by first | rw [← HDV.out] | (rw [← HDV.out, e4]), HO8.out, HNIL'.out, HB8.out⟩
      case measure => simp [intOf]; omega
    · obtain rfl : j = n := by omega
      go_wp2
      go_ret
      exact ⟨_, rfl, HO.out, HNIL.out, HB.out⟩
theorem BytesAt.news {w : World} {ao : Option Addr} {n cap : Nat} {bs : List Int} (h : BytesAt w (.slice ao n cap) bs) (hn : n = bs.length) (w' : World) (hb : Below w.heap.size w w') :
    0 < n → ∃ ad, ao = some ad ∧ ∀ j u, (bs.map (Value.int .u8))[j]? = some u → w'.cell? (ad.add j) = some u := by
  intro h0
  obtain ⟨ao2, cap2, e, h1, h2, h3⟩ := h
  simp only [Value.slice.injEq] at e
  obtain ⟨rfl, -, rfl⟩ := e
  rcases h3 with ⟨rfl, rfl⟩ | ⟨g, off, rfl, hg, hcc⟩
  · simp at hn; omega
  · refine ⟨_, rfl, fun j u hu => ?_⟩
    rw [List.getElem?_map] at hu
    cases hz : bs[j]? with
    | none => rw [hz] at hu; simp at hu
    | some z =>
      rw [hz] at hu
      simp at hu
      subst hu
      rw [addr_add]
      exact (hb.cell (p := ⟨g, off + j, none⟩) hg).trans (hcc j z hz)
section
variable {P : Program}
theorem run_append_none (w : World) (t ty e : TypeId) (i : TypeInfo) (ht : P.underlying t = some (.slice e)) (hi : P.info? e = some i) (g cap : Nat) (ao : Option Addr) (c : Nat) :
    (Builtin.append_ #[t, t] ty #[.slice (some ⟨g, 0, none⟩) 0 cap, .slice ao 0 c]).run P w = .ok (.slice (some ⟨g, 0, none⟩) 0 cap) w := by
  cases ao <;> simp [Builtin.append_, run_underlying ht, sizeOf, typeInfo, hi, Builtin.lenOf, Builtin.firstCells, loadCells, loadCellsFrom, storeCells]
/-- 'append([]T{}, s...)' -/
theorem wpList_append_lit {ops : Array Oper} {rest : List Oper} {o : Oper} {w : World} {a : Act} {Q : Exit → Act → World → Prop} (hgd : o.guard = none) (s x : Operand) (t : TypeId)
    (ho : o.op = .call { callee := .builtin .append, args := #[s, x], argTypes := #[t, t] })
    (base : Nat) (e : TypeId) (i : TypeInfo) (z : Value) (bytes : Nat) (ht : P.underlying t = some (.slice e)) (hi : P.info? e = some i) (hz : i.zero = some z)
    (hsize : i.size = 1) (hby : i.bytes = bytes) (hzs : z.cells.size = 1)
    (g cap : Nat) (hs : a.eval s = .slice (some ⟨g, 0, none⟩) 0 cap) (hown : w.ownsRow base e 1 (.slice (some ⟨g, 0, none⟩) 0 cap) 0 [])
    (ao : Option Addr) (m c : Nat) (news : List Value) (hx : a.eval x = .slice ao m c) (hl : news.length = m) (hnews : 0 < m → ∃ ad, ao = some ad ∧ ∀ j u, news[j]? = some u → w.cell? (ad.add j) = some u) (h1 : ∀ u ∈ news, u.oneCell' = true)
    (h63 : m ≤ maxLen) (hbytes : m * bytes ≤ 140737488355328) (hbase : base ≤ w.heap.size)
    (h : ∀ v' w', w'.ownsRow base e 1 v' m news → w.grownBy w' (some g) → v' ≠ .slice none 0 0 → (v'.ownBlock = some g ∨ v'.ownBlock = some w.heap.size) → wpList P ops Q rest (a.put o.dst v') w') :
    wpList P ops Q (o :: rest) a w := by
  by_cases h0 : 0 < m
  · obtain ⟨ad, rfl, hc⟩ := hnews h0
    refine wpList_append_own_at _ hgd s x t ho base e i z 1 bytes ht hi hz hsize hby hzs (by decide) _ 0 [] hs hown ad m c news hx (by omega) hc h1 (by omega) (by rw [Nat.zero_add]; exact hbytes) hbase ?_
    intro v' w' h2 h3 h4 h5
    refine h v' w' (by simpa using h2) h3 ?_ h5
    intro hv
    have := (h4.1 hv).1
    cases this
  · obtain rfl : m = 0 := by omega
    obtain rfl : news = [] := List.eq_nil_of_length_eq_zero hl
    refine wpList_plain hgd fun K hK => ?_
    unfold Oper.wp execOp
    simp only [ho, resolve, invoke, builtin, Sem.run_bind, Sem.run_pure, Result.andThen_ok, List.map_toArray, List.map_cons, List.map_nil, hs, hx, run_append_none w t o.type e i ht hi g cap ao c]
    exact hK _ _ (h _ w hown ⟨rfl, rfl, rfl, Nat.le_refl _, fun _ _ _ => rfl⟩ (by simp) (.inl rfl))
end
/-- bytes with their sum behind them -/
def signB (bs : List Int) : List Int := bs ++ leB (sumI 0 bs) 4
theorem signB_byts {bs : List Int} (h : Byts bs) : Byts (signB bs) := h.append (leB_byts _ _)
theorem signB_len (bs : List Int) : (signB bs).length = bs.length + 4 := by simp [signB, leB_len]
set_option maxRecDepth 100000 in
set_option maxHeartbeats 4000000 in
theorem signed_any (w : World) (v : Value) (bs : List Int) (hv : BytesAt w v bs) (hb : Byts bs) (hl : bs.length ≤ 100000) :
    Calls Try.prog 7 #[v] w (NewB w (signB bs)) := by
  obtain ⟨i0', hi, hz0, hz1, hz2⟩ := info_parts Try.info8
  have HV := Lib.hid hv
  have HBY := Lib.hid hb
  have hown0 := World.ownsRow_lit (base := w.heap.size) (e := 5) (size := 1) w #[] 0 (by exact Nat.le_refl _) (by unfold maxLen; omega) (by simp)
  have HO1 := Lib.hid hown0
  have HB1 : Hid (Below w.heap.size w (w.alloc (.cells #[] 5))) := Lib.hid ((Below.refl _ _).alloc (Nat.le_refl _) _)
  clear hown0
  obtain ⟨ao, cap, rfl, hcap, hmx, hc⟩ := hv
  obtain ⟨n, hn⟩ : ∃ n, n = bs.length := ⟨_, rfl⟩
  have HN := Lib.hid hn
  have HNEWS := Lib.hid (HV.out.news rfl _ HB1.out)
  have HPE := Lib.hid (fun w' (hb' : Below w.heap.size w w') => rext_any 0 _ bs w' (HV.out.kept hb') hb (by decide) (by decide) hl)
  rw [← hn] at hcap hl HNEWS HPE ⊢
  have hsb := sumI_bd 0 bs
  have e1 : IntKind.u64.wrap (sumI 0 bs) = sumI 0 bs := by rw [wrapU_mod]; omega
  have e2 : sumI 0 bs % (18446744073709551616 : Int) = sumI 0 bs := by omega
  have HPB : Hid (∀ w', Calls Try.prog 16 #[.int .u64 (sumI 0 bs), .int .i64 4] w' (NewB w' (leB (sumI 0 bs) 4))) := Lib.hid (fun w' => rbytes_any w' (sumI 0 bs) 4 hsb.1 (by omega) (by omega))
  have HSG : Hid (signB bs = bs ++ leB (sumI 0 bs) 4) := Lib.hid rfl
  have HLL : Hid ((leB (sumI 0 bs) 4).length = 4) := Lib.hid (leB_len _ _)
  clear hn hc hsb hb
  generalize leB (sumI 0 bs) 4 = tb at *
  generalize sumI 0 bs = sm at *
  go_enter Try.func7, Try.ntmps7
  go_wp2_with (at_builtin; refine wpList_append_lit rfl _ _ 22 rfl w.heap.size 5 i0' (.int .u8 0) 1 Try.underlying22 hi hz0 hz1 hz2 rfl w.heap.size 0 rfl HO1.out ao n cap (bs.map (Value.int .u8)) rfl (by rw [List.length_map]; exact HN.out.symm) HNEWS.out (fun u hu => by obtain ⟨z, -, rfl⟩ := List.mem_map.1 hu; rfl) (by unfold maxLen; omega) (by omega) (by simp) ?_)
  intro v5 w5 o5 g5 n5 q5
  have HO5 : Hid (OwnB w5 w.heap.size v5 bs) := Lib.hid (by unfold OwnB; rw [← HN.out]; exact o5)
  have HB5 : Hid (Below w.heap.size w w5) := Lib.hid (HB1.out.grown g5 (by simp) (fun k e => by have := Option.some.inj e; omega))
  have HNIL := Lib.hid n5
  clear o5 g5 n5 q5 HO1 HB1
  go_wp2_with fail
  with_reducible refine (HPE.out _ HB5.out).mono ?_
  rintro e w6 ⟨rfl, hw6⟩
  subst hw6
  go_wp2_with fail
  with_reducible refine (HPB.out _).mono ?_
  rintro e w7 ⟨v7, rfl, ho7, hn7, hb7⟩
  have HO7 := Lib.hid (HO5.out.kept hb7)
  have HB7 := Lib.hid (btr HB5.out hb7)
  have hat := ho7.at
  obtain ⟨ao7, cap7, e7, hc7, hm7, -⟩ := hat
  have HNW := Lib.hid (BytesAt.news (n := tb.length) (by rw [← e7]; exact ho7.at) rfl w7 (Below.refl _ _))
  subst e7
  rw [HLL.out] at HNW hc7 ⊢
  clear ho7 hn7 hb7
  obtain ⟨ad7, ead, hnw⟩ := HNW.out (by omega)
  subst ead
  have HNW2 := Lib.hid hnw
  have hc1 : bs.length + 4 ≤ maxLen := by have := HN.out; unfold maxLen; omega
  have hc4 : (bs.length + 4) * 1 ≤ 140737488355328 := by have := HN.out; omega
  clear hnw
  go_wp2_with (at_builtin; refine wpList_append_own_at _ rfl _ _ 22 rfl w.heap.size 5 i0' (.int .u8 0) 1 1 Try.underlying22 hi hz0 hz1 hz2 rfl (by decide) _ bs.length _ rfl HO7.out ad7 4 cap7 (tb.map (Value.int .u8)) rfl (by rw [List.length_map]; exact HLL.out) HNW2.out ?c2 hc1 hc4 ?c5 ?_)
  case c2 => exact fun u hu => by obtain ⟨z, -, rfl⟩ := List.mem_map.1 hu; rfl
  case c5 => exact HB7.out.size
  intro v8 w8 hown' hgrow hnil' hq9
  have HO8 : Hid (OwnB w8 w.heap.size v8 (signB bs)) := Lib.hid (by unfold OwnB; rw [HSG.out, List.length_append, HLL.out, List.map_append]; exact hown')
  have HB8 : Hid (Below w.heap.size w w8) := Lib.hid (HB7.out.grown hgrow HB7.out.size (fun k e => (HO7.out.lt k e).1))
  have HNIL' : Hid (v8 ≠ .slice none 0 0) := Lib.hid (fun h => by have := hnil'; simp_all)
  clear hown' hgrow hnil' hq9
  go_wp2
  go_ret
  exact ⟨_, rfl, HO8.out, HNIL'.out, HB8.out⟩
end Go.Proofs.Ytbghchgmoiniiaa
