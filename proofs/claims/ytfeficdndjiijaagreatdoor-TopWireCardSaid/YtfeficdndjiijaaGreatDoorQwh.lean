import Derived.Test.YtfeficdndjiijaaGreatDoorQwg
import Derived.Test.YtfeficdndjiijaaGreatDoorQwc
import Derived.Lib.BitFns
import Derived.Lib.Strings
import Derived.Lib.Slices
import Derived.Lib.Small
import Derived.Lib.Walk
import Derived.Laws.EntriesVeiled
import Derived.Maps.RangeWalk
/-
  Contracts of the functions that TopWire reaches, and the plain laws that it leans on. Conditions: none beyond those stated at each theorem.
-/
namespace Go.Proofs.YtfeficdndjiijaaGreatDoor
open Go.RowKit
set_option linter.unusedVariables false
set_option linter.unusedSimpArgs false

def leB (u : Int) (n : Nat) : List Int := (List.range n).map fun i => u / 256 ^ i % 256
theorem leB_len (u : Int) (n : Nat) : (leB u n).length = n := by simp [leB]
theorem leB_byts (u : Int) (n : Nat) : Byts (leB u n) := fun x hx => by
  simp [leB] at hx
  obtain ⟨i, _, rfl⟩ := hx
  omega
theorem leB_succ (u : Int) (n : Nat) : leB u (n + 1) = leB u n ++ [u / 256 ^ n % 256] := by simp [leB, List.range_succ]
def OwnB (w : World) (base : Nat) (v : Value) (bs : List Int) : Prop := w.ownsRow base 5 1 v bs.length (bs.map (Value.int .u8))
theorem OwnB.at {w : World} {base : Nat} {v : Value} {bs : List Int} (h : OwnB w base v bs) : BytesAt w v bs := BytesAt.of_own h
theorem gr_new {w w1 w2 : World} {row : Option Nat} {o : Option Nat} (h : w.grownBy w1 row) (k : w1.grownBy w2 o) (ho : o = row ∨ ∃ g, o = some g ∧ w.heap.size ≤ g) : w.grownBy w2 row :=
  ⟨k.os.trans h.os, k.tape.trans h.tape, k.output.trans h.output, Nat.le_trans h.size k.size, fun j hj hne => (k.block j (Nat.lt_of_lt_of_le hj h.size) (by
    rcases ho with rfl | ⟨g, rfl, hg⟩
    · exact hne
    · intro e; have := Option.some.inj e; omega)).trans (h.block j hj hne)⟩
def Owned (w : World) (o o' : Option Nat) : Prop := o' = o ∨ ∃ g, o' = some g ∧ w.heap.size ≤ g
theorem Owned.refl (w : World) (o : Option Nat) : Owned w o o := .inl rfl
theorem Owned.next {w : World} {ob o1 o2 : Option Nat} {n : Nat} (h : Owned w ob o1) (k : o2 = o1 ∨ o2 = some n) (hs : w.heap.size ≤ n) : Owned w ob o2 := by
  rcases k with rfl | rfl
  · exact h
  · exact .inr ⟨_, rfl, hs⟩
theorem Owned.trans {w w1 : World} {o0 o1 o2 : Option Nat} (h : Owned w o0 o1) (k : Owned w1 o1 o2) (hs : w.heap.size ≤ w1.heap.size) : Owned w o0 o2 := by
  rcases k with rfl | ⟨g, rfl, hg⟩
  · exact h
  · exact .inr ⟨g, rfl, Nat.le_trans hs hg⟩
theorem OwnB.kept {w w' : World} {base : Nat} {v : Value} {bs : List Int} (h : OwnB w base v bs) (hb : Below w.heap.size w w') : OwnB w' base v bs := World.ownsRow.kept h (below_gr (row := none) hb) (by cases v.ownBlock <;> simp)
theorem OwnB.lt {w : World} {base : Nat} {v : Value} {bs : List Int} (h : OwnB w base v bs) : ∀ k, v.ownBlock = some k → base ≤ k ∧ k < w.heap.size := World.ownsRow.lt h
theorem OwnB.open_ {w : World} {base : Nat} {v : Value} {bs : List Int} (h : OwnB w base v bs) : ∃ ao cap, v = .slice ao bs.length cap ∧ bs.length ≤ cap ∧ cap ≤ maxLen := by
  obtain ⟨ao, cap, e, h1, h2, -⟩ := h.at
  exact ⟨ao, cap, e, h1, h2⟩
def OwnPost (w : World) (base : Nat) (v : Value) (bs : List Int) (e : Ending) (w' : World) : Prop :=
  ∃ v', e = .returned v' ∧ OwnB w' base v' bs ∧ w.grownBy w' v.ownBlock ∧ Owned w v.ownBlock v'.ownBlock
set_option maxRecDepth 100000 in
set_option maxHeartbeats 4000000 in
theorem low_any (w : World) (base : Nat) (v : Value) (bs : List Int) (u : Int) (n : Nat) (hv : OwnB w base v bs) (hb : base ≤ w.heap.size) (u0 : 0 ≤ u) (u1 : u ≤ 18446744073709551615) (hn : n ≤ 8) (hl : bs.length ≤ 100000000) :
  Calls Tryz.prog 31 #[v, .int .u64 u, .int .i64 (n : Int)] w (OwnPost w base v (bs ++ leB u n)) := by
 obtain ⟨i0', hi, hz0, hz1, hz2⟩ := info_parts Tryz.info8
 have HV := Lib.hid hv
 have HL := Lib.hid hl
 obtain ⟨ob, hob⟩ : ∃ ob, ob = v.ownBlock := ⟨_, rfl⟩
 unfold OwnPost
 rw [← hob]
 have HOB := Lib.hid hob
 clear hv hob
 go_enter Tryz.func31, Tryz.ntmps31
 go_wp2_with fail
 go_loopw [0, 9] (fun x i wr => ∃ j : Nat, j ≤ n ∧ i = .int .i64 (j : Int) ∧ OwnB wr base x (bs ++ leB u j) ∧ w.grownBy wr ob ∧ Owned w ob x.ownBlock) (fun _ i _ => n - (intOf i).toNat)
 case atStart => exact ⟨0, by omega, rfl, by simpa [leB] using HV.out, below_gr (Below.refl _ _), by rw [HOB.out]; exact Owned.refl _ _⟩
 case round =>
  obtain ⟨j, hj, rfl, hown, hgr, hq⟩ := hrel
  have HO := Lib.hid hown
  have HGR := Lib.hid hgr
  have HQ := Lib.hid hq
  clear hown hgr hq
  by_cases hlt : j < n
  ·have i0 : (0 : Int) ≤ (j : Int) := by omega
   have i1 : (j : Int) < (n : Int) := by omega
   have hsz := HGR.out.size
   have HNX : Hid ((bs ++ leB u j).map (Value.int .u8) ++ [.int .u8 (u / 2 ^ (8 * j) % 256)] = (bs ++ leB u (j + 1)).map (Value.int .u8)) := Lib.hid (by
    rw [leB_succ, Int.pow_mul, ← List.append_assoc, List.map_append (l₂ := [_])]
    rfl)
   have HLN : Hid ((bs ++ leB u j).length + 1 = (bs ++ leB u (j + 1)).length) := Lib.hid (by simp only [List.length_append, leB_len]; omega)
   have hcl : (bs ++ leB u j).length ≤ 100000008 := by simp only [List.length_append, leB_len]; omega
   have hc1 : (bs ++ leB u j).length + 1 ≤ maxLen := by unfold maxLen; omega
   go_wp2_with (at_builtin; go_loud (refine wpList_append_own_at _ rfl _ _ 41 rfl base 5 i0' (.int .u8 0) 1 1 Tryz.underlying41 hi hz0 hz1 hz2 rfl (by decide) _ (bs ++ leB u j).length _ rfl (World.ownsRow.alloc HO.out _) ⟨wr.heap.size, 0, none⟩ 1 1 [.int .u8 (u / 2 ^ (8 * j) % 256)] rfl rfl (cell_one_new _ _ _) ?c2 hc1 ?c4 ?c5 ?_))
   case c2 => simp [Value.oneCell']
   case c4 => omega
   case c5 => simp; omega
   intro v8 w8 hown' hgrow hnil' hq9
   have HO8 : Hid (OwnB w8 base v8 (bs ++ leB u (j + 1))) := Lib.hid (by unfold OwnB; rw [← HNX.out, ← HLN.out]; simpa using hown')
   have HG8 := Lib.hid (gr_new (gr_trans HGR.out (below_gr ((Below.refl _ _).alloc (Nat.le_refl _) _))) hgrow HQ.out)
   have HQ8 := Lib.hid (HQ.out.next hq9 (by omega))
   clear hown' hgrow hnil' hq9
   go_wp2
   go_roundw
   case rel => exact ⟨j + 1, by omega, by go_num, HO8.out, HG8.out, HQ8.out⟩
   case measure => simp [intOf]; omega
  ·obtain rfl : j = n := by omega
   go_wp2
   go_ret
   exact ⟨_, rfl, HO.out, HGR.out, HQ.out⟩
def NewB (w : World) (bs : List Int) (e : Ending) (w' : World) : Prop :=
  ∃ v', e = .returned v' ∧ OwnB w' w.heap.size v' bs ∧ v' ≠ .slice none 0 0 ∧ Below w.heap.size w w'
set_option maxRecDepth 100000 in
set_option maxHeartbeats 4000000 in
theorem rbytes_any (w : World) (u : Int) (n : Nat) (u0 : 0 ≤ u) (u1 : u ≤ 18446744073709551615) (hn : n ≤ 8) :
  Calls Tryz.prog 27 #[.int .u64 u, .int .i64 (n : Int)] w (NewB w (leB u n)) := by
 obtain ⟨i0', hi, hz0, hz1, hz2⟩ := info_parts Tryz.info8
 have hown0 := World.ownsRow_lit (base := w.heap.size) (e := 5) (size := 1) w #[] 0 (by exact Nat.le_refl _) (by unfold maxLen; omega) (by simp)
 have HO1 := Lib.hid hown0
 have HB1 : Hid (Below w.heap.size w (w.alloc (.cells #[] 5))) := Lib.hid ((Below.refl _ _).alloc (Nat.le_refl _) _)
 clear hown0
 go_enter Tryz.func27, Tryz.ntmps27
 go_wp2_with fail
 go_loopw [0, 5, 6] (fun y x i wr => ∃ j : Nat, j ≤ n ∧ i = .int .i64 (j : Int) ∧ y = .int .u64 (u / 256 ^ j) ∧ OwnB wr w.heap.size x (leB u j) ∧ x ≠ .slice none 0 0 ∧ Below w.heap.size w wr) (fun _ _ i _ => n - (intOf i).toNat)
 case atStart => exact ⟨0, by omega, rfl, by simp, HO1.out, by simp, HB1.out⟩
 case round =>
  obtain ⟨j, hj, rfl, rfl, hown, hnil, hbel⟩ := hrel
  have HO := Lib.hid hown
  have HNIL := Lib.hid hnil
  have HB := Lib.hid hbel
  clear hown hnil hbel HO1 HB1
  by_cases hlt : j < n
  ·have i0 : (0 : Int) ≤ (j : Int) := by omega
   have i1 : (j : Int) < (n : Int) := by omega
   have x0 : 0 ≤ u / 256 ^ j := Int.ediv_nonneg u0 (Int.pow_nonneg (by decide))
   have x1 : u / 256 ^ j ≤ 18446744073709551615 := Int.le_trans (Int.ediv_le_self _ u0) u1
   have hsz := HB.out.size
   have HNX : Hid ((leB u j).map (Value.int .u8) ++ [.int .u8 (u / 256 ^ j % 256)] = (leB u (j + 1)).map (Value.int .u8)) := Lib.hid (by
    rw [leB_succ, List.map_append (l₂ := [_])]
    rfl)
   have HDV : Hid (u / 256 ^ j / 256 = u / 256 ^ (j + 1)) := Lib.hid (by rw [Int.pow_succ, Int.ediv_ediv_of_nonneg (Int.pow_nonneg (by decide))])
   have hll : (leB u j).length = j := leB_len u j
   have HLL := Lib.hid hll
   clear hll
   generalize u / 256 ^ j = x at *
   have e1 : x.tmod 256 = x % 256 := Int.tmod_eq_emod_of_nonneg x0
   have e2 : x.tdiv 256 = x / 256 := Int.tdiv_eq_ediv_of_nonneg x0
   have e3 : x % 256 % 256 = x % 256 := by omega
   have e4 : x / 256 % (18446744073709551616 : Int) = x / 256 := by omega
   have hc1 : (leB u j).length + 1 ≤ maxLen := by have := HLL.out; unfold maxLen; omega
   have hc4 : ((leB u j).length + 1) * 1 ≤ 140737488355328 := by have := HLL.out; omega
   go_wp2_with (at_builtin; refine wpList_append_own_at _ rfl _ _ 41 rfl w.heap.size 5 i0' (.int .u8 0) 1 1 Tryz.underlying41 hi hz0 hz1 hz2 rfl (by decide) _ (leB u j).length _ rfl (World.ownsRow.alloc HO.out _) ⟨wr.heap.size, 0, none⟩ 1 1 [.int .u8 (x % 256)] rfl rfl (cell_one_new _ _ _) ?c2 hc1 hc4 ?c5 ?_)
   case c2 => simp [Value.oneCell']
   case c5 => simp; omega
   intro v8 w8 hown' hgrow hnil' hq9
   have HO8 : Hid (OwnB w8 w.heap.size v8 (leB u (j + 1))) := Lib.hid (by unfold OwnB; rw [← HNX.out, show (leB u (j + 1)).length = (leB u j).length + 1 by rw [leB_len, leB_len]]; simpa using hown')
   have HB8 : Hid (Below w.heap.size w w8) := Lib.hid ((HB.out.alloc HB.out.size _).grown hgrow (by simp; omega) (fun k e => (HO.out.lt k e).1))
   have HNIL' : Hid (v8 ≠ .slice none 0 0) := Lib.hid hnil'
   clear hown' hgrow hnil' hq9
   go_wp2
   go_roundw
   case rel => exact ⟨j + 1, by omega, by go_num, by first | rw [← HDV.out] | (rw [← HDV.out, e4]), HO8.out, HNIL'.out, HB8.out⟩
   case measure => simp [intOf]; omega
  ·obtain rfl : j = n := by omega
   go_wp2
   go_ret
   exact ⟨_, rfl, HO.out, HNIL.out, HB.out⟩
theorem BytesAt.news {w : World} {ao : Option Addr} {n cap : Nat} {bs : List Int} (h : BytesAt w (.slice ao n cap) bs) (hn : n = bs.length) (w' : World) (hb : Below w.heap.size w w') :
    0 < n → ∃ ad, ao = some ad ∧ ∀ j u, (bs.map (Value.int .u8))[j]? = some u → w'.cell? (ad.add j) = some u := by
  intro h0
  obtain ⟨ao2, cap2, e, h1, h2, h3⟩ := h
  simp only [Value.slice.injEq] at e
  obtain ⟨rfl, -, rfl⟩ := e
  rcases h3 with ⟨rfl, rfl⟩ | ⟨g, off, rfl, hg, hcc⟩
  · simp at hn; omega
  · refine ⟨_, rfl, fun j u hu => ?_⟩
    rw [List.getElem?_map] at hu
    cases hz : bs[j]? with
    | none => rw [hz] at hu; simp at hu
    | some z =>
      rw [hz] at hu
      simp at hu
      subst hu
      rw [addr_add]
      exact (hb.cell (p := ⟨g, off + j, none⟩) hg).trans (hcc j z hz)
section
variable {P : Program}
theorem run_append_none (w : World) (t ty e : TypeId) (i : TypeInfo) (ht : P.underlying t = some (.slice e)) (hi : P.info? e = some i) (g cap : Nat) (ao : Option Addr) (c : Nat) :
    (Builtin.append_ #[t, t] ty #[.slice (some ⟨g, 0, none⟩) 0 cap, .slice ao 0 c]).run P w = .ok (.slice (some ⟨g, 0, none⟩) 0 cap) w := by
  cases ao <;> simp [Builtin.append_, run_underlying ht, sizeOf, typeInfo, hi, Builtin.lenOf, Builtin.firstCells, loadCells, loadCellsFrom, storeCells]
theorem wpList_append_lit {ops : Array Oper} {rest : List Oper} {o : Oper} {w : World} {a : Act} {Q : Exit → Act → World → Prop} (hgd : o.guard = none) (s x : Operand) (t : TypeId)
  (ho : o.op = .call { callee := .builtin .append, args := #[s, x], argTypes := #[t, t] })
  (base : Nat) (e : TypeId) (i : TypeInfo) (z : Value) (bytes : Nat) (ht : P.underlying t = some (.slice e)) (hi : P.info? e = some i) (hz : i.zero = some z)
  (hsize : i.size = 1) (hby : i.bytes = bytes) (hzs : z.cells.size = 1)
  (g cap : Nat) (hs : a.eval s = .slice (some ⟨g, 0, none⟩) 0 cap) (hown : w.ownsRow base e 1 (.slice (some ⟨g, 0, none⟩) 0 cap) 0 [])
  (ao : Option Addr) (m c : Nat) (news : List Value) (hx : a.eval x = .slice ao m c) (hl : news.length = m) (hnews : 0 < m → ∃ ad, ao = some ad ∧ ∀ j u, news[j]? = some u → w.cell? (ad.add j) = some u) (h1 : ∀ u ∈ news, u.oneCell' = true)
  (h63 : m ≤ maxLen) (hbytes : m * bytes ≤ 140737488355328) (hbase : base ≤ w.heap.size)
  (h : ∀ v' w', w'.ownsRow base e 1 v' m news → w.grownBy w' (some g) → v' ≠ .slice none 0 0 → (v'.ownBlock = some g ∨ v'.ownBlock = some w.heap.size) → wpList P ops Q rest (a.put o.dst v') w') :
  wpList P ops Q (o :: rest) a w := by
 by_cases h0 : 0 < m
 ·obtain ⟨ad, rfl, hc⟩ := hnews h0
  refine wpList_append_own_at _ hgd s x t ho base e i z 1 bytes ht hi hz hsize hby hzs (by decide) _ 0 [] hs hown ad m c news hx (by omega) hc h1 (by omega) (by rw [Nat.zero_add]; exact hbytes) hbase ?_
  intro v' w' h2 h3 h4 h5
  refine h v' w' (by simpa using h2) h3 ?_ h5
  intro hv
  have := (h4.1 hv).1
  cases this
 ·obtain rfl : m = 0 := by omega
  obtain rfl : news = [] := List.eq_nil_of_length_eq_zero hl
  refine wpList_plain hgd fun K hK => ?_
  unfold Oper.wp execOp
  simp only [ho, resolve, invoke, builtin, Sem.run_bind, Sem.run_pure, Result.andThen_ok, List.map_toArray, List.map_cons, List.map_nil, hs, hx, run_append_none w t o.type e i ht hi g cap ao c]
  exact hK _ _ (h _ w hown ⟨rfl, rfl, rfl, Nat.le_refl _, fun _ _ _ => rfl⟩ (by simp) (.inl rfl))
end
def signB (bs : List Int) : List Int := bs ++ leB (sumI 0 bs) 4
theorem signB_byts {bs : List Int} (h : Byts bs) : Byts (signB bs) := h.append (leB_byts _ _)
theorem signB_len (bs : List Int) : (signB bs).length = bs.length + 4 := by simp [signB, leB_len]
set_option maxRecDepth 100000 in
set_option maxHeartbeats 4000000 in
theorem signed_any (w : World) (v : Value) (bs : List Int) (hv : BytesAt w v bs) (hb : Byts bs) (hl : bs.length ≤ 100000) :
  Calls Tryz.prog 11 #[v] w (NewB w (signB bs)) := by
 obtain ⟨i0', hi, hz0, hz1, hz2⟩ := info_parts Tryz.info8
 have HV := Lib.hid hv
 have HBY := Lib.hid hb
 have hown0 := World.ownsRow_lit (base := w.heap.size) (e := 5) (size := 1) w #[] 0 (by exact Nat.le_refl _) (by unfold maxLen; omega) (by simp)
 have HO1 := Lib.hid hown0
 have HB1 : Hid (Below w.heap.size w (w.alloc (.cells #[] 5))) := Lib.hid ((Below.refl _ _).alloc (Nat.le_refl _) _)
 clear hown0
 obtain ⟨ao, cap, rfl, hcap, hmx, hc⟩ := hv
 obtain ⟨n, hn⟩ : ∃ n, n = bs.length := ⟨_, rfl⟩
 have HN := Lib.hid hn
 have HNEWS := Lib.hid (HV.out.news rfl _ HB1.out)
 have HPE := Lib.hid (fun w' (hb' : Below w.heap.size w w') => rext_any 0 _ bs w' (HV.out.kept hb') hb (by decide) (by decide) hl)
 rw [← hn] at hcap hl HNEWS HPE ⊢
 have hsb := sumI_bd 0 bs
 have e1 : IntKind.u64.wrap (sumI 0 bs) = sumI 0 bs := by rw [wrapU_mod]; omega
 have e2 : sumI 0 bs % (18446744073709551616 : Int) = sumI 0 bs := by omega
 have HPB : Hid (∀ w', Calls Tryz.prog 27 #[.int .u64 (sumI 0 bs), .int .i64 4] w' (NewB w' (leB (sumI 0 bs) 4))) := Lib.hid (fun w' => rbytes_any w' (sumI 0 bs) 4 hsb.1 (by omega) (by omega))
 have HSG : Hid (signB bs = bs ++ leB (sumI 0 bs) 4) := Lib.hid rfl
 have HLL : Hid ((leB (sumI 0 bs) 4).length = 4) := Lib.hid (leB_len _ _)
 clear hn hc hsb hb
 generalize leB (sumI 0 bs) 4 = tb at *
 generalize sumI 0 bs = sm at *
 go_enter Tryz.func11, Tryz.ntmps11
 go_wp2_with (at_builtin; refine wpList_append_lit rfl _ _ 41 rfl w.heap.size 5 i0' (.int .u8 0) 1 Tryz.underlying41 hi hz0 hz1 hz2 rfl w.heap.size 0 rfl HO1.out ao n cap (bs.map (Value.int .u8)) rfl (by rw [List.length_map]; exact HN.out.symm) HNEWS.out (fun u hu => by obtain ⟨z, -, rfl⟩ := List.mem_map.1 hu; rfl) (by unfold maxLen; omega) (by omega) (by simp) ?_)
 intro v5 w5 o5 g5 n5 q5
 have HO5 : Hid (OwnB w5 w.heap.size v5 bs) := Lib.hid (by unfold OwnB; rw [← HN.out]; exact o5)
 have HB5 : Hid (Below w.heap.size w w5) := Lib.hid (HB1.out.grown g5 (by simp) (fun k e => by have := Option.some.inj e; omega))
 have HNIL := Lib.hid n5
 clear o5 g5 n5 q5 HO1 HB1
 go_wp2_with fail
 with_reducible refine (HPE.out _ HB5.out).mono ?_
 rintro e w6 ⟨rfl, hw6⟩
 subst hw6
 go_wp2_with fail
 with_reducible refine (HPB.out _).mono ?_
 rintro e w7 ⟨v7, rfl, ho7, hn7, hb7⟩
 have HO7 := Lib.hid (HO5.out.kept hb7)
 have HB7 := Lib.hid (btr HB5.out hb7)
 have hat := ho7.at
 obtain ⟨ao7, cap7, e7, hc7, hm7, -⟩ := hat
 have HNW := Lib.hid (BytesAt.news (n := tb.length) (by rw [← e7]; exact ho7.at) rfl w7 (Below.refl _ _))
 subst e7
 rw [HLL.out] at HNW hc7 ⊢
 clear ho7 hn7 hb7
 obtain ⟨ad7, ead, hnw⟩ := HNW.out (by omega)
 subst ead
 have HNW2 := Lib.hid hnw
 have hc1 : bs.length + 4 ≤ maxLen := by have := HN.out; unfold maxLen; omega
 have hc4 : (bs.length + 4) * 1 ≤ 140737488355328 := by have := HN.out; omega
 clear hnw
 go_wp2_with (at_builtin; refine wpList_append_own_at _ rfl _ _ 41 rfl w.heap.size 5 i0' (.int .u8 0) 1 1 Tryz.underlying41 hi hz0 hz1 hz2 rfl (by decide) _ bs.length _ rfl HO7.out ad7 4 cap7 (tb.map (Value.int .u8)) rfl (by rw [List.length_map]; exact HLL.out) HNW2.out ?c2 hc1 hc4 ?c5 ?_)
 case c2 => exact fun u hu => by obtain ⟨z, -, rfl⟩ := List.mem_map.1 hu; rfl
 case c5 => exact HB7.out.size
 intro v8 w8 hown' hgrow hnil' hq9
 have HO8 : Hid (OwnB w8 w.heap.size v8 (signB bs)) := Lib.hid (by unfold OwnB; rw [HSG.out, List.length_append, HLL.out, List.map_append]; exact hown')
 have HB8 : Hid (Below w.heap.size w w8) := Lib.hid (HB7.out.grown hgrow HB7.out.size (fun k e => (HO7.out.lt k e).1))
 have HNIL' : Hid (v8 ≠ .slice none 0 0) := Lib.hid (fun h => by have := hnil'; simp_all)
 clear hown' hgrow hnil' hq9
 go_wp2
 go_ret
 exact ⟨_, rfl, HO8.out, HNIL'.out, HB8.out⟩
end Go.Proofs.YtfeficdndjiijaaGreatDoor


namespace Go.Proofs.YtfeficdndjiijaaGreatDoor
open Go.RowKit
set_option linter.unusedVariables false
set_option linter.unusedSimpArgs false

def PostC (w : World) (bs : List Int) (e : Ending) (w' : World) : Prop :=
  ∃ v', e = .returned v' ∧ OwnB w' w.heap.size v' bs ∧ Below w.heap.size w w'
theorem or128 (u : Int) (h0 : 0 ≤ u) : bits BinOp.or IntKind.u8 (u % 256) 128 = 128 + u % 128 := by
  obtain ⟨n, rfl⟩ := Int.eq_ofNat_of_zero_le h0
  have hb : (BitVec.ofInt 8 ((n : Int) % 256) ||| BitVec.ofInt 8 128).toNat = 128 + n % 128 := by
    have e1 : BitVec.ofInt 8 ((n : Int) % 256) = BitVec.ofNat 8 (n % 256) := by
      rw [show ((n : Int) % 256) = ((n % 256 : Nat) : Int) by omega]
      exact BitVec.ofInt_natCast ..
    have e2 : BitVec.ofInt 8 128 = BitVec.ofNat 8 128 := by decide
    rw [e1, e2, BitVec.toNat_or, BitVec.toNat_ofNat, BitVec.toNat_ofNat]
    have h : ∀ m, m < 256 → (m % 2 ^ 8 ||| 128 % 2 ^ 8) = 128 + m % 128 := by decide +kernel
    rw [h _ (Nat.mod_lt _ (by decide))]
    omega
  show IntKind.u8.wrap ((BitVec.ofInt 8 ((n : Int) % 256) ||| BitVec.ofInt 8 128).toNat : Int) = _
  rw [hb]
  simp [IntKind.wrap, IntKind.bits, IntKind.signed]
  omega
theorem OwnB.pre {w : World} {base b' : Nat} {v : Value} {bs : List Int} (h : OwnB w base v bs) (hb : b' ≤ base) : OwnB w b' v bs := by
  refine ⟨h.1, ?_⟩
  rcases h.2 with h | ⟨g, cap, cur, e1, e2, e3⟩
  · exact .inl h
  · exact .inr ⟨g, cap, cur, e1, Nat.le_trans hb e2, e3⟩

theorem Tryz.sl8 (w : World) (a : Option Addr) (n c : Nat) : Sem.run Tryz.prog (binOp .eql 41 (.slice a n c) (.slice none 0 0)) w = .ok (.bool a.isNone) w := Go.Lib.run_eql_slice_nil w 41 5 a n c 0 0 Tryz.underlying41
set_option maxRecDepth 100000 in
set_option maxHeartbeats 4000000 in
theorem bclone_any (w : World) (v : Value) (bs : List Int) (hv : BytesAt w v bs) (hl : bs.length ≤ 100000000) :
  Calls Tryz.prog 171 #[v] w (PostC w bs) := by
 obtain ⟨i0', hi, hz0, hz1, hz2⟩ := info_parts Tryz.info8
 have HV := Lib.hid hv
 have hown0 := World.ownsRow_lit (base := w.heap.size) (e := 5) (size := 1) w #[] 0 (by exact Nat.le_refl _) (by unfold maxLen; omega) (by simp)
 have HO1 := Lib.hid hown0
 have HB1 : Hid (Below w.heap.size w (w.alloc (.cells #[] 5))) := Lib.hid ((Below.refl _ _).alloc (Nat.le_refl _) _)
 clear hown0
 obtain ⟨ao, cap, rfl, hcap, hmx, hc⟩ := hv
 rcases hc with ⟨rfl, rfl⟩ | ⟨g, off, rfl, -, -⟩
 ·have he := Tryz.sl8 w none 0 cap
  simp only [Option.isNone_none] at he
  simp only [List.length_nil]
  clear hcap hmx HV
  go_enter Tryz.func171, Tryz.ntmps171
  go_wp2
  go_ret
  exact ⟨_, rfl, World.ownsRow_nil _ _ _ _, Below.refl _ _⟩
 ·obtain ⟨n, hn⟩ : ∃ n, n = bs.length := ⟨_, rfl⟩
  have HN := Lib.hid hn
  have HNEWS := Lib.hid (HV.out.news rfl _ HB1.out)
  have he := Tryz.sl8 w (some ⟨g, off, none⟩) bs.length cap
  simp only [Option.isNone_some] at he
  rw [← hn] at hcap hl HNEWS he ⊢
  clear hn
  go_enter Tryz.func171, Tryz.ntmps171
  go_wp2_with (at_builtin; refine wpList_append_lit rfl _ _ 41 rfl w.heap.size 5 i0' (.int .u8 0) 1 Tryz.underlying41 hi hz0 hz1 hz2 rfl w.heap.size 0 rfl HO1.out _ n cap (bs.map (Value.int .u8)) rfl (by rw [List.length_map]; exact HN.out.symm) HNEWS.out (fun u hu => by obtain ⟨z, -, rfl⟩ := List.mem_map.1 hu; rfl) (by unfold maxLen; omega) (by omega) (by simp) ?_)
  intro v5 w5 o5 g5 n5 q5
  have HO5 : Hid (OwnB w5 w.heap.size v5 bs) := Lib.hid (by unfold OwnB; rw [← HN.out]; exact o5)
  have HB5 : Hid (Below w.heap.size w w5) := Lib.hid (HB1.out.grown g5 (by simp) (fun k e => by have := Option.some.inj e; omega))
  clear o5 g5 n5 q5 HO1 HB1
  go_wp2
  go_ret
  exact ⟨_, rfl, HO5.out, HB5.out⟩
set_option maxRecDepth 100000 in
set_option maxHeartbeats 4000000 in
theorem putc_any (w : World) (base : Nat) (v : Value) (bs : List Int) (u : Nat) (hv : OwnB w base v bs) (hb : base ≤ w.heap.size) (u1 : u < 18446744073709551616) (hl : bs.length ≤ 100000000) :
  Calls Tryz.prog 172 #[v, .int .u64 (u : Int)] w (OwnPost w base v (bs ++ putN u)) := by
 obtain ⟨i0', hi, hz0, hz1, hz2⟩ := info_parts Tryz.info8
 have HV := Lib.hid hv
 have HL := Lib.hid hl
 obtain ⟨ob, hob⟩ : ∃ ob, ob = v.ownBlock := ⟨_, rfl⟩
 unfold OwnPost
 rw [← hob]
 have HOB := Lib.hid hob
 have HU10 := Lib.hid (putN_len10 u1)
 clear hv hob
 go_enter Tryz.func172, Tryz.ntmps172
 go_wp2_with fail
 go_loopw [0, 1] (fun x y wr => ∃ (j : Nat) (pre : List Int), y = .int .u64 (j : Int) ∧ pre ++ putN j = putN u ∧ OwnB wr base x (bs ++ pre) ∧ w.grownBy wr ob ∧ Owned w ob x.ownBlock ∧ j < 18446744073709551616) (fun _ y _ => (intOf y).toNat)
 case atStart => exact ⟨u, [], rfl, by simp, by simpa using HV.out, below_gr (Below.refl _ _), by rw [HOB.out]; exact Owned.refl _ _, u1⟩
 case round =>
  obtain ⟨j, pre, rfl, hpre, hown, hgr, hq, hj64⟩ := hrel
  have HO := Lib.hid hown
  have HGR := Lib.hid hgr
  have HQ := Lib.hid hq
  have HP := Lib.hid hpre
  have hsz := hgr.size
  have hpl : pre.length ≤ 10 := by have := congrArg List.length hpre; rw [List.length_append] at this; have := HU10.out; have := putN_pos j; omega
  have hcl : (bs ++ pre).length ≤ 100000010 := by rw [List.length_append]; omega
  have hc1 : (bs ++ pre).length + 1 ≤ maxLen := by unfold maxLen; omega
  have hc4 : ((bs ++ pre).length + 1) * 1 ≤ 140737488355328 := by omega
  clear hown hgr hq hpre
  by_cases hlt : 128 ≤ j
  ·have HST := Lib.hid (putN_ge (u := j) (by omega))
   have e1 : bits BinOp.or IntKind.u8 ((j : Int) % 256) 128 = ((128 + j % 128 : Nat) : Int) := by rw [or128 _ (by omega)]; omega
   have HNX : Hid (pre ++ [((128 + j % 128 : Nat) : Int)] ++ putN (j / 128) = putN u) := Lib.hid (by rw [← HP.out, HST.out]; simp)
   go_wp2_with (at_builtin; go_loud (refine wpList_append_own_at _ rfl _ _ 41 rfl base 5 i0' (.int .u8 0) 1 1 Tryz.underlying41 hi hz0 hz1 hz2 rfl (by decide) _ (bs ++ pre).length _ rfl (World.ownsRow.alloc HO.out _) ⟨wr.heap.size, 0, none⟩ 1 1 [.int .u8 ((128 + j % 128 : Nat) : Int)] rfl rfl (cell_one_new _ _ _) ?c2 hc1 hc4 ?c5 ?_))
   case c2 => simp [Value.oneCell']
   case c5 => simp; omega
   intro v8 w8 hown' hgrow hnil' hq9
   have HO8 : Hid (OwnB w8 base v8 (bs ++ (pre ++ [((128 + j % 128 : Nat) : Int)]))) := Lib.hid (by unfold OwnB; rw [show (bs ++ (pre ++ [((128 + j % 128 : Nat) : Int)])).length = (bs ++ pre).length + 1 by simp only [List.length_append, List.length_singleton]; omega]; simpa using hown')
   have HG8 := Lib.hid (gr_new (gr_trans HGR.out (below_gr ((Below.refl _ _).alloc (Nat.le_refl _) _))) hgrow HQ.out)
   have HQ8 := Lib.hid (HQ.out.next hq9 (by omega))
   clear hown' hgrow hnil' hq9
   go_wp2
   go_roundw
   case rel => exact ⟨j / 128, pre ++ [((128 + j % 128 : Nat) : Int)], by go_num, HNX.out, HO8.out, HG8.out, HQ8.out, by omega⟩
   case measure => simp [intOf]; omega
  ·have HST := Lib.hid (putN_lt (u := j) (by omega))
   have e1 : (j : Int) % 256 = (j : Int) := by omega
   have HNX : Hid (bs ++ pre ++ [(j : Int)] = bs ++ putN u) := Lib.hid (by rw [← HP.out, HST.out]; simp)
   go_wp2_with (at_builtin; refine wpList_append_own_at _ rfl _ _ 41 rfl base 5 i0' (.int .u8 0) 1 1 Tryz.underlying41 hi hz0 hz1 hz2 rfl (by decide) _ (bs ++ pre).length _ rfl (World.ownsRow.alloc HO.out _) ⟨wr.heap.size, 0, none⟩ 1 1 [.int .u8 (j : Int)] rfl rfl (cell_one_new _ _ _) ?c2 hc1 hc4 ?c5 ?_)
   case c2 => simp [Value.oneCell']
   case c5 => simp; omega
   intro v8 w8 hown' hgrow hnil' hq9
   have HO8 : Hid (OwnB w8 base v8 (bs ++ putN u)) := Lib.hid (by rw [← HNX.out]; unfold OwnB; rw [show (bs ++ pre ++ [(j : Int)]).length = (bs ++ pre).length + 1 by simp only [List.length_append, List.length_singleton]]; simpa using hown')
   have HG8 := Lib.hid (gr_new (gr_trans HGR.out (below_gr ((Below.refl _ _).alloc (Nat.le_refl _) _))) hgrow HQ.out)
   have HQ8 := Lib.hid (HQ.out.next hq9 (by omega))
   clear hown' hgrow hnil' hq9
   go_wp2
   go_ret
   exact ⟨_, rfl, HO8.out, HG8.out, HQ8.out⟩
set_option maxRecDepth 100000 in
set_option maxHeartbeats 4000000 in
theorem put_any' (w : World) (v : Value) (bs : List Int) (u : Nat) (hv : BytesAt w v bs) (u1 : u < 18446744073709551616) (hl : bs.length ≤ 100000000) :
  Calls Tryz.prog 132 #[v, .int .u64 (u : Int)] w (PostC w (bs ++ putN u)) := by
 obtain ⟨i0', hi, hz0, hz1, hz2⟩ := info_parts Tryz.info8
 have HL := Lib.hid hl
 have HU10 := Lib.hid (putN_len10 u1)
 have PC := Lib.hid (bclone_any w v bs hv hl)
 obtain ⟨ao, cap, rfl, hcap, hmx, hc⟩ := hv
 clear hc hcap
 generalize hnn : bs.length = nn at *
 have HNN := Lib.hid hnn
 clear hnn
 go_enter Tryz.func132, Tryz.ntmps132
 go_wp2_with fail
 with_reducible refine PC.out.mono ?_
 rintro e w2 ⟨v2, rfl, ho2, hb2⟩
 have HO2 := Lib.hid ho2
 have HB2 := Lib.hid hb2
 clear ho2 hb2
 go_wp2_with fail
 go_loopw [1, 5] (fun y x wr => ∃ (j : Nat) (pre : List Int), y = .int .u64 (j : Int) ∧ pre ++ putN j = putN u ∧ OwnB wr w.heap.size x (bs ++ pre) ∧ Below w.heap.size w wr ∧ j < 18446744073709551616) (fun y _ _ => (intOf y).toNat)
 case atStart => exact ⟨u, [], rfl, by simp, by simpa using HO2.out, HB2.out, u1⟩
 case round =>
  obtain ⟨j, pre, rfl, hpre, hown, hbel, hj64⟩ := hrel
  have HO := Lib.hid hown
  have HB := Lib.hid hbel
  have HP := Lib.hid hpre
  have hsz := hbel.size
  have hpl : pre.length ≤ 10 := by have := congrArg List.length hpre; rw [List.length_append] at this; have := HU10.out; have := putN_pos j; omega
  have hcl : (bs ++ pre).length ≤ 100000010 := by rw [List.length_append, HNN.out]; omega
  have hc1 : (bs ++ pre).length + 1 ≤ maxLen := by unfold maxLen; omega
  have hc4 : ((bs ++ pre).length + 1) * 1 ≤ 140737488355328 := by omega
  clear hown hbel hpre HO2 HB2
  by_cases hlt : 128 ≤ j
  ·have HST := Lib.hid (putN_ge (u := j) (by omega))
   have e1 : bits BinOp.or IntKind.u8 ((j : Int) % 256) 128 = ((128 + j % 128 : Nat) : Int) := by rw [or128 _ (by omega)]; omega
   have HNX : Hid (pre ++ [((128 + j % 128 : Nat) : Int)] ++ putN (j / 128) = putN u) := Lib.hid (by rw [← HP.out, HST.out]; simp)
   go_wp2_with (at_builtin; refine wpList_append_own_at _ rfl _ _ 41 rfl w.heap.size 5 i0' (.int .u8 0) 1 1 Tryz.underlying41 hi hz0 hz1 hz2 rfl (by decide) _ (bs ++ pre).length _ rfl (World.ownsRow.alloc HO.out _) ⟨wr.heap.size, 0, none⟩ 1 1 [.int .u8 ((128 + j % 128 : Nat) : Int)] rfl rfl (cell_one_new _ _ _) ?c2 hc1 hc4 ?c5 ?_)
   case c2 => simp [Value.oneCell']
   case c5 => simp; omega
   intro v8 w8 hown' hgrow hnil' hq9
   have HO8 : Hid (OwnB w8 w.heap.size v8 (bs ++ (pre ++ [((128 + j % 128 : Nat) : Int)]))) := Lib.hid (by unfold OwnB; rw [show (bs ++ (pre ++ [((128 + j % 128 : Nat) : Int)])).length = (bs ++ pre).length + 1 by simp only [List.length_append, List.length_singleton]; omega]; simpa using hown')
   have HB8 : Hid (Below w.heap.size w w8) := Lib.hid ((HB.out.alloc HB.out.size _).grown hgrow (by simp; omega) (fun k e => (HO.out.lt k e).1))
   clear hown' hgrow hnil' hq9
   go_wp2
   go_roundw
   case rel => exact ⟨j / 128, pre ++ [((128 + j % 128 : Nat) : Int)], by go_num, HNX.out, HO8.out, HB8.out, by omega⟩
   case measure => simp [intOf]; omega
  ·have HST := Lib.hid (putN_lt (u := j) (by omega))
   have e1 : (j : Int) % 256 = (j : Int) := by omega
   have HNX : Hid (bs ++ pre ++ [(j : Int)] = bs ++ putN u) := Lib.hid (by rw [← HP.out, HST.out]; simp)
   go_wp2_with (at_builtin; refine wpList_append_own_at _ rfl _ _ 41 rfl w.heap.size 5 i0' (.int .u8 0) 1 1 Tryz.underlying41 hi hz0 hz1 hz2 rfl (by decide) _ (bs ++ pre).length _ rfl (World.ownsRow.alloc HO.out _) ⟨wr.heap.size, 0, none⟩ 1 1 [.int .u8 (j : Int)] rfl rfl (cell_one_new _ _ _) ?c2 hc1 hc4 ?c5 ?_)
   case c2 => simp [Value.oneCell']
   case c5 => simp; omega
   intro v8 w8 hown' hgrow hnil' hq9
   have HO8 : Hid (OwnB w8 w.heap.size v8 (bs ++ putN u)) := Lib.hid (by rw [← HNX.out]; unfold OwnB; rw [show (bs ++ pre ++ [(j : Int)]).length = (bs ++ pre).length + 1 by simp only [List.length_append, List.length_singleton]]; simpa using hown')
   have HB8 : Hid (Below w.heap.size w w8) := Lib.hid ((HB.out.alloc HB.out.size _).grown hgrow (by simp; omega) (fun k e => (HO.out.lt k e).1))
   clear hown' hgrow hnil' hq9
   go_wp2
   go_ret
   exact ⟨_, rfl, HO8.out, HB8.out⟩
end Go.Proofs.YtfeficdndjiijaaGreatDoor


namespace Go.Proofs.YtfeficdndjiijaaGreatDoor
open Go.RowKit
set_option linter.unusedVariables false
set_option linter.unusedSimpArgs false

theorem tab_size : Lib.len8tab.size = 256 := by kernel_rfl
theorem tab_at : ∀ n : Fin 128, (Lib.len8tab[n.val]'(by rw [tab_size]; have := n.isLt; omega)).toNat = Lib.bitLen n.val := by decide +kernel
theorem len_le7 : ∀ n : Fin 128, Lib.bitLen n.val ≤ 7 := by decide +kernel
set_option maxRecDepth 100000 in
set_option maxHeartbeats 4000000 in
theorem len7 (x : Nat) (w : World) (h1 : x < 128) :
    Calls Tryz.prog 116 #[.int .u64 (x : Int)] w fun e w' => e = .returned (.int .i64 (Lib.bitLen x)) ∧ w = w' := by
  have e1 : decide ((4294967296 : Int) ≤ (x : Int)) = false := decide_eq_false (by omega)
  have e2 : decide ((65536 : Int) ≤ (x : Int)) = false := decide_eq_false (by omega)
  have e3 : decide ((256 : Int) ≤ (x : Int)) = false := decide_eq_false (by omega)
  have hs := tab_size
  have h2 : (x : Int) < 256 := by omega
  have h3 : (0 : Int) ≤ (x : Int) := by omega
  have h4 : x < 256 := by omega
  have HT := Lib.hid (tab_at ⟨x, h1⟩)
  have HL := Lib.hid (len_le7 ⟨x, h1⟩)
  go_enter Tryz.func116, Tryz.ntmps116
  go_wp2
  go_ret
  refine ⟨congrArg Ending.returned (congrArg (Value.int IntKind.i64) ?_), rfl⟩
  have h5 := HT.out
  have h6 := HL.out
  first | (simp only [Int.toNat_natCast]; rw [h5]; unfold wrap64; omega) | (rw [h5]; unfold wrap64; omega)
theorem not_u64 (a : Int) (h0 : 0 ≤ a) (h1 : a ≤ 18446744073709551615) : bits BinOp.xor IntKind.u64 a 18446744073709551615 = 18446744073709551615 - a := by
  obtain ⟨n, rfl⟩ := Int.eq_ofNat_of_zero_le h0
  have hx : (BitVec.ofInt 64 (n : Int) ^^^ BitVec.ofInt 64 18446744073709551615).toNat = 18446744073709551615 - n := by
    have e1 : BitVec.ofInt 64 18446744073709551615 = BitVec.allOnes 64 := by decide +kernel
    have e2 : BitVec.ofInt 64 (n : Int) = BitVec.ofNat 64 n := BitVec.ofInt_natCast ..
    rw [e1, e2, BitVec.xor_allOnes, BitVec.toNat_not, BitVec.toNat_ofNat]
    omega
  show IntKind.u64.wrap ((BitVec.ofInt 64 (n : Int) ^^^ BitVec.ofInt 64 18446744073709551615).toNat : Int) = _
  rw [hx, wrapU_mod]
  omega
theorem xor_zero_u64 (a : Int) (h0 : 0 ≤ a) (h1 : a ≤ 18446744073709551615) : bits BinOp.xor IntKind.u64 a 0 = a := by
  obtain ⟨n, rfl⟩ := Int.eq_ofNat_of_zero_le h0
  have := u64_xor_nat n 0 (by omega) (by decide)
  simpa using this
theorem not_i64 (a : Int) (h0 : 0 ≤ a) (h1 : a ≤ 9223372036854775807) : bits BinOp.xor IntKind.i64 a (-1) = -a - 1 := by
  obtain ⟨n, rfl⟩ := Int.eq_ofNat_of_zero_le h0
  have hx : (BitVec.ofInt 64 (n : Int) ^^^ BitVec.ofInt 64 (-1)).toNat = 18446744073709551615 - n := by
    have e1 : BitVec.ofInt 64 (-1) = BitVec.allOnes 64 := by decide +kernel
    have e2 : BitVec.ofInt 64 (n : Int) = BitVec.ofNat 64 n := BitVec.ofInt_natCast ..
    rw [e1, e2, BitVec.xor_allOnes, BitVec.toNat_not, BitVec.toNat_ofNat]
    omega
  show IntKind.i64.wrap ((BitVec.ofInt 64 (n : Int) ^^^ BitVec.ofInt 64 (-1)).toNat : Int) = _
  rw [hx, wrapI_eq64]
  unfold wrap64
  omega
theorem xor_zero_i64 (a : Int) (h0 : 0 ≤ a) (h1 : a ≤ 9223372036854775807) : bits BinOp.xor IntKind.i64 a 0 = a := by
  obtain ⟨n, rfl⟩ := Int.eq_ofNat_of_zero_le h0
  have hx : (BitVec.ofInt 64 (n : Int) ^^^ BitVec.ofInt 64 0).toNat = n := by
    have e1 : BitVec.ofInt 64 0 = 0#64 := by decide +kernel
    have e2 : BitVec.ofInt 64 (n : Int) = BitVec.ofNat 64 n := BitVec.ofInt_natCast ..
    rw [e1, e2, BitVec.xor_zero, BitVec.toNat_ofNat]
    omega
  show IntKind.i64.wrap ((BitVec.ofInt 64 (n : Int) ^^^ BitVec.ofInt 64 0).toNat : Int) = _
  rw [hx, wrapI_eq64]
  unfold wrap64
  omega
theorem and1_u64 (u : Nat) (h : u < 18446744073709551616) : bits BinOp.and IntKind.u64 (u : Int) 1 = ((u % 2 : Nat) : Int) := by
  have := u64_and (u : Int) 1 (by omega) (by omega) (by decide) (by decide)
  rw [this]
  have e : ((u : Int).toNat &&& (1 : Int).toNat) = u % 2 := by
    rw [show (1 : Int).toNat = 2 ^ 1 - 1 from rfl, Nat.and_two_pow_sub_one_eq_mod]
    simp
  rw [e]
def zigI (n : Int) : Nat := if 0 ≤ n then (2 * n).toNat else (-2 * n - 1).toNat
def zagI (u : Nat) : Int := if u % 2 = 0 then (u / 2 : Nat) else -((u / 2 : Nat) : Int) - 1
theorem zag_zig (n : Int) : zagI (zigI n) = n := by unfold zagI zigI; split <;> split <;> omega
theorem zig_zag (u : Nat) : zigI (zagI u) = u := by unfold zagI zigI; split <;> split <;> omega
theorem zig_lt {n : Int} (h : -9223372036854775808 ≤ n ∧ n ≤ 9223372036854775807) : zigI n < 18446744073709551616 := by unfold zigI; split <;> omega
theorem zag_fit {u : Nat} (h : u < 18446744073709551616) : -9223372036854775808 ≤ zagI u ∧ zagI u ≤ 9223372036854775807 := by unfold zagI; split <;> omega
theorem zig_any (n : Int) (w : World) (h : -9223372036854775808 ≤ n ∧ n ≤ 9223372036854775807) : Calls Tryz.prog 173 #[.int .i64 n] w fun e w' => e = .returned (.int .u64 (zigI n : Int)) ∧ w = w' := by
  have key : bits BinOp.xor IntKind.u64 (IntKind.u64.wrap (IntKind.u64.wrap n * 2)) (IntKind.u64.wrap (n / 9223372036854775808)) = (zigI n : Int) := by
    rw [wrapU_mod n, wrapU_mod, wrapU_mod]
    by_cases h0 : 0 ≤ n
    · rw [show n / 9223372036854775808 % 18446744073709551616 = 0 by omega, xor_zero_u64 _ (by omega) (by omega)]
      unfold zigI
      rw [if_pos h0]
      omega
    · rw [show n / 9223372036854775808 % 18446744073709551616 = 18446744073709551615 by omega, not_u64 _ (by omega) (by omega)]
      unfold zigI
      rw [if_neg h0]
      omega
  have HKEY := Lib.hid key
  clear key
  go_enter Tryz.func173, Tryz.ntmps173
  go_wp2
  go_ret
  exact ⟨congrArg (fun z => Ending.returned (.int .u64 z)) HKEY.out, rfl⟩
theorem zag_any (u : Nat) (w : World) (h : u < 18446744073709551616) : Calls Tryz.prog 70 #[.int .u64 (u : Int)] w fun e w' => e = .returned (.int .i64 (zagI u)) ∧ w = w' := by
  have key : bits BinOp.xor IntKind.i64 ((u : Int) / 2) (wrap64 (-wrap64 (bits BinOp.and IntKind.u64 (u : Int) 1))) = zagI u := by
    rw [and1_u64 u h]
    by_cases h0 : u % 2 = 0
    · rw [h0, show wrap64 (-wrap64 ((0 : Nat) : Int)) = 0 by unfold wrap64; omega, xor_zero_i64 _ (by omega) (by omega)]
      unfold zagI
      rw [if_pos h0]
      omega
    · rw [show u % 2 = 1 by omega, show wrap64 (-wrap64 ((1 : Nat) : Int)) = -1 by unfold wrap64; omega, not_i64 _ (by omega) (by omega)]
      unfold zagI
      rw [if_neg h0]
      omega
  have HKEY := Lib.hid key
  clear key
  go_enter Tryz.func70, Tryz.ntmps70
  go_wp2
  go_ret
  exact ⟨congrArg (fun z => Ending.returned (.int .i64 z)) HKEY.out, rfl⟩
end Go.Proofs.YtfeficdndjiijaaGreatDoor


namespace Go.Proofs.YtfeficdndjiijaaGreatDoor
open Go.RowKit
set_option linter.unusedVariables false
set_option linter.unusedSimpArgs false

theorem VL_of_marks {l : List Int} (hb : Byts l) (h0 : l ≠ []) (h1 : ∀ k, k + 1 < l.length → 128 ≤ cellD l k) (h2 : cellD l (l.length - 1) < 128) (h3 : l.length = 1 ∨ cellD l (l.length - 1) ≠ 0) : VL l := by
 induction l with
 | nil => exact absurd rfl h0
 | cons x l ih =>
  unfold VL
  by_cases hl : l = []
  ·rw [if_pos hl]
   subst hl
   have := hb x (by simp)
   have h2 : x < 128 := by simpa [cellD] using h2
   omega
  ·rw [if_neg hl]
   have hlen : 1 ≤ l.length := by
    cases l with
    | nil => exact absurd rfl hl
    | cons y m => simp
   have hx := hb x (by simp)
   have hx2 : 128 ≤ x := by simpa [cellD] using h1 0 (by simp; omega)
   have e : cellD (x :: l) ((x :: l).length - 1) = cellD l (l.length - 1) := by
    have : (x :: l).length - 1 = (l.length - 1) + 1 := by simp; omega
    rw [this]; simp [cellD]
   rw [e] at h2 h3
   have h3' : cellD l (l.length - 1) ≠ 0 := by
    rcases h3 with h3 | h3
    ·rw [List.length_cons] at h3; omega
    ·exact h3
   refine ⟨hx2, hx.2, ih (fun u hu => hb u (by simp [hu])) hl (fun k hk => by
    have := h1 (k + 1) (by simp; omega)
    simpa [cellD] using this) h2 (.inr h3'), fun e2 => h3' (by rw [e2]; rfl)⟩
theorem valL_ge (l : List Int) (k : Nat) (hk : k < l.length) : ((cellD l k).toNat % 128) * 128 ^ k ≤ valL l := by
  induction l generalizing k with
  | nil => simp at hk
  | cons x l ih =>
    cases k with
    | zero => simp [valL, cellD]
    | succ k =>
      have := ih k (by simpa using hk)
      have e : cellD (x :: l) (k + 1) = cellD l k := by simp [cellD]
      rw [e, valL, Nat.pow_succ, ← Nat.mul_assoc, Nat.mul_comm _ 128]
      omega
theorem valL_append (l : List Int) (x : Int) : valL (l ++ [x]) = valL l + 128 ^ l.length * (x.toNat % 128) := by
  induction l with
  | nil => simp [valL]
  | cons y l ih =>
    rw [List.cons_append, valL, ih, valL, List.length_cons, Nat.pow_succ, Nat.mul_comm (128 ^ l.length) 128, Nat.mul_assoc]
    omega
theorem valL_lt (l : List Int) : valL l < 128 ^ l.length := by
  induction l with
  | nil => simp [valL]
  | cons x l ih =>
    rw [valL, List.length_cons, Nat.pow_succ]
    have := Nat.mod_lt x.toNat (show 0 < 128 by decide)
    omega
theorem take_cell {bs : List Int} {j k : Nat} (h : k < j) : cellD (bs.take j) k = cellD bs k := by
  unfold cellD
  rw [List.getElem?_take, if_pos h]
theorem take_step {bs : List Int} {j : Nat} (h : j < bs.length) : bs.take (j + 1) = bs.take j ++ [cellD bs j] := by
  have e : bs[j]? = some (cellD bs j) := by simp [cellD, h]
  rw [List.take_add_one, e]; rfl
theorem TakeS.parts {bs : List Int} {u m : Nat} (h : TakeS bs u m) : u < 18446744073709551616 ∧ bs.take m = putN u ∧ m ≤ bs.length ∧ 1 ≤ m ∧ m ≤ 10 ∧ (putN u).length = m := by
  obtain ⟨h1, h2, r, rfl⟩ := h
  have := putN_pos u
  have := putN_len10 h1
  exact ⟨h1, by rw [h2, List.take_append_of_le_length (Nat.le_refl _), List.take_length], by simp; omega, by omega, by omega, h2.symm⟩
theorem TakeS.past {bs : List Int} {u m j : Nat} (h : TakeS bs u m) (hj : ∀ k, k < j → 128 ≤ cellD bs k) : j < m := by
  obtain ⟨h1, h2, h3, h4, h5, h6⟩ := h.parts
  rcases Nat.lt_or_ge j m with h | h
  · exact h
  · have := (VL_marks (putN_VL u) (m - 1)).2 (by omega)
    rw [← h2, take_cell (by omega)] at this
    have := hj (m - 1) (by omega)
    omega
theorem take_yes {bs : List Int} {j : Nat} (hb : Byts bs) (hj : j < bs.length) (h1 : ∀ k, k < j → 128 ≤ cellD bs k) (h2 : cellD bs j < 128) (h3 : j = 0 ∨ cellD bs j ≠ 0) (h4 : valL (bs.take (j + 1)) < 18446744073709551616) : TakeS bs (valL (bs.take (j + 1))) (j + 1) := by
  have hl : (bs.take (j + 1)).length = j + 1 := by simp; omega
  have hv : VL (bs.take (j + 1)) := by
    refine VL_of_marks (hb.take _) (fun e => by rw [e] at hl; simp at hl) (fun k hk => ?_) ?_ ?_
    · rw [hl] at hk
      rw [take_cell (by omega)]
      exact h1 k (by omega)
    · rw [hl, take_cell (by omega)]; exact h2
    · rw [hl, take_cell (by omega)]
      rcases h3 with h3 | h3
      · exact .inl (by omega)
      · exact .inr h3
  refine ⟨h4, ?_, bs.drop (j + 1), ?_⟩
  · rw [VL_put hv, hl]
  · rw [VL_put hv, List.take_append_drop]
def TakeNo (bs : List Int) : Prop := ∀ u m, ¬ TakeS bs u m
theorem bl_two : ∀ n : Fin 128, 2 ≤ Lib.bitLen n.val → 2 ≤ n.val := by decide +kernel
theorem take_big {bs : List Int} {j : Nat} (h1 : ∀ k, k < j → 128 ≤ cellD bs k) (hj : j < bs.length) (h2 : 64 < Lib.bitLen ((cellD bs j).toNat % 128) + 7 * j) : TakeNo bs := by
  intro u m h
  have hp := h.past h1
  obtain ⟨p1, p2, p3, p4, p5, p6⟩ := h.parts
  have hge := valL_ge (putN u) j (by omega)
  rw [putN_val, ← p2, take_cell hp] at hge
  have hlow : (cellD bs j).toNat % 128 < 128 := Nat.mod_lt _ (by decide)
  have h7 := len_le7 ⟨_, hlow⟩
  have h8 := bl_two ⟨_, hlow⟩
  simp only at h7 h8
  generalize (cellD bs j).toNat % 128 = q at *
  have hj9 : j = 9 := by omega
  subst hj9
  have := h8 (by omega)
  omega
theorem take_zero {bs : List Int} {j : Nat} (h1 : ∀ k, k < j → 128 ≤ cellD bs k) (hj : 0 < j) (h2 : cellD bs j = 0) : TakeNo bs := by
  intro u m h
  have hp := h.past h1
  obtain ⟨p1, p2, p3, p4, p5, p6⟩ := h.parts
  have hm : m = j + 1 := by
    rcases Nat.lt_or_ge (j + 1) m with hlt | hge
    · have := ((VL_marks (putN_VL u) j).1 (by omega)).1
      rw [← p2, take_cell hp, h2] at this
      omega
    · omega
  have := VL_last (putN_VL u) (by omega)
  rw [p6, ← p2, take_cell (by omega), hm] at this
  exact this h2
theorem take_end {bs : List Int} (h1 : ∀ k, k < bs.length → 128 ≤ cellD bs k) : TakeNo bs := by
  intro u m h
  have hp := h.past h1
  have := h.parts
  omega
end Go.Proofs.YtfeficdndjiijaaGreatDoor


namespace Go.Proofs.YtfeficdndjiijaaGreatDoor
open Go.RowKit
set_option linter.unusedVariables false
set_option linter.unusedSimpArgs false

def TakeRes (bs : List Int) (e : Ending) : Prop :=
  (∃ u n : Nat, TakeS bs u n ∧ e = .returned (.tuple #[.int .u64 (u : Int), .int .i64 (n : Int), .int .i64 0])) ∨ (TakeNo bs ∧ e = .returned (.tuple #[.int .u64 0, .int .i64 0, .int .i64 8]))
theorem and127 (u : Int) (h : 0 ≤ u ∧ u ≤ 255) : bits BinOp.and IntKind.u8 u 127 = ((u.toNat % 128 : Nat) : Int) := by
  obtain ⟨n, rfl⟩ := Int.eq_ofNat_of_zero_le h.1
  have hn : n ≤ 255 := by omega
  have hb : (BitVec.ofInt 8 (n : Int) &&& BitVec.ofInt 8 127).toNat = n % 128 := by
    have e1 : BitVec.ofInt 8 (n : Int) = BitVec.ofNat 8 n := BitVec.ofInt_natCast ..
    have e2 : BitVec.ofInt 8 127 = BitVec.ofNat 8 127 := by decide
    rw [e1, e2, BitVec.toNat_and, BitVec.toNat_ofNat, BitVec.toNat_ofNat]
    have h : ∀ m, m < 256 → (m % 2 ^ 8 &&& 127 % 2 ^ 8) = m % 128 := by decide +kernel
    exact h n (by omega)
  show IntKind.u8.wrap ((BitVec.ofInt 8 (n : Int) &&& BitVec.ofInt 8 127).toNat : Int) = _
  rw [hb]
  simp [IntKind.wrap, IntKind.bits, IntKind.signed]
  omega
theorem lift_lt {r j : Nat} (hq : r < 128) (h : Lib.bitLen r + 7 * j ≤ 64) : j ≤ 9 ∧ 128 ^ j * r + 128 ^ j ≤ 18446744073709551616 := by
  have hc : j = 0 ∨ j = 1 ∨ j = 2 ∨ j = 3 ∨ j = 4 ∨ j = 5 ∨ j = 6 ∨ j = 7 ∨ j = 8 ∨ j = 9 := by omega
  have hr : j = 9 → r ≤ 1 := fun e => by
    rcases Nat.lt_or_ge 1 r with h9 | h9
    · have h10 : ∀ n : Fin 128, 1 < n.val → 2 ≤ Lib.bitLen n.val := by decide +kernel
      have := h10 ⟨r, hq⟩ h9
      simp only at this
      omega
    · exact h9
  refine ⟨by omega, ?_⟩
  rcases hc with rfl | rfl | rfl | rfl | rfl | rfl | rfl | rfl | rfl | rfl
  all_goals first | omega | (have := hr rfl; omega)
theorem or_lift {U q j : Nat} (hj : j ≤ 9) (hU : U < 128 ^ j) (h : 128 ^ j * q + 128 ^ j ≤ 18446744073709551616) : bits BinOp.or IntKind.u64 (U : Int) (IntKind.u64.wrap ((q : Int) * 2 ^ (7 * j))) = ((U + 128 ^ j * q : Nat) : Int) := by
  have e : (128 : Nat) ^ j = 2 ^ (7 * j) := by rw [Nat.pow_mul]
  have e2 : ((2 : Int) ^ (7 * j)) = ((128 ^ j : Nat) : Int) := by rw [e]; exact (Int.natCast_pow ..).symm
  have e3 : ((128 ^ j : Nat) : Int) * (q : Int) = ((128 ^ j * q : Nat) : Int) := (Int.natCast_mul ..).symm
  have h9 : (128 : Nat) ^ j ≤ 128 ^ 9 := Nat.pow_le_pow_right (by decide) hj
  have h9' : (128 : Nat) ^ 9 = 9223372036854775808 := by decide
  have hp : 1 ≤ (128 : Nat) ^ j := Nat.pow_pos (by decide)
  have hw : IntKind.u64.wrap ((q : Int) * 2 ^ (7 * j)) = (q : Int) * 2 ^ (7 * j) := by
    rw [wrapU_mod, e2, Int.mul_comm, e3]; omega
  rw [hw]
  have h1 := or_at (U : Int) (q : Int) (7 * j) (by omega) (by rw [e2]; omega) (by omega) (by rw [e2, e3]; omega) (by rw [e2]; omega)
  rw [h1, e2, e3]; omega
set_option maxRecDepth 100000 in
set_option maxHeartbeats 8000000 in
theorem take_any (w : World) (v : Value) (bs : List Int) (hv : BytesAt w v bs) (hb : Byts bs) (hlen : bs.length ≤ 100000) :
  Calls Tryz.prog 69 #[v] w fun e w' => TakeRes bs e ∧ w = w' := by
 have HV := Lib.hid hv
 have HB := Lib.hid hb
 obtain ⟨ao, cap, rfl, hcap, hmx, hc⟩ := hv
 obtain ⟨n, hn⟩ : ∃ n, n = bs.length := ⟨_, rfl⟩
 have HN := Lib.hid hn
 rw [← hn] at hcap hlen ⊢
 clear hc hn hb
 go_enter Tryz.func69, Tryz.ntmps69
 go_wp2_with fail
 go_loop [5, 11] (fun u i => ∃ j : Nat, j ≤ n ∧ j ≤ 10 ∧ i = .int .i64 (j : Int) ∧ u = .int .u64 (valL (bs.take j) : Int) ∧ (∀ k, k < j → 128 ≤ cellD bs k) ∧ valL (bs.take j) < 18446744073709551616) (fun _ i => n - (intOf i).toNat)
 case atStart => exact ⟨0, by omega, by omega, rfl, by simp [valL], fun k hk => by omega, by simp [valL]⟩
 case round =>
  obtain ⟨j, hj, hj10, rfl, rfl, hmk, hvl⟩ := hrel
  have HMK := Lib.hid hmk
  have HVL := Lib.hid hvl
  clear hmk hvl
  by_cases hlt : j < n
  ·have hjl : j < bs.length := by have := HN.out; omega
   obtain ⟨g, off, rfl, hg, cx⟩ := HV.out.cell hjl
   have hb8 := HB.out.cellD j
   have HST := Lib.hid (take_step hjl)
   have HBIG := Lib.hid (take_big HMK.out hjl)
   have HZERO := Lib.hid (fun h => take_zero (bs := bs) (j := j) HMK.out h)
   have HYES := Lib.hid (take_yes HB.out hjl HMK.out)
   have HTL : Hid ((bs.take j).length = j) := Lib.hid (by simp; omega)
   have HVN : Hid (valL (bs.take (j + 1)) = valL (bs.take j) + 128 ^ j * ((cellD bs j).toNat % 128)) := Lib.hid (by rw [HST.out, valL_append, HTL.out])
   have HVJ := Lib.hid (by have := valL_lt (bs.take j); rwa [HTL.out] at this)
   have HMK2 : Hid (128 ≤ cellD bs j → ∀ k, k < j + 1 → 128 ≤ cellD bs k) := Lib.hid (fun h k hk => by
    by_cases e : k = j
    ·subst e; exact h
    ·exact HMK.out k (by omega))
   generalize cellD bs j = x at *
   obtain ⟨q, hq⟩ : ∃ q, q = x.toNat % 128 := ⟨_, rfl⟩
   have e1 : bits BinOp.and IntKind.u8 x 127 = (q : Int) := by rw [and127 x hb8, hq]
   rw [← hq] at HBIG HVN
   have hq128 : q < 128 := by omega
   have PL := Lib.hid (len7 q w hq128)
   have HQ := Lib.hid hq
   have HLIFT := Lib.hid (fun h => lift_lt (j := j) hq128 h)
   have i0 : (0 : Int) ≤ (j : Int) := by omega
   have i1 : (j : Int) < (n : Int) := by omega
   have hbl : Lib.bitLen q ≤ 7 := len_le7 ⟨q, hq128⟩
   clear hjl hq
   generalize Lib.bitLen q = bl at *
   go_wp2_with fail
   with_reducible refine PL.out.mono ?_
   rintro e w2 ⟨rfl, hw2⟩
   subst hw2
   by_cases hover : 64 < bl + 7 * j
   ·have d1 : decide ((64 : Int) < (bl : Int) + 7 * (j : Int)) = true := decide_eq_true (by omega)
    have HP : Hid (TakeRes bs (.returned (.tuple #[.int .u64 0, .int .i64 0, .int .i64 8]))) := Lib.hid (.inr ⟨HBIG.out hover, rfl⟩)
    go_wp2
    go_ret3
    exact ⟨HP.out, rfl⟩
   ·have d1 : decide ((64 : Int) < (bl : Int) + 7 * (j : Int)) = false := decide_eq_false (by omega)
    obtain ⟨hj9, hlift⟩ := HLIFT.out (by omega)
    have hor := or_lift hj9 HVJ.out hlift
    have HNV : Hid (valL (bs.take (j + 1)) = valL (bs.take j) + 128 ^ j * q) := Lib.hid (by rw [HVN.out])
    have HLT : Hid (valL (bs.take j) + 128 ^ j * q < 18446744073709551616) := Lib.hid (by have := HVJ.out; omega)
    generalize valL (bs.take j) + 128 ^ j * q = nv at *
    generalize valL (bs.take j) = ov at *
    by_cases hx : 128 ≤ x
    ·have d2 : decide ((128 : Int) ≤ x) = true := decide_eq_true hx
     have HMK3 := Lib.hid (HMK2.out hx)
     go_wp2
     go_round
     case rel => exact ⟨j + 1, by omega, by omega, by go_num, by rw [HNV.out], HMK3.out, by rw [HNV.out]; exact HLT.out⟩
     case measure => simp [intOf]; omega
    ·have d2 : decide ((128 : Int) ≤ x) = false := decide_eq_false hx
     by_cases hx0 : x = 0 ∧ 0 < j
     ·obtain ⟨rfl, hj0⟩ := hx0
      have d3 : decide ((0 : Int) < (j : Int)) = true := decide_eq_true (by omega)
      have d4 : decide (0 < j) = true := decide_eq_true hj0
      have HP : Hid (TakeRes bs (.returned (.tuple #[.int .u64 0, .int .i64 0, .int .i64 8]))) := Lib.hid (.inr ⟨HZERO.out hj0 rfl, rfl⟩)
      go_wp2
      go_ret3
      exact ⟨HP.out, rfl⟩
     ·have HP : Hid (TakeRes bs (.returned (.tuple #[.int .u64 (nv : Int), .int .i64 ((j : Int) + 1), .int .i64 0]))) := Lib.hid (.inl ⟨nv, j + 1, by
       have := HYES.out (by omega) (by omega) (by rw [HNV.out]; exact HLT.out)
       rwa [HNV.out] at this, rfl⟩)
      have d3 : (x == 0) = false ∨ (decide ((0 : Int) < (j : Int)) = false ∧ decide (0 < j) = false) := by
       by_cases h : x = 0
       ·exact .inr ⟨decide_eq_false (fun h2 => hx0 ⟨h, by omega⟩), decide_eq_false (fun h2 => hx0 ⟨h, h2⟩)⟩
       ·exact .inl (by simp [h])
      rcases d3 with d3 | ⟨d3, d4⟩
      ·go_wp2
       go_ret3
       exact ⟨HP.out, rfl⟩
      ·by_cases h0 : x = 0
       ·have d5 : (x == 0) = true := by simp [h0]
        clear h0 hx0
        go_wp2
        go_ret3
        exact ⟨HP.out, rfl⟩
       ·have d5 : (x == 0) = false := by simp [h0]
        clear h0 hx0
        go_wp2
        go_ret3
        exact ⟨HP.out, rfl⟩
  ·obtain rfl : j = n := by omega
   have HP : Hid (TakeRes bs (.returned (.tuple #[.int .u64 0, .int .i64 0, .int .i64 8]))) := Lib.hid (.inr ⟨take_end (by rw [← HN.out]; exact HMK.out), rfl⟩)
   go_wp2
   go_ret3
   exact ⟨HP.out, rfl⟩
end Go.Proofs.YtfeficdndjiijaaGreatDoor


namespace Go.Proofs.YtfeficdndjiijaaGreatDoor
open Go.RowKit
set_option linter.unusedVariables false
set_option linter.unusedSimpArgs false

end Go.Proofs.YtfeficdndjiijaaGreatDoor


namespace Go.Proofs.YtfeficdndjiijaaGreatDoor
open Go.RowKit
set_option linter.unusedVariables false
set_option linter.unusedSimpArgs false

end Go.Proofs.YtfeficdndjiijaaGreatDoor


namespace Go.Proofs.YtfeficdndjiijaaGreatDoor
open Go.RowKit
set_option linter.unusedVariables false
set_option linter.unusedSimpArgs false

def rowB (zs : List Int) : List Int := zs.flatMap fun z => putN (zigI z)
theorem rowB_nil : rowB [] = [] := rfl
theorem rowB_cons (z : Int) (zs : List Int) : rowB (z :: zs) = putN (zigI z) ++ rowB zs := by simp [rowB]
theorem rowB_append (a b : List Int) : rowB (a ++ b) = rowB a ++ rowB b := by simp [rowB]
theorem rowB_snoc (zs : List Int) (z : Int) : rowB (zs ++ [z]) = rowB zs ++ putN (zigI z) := by rw [rowB_append, rowB_cons, rowB_nil, List.append_nil]
theorem rowB_byts (zs : List Int) : Byts (rowB zs) := by
  induction zs with
  | nil => exact Byts.nil
  | cons z zs ih => rw [rowB_cons]; exact (putN_byts _).append ih
theorem rowB_ge (zs : List Int) : zs.length ≤ (rowB zs).length := by
  induction zs with
  | nil => simp
  | cons z zs ih => rw [rowB_cons, List.length_append, List.length_cons]; have := putN_pos (zigI z); omega
theorem rowB_le (zs : List Int) (h : Fit zs) : (rowB zs).length ≤ 10 * zs.length := by
  induction zs with
  | nil => simp [rowB]
  | cons z zs ih =>
    rw [rowB_cons, List.length_append, List.length_cons]
    have := putN_len10 (zig_lt (h z (by simp)))
    have := ih (fun u hu => h u (by simp [hu]))
    omega
theorem Fit.take {zs : List Int} (h : Fit zs) (n : Nat) : Fit (zs.take n) := fun u hu => h u (List.mem_of_mem_take hu)
theorem rowB_take {zs : List Int} {j : Nat} (h : j < zs.length) : rowB (zs.take (j + 1)) = rowB (zs.take j) ++ putN (zigI (cellD zs j)) := by
  have e : zs[j]? = some (cellD zs j) := by simp [cellD, h]
  rw [List.take_add_one, e, ← rowB_snoc]; rfl
theorem IntsAt.cell {w : World} {ao : Option Addr} {n cap : Nat} {zs : List Int} (h : IntsAt w (.slice ao n cap) zs) {j : Nat} (hj : j < zs.length) : ∃ g, ao = some ⟨g, 0, none⟩ ∧ g < w.heap.size ∧ w.cell? ⟨g, j, none⟩ = some (.int .i64 (cellD zs j)) := by
  obtain ⟨ao2, cap2, e, h1, h2⟩ := h
  simp only [Value.slice.injEq] at e
  obtain ⟨rfl, -, rfl⟩ := e
  obtain ⟨g, rfl, hg, hc⟩ := h2 (by omega)
  exact ⟨g, rfl, hg, hc j _ (by simp [cellD, hj])⟩
theorem OwnB.far {w : World} {base : Nat} {v : Value} {bs : List Int} {g : Nat} {t : TypeId} {cs : Array Value} (h : OwnB w base v bs) (hb : Blk w g t cs) (ht : t ≠ 5) : some g ≠ v.ownBlock := by
  intro e
  rcases h.2 with ⟨rfl, -⟩ | ⟨g2, cap, cur, rfl, -, e3, -⟩
  · simp [Value.ownBlock] at e
  · simp [Value.ownBlock] at e
    subst e
    exact (hb.ne_ (show Blk w g 5 cur from e3) ht) rfl
theorem OwnB.open2 {w : World} {base : Nat} {v : Value} {bs : List Int} (h : OwnB w base v bs) : ∃ ao n cap, v = .slice ao n cap := by
  obtain ⟨ao, cap, e, -⟩ := h.at
  exact ⟨ao, _, cap, e⟩
set_option maxRecDepth 100000 in
set_option maxHeartbeats 8000000 in
theorem putrow_any (w : World) (v vl : Value) (bs zs : List Int) (hv : BytesAt w v bs) (hz : IntsAt w vl zs) (hf : Fit zs) (hl : bs.length ≤ 100000) (hl2 : zs.length ≤ 100000) :
  Calls Tryz.prog 133 #[v, vl] w (PostC w (bs ++ rowB zs)) := by
 have HZ := Lib.hid hz
 have HF := Lib.hid hf
 have PC := Lib.hid (bclone_any w v bs hv (by omega))
 obtain ⟨ao, cap, rfl, hcap, -⟩ := hz
 obtain ⟨n, hn⟩ : ∃ n, n = zs.length := ⟨_, rfl⟩
 have HN := Lib.hid hn
 rw [← hn] at hcap hl2 ⊢
 clear hn hf hv
 go_enter Tryz.func133, Tryz.ntmps133
 go_wp2_with fail
 with_reducible refine PC.out.mono ?_
 rintro e w2 ⟨v2, rfl, ho2, hb2⟩
 obtain ⟨ao2, cap2, rfl, hcap2, -⟩ := ho2.open_
 have HO2 := Lib.hid ho2
 have HB2 := Lib.hid hb2
 clear ho2 hb2 PC
 go_wp2_with fail
 have HWB := Lib.hid (Blk.new w2 303 #[.slice ao2 bs.length cap2, .func (.func 172) #[] #[]])
 have HO3 := Lib.hid (HO2.out.kept ((Below.refl _ _).alloc (Nat.le_refl _) (.cells #[.slice ao2 bs.length cap2, .func (.func 172) #[] #[]] 303)))
 have HB3 := Lib.hid (HB2.out.alloc HB2.out.size (.cells #[.slice ao2 bs.length cap2, .func (.func 172) #[] #[]] 303))
 have HWL : Hid (w.heap.size ≤ w2.heap.size) := Lib.hid HB2.out.size
 clear HO2 HB2
 generalize w2.alloc (.cells #[.slice ao2 bs.length cap2, .func (.func 172) #[] #[]] 303) = w3 at *
 generalize w2.heap.size = WB at *
 go_loopw [14] (fun i wr => ∃ (j : Nat) (x : Value), j ≤ n ∧ i = .int .i64 (j : Int) ∧ Blk wr WB 303 #[x, .func (.func 172) #[] #[]] ∧ OwnB wr w.heap.size x (bs ++ rowB (zs.take j)) ∧ Below w.heap.size w wr) (fun i _ => n - (intOf i).toNat)
 case atStart => exact ⟨0, _, by omega, rfl, HWB.out, by simpa [rowB] using HO3.out, HB3.out⟩
 case round =>
  obtain ⟨j, x, hj, rfl, hwb, ho, hbel⟩ := hrel
  obtain ⟨ao5, ql, cap5, rfl⟩ := ho.open2
  have HW5 := Lib.hid hwb
  have HO5 := Lib.hid ho
  have HB5 := Lib.hid hbel
  clear hwb ho hbel HWB HO3 HB3
  by_cases hlt : j < n
  ·have hjz : j < zs.length := by have := HN.out; omega
   obtain ⟨g, rfl, hg, cx⟩ := (HZ.out.kept HB5.out).cell hjz
   have HNX := Lib.hid (rowB_take hjz)
   have hzf := HF.out (cellD zs j) (List.mem_of_getElem? (by simp [cellD, hjz] : zs[j]? = some (cellD zs j)))
   have HLE : Hid ((bs ++ rowB (zs.take j)).length ≤ 100000000) := Lib.hid (by
    rw [List.length_append]
    have := rowB_le _ (HF.out.take j)
    have h2 : (zs.take j).length ≤ n := by have := HN.out; simp; omega
    omega)
   generalize cellD zs j = z at *
   have PZ := Lib.hid (fun w => zig_any z w hzf)
   have hzl := zig_lt hzf
   have HQ := Lib.hid (fun wq (h1 : OwnB wq w.heap.size (.slice ao5 ql cap5) (bs ++ rowB (zs.take j))) (h2 : w.heap.size ≤ wq.heap.size) => putc_any wq w.heap.size _ _ (zigI z) h1 h2 hzl HLE.out)
   have i0 : (0 : Int) ≤ (j : Int) := by omega
   have i1 : (j : Int) < (n : Int) := by omega
   generalize zigI z = q at *
   clear hjz hzf hzl
   go_wp2_with fail
   refine wp_region_still_tail 6 (by kernel_rfl) (by kernel_rfl) ?_
   simp only [List.take_succ_cons, List.take_zero, List.drop_succ_cons, List.drop_zero]
   have HW6 : Hid (Blk { heap := wr.heap, tape := wr.tape, drawn := wr.drawn + 1, os := wr.os, output := wr.output } WB 303 #[.slice ao5 ql cap5, .func (.func 172) #[] #[]]) := Lib.hid (HW5.out.drewN 1)
   have HB6 : Hid (Below w.heap.size w { heap := wr.heap, tape := wr.tape, drawn := wr.drawn + 1, os := wr.os, output := wr.output }) := Lib.hid (below_drewN HB5.out 1)
   have HO6 : Hid (OwnB { heap := wr.heap, tape := wr.tape, drawn := wr.drawn + 1, os := wr.os, output := wr.output } w.heap.size (.slice ao5 ql cap5) (bs ++ rowB (zs.take j))) := Lib.hid (HO5.out.kept (below_drewN (Below.refl _ _) 1))
   generalize ({ heap := wr.heap, tape := wr.tape, drawn := wr.drawn + 1, os := wr.os, output := wr.output } : World) = wd at *
   have c0 := HW6.out.cell 0
   have c1 := HW6.out.cell 1
   simp at c0 c1
   repeat still_step
   still_call (PZ.out _ |>.mono fun e w' ⟨p, q⟩ => ⟨p, q.symm⟩)
   repeat still_step
   refine wpStill_nil ?_
   clear c0 c1
   go_wp2_with fail
   with_reducible refine (HQ.out _ HO6.out HB6.out.size).mono ?_
   rintro e w7 ⟨v7, rfl, ho7, hg7, hq7⟩
   obtain ⟨ao7, n7, cap7, rfl⟩ := ho7.open2
   have HW7 := Lib.hid (HW6.out.grown hg7 (HO6.out.far HW6.out (by decide)))
   have HB7 : Hid (Below w.heap.size w w7) := Lib.hid (HB6.out.grown hg7 HB6.out.size (fun k e => (HO6.out.lt k e).1))
   have HF7 := Lib.hid (ho7.far HW7.out (by decide))
   have HO7 := Lib.hid ho7
   have HEQ : Hid (bs ++ rowB (zs.take (j + 1)) = bs ++ rowB (zs.take j) ++ putN q) := Lib.hid (by rw [HNX.out, List.append_assoc])
   clear ho7 hg7 hq7 HO6 HW6 HB6
   have c0 := HW7.out.cell 0
   have f0 := HW7.out.frozen 0
   simp at c0
   go_wp2
   go_roundw
   case rel => exact ⟨j + 1, _, by omega, by go_num, by simpa using HW7.out.set_ 0 _, by rw [HEQ.out]; exact World.ownsRow.kept HO7.out (grown_set _ WB 0 _) (.inr (Ne.symm HF7.out)), HB7.out.setCell HWL.out _⟩
   case measure => simp [intOf]; omega
  ·obtain rfl : j = n := by omega
   have HT : Hid (zs.take j = zs) := Lib.hid (List.take_of_length_le (by have := HN.out; omega))
   have HO9 : Hid (OwnB wr w.heap.size (.slice ao5 ql cap5) (bs ++ rowB zs)) := Lib.hid (by have := HO5.out; rwa [HT.out] at this)
   have c0 := HW5.out.cell 0
   simp at c0
   clear hlt HO5 HW5
   go_wp2
   go_ret
   exact ⟨_, rfl, HO9.out, HB5.out⟩
end Go.Proofs.YtfeficdndjiijaaGreatDoor


namespace Go.Proofs.YtfeficdndjiijaaGreatDoor
open Go.RowKit Go.Maps
set_option linter.unusedVariables false
set_option linter.unusedSimpArgs false

theorem thElem_shape (v : Value) (y : DataW Unit × List MemPlace) (h : thElem v = some y) : ∃ c : Option Nat × Option Nat, v = thVal c.1 c.2 := by
  unfold thElem at h
  split at h
  · rename_i hx; exact hx
  · cases h
theorem keyShape (key : Value) (kl : Lit) (h : keyOf Tryz.prog 3 key = some kl) : ∃ x : Int, key = .int .i64 x := by
  obtain ⟨x, hx, -⟩ := Maps.keyOf_int_inv Tryz.underlying3 h
  exact ⟨x, hx⟩
theorem thField (p q : Value) (w : World) : (Instr.field 84 (.agg #[p, q]) 1).run Tryz.prog w = .ok q w := by kernel_rfl
theorem AggIs.look1 {w : World} {A b n : Nat} {T : Nat → Option Nat × Option Nat} (h : AggIs w A b n T) (k : Int) (h1 : 1 ≤ k) (h2 : k ≤ (n : Int)) (hn : n ≤ 100) :
    (Instr.lookup 75 (.map (some b)) (.int .i64 k) false).run Tryz.prog w = .ok (.agg #[thPtr (T k.toNat).1, thPtr (T k.toNat).2]) w := by
  obtain ⟨-, D, ho, -, hD⟩ := h
  have hk : In64 k := by unfold In64; omega
  obtain ⟨v, ps, hrun, hv⟩ := ho.lookup keyInt Tryz.underlying75 (zeroTh w) (thElem_mk none none) (keyOfInt k hk)
  obtain ⟨h3, h4⟩ := hD k hk
  rw [h4 ⟨h1, h2⟩] at hv
  rw [hrun, thElem_inv hv]
  rfl
set_option maxRecDepth 100000 in
set_option maxHeartbeats 4000000 in
theorem tick_none (w : World) (A b n : Nat) (T : Nat → Option Nat × Option Nat) (h : AggIs w A b n T) (hn : n ≤ 100) (hT : ∀ k, 1 ≤ k → k ≤ n → (T k).2 = none) :
  Calls Tryz.prog 50 #[.pointer (some ⟨A, 0, none⟩)] w fun e w' => e = .returned (.tuple #[.iface 133 (.agg #[]), .int .i64 0]) ∧ Below w.heap.size w w' := by
 have PH := Lib.hid (handles_any w A b n T h hn)
 have HA := Lib.hid h
 have HT := Lib.hid hT
 have HN := Lib.hid hn
 clear h hT hn
 go_enter Tryz.func50, Tryz.ntmps50
 go_wp2_with fail
 with_reducible refine PH.out.mono ?_
 rintro e w2 ⟨v, ss, rfl, hlen, hin, hi, hb⟩
 have HIN := Lib.hid hin
 have HL := Lib.hid hlen
 have HB2 := Lib.hid hb
 have HA2 := Lib.hid (HA.out.kept hb)
 obtain ⟨ao, cap, rfl, hx⟩ := id hi
 have HI := Lib.hid hi
 clear hin hb hi hx
 rw [hlen] at HI ⊢
 clear hlen
 go_wp2_with fail
 go_loopw [12] (fun i wr => ∃ k : Nat, k ≤ n ∧ i = .int .i64 (k : Int) ∧ Below w2.heap.size w2 wr) (fun i _ => n - (intOf i).toNat)
 case atStart => exact ⟨0, by omega, rfl, Below.refl _ _⟩
 case round =>
  obtain ⟨k, hk, rfl, hbk⟩ := hrel
  have HBK := Lib.hid hbk
  by_cases hlt : k < n
  ·have hkl : k < ss.length := by have := HL.out; omega
   obtain ⟨g, hg, hgl, hc⟩ := (HI.out.kept hbk).cell hkl
   subst hg
   obtain ⟨x, hx⟩ : ∃ x, x = cellD ss k := ⟨_, rfl⟩
   have hxm : x ∈ ss := by rw [hx]; unfold cellD; rw [List.getElem?_eq_getElem hkl]; exact List.getElem_mem _
   rw [← hx] at hc
   obtain ⟨hx1, hx2⟩ := HIN.out x hxm
   have hak := HA2.out.kept hbk
   have hlk := hak.look1 x hx1 hx2 HN.out
   have hT2 := HT.out x.toNat (by omega) (by omega)
   rw [hT2] at hlk
   have q0 := hak.1.cell 0
   simp at q0
   have i0 : (0 : Int) ≤ (k : Int) := by omega
   have i1 : (k : Int) < (n : Int) := by omega
   have i2 : (k : Int) < 100 := by have := HN.out; omega
   obtain ⟨p1, hp1⟩ : ∃ p1, p1 = thPtr (T x.toNat).1 := ⟨_, rfl⟩
   rw [← hp1] at hlk
   have hf1 := thField p1 (.pointer none) wr
   simp only [thPtr, Option.map_none] at hlk
   clear hp1
   clear hbk hkl hgl hx hxm hx1 hx2 hak hT2
   go_wp2_with fail
   go_roundw
   case rel => exact ⟨k + 1, by omega, by go_num, HBK.out⟩
   case measure => simp [intOf]; omega
  ·obtain rfl : k = n := by omega
   obtain ⟨hA3, D, hown, hsz, hD⟩ := HA2.out.kept hbk
   have HD := Lib.hid hD
   have q0 := hA3.cell 0
   simp at q0
   have hR : w2.heap.size ≤ wr.heap.size := hbk.size
   clear hbk hsz hD hA3 hlt
   go_wp2_with (at_range; refine wpList_range_own _ rfl _ 75 rfl 3 84 keyInt Tryz.underlying75 thElem b k D rfl hown ?_; intro w0 hrg0 hg0 hs0)
   go_frame
   have HB0 : Hid (Below w2.heap.size w2 w0) := Lib.hid (HBK.out.grown hg0 hR (fun q e => by cases e))
   clear hown hg0 hs0 q0 HBK
   generalize wr.heap.size = R at *
   have HR := Lib.hid hR
   clear hR
   go_loopw [37] (fun _ wq => ∃ (left : Lit → Bool) (cnt : Nat), wq.ranges Tryz.prog 3 thElem b R k D left cnt ∧ Below w2.heap.size w2 wq) (fun _ wq => wq.rangeLeft b R)
   case atStart => exact ⟨_, _, hrg0, HB0.out⟩
   case round =>
    obtain ⟨left, cnt, hrg, hbq⟩ := hrel
    clear hrg0 HB0
    go_wp2_with (at_next; refine wpList_next_ranges _ rfl _ rfl 3 keyInt thElem (Value.int .i64) (fun c : Option Nat × Option Nat => thVal c.1 c.2) keyShape thElem_shape b R k D _ _ rfl hrg ?_ ?_)
    ·intro hc0 hl0
     have HE := Lib.hid (HB2.out.trans (hbq.mono HB2.out.size))
     clear hrg hbq hl0 hc0
     go_wp2_with fail
     go_ret2
     exact ⟨rfl, HE.out⟩
    ·intro x c1 c2 kl y1 y2 w3 cnt3 hkey hlk hv hat hrg3 hlt3 hg3 hs3 hen
     obtain ⟨x', ex, rfl, hwf⟩ := Maps.keyOf_int_inv Tryz.underlying3 hkey
     obtain rfl : x = x' := by simpa using ex
     have hin : In64 x := by
      simp [Lit.wf, IntKind.min, IntKind.max, IntKind.signed, IntKind.bits] at hwf
      unfold In64
      omega
     obtain ⟨h1, h2⟩ := HD.out x hin
     rw [has_true_of_atKey hat] at h1
     have h3 := of_decide_eq_true h1.symm
     have h4 := h2 h3
     rw [hat] at h4
     have h5 : y1 = thD c1 c2 := by
      have := (thElem_mk c1 c2).symm.trans hv
      simp only [Option.some.injEq, Prod.mk.injEq] at this
      exact this.1.symm
     rw [h5] at h4
     have h6 := (thD_inj h4).2
     rw [HT.out x.toNat (by omega) (by omega)] at h6
     subst h6
     have HB3 := Lib.hid (hbq.grown hg3 hbq.size (fun q e => by have := Option.some.inj e; have := HR.out; omega))
     have HRG := Lib.hid hrg3
     have HME : Hid (w3.rangeLeft b R < wr.rangeLeft b R) := Lib.hid (by rw [hrg3.left_eq, hrg.left_eq]; exact hlt3)
     obtain ⟨p1, hp1⟩ : ∃ p1, p1 = thPtr c1 := ⟨_, rfl⟩
     have HP1 : Hid (Value.oneCell' p1 = true) := Lib.hid (by rw [hp1]; unfold thPtr; cases c1 <;> rfl)
     simp only [thVal, ← hp1] at hen ⊢
     simp only [thPtr, Option.map_none] at hen ⊢
     clear hkey hlk hv hat hrg3 hlt3 hg3 hs3 ex hwf hin h1 h2 h3 h4 h5 hrg hbq hp1
     have t1 := (blkRowNew (cs' := #[p1, .pointer none]) (Blk.new w3 84 #[.pointer none, .pointer none])).cell 1
     have hbn := below_setRow ((Below.refl w3.heap.size w3).alloc (Nat.le_refl _) (.cells #[.pointer none, .pointer none] 84)) (Nat.le_refl _) #[p1, .pointer none]
     simp at t1
     have HBN := Lib.hid hbn
     clear hbn
     go_wp2_with (refine wpList_store_row rfl 84 _ _ rfl w3.heap.size #[p1, .pointer none] rfl rfl 84 #[.pointer none, .pointer none] (Blk.new _ _ _) (by kernel_rfl) rfl (by have h := HP1.out; revert h; cases p1 <;> simp [Value.oneCell']) ?_)
     go_roundw
     case rel => exact ⟨_, cnt3, HRG.out.kept (row := none) (below_gr HBN.out) (by simp) (by simp), HB3.out.trans (HBN.out.mono HB3.out.size)⟩
     case measure =>
      have h1 := (HRG.out.kept (row := none) (below_gr HBN.out) (by simp) (by simp)).left_eq
      have h2 := HRG.out.left_eq
      have h3 := HME.out
      omega
end Go.Proofs.YtfeficdndjiijaaGreatDoor

