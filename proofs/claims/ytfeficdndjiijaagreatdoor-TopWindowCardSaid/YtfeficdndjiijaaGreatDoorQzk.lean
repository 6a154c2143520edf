import Derived.Test.YtfeficdndjiijaaGreatDoorQzj
import Derived.Test.YtfeficdndjiijaaGreatDoorQzc
import Derived.Lib.BitFns
import Derived.Lib.Strings
import Derived.Lib.Slices
import Derived.Lib.Small
import Derived.Lib.Walk
import Derived.Laws.EntriesVeiled
import Derived.Maps.RangeWalk
import Derived.Test.YtfeficdndjiijaaGreatDoorQzi
import Derived.Test.YtfeficdndjiijaaGreatDoorQzd
import Derived.Test.YtfeficdndjiijaaGreatDoorQzb
import Derived.Test.YtfeficdndjiijaaGreatDoorQzh
/-
  Contracts of the functions that TopWindow reaches, and the plain laws that it leans on. Conditions: none beyond those stated at each theorem.
-/
namespace Go.Proofs.YtfeficdndjiijaaGreatDoor
open Go.RowKit
set_option linter.unusedVariables false
set_option linter.unusedSimpArgs false

def leB (u : Int) (n : Nat) : List Int := (List.range n).map fun i => u / 256 ^ i % 256
theorem leB_len (u : Int) (n : Nat) : (leB u n).length = n := by simp [leB]
theorem leB_byts (u : Int) (n : Nat) : Byts (leB u n) := fun x hx => by
  simp [leB] at hx
  obtain ⟨i, _, rfl⟩ := hx
  omega
theorem leB_succ (u : Int) (n : Nat) : leB u (n + 1) = leB u n ++ [u / 256 ^ n % 256] := by simp [leB, List.range_succ]
def OwnB (w : World) (base : Nat) (v : Value) (bs : List Int) : Prop := w.ownsRow base 5 1 v bs.length (bs.map (Value.int .u8))
theorem OwnB.at {w : World} {base : Nat} {v : Value} {bs : List Int} (h : OwnB w base v bs) : BytesAt w v bs := BytesAt.of_own h
theorem gr_new {w w1 w2 : World} {row : Option Nat} {o : Option Nat} (h : w.grownBy w1 row) (k : w1.grownBy w2 o) (ho : o = row ∨ ∃ g, o = some g ∧ w.heap.size ≤ g) : w.grownBy w2 row :=
  ⟨k.os.trans h.os, k.tape.trans h.tape, k.output.trans h.output, Nat.le_trans h.size k.size, fun j hj hne => (k.block j (Nat.lt_of_lt_of_le hj h.size) (by
    rcases ho with rfl | ⟨g, rfl, hg⟩
    · exact hne
    · intro e; have := Option.some.inj e; omega)).trans (h.block j hj hne)⟩
def Owned (w : World) (o o' : Option Nat) : Prop := o' = o ∨ ∃ g, o' = some g ∧ w.heap.size ≤ g
theorem Owned.refl (w : World) (o : Option Nat) : Owned w o o := .inl rfl
theorem Owned.next {w : World} {ob o1 o2 : Option Nat} {n : Nat} (h : Owned w ob o1) (k : o2 = o1 ∨ o2 = some n) (hs : w.heap.size ≤ n) : Owned w ob o2 := by
  rcases k with rfl | rfl
  · exact h
  · exact .inr ⟨_, rfl, hs⟩
theorem Owned.trans {w w1 : World} {o0 o1 o2 : Option Nat} (h : Owned w o0 o1) (k : Owned w1 o1 o2) (hs : w.heap.size ≤ w1.heap.size) : Owned w o0 o2 := by
  rcases k with rfl | ⟨g, rfl, hg⟩
  · exact h
  · exact .inr ⟨g, rfl, Nat.le_trans hs hg⟩
theorem OwnB.kept {w w' : World} {base : Nat} {v : Value} {bs : List Int} (h : OwnB w base v bs) (hb : Below w.heap.size w w') : OwnB w' base v bs := World.ownsRow.kept h (below_gr (row := none) hb) (by cases v.ownBlock <;> simp)
theorem OwnB.lt {w : World} {base : Nat} {v : Value} {bs : List Int} (h : OwnB w base v bs) : ∀ k, v.ownBlock = some k → base ≤ k ∧ k < w.heap.size := World.ownsRow.lt h
theorem OwnB.open_ {w : World} {base : Nat} {v : Value} {bs : List Int} (h : OwnB w base v bs) : ∃ ao cap, v = .slice ao bs.length cap ∧ bs.length ≤ cap ∧ cap ≤ maxLen := by
  obtain ⟨ao, cap, e, h1, h2, -⟩ := h.at
  exact ⟨ao, cap, e, h1, h2⟩
def OwnPost (w : World) (base : Nat) (v : Value) (bs : List Int) (e : Ending) (w' : World) : Prop :=
  ∃ v', e = .returned v' ∧ OwnB w' base v' bs ∧ w.grownBy w' v.ownBlock ∧ Owned w v.ownBlock v'.ownBlock
set_option maxRecDepth 100000 in
set_option maxHeartbeats 4000000 in
theorem low_any (w : World) (base : Nat) (v : Value) (bs : List Int) (u : Int) (n : Nat) (hv : OwnB w base v bs) (hb : base ≤ w.heap.size) (u0 : 0 ≤ u) (u1 : u ≤ 18446744073709551615) (hn : n ≤ 8) (hl : bs.length ≤ 100000000) :
  Calls Tryz.prog 31 #[v, .int .u64 u, .int .i64 (n : Int)] w (OwnPost w base v (bs ++ leB u n)) := by
 obtain ⟨i0', hi, hz0, hz1, hz2⟩ := info_parts Tryz.info8
 have HV := Lib.hid hv
 have HL := Lib.hid hl
 obtain ⟨ob, hob⟩ : ∃ ob, ob = v.ownBlock := ⟨_, rfl⟩
 unfold OwnPost
 rw [← hob]
 have HOB := Lib.hid hob
 clear hv hob
 go_enter Tryz.func31, Tryz.ntmps31
 go_wp2_with fail
 go_loopw [0, 9] (fun x i wr => ∃ j : Nat, j ≤ n ∧ i = .int .i64 (j : Int) ∧ OwnB wr base x (bs ++ leB u j) ∧ w.grownBy wr ob ∧ Owned w ob x.ownBlock) (fun _ i _ => n - (intOf i).toNat)
 case atStart => exact ⟨0, by omega, rfl, by simpa [leB] using HV.out, below_gr (Below.refl _ _), by rw [HOB.out]; exact Owned.refl _ _⟩
 case round =>
  obtain ⟨j, hj, rfl, hown, hgr, hq⟩ := hrel
  have HO := Lib.hid hown
  have HGR := Lib.hid hgr
  have HQ := Lib.hid hq
  clear hown hgr hq
  by_cases hlt : j < n
  ·have i0 : (0 : Int) ≤ (j : Int) := by omega
   have i1 : (j : Int) < (n : Int) := by omega
   have hsz := HGR.out.size
   have HNX : Hid ((bs ++ leB u j).map (Value.int .u8) ++ [.int .u8 (u / 2 ^ (8 * j) % 256)] = (bs ++ leB u (j + 1)).map (Value.int .u8)) := Lib.hid (by
    rw [leB_succ, Int.pow_mul, ← List.append_assoc, List.map_append (l₂ := [_])]
    rfl)
   have HLN : Hid ((bs ++ leB u j).length + 1 = (bs ++ leB u (j + 1)).length) := Lib.hid (by simp only [List.length_append, leB_len]; omega)
   have hcl : (bs ++ leB u j).length ≤ 100000008 := by simp only [List.length_append, leB_len]; omega
   have hc1 : (bs ++ leB u j).length + 1 ≤ maxLen := by unfold maxLen; omega
   go_wp2_with (at_builtin; go_loud (refine wpList_append_own_at _ rfl _ _ 41 rfl base 5 i0' (.int .u8 0) 1 1 Tryz.underlying41 hi hz0 hz1 hz2 rfl (by decide) _ (bs ++ leB u j).length _ rfl (World.ownsRow.alloc HO.out _) ⟨wr.heap.size, 0, none⟩ 1 1 [.int .u8 (u / 2 ^ (8 * j) % 256)] rfl rfl (cell_one_new _ _ _) ?c2 hc1 ?c4 ?c5 ?_))
   case c2 => simp [Value.oneCell']
   case c4 => omega
   case c5 => simp; omega
   intro v8 w8 hown' hgrow hnil' hq9
   have HO8 : Hid (OwnB w8 base v8 (bs ++ leB u (j + 1))) := Lib.hid (by unfold OwnB; rw [← HNX.out, ← HLN.out]; simpa using hown')
   have HG8 := Lib.hid (gr_new (gr_trans HGR.out (below_gr ((Below.refl _ _).alloc (Nat.le_refl _) _))) hgrow HQ.out)
   have HQ8 := Lib.hid (HQ.out.next hq9 (by omega))
   clear hown' hgrow hnil' hq9
   go_wp2
   go_roundw
   case rel => exact ⟨j + 1, by omega, by go_num, HO8.out, HG8.out, HQ8.out⟩
   case measure => simp [intOf]; omega
  ·obtain rfl : j = n := by omega
   go_wp2
   go_ret
   exact ⟨_, rfl, HO.out, HGR.out, HQ.out⟩
theorem BytesAt.news {w : World} {ao : Option Addr} {n cap : Nat} {bs : List Int} (h : BytesAt w (.slice ao n cap) bs) (hn : n = bs.length) (w' : World) (hb : Below w.heap.size w w') :
    0 < n → ∃ ad, ao = some ad ∧ ∀ j u, (bs.map (Value.int .u8))[j]? = some u → w'.cell? (ad.add j) = some u := by
  intro h0
  obtain ⟨ao2, cap2, e, h1, h2, h3⟩ := h
  simp only [Value.slice.injEq] at e
  obtain ⟨rfl, -, rfl⟩ := e
  rcases h3 with ⟨rfl, rfl⟩ | ⟨g, off, rfl, hg, hcc⟩
  · simp at hn; omega
  · refine ⟨_, rfl, fun j u hu => ?_⟩
    rw [List.getElem?_map] at hu
    cases hz : bs[j]? with
    | none => rw [hz] at hu; simp at hu
    | some z =>
      rw [hz] at hu
      simp at hu
      subst hu
      rw [addr_add]
      exact (hb.cell (p := ⟨g, off + j, none⟩) hg).trans (hcc j z hz)
section
variable {P : Program}
theorem run_append_none (w : World) (t ty e : TypeId) (i : TypeInfo) (ht : P.underlying t = some (.slice e)) (hi : P.info? e = some i) (g cap : Nat) (ao : Option Addr) (c : Nat) :
    (Builtin.append_ #[t, t] ty #[.slice (some ⟨g, 0, none⟩) 0 cap, .slice ao 0 c]).run P w = .ok (.slice (some ⟨g, 0, none⟩) 0 cap) w := by
  cases ao <;> simp [Builtin.append_, run_underlying ht, sizeOf, typeInfo, hi, Builtin.lenOf, Builtin.firstCells, loadCells, loadCellsFrom, storeCells]
theorem wpList_append_lit {ops : Array Oper} {rest : List Oper} {o : Oper} {w : World} {a : Act} {Q : Exit → Act → World → Prop} (hgd : o.guard = none) (s x : Operand) (t : TypeId)
  (ho : o.op = .call { callee := .builtin .append, args := #[s, x], argTypes := #[t, t] })
  (base : Nat) (e : TypeId) (i : TypeInfo) (z : Value) (bytes : Nat) (ht : P.underlying t = some (.slice e)) (hi : P.info? e = some i) (hz : i.zero = some z)
  (hsize : i.size = 1) (hby : i.bytes = bytes) (hzs : z.cells.size = 1)
  (g cap : Nat) (hs : a.eval s = .slice (some ⟨g, 0, none⟩) 0 cap) (hown : w.ownsRow base e 1 (.slice (some ⟨g, 0, none⟩) 0 cap) 0 [])
  (ao : Option Addr) (m c : Nat) (news : List Value) (hx : a.eval x = .slice ao m c) (hl : news.length = m) (hnews : 0 < m → ∃ ad, ao = some ad ∧ ∀ j u, news[j]? = some u → w.cell? (ad.add j) = some u) (h1 : ∀ u ∈ news, u.oneCell' = true)
  (h63 : m ≤ maxLen) (hbytes : m * bytes ≤ 140737488355328) (hbase : base ≤ w.heap.size)
  (h : ∀ v' w', w'.ownsRow base e 1 v' m news → w.grownBy w' (some g) → v' ≠ .slice none 0 0 → (v'.ownBlock = some g ∨ v'.ownBlock = some w.heap.size) → wpList P ops Q rest (a.put o.dst v') w') :
  wpList P ops Q (o :: rest) a w := by
 by_cases h0 : 0 < m
 ·obtain ⟨ad, rfl, hc⟩ := hnews h0
  refine wpList_append_own_at _ hgd s x t ho base e i z 1 bytes ht hi hz hsize hby hzs (by decide) _ 0 [] hs hown ad m c news hx (by omega) hc h1 (by omega) (by rw [Nat.zero_add]; exact hbytes) hbase ?_
  intro v' w' h2 h3 h4 h5
  refine h v' w' (by simpa using h2) h3 ?_ h5
  intro hv
  have := (h4.1 hv).1
  cases this
 ·obtain rfl : m = 0 := by omega
  obtain rfl : news = [] := List.eq_nil_of_length_eq_zero hl
  refine wpList_plain hgd fun K hK => ?_
  unfold Oper.wp execOp
  simp only [ho, resolve, invoke, builtin, Sem.run_bind, Sem.run_pure, Result.andThen_ok, List.map_toArray, List.map_cons, List.map_nil, hs, hx, run_append_none w t o.type e i ht hi g cap ao c]
  exact hK _ _ (h _ w hown ⟨rfl, rfl, rfl, Nat.le_refl _, fun _ _ _ => rfl⟩ (by simp) (.inl rfl))
end
def signB (bs : List Int) : List Int := bs ++ leB (sumI 0 bs) 4
theorem signB_byts {bs : List Int} (h : Byts bs) : Byts (signB bs) := h.append (leB_byts _ _)
theorem signB_len (bs : List Int) : (signB bs).length = bs.length + 4 := by simp [signB, leB_len]
end Go.Proofs.YtfeficdndjiijaaGreatDoor


namespace Go.Proofs.YtfeficdndjiijaaGreatDoor
open Go.RowKit
set_option linter.unusedVariables false
set_option linter.unusedSimpArgs false

def PostC (w : World) (bs : List Int) (e : Ending) (w' : World) : Prop :=
  ∃ v', e = .returned v' ∧ OwnB w' w.heap.size v' bs ∧ Below w.heap.size w w'
theorem or128 (u : Int) (h0 : 0 ≤ u) : bits BinOp.or IntKind.u8 (u % 256) 128 = 128 + u % 128 := by
  obtain ⟨n, rfl⟩ := Int.eq_ofNat_of_zero_le h0
  have hb : (BitVec.ofInt 8 ((n : Int) % 256) ||| BitVec.ofInt 8 128).toNat = 128 + n % 128 := by
    have e1 : BitVec.ofInt 8 ((n : Int) % 256) = BitVec.ofNat 8 (n % 256) := by
      rw [show ((n : Int) % 256) = ((n % 256 : Nat) : Int) by omega]
      exact BitVec.ofInt_natCast ..
    have e2 : BitVec.ofInt 8 128 = BitVec.ofNat 8 128 := by decide
    rw [e1, e2, BitVec.toNat_or, BitVec.toNat_ofNat, BitVec.toNat_ofNat]
    have h : ∀ m, m < 256 → (m % 2 ^ 8 ||| 128 % 2 ^ 8) = 128 + m % 128 := by decide +kernel
    rw [h _ (Nat.mod_lt _ (by decide))]
    omega
  show IntKind.u8.wrap ((BitVec.ofInt 8 ((n : Int) % 256) ||| BitVec.ofInt 8 128).toNat : Int) = _
  rw [hb]
  simp [IntKind.wrap, IntKind.bits, IntKind.signed]
  omega
theorem OwnB.pre {w : World} {base b' : Nat} {v : Value} {bs : List Int} (h : OwnB w base v bs) (hb : b' ≤ base) : OwnB w b' v bs := by
  refine ⟨h.1, ?_⟩
  rcases h.2 with h | ⟨g, cap, cur, e1, e2, e3⟩
  · exact .inl h
  · exact .inr ⟨g, cap, cur, e1, Nat.le_trans hb e2, e3⟩

theorem Tryz.sl8 (w : World) (a : Option Addr) (n c : Nat) : Sem.run Tryz.prog (binOp .eql 41 (.slice a n c) (.slice none 0 0)) w = .ok (.bool a.isNone) w := Go.Lib.run_eql_slice_nil w 41 5 a n c 0 0 Tryz.underlying41
set_option maxRecDepth 100000 in
set_option maxHeartbeats 4000000 in
theorem bclone_any (w : World) (v : Value) (bs : List Int) (hv : BytesAt w v bs) (hl : bs.length ≤ 100000000) :
  Calls Tryz.prog 171 #[v] w (PostC w bs) := by
 obtain ⟨i0', hi, hz0, hz1, hz2⟩ := info_parts Tryz.info8
 have HV := Lib.hid hv
 have hown0 := World.ownsRow_lit (base := w.heap.size) (e := 5) (size := 1) w #[] 0 (by exact Nat.le_refl _) (by unfold maxLen; omega) (by simp)
 have HO1 := Lib.hid hown0
 have HB1 : Hid (Below w.heap.size w (w.alloc (.cells #[] 5))) := Lib.hid ((Below.refl _ _).alloc (Nat.le_refl _) _)
 clear hown0
 obtain ⟨ao, cap, rfl, hcap, hmx, hc⟩ := hv
 rcases hc with ⟨rfl, rfl⟩ | ⟨g, off, rfl, -, -⟩
 ·have he := Tryz.sl8 w none 0 cap
  simp only [Option.isNone_none] at he
  simp only [List.length_nil]
  clear hcap hmx HV
  go_enter Tryz.func171, Tryz.ntmps171
  go_wp2
  go_ret
  exact ⟨_, rfl, World.ownsRow_nil _ _ _ _, Below.refl _ _⟩
 ·obtain ⟨n, hn⟩ : ∃ n, n = bs.length := ⟨_, rfl⟩
  have HN := Lib.hid hn
  have HNEWS := Lib.hid (HV.out.news rfl _ HB1.out)
  have he := Tryz.sl8 w (some ⟨g, off, none⟩) bs.length cap
  simp only [Option.isNone_some] at he
  rw [← hn] at hcap hl HNEWS he ⊢
  clear hn
  go_enter Tryz.func171, Tryz.ntmps171
  go_wp2_with (at_builtin; refine wpList_append_lit rfl _ _ 41 rfl w.heap.size 5 i0' (.int .u8 0) 1 Tryz.underlying41 hi hz0 hz1 hz2 rfl w.heap.size 0 rfl HO1.out _ n cap (bs.map (Value.int .u8)) rfl (by rw [List.length_map]; exact HN.out.symm) HNEWS.out (fun u hu => by obtain ⟨z, -, rfl⟩ := List.mem_map.1 hu; rfl) (by unfold maxLen; omega) (by omega) (by simp) ?_)
  intro v5 w5 o5 g5 n5 q5
  have HO5 : Hid (OwnB w5 w.heap.size v5 bs) := Lib.hid (by unfold OwnB; rw [← HN.out]; exact o5)
  have HB5 : Hid (Below w.heap.size w w5) := Lib.hid (HB1.out.grown g5 (by simp) (fun k e => by have := Option.some.inj e; omega))
  clear o5 g5 n5 q5 HO1 HB1
  go_wp2
  go_ret
  exact ⟨_, rfl, HO5.out, HB5.out⟩
set_option maxRecDepth 100000 in
set_option maxHeartbeats 4000000 in
theorem putc_any (w : World) (base : Nat) (v : Value) (bs : List Int) (u : Nat) (hv : OwnB w base v bs) (hb : base ≤ w.heap.size) (u1 : u < 18446744073709551616) (hl : bs.length ≤ 100000000) :
  Calls Tryz.prog 172 #[v, .int .u64 (u : Int)] w (OwnPost w base v (bs ++ putN u)) := by
 obtain ⟨i0', hi, hz0, hz1, hz2⟩ := info_parts Tryz.info8
 have HV := Lib.hid hv
 have HL := Lib.hid hl
 obtain ⟨ob, hob⟩ : ∃ ob, ob = v.ownBlock := ⟨_, rfl⟩
 unfold OwnPost
 rw [← hob]
 have HOB := Lib.hid hob
 have HU10 := Lib.hid (putN_len10 u1)
 clear hv hob
 go_enter Tryz.func172, Tryz.ntmps172
 go_wp2_with fail
 go_loopw [0, 1] (fun x y wr => ∃ (j : Nat) (pre : List Int), y = .int .u64 (j : Int) ∧ pre ++ putN j = putN u ∧ OwnB wr base x (bs ++ pre) ∧ w.grownBy wr ob ∧ Owned w ob x.ownBlock ∧ j < 18446744073709551616) (fun _ y _ => (intOf y).toNat)
 case atStart => exact ⟨u, [], rfl, by simp, by simpa using HV.out, below_gr (Below.refl _ _), by rw [HOB.out]; exact Owned.refl _ _, u1⟩
 case round =>
  obtain ⟨j, pre, rfl, hpre, hown, hgr, hq, hj64⟩ := hrel
  have HO := Lib.hid hown
  have HGR := Lib.hid hgr
  have HQ := Lib.hid hq
  have HP := Lib.hid hpre
  have hsz := hgr.size
  have hpl : pre.length ≤ 10 := by have := congrArg List.length hpre; rw [List.length_append] at this; have := HU10.out; have := putN_pos j; omega
  have hcl : (bs ++ pre).length ≤ 100000010 := by rw [List.length_append]; omega
  have hc1 : (bs ++ pre).length + 1 ≤ maxLen := by unfold maxLen; omega
  have hc4 : ((bs ++ pre).length + 1) * 1 ≤ 140737488355328 := by omega
  clear hown hgr hq hpre
  by_cases hlt : 128 ≤ j
  ·have HST := Lib.hid (putN_ge (u := j) (by omega))
   have e1 : bits BinOp.or IntKind.u8 ((j : Int) % 256) 128 = ((128 + j % 128 : Nat) : Int) := by rw [or128 _ (by omega)]; omega
   have HNX : Hid (pre ++ [((128 + j % 128 : Nat) : Int)] ++ putN (j / 128) = putN u) := Lib.hid (by rw [← HP.out, HST.out]; simp)
   go_wp2_with (at_builtin; go_loud (refine wpList_append_own_at _ rfl _ _ 41 rfl base 5 i0' (.int .u8 0) 1 1 Tryz.underlying41 hi hz0 hz1 hz2 rfl (by decide) _ (bs ++ pre).length _ rfl (World.ownsRow.alloc HO.out _) ⟨wr.heap.size, 0, none⟩ 1 1 [.int .u8 ((128 + j % 128 : Nat) : Int)] rfl rfl (cell_one_new _ _ _) ?c2 hc1 hc4 ?c5 ?_))
   case c2 => simp [Value.oneCell']
   case c5 => simp; omega
   intro v8 w8 hown' hgrow hnil' hq9
   have HO8 : Hid (OwnB w8 base v8 (bs ++ (pre ++ [((128 + j % 128 : Nat) : Int)]))) := Lib.hid (by unfold OwnB; rw [show (bs ++ (pre ++ [((128 + j % 128 : Nat) : Int)])).length = (bs ++ pre).length + 1 by simp only [List.length_append, List.length_singleton]; omega]; simpa using hown')
   have HG8 := Lib.hid (gr_new (gr_trans HGR.out (below_gr ((Below.refl _ _).alloc (Nat.le_refl _) _))) hgrow HQ.out)
   have HQ8 := Lib.hid (HQ.out.next hq9 (by omega))
   clear hown' hgrow hnil' hq9
   go_wp2
   go_roundw
   case rel => exact ⟨j / 128, pre ++ [((128 + j % 128 : Nat) : Int)], by go_num, HNX.out, HO8.out, HG8.out, HQ8.out, by omega⟩
   case measure => simp [intOf]; omega
  ·have HST := Lib.hid (putN_lt (u := j) (by omega))
   have e1 : (j : Int) % 256 = (j : Int) := by omega
   have HNX : Hid (bs ++ pre ++ [(j : Int)] = bs ++ putN u) := Lib.hid (by rw [← HP.out, HST.out]; simp)
   go_wp2_with (at_builtin; refine wpList_append_own_at _ rfl _ _ 41 rfl base 5 i0' (.int .u8 0) 1 1 Tryz.underlying41 hi hz0 hz1 hz2 rfl (by decide) _ (bs ++ pre).length _ rfl (World.ownsRow.alloc HO.out _) ⟨wr.heap.size, 0, none⟩ 1 1 [.int .u8 (j : Int)] rfl rfl (cell_one_new _ _ _) ?c2 hc1 hc4 ?c5 ?_)
   case c2 => simp [Value.oneCell']
   case c5 => simp; omega
   intro v8 w8 hown' hgrow hnil' hq9
   have HO8 : Hid (OwnB w8 base v8 (bs ++ putN u)) := Lib.hid (by rw [← HNX.out]; unfold OwnB; rw [show (bs ++ pre ++ [(j : Int)]).length = (bs ++ pre).length + 1 by simp only [List.length_append, List.length_singleton]]; simpa using hown')
   have HG8 := Lib.hid (gr_new (gr_trans HGR.out (below_gr ((Below.refl _ _).alloc (Nat.le_refl _) _))) hgrow HQ.out)
   have HQ8 := Lib.hid (HQ.out.next hq9 (by omega))
   clear hown' hgrow hnil' hq9
   go_wp2
   go_ret
   exact ⟨_, rfl, HO8.out, HG8.out, HQ8.out⟩
set_option maxRecDepth 100000 in
set_option maxHeartbeats 4000000 in
theorem put_any' (w : World) (v : Value) (bs : List Int) (u : Nat) (hv : BytesAt w v bs) (u1 : u < 18446744073709551616) (hl : bs.length ≤ 100000000) :
  Calls Tryz.prog 132 #[v, .int .u64 (u : Int)] w (PostC w (bs ++ putN u)) := by
 obtain ⟨i0', hi, hz0, hz1, hz2⟩ := info_parts Tryz.info8
 have HL := Lib.hid hl
 have HU10 := Lib.hid (putN_len10 u1)
 have PC := Lib.hid (bclone_any w v bs hv hl)
 obtain ⟨ao, cap, rfl, hcap, hmx, hc⟩ := hv
 clear hc hcap
 generalize hnn : bs.length = nn at *
 have HNN := Lib.hid hnn
 clear hnn
 go_enter Tryz.func132, Tryz.ntmps132
 go_wp2_with fail
 with_reducible refine PC.out.mono ?_
 rintro e w2 ⟨v2, rfl, ho2, hb2⟩
 have HO2 := Lib.hid ho2
 have HB2 := Lib.hid hb2
 clear ho2 hb2
 go_wp2_with fail
 go_loopw [1, 5] (fun y x wr => ∃ (j : Nat) (pre : List Int), y = .int .u64 (j : Int) ∧ pre ++ putN j = putN u ∧ OwnB wr w.heap.size x (bs ++ pre) ∧ Below w.heap.size w wr ∧ j < 18446744073709551616) (fun y _ _ => (intOf y).toNat)
 case atStart => exact ⟨u, [], rfl, by simp, by simpa using HO2.out, HB2.out, u1⟩
 case round =>
  obtain ⟨j, pre, rfl, hpre, hown, hbel, hj64⟩ := hrel
  have HO := Lib.hid hown
  have HB := Lib.hid hbel
  have HP := Lib.hid hpre
  have hsz := hbel.size
  have hpl : pre.length ≤ 10 := by have := congrArg List.length hpre; rw [List.length_append] at this; have := HU10.out; have := putN_pos j; omega
  have hcl : (bs ++ pre).length ≤ 100000010 := by rw [List.length_append, HNN.out]; omega
  have hc1 : (bs ++ pre).length + 1 ≤ maxLen := by unfold maxLen; omega
  have hc4 : ((bs ++ pre).length + 1) * 1 ≤ 140737488355328 := by omega
  clear hown hbel hpre HO2 HB2
  by_cases hlt : 128 ≤ j
  ·have HST := Lib.hid (putN_ge (u := j) (by omega))
   have e1 : bits BinOp.or IntKind.u8 ((j : Int) % 256) 128 = ((128 + j % 128 : Nat) : Int) := by rw [or128 _ (by omega)]; omega
   have HNX : Hid (pre ++ [((128 + j % 128 : Nat) : Int)] ++ putN (j / 128) = putN u) := Lib.hid (by rw [← HP.out, HST.out]; simp)
   go_wp2_with (at_builtin; refine wpList_append_own_at _ rfl _ _ 41 rfl w.heap.size 5 i0' (.int .u8 0) 1 1 Tryz.underlying41 hi hz0 hz1 hz2 rfl (by decide) _ (bs ++ pre).length _ rfl (World.ownsRow.alloc HO.out _) ⟨wr.heap.size, 0, none⟩ 1 1 [.int .u8 ((128 + j % 128 : Nat) : Int)] rfl rfl (cell_one_new _ _ _) ?c2 hc1 hc4 ?c5 ?_)
   case c2 => simp [Value.oneCell']
   case c5 => simp; omega
   intro v8 w8 hown' hgrow hnil' hq9
   have HO8 : Hid (OwnB w8 w.heap.size v8 (bs ++ (pre ++ [((128 + j % 128 : Nat) : Int)]))) := Lib.hid (by unfold OwnB; rw [show (bs ++ (pre ++ [((128 + j % 128 : Nat) : Int)])).length = (bs ++ pre).length + 1 by simp only [List.length_append, List.length_singleton]; omega]; simpa using hown')
   have HB8 : Hid (Below w.heap.size w w8) := Lib.hid ((HB.out.alloc HB.out.size _).grown hgrow (by simp; omega) (fun k e => (HO.out.lt k e).1))
   clear hown' hgrow hnil' hq9
   go_wp2
   go_roundw
   case rel => exact ⟨j / 128, pre ++ [((128 + j % 128 : Nat) : Int)], by go_num, HNX.out, HO8.out, HB8.out, by omega⟩
   case measure => simp [intOf]; omega
  ·have HST := Lib.hid (putN_lt (u := j) (by omega))
   have e1 : (j : Int) % 256 = (j : Int) := by omega
   have HNX : Hid (bs ++ pre ++ [(j : Int)] = bs ++ putN u) := Lib.hid (by rw [← HP.out, HST.out]; simp)
   go_wp2_with (at_builtin; refine wpList_append_own_at _ rfl _ _ 41 rfl w.heap.size 5 i0' (.int .u8 0) 1 1 Tryz.underlying41 hi hz0 hz1 hz2 rfl (by decide) _ (bs ++ pre).length _ rfl (World.ownsRow.alloc HO.out _) ⟨wr.heap.size, 0, none⟩ 1 1 [.int .u8 (j : Int)] rfl rfl (cell_one_new _ _ _) ?c2 hc1 hc4 ?c5 ?_)
   case c2 => simp [Value.oneCell']
   case c5 => simp; omega
   intro v8 w8 hown' hgrow hnil' hq9
   have HO8 : Hid (OwnB w8 w.heap.size v8 (bs ++ putN u)) := Lib.hid (by rw [← HNX.out]; unfold OwnB; rw [show (bs ++ pre ++ [(j : Int)]).length = (bs ++ pre).length + 1 by simp only [List.length_append, List.length_singleton]]; simpa using hown')
   have HB8 : Hid (Below w.heap.size w w8) := Lib.hid ((HB.out.alloc HB.out.size _).grown hgrow (by simp; omega) (fun k e => (HO.out.lt k e).1))
   clear hown' hgrow hnil' hq9
   go_wp2
   go_ret
   exact ⟨_, rfl, HO8.out, HB8.out⟩
end Go.Proofs.YtfeficdndjiijaaGreatDoor


namespace Go.Proofs.YtfeficdndjiijaaGreatDoor
open Go.RowKit
set_option linter.unusedVariables false
set_option linter.unusedSimpArgs false

theorem not_u64 (a : Int) (h0 : 0 ≤ a) (h1 : a ≤ 18446744073709551615) : bits BinOp.xor IntKind.u64 a 18446744073709551615 = 18446744073709551615 - a := by
  obtain ⟨n, rfl⟩ := Int.eq_ofNat_of_zero_le h0
  have hx : (BitVec.ofInt 64 (n : Int) ^^^ BitVec.ofInt 64 18446744073709551615).toNat = 18446744073709551615 - n := by
    have e1 : BitVec.ofInt 64 18446744073709551615 = BitVec.allOnes 64 := by decide +kernel
    have e2 : BitVec.ofInt 64 (n : Int) = BitVec.ofNat 64 n := BitVec.ofInt_natCast ..
    rw [e1, e2, BitVec.xor_allOnes, BitVec.toNat_not, BitVec.toNat_ofNat]
    omega
  show IntKind.u64.wrap ((BitVec.ofInt 64 (n : Int) ^^^ BitVec.ofInt 64 18446744073709551615).toNat : Int) = _
  rw [hx, wrapU_mod]
  omega
theorem xor_zero_u64 (a : Int) (h0 : 0 ≤ a) (h1 : a ≤ 18446744073709551615) : bits BinOp.xor IntKind.u64 a 0 = a := by
  obtain ⟨n, rfl⟩ := Int.eq_ofNat_of_zero_le h0
  have := u64_xor_nat n 0 (by omega) (by decide)
  simpa using this
def zigI (n : Int) : Nat := if 0 ≤ n then (2 * n).toNat else (-2 * n - 1).toNat
def zagI (u : Nat) : Int := if u % 2 = 0 then (u / 2 : Nat) else -((u / 2 : Nat) : Int) - 1
theorem zag_zig (n : Int) : zagI (zigI n) = n := by unfold zagI zigI; split <;> split <;> omega
theorem zig_zag (u : Nat) : zigI (zagI u) = u := by unfold zagI zigI; split <;> split <;> omega
theorem zig_lt {n : Int} (h : -9223372036854775808 ≤ n ∧ n ≤ 9223372036854775807) : zigI n < 18446744073709551616 := by unfold zigI; split <;> omega
theorem zag_fit {u : Nat} (h : u < 18446744073709551616) : -9223372036854775808 ≤ zagI u ∧ zagI u ≤ 9223372036854775807 := by unfold zagI; split <;> omega
theorem zig_any (n : Int) (w : World) (h : -9223372036854775808 ≤ n ∧ n ≤ 9223372036854775807) : Calls Tryz.prog 173 #[.int .i64 n] w fun e w' => e = .returned (.int .u64 (zigI n : Int)) ∧ w = w' := by
  have key : bits BinOp.xor IntKind.u64 (IntKind.u64.wrap (IntKind.u64.wrap n * 2)) (IntKind.u64.wrap (n / 9223372036854775808)) = (zigI n : Int) := by
    rw [wrapU_mod n, wrapU_mod, wrapU_mod]
    by_cases h0 : 0 ≤ n
    · rw [show n / 9223372036854775808 % 18446744073709551616 = 0 by omega, xor_zero_u64 _ (by omega) (by omega)]
      unfold zigI
      rw [if_pos h0]
      omega
    · rw [show n / 9223372036854775808 % 18446744073709551616 = 18446744073709551615 by omega, not_u64 _ (by omega) (by omega)]
      unfold zigI
      rw [if_neg h0]
      omega
  have HKEY := Lib.hid key
  clear key
  go_enter Tryz.func173, Tryz.ntmps173
  go_wp2
  go_ret
  exact ⟨congrArg (fun z => Ending.returned (.int .u64 z)) HKEY.out, rfl⟩
end Go.Proofs.YtfeficdndjiijaaGreatDoor


namespace Go.Proofs.YtfeficdndjiijaaGreatDoor
open Go.RowKit
set_option linter.unusedVariables false
set_option linter.unusedSimpArgs false

theorem take_cell {bs : List Int} {j k : Nat} (h : k < j) : cellD (bs.take j) k = cellD bs k := by
  unfold cellD
  rw [List.getElem?_take, if_pos h]
theorem TakeS.parts {bs : List Int} {u m : Nat} (h : TakeS bs u m) : u < 18446744073709551616 ∧ bs.take m = putN u ∧ m ≤ bs.length ∧ 1 ≤ m ∧ m ≤ 10 ∧ (putN u).length = m := by
  obtain ⟨h1, h2, r, rfl⟩ := h
  have := putN_pos u
  have := putN_len10 h1
  exact ⟨h1, by rw [h2, List.take_append_of_le_length (Nat.le_refl _), List.take_length], by simp; omega, by omega, by omega, h2.symm⟩
theorem TakeS.past {bs : List Int} {u m j : Nat} (h : TakeS bs u m) (hj : ∀ k, k < j → 128 ≤ cellD bs k) : j < m := by
  obtain ⟨h1, h2, h3, h4, h5, h6⟩ := h.parts
  rcases Nat.lt_or_ge j m with h | h
  · exact h
  · have := (VL_marks (putN_VL u) (m - 1)).2 (by omega)
    rw [← h2, take_cell (by omega)] at this
    have := hj (m - 1) (by omega)
    omega
def TakeNo (bs : List Int) : Prop := ∀ u m, ¬ TakeS bs u m
theorem take_zero {bs : List Int} {j : Nat} (h1 : ∀ k, k < j → 128 ≤ cellD bs k) (hj : 0 < j) (h2 : cellD bs j = 0) : TakeNo bs := by
  intro u m h
  have hp := h.past h1
  obtain ⟨p1, p2, p3, p4, p5, p6⟩ := h.parts
  have hm : m = j + 1 := by
    rcases Nat.lt_or_ge (j + 1) m with hlt | hge
    · have := ((VL_marks (putN_VL u) j).1 (by omega)).1
      rw [← p2, take_cell hp, h2] at this
      omega
    · omega
  have := VL_last (putN_VL u) (by omega)
  rw [p6, ← p2, take_cell (by omega), hm] at this
  exact this h2
end Go.Proofs.YtfeficdndjiijaaGreatDoor


namespace Go.Proofs.YtfeficdndjiijaaGreatDoor
open Go.RowKit
set_option linter.unusedVariables false
set_option linter.unusedSimpArgs false

end Go.Proofs.YtfeficdndjiijaaGreatDoor


namespace Go.Proofs.YtfeficdndjiijaaGreatDoor
open Go.RowKit
set_option linter.unusedVariables false
set_option linter.unusedSimpArgs false

end Go.Proofs.YtfeficdndjiijaaGreatDoor


namespace Go.Proofs.YtfeficdndjiijaaGreatDoor
open Go.RowKit
set_option linter.unusedVariables false
set_option linter.unusedSimpArgs false

end Go.Proofs.YtfeficdndjiijaaGreatDoor


namespace Go.Proofs.YtfeficdndjiijaaGreatDoor
open Go.RowKit
set_option linter.unusedVariables false
set_option linter.unusedSimpArgs false

def rowB (zs : List Int) : List Int := zs.flatMap fun z => putN (zigI z)
theorem rowB_nil : rowB [] = [] := rfl
theorem rowB_cons (z : Int) (zs : List Int) : rowB (z :: zs) = putN (zigI z) ++ rowB zs := by simp [rowB]
theorem rowB_append (a b : List Int) : rowB (a ++ b) = rowB a ++ rowB b := by simp [rowB]
theorem rowB_snoc (zs : List Int) (z : Int) : rowB (zs ++ [z]) = rowB zs ++ putN (zigI z) := by rw [rowB_append, rowB_cons, rowB_nil, List.append_nil]
theorem rowB_byts (zs : List Int) : Byts (rowB zs) := by
  induction zs with
  | nil => exact Byts.nil
  | cons z zs ih => rw [rowB_cons]; exact (putN_byts _).append ih
theorem rowB_ge (zs : List Int) : zs.length ≤ (rowB zs).length := by
  induction zs with
  | nil => simp
  | cons z zs ih => rw [rowB_cons, List.length_append, List.length_cons]; have := putN_pos (zigI z); omega
theorem rowB_le (zs : List Int) (h : Fit zs) : (rowB zs).length ≤ 10 * zs.length := by
  induction zs with
  | nil => simp [rowB]
  | cons z zs ih =>
    rw [rowB_cons, List.length_append, List.length_cons]
    have := putN_len10 (zig_lt (h z (by simp)))
    have := ih (fun u hu => h u (by simp [hu]))
    omega
theorem Fit.take {zs : List Int} (h : Fit zs) (n : Nat) : Fit (zs.take n) := fun u hu => h u (List.mem_of_mem_take hu)
theorem rowB_take {zs : List Int} {j : Nat} (h : j < zs.length) : rowB (zs.take (j + 1)) = rowB (zs.take j) ++ putN (zigI (cellD zs j)) := by
  have e : zs[j]? = some (cellD zs j) := by simp [cellD, h]
  rw [List.take_add_one, e, ← rowB_snoc]; rfl
theorem IntsAt.cell {w : World} {ao : Option Addr} {n cap : Nat} {zs : List Int} (h : IntsAt w (.slice ao n cap) zs) {j : Nat} (hj : j < zs.length) : ∃ g, ao = some ⟨g, 0, none⟩ ∧ g < w.heap.size ∧ w.cell? ⟨g, j, none⟩ = some (.int .i64 (cellD zs j)) := by
  obtain ⟨ao2, cap2, e, h1, h2⟩ := h
  simp only [Value.slice.injEq] at e
  obtain ⟨rfl, -, rfl⟩ := e
  obtain ⟨g, rfl, hg, hc⟩ := h2 (by omega)
  exact ⟨g, rfl, hg, hc j _ (by simp [cellD, hj])⟩
theorem OwnB.far {w : World} {base : Nat} {v : Value} {bs : List Int} {g : Nat} {t : TypeId} {cs : Array Value} (h : OwnB w base v bs) (hb : Blk w g t cs) (ht : t ≠ 5) : some g ≠ v.ownBlock := by
  intro e
  rcases h.2 with ⟨rfl, -⟩ | ⟨g2, cap, cur, rfl, -, e3, -⟩
  · simp [Value.ownBlock] at e
  · simp [Value.ownBlock] at e
    subst e
    exact (hb.ne_ (show Blk w g 5 cur from e3) ht) rfl
theorem OwnB.open2 {w : World} {base : Nat} {v : Value} {bs : List Int} (h : OwnB w base v bs) : ∃ ao n cap, v = .slice ao n cap := by
  obtain ⟨ao, cap, e, -⟩ := h.at
  exact ⟨ao, _, cap, e⟩
set_option maxRecDepth 100000 in
set_option maxHeartbeats 8000000 in
theorem putrow_any (w : World) (v vl : Value) (bs zs : List Int) (hv : BytesAt w v bs) (hz : IntsAt w vl zs) (hf : Fit zs) (hl : bs.length ≤ 100000) (hl2 : zs.length ≤ 100000) :
  Calls Tryz.prog 133 #[v, vl] w (PostC w (bs ++ rowB zs)) := by
 have HZ := Lib.hid hz
 have HF := Lib.hid hf
 have PC := Lib.hid (bclone_any w v bs hv (by omega))
 obtain ⟨ao, cap, rfl, hcap, -⟩ := hz
 obtain ⟨n, hn⟩ : ∃ n, n = zs.length := ⟨_, rfl⟩
 have HN := Lib.hid hn
 rw [← hn] at hcap hl2 ⊢
 clear hn hf hv
 go_enter Tryz.func133, Tryz.ntmps133
 go_wp2_with fail
 with_reducible refine PC.out.mono ?_
 rintro e w2 ⟨v2, rfl, ho2, hb2⟩
 obtain ⟨ao2, cap2, rfl, hcap2, -⟩ := ho2.open_
 have HO2 := Lib.hid ho2
 have HB2 := Lib.hid hb2
 clear ho2 hb2 PC
 go_wp2_with fail
 have HWB := Lib.hid (Blk.new w2 303 #[.slice ao2 bs.length cap2, .func (.func 172) #[] #[]])
 have HO3 := Lib.hid (HO2.out.kept ((Below.refl _ _).alloc (Nat.le_refl _) (.cells #[.slice ao2 bs.length cap2, .func (.func 172) #[] #[]] 303)))
 have HB3 := Lib.hid (HB2.out.alloc HB2.out.size (.cells #[.slice ao2 bs.length cap2, .func (.func 172) #[] #[]] 303))
 have HWL : Hid (w.heap.size ≤ w2.heap.size) := Lib.hid HB2.out.size
 clear HO2 HB2
 generalize w2.alloc (.cells #[.slice ao2 bs.length cap2, .func (.func 172) #[] #[]] 303) = w3 at *
 generalize w2.heap.size = WB at *
 go_loopw [14] (fun i wr => ∃ (j : Nat) (x : Value), j ≤ n ∧ i = .int .i64 (j : Int) ∧ Blk wr WB 303 #[x, .func (.func 172) #[] #[]] ∧ OwnB wr w.heap.size x (bs ++ rowB (zs.take j)) ∧ Below w.heap.size w wr) (fun i _ => n - (intOf i).toNat)
 case atStart => exact ⟨0, _, by omega, rfl, HWB.out, by simpa [rowB] using HO3.out, HB3.out⟩
 case round =>
  obtain ⟨j, x, hj, rfl, hwb, ho, hbel⟩ := hrel
  obtain ⟨ao5, ql, cap5, rfl⟩ := ho.open2
  have HW5 := Lib.hid hwb
  have HO5 := Lib.hid ho
  have HB5 := Lib.hid hbel
  clear hwb ho hbel HWB HO3 HB3
  by_cases hlt : j < n
  ·have hjz : j < zs.length := by have := HN.out; omega
   obtain ⟨g, rfl, hg, cx⟩ := (HZ.out.kept HB5.out).cell hjz
   have HNX := Lib.hid (rowB_take hjz)
   have hzf := HF.out (cellD zs j) (List.mem_of_getElem? (by simp [cellD, hjz] : zs[j]? = some (cellD zs j)))
   have HLE : Hid ((bs ++ rowB (zs.take j)).length ≤ 100000000) := Lib.hid (by
    rw [List.length_append]
    have := rowB_le _ (HF.out.take j)
    have h2 : (zs.take j).length ≤ n := by have := HN.out; simp; omega
    omega)
   generalize cellD zs j = z at *
   have PZ := Lib.hid (fun w => zig_any z w hzf)
   have hzl := zig_lt hzf
   have HQ := Lib.hid (fun wq (h1 : OwnB wq w.heap.size (.slice ao5 ql cap5) (bs ++ rowB (zs.take j))) (h2 : w.heap.size ≤ wq.heap.size) => putc_any wq w.heap.size _ _ (zigI z) h1 h2 hzl HLE.out)
   have i0 : (0 : Int) ≤ (j : Int) := by omega
   have i1 : (j : Int) < (n : Int) := by omega
   generalize zigI z = q at *
   clear hjz hzf hzl
   go_wp2_with fail
   refine wp_region_still_tail 6 (by kernel_rfl) (by kernel_rfl) ?_
   simp only [List.take_succ_cons, List.take_zero, List.drop_succ_cons, List.drop_zero]
   have HW6 : Hid (Blk { heap := wr.heap, tape := wr.tape, drawn := wr.drawn + 1, os := wr.os, output := wr.output } WB 303 #[.slice ao5 ql cap5, .func (.func 172) #[] #[]]) := Lib.hid (HW5.out.drewN 1)
   have HB6 : Hid (Below w.heap.size w { heap := wr.heap, tape := wr.tape, drawn := wr.drawn + 1, os := wr.os, output := wr.output }) := Lib.hid (below_drewN HB5.out 1)
   have HO6 : Hid (OwnB { heap := wr.heap, tape := wr.tape, drawn := wr.drawn + 1, os := wr.os, output := wr.output } w.heap.size (.slice ao5 ql cap5) (bs ++ rowB (zs.take j))) := Lib.hid (HO5.out.kept (below_drewN (Below.refl _ _) 1))
   generalize ({ heap := wr.heap, tape := wr.tape, drawn := wr.drawn + 1, os := wr.os, output := wr.output } : World) = wd at *
   have c0 := HW6.out.cell 0
   have c1 := HW6.out.cell 1
   simp at c0 c1
   repeat still_step
   still_call (PZ.out _ |>.mono fun e w' ⟨p, q⟩ => ⟨p, q.symm⟩)
   repeat still_step
   refine wpStill_nil ?_
   clear c0 c1
   go_wp2_with fail
   with_reducible refine (HQ.out _ HO6.out HB6.out.size).mono ?_
   rintro e w7 ⟨v7, rfl, ho7, hg7, hq7⟩
   obtain ⟨ao7, n7, cap7, rfl⟩ := ho7.open2
   have HW7 := Lib.hid (HW6.out.grown hg7 (HO6.out.far HW6.out (by decide)))
   have HB7 : Hid (Below w.heap.size w w7) := Lib.hid (HB6.out.grown hg7 HB6.out.size (fun k e => (HO6.out.lt k e).1))
   have HF7 := Lib.hid (ho7.far HW7.out (by decide))
   have HO7 := Lib.hid ho7
   have HEQ : Hid (bs ++ rowB (zs.take (j + 1)) = bs ++ rowB (zs.take j) ++ putN q) := Lib.hid (by rw [HNX.out, List.append_assoc])
   clear ho7 hg7 hq7 HO6 HW6 HB6
   have c0 := HW7.out.cell 0
   have f0 := HW7.out.frozen 0
   simp at c0
   go_wp2
   go_roundw
   case rel => exact ⟨j + 1, _, by omega, by go_num, by simpa using HW7.out.set_ 0 _, by rw [HEQ.out]; exact World.ownsRow.kept HO7.out (grown_set _ WB 0 _) (.inr (Ne.symm HF7.out)), HB7.out.setCell HWL.out _⟩
   case measure => simp [intOf]; omega
  ·obtain rfl : j = n := by omega
   have HT : Hid (zs.take j = zs) := Lib.hid (List.take_of_length_le (by have := HN.out; omega))
   have HO9 : Hid (OwnB wr w.heap.size (.slice ao5 ql cap5) (bs ++ rowB zs)) := Lib.hid (by have := HO5.out; rwa [HT.out] at this)
   have c0 := HW5.out.cell 0
   simp at c0
   clear hlt HO5 HW5
   go_wp2
   go_ret
   exact ⟨_, rfl, HO9.out, HB5.out⟩
end Go.Proofs.YtfeficdndjiijaaGreatDoor


namespace Go.Proofs.YtfeficdndjiijaaGreatDoor
open Go.RowKit Go.Maps
set_option linter.unusedVariables false
set_option linter.unusedSimpArgs false

theorem thElem_shape (v : Value) (y : DataW Unit × List MemPlace) (h : thElem v = some y) : ∃ c : Option Nat × Option Nat, v = thVal c.1 c.2 := by
  unfold thElem at h
  split at h
  · rename_i hx; exact hx
  · cases h
theorem keyShape (key : Value) (kl : Lit) (h : keyOf Tryz.prog 3 key = some kl) : ∃ x : Int, key = .int .i64 x := by
  obtain ⟨x, hx, -⟩ := Maps.keyOf_int_inv Tryz.underlying3 h
  exact ⟨x, hx⟩
theorem thField (p q : Value) (w : World) : (Instr.field 84 (.agg #[p, q]) 1).run Tryz.prog w = .ok q w := by kernel_rfl
theorem AggIs.look1 {w : World} {A b n : Nat} {T : Nat → Option Nat × Option Nat} (h : AggIs w A b n T) (k : Int) (h1 : 1 ≤ k) (h2 : k ≤ (n : Int)) (hn : n ≤ 100) :
    (Instr.lookup 75 (.map (some b)) (.int .i64 k) false).run Tryz.prog w = .ok (.agg #[thPtr (T k.toNat).1, thPtr (T k.toNat).2]) w := by
  obtain ⟨-, D, ho, -, hD⟩ := h
  have hk : In64 k := by unfold In64; omega
  obtain ⟨v, ps, hrun, hv⟩ := ho.lookup keyInt Tryz.underlying75 (zeroTh w) (thElem_mk none none) (keyOfInt k hk)
  obtain ⟨h3, h4⟩ := hD k hk
  rw [h4 ⟨h1, h2⟩] at hv
  rw [hrun, thElem_inv hv]
  rfl
end Go.Proofs.YtfeficdndjiijaaGreatDoor


namespace Go.Proofs.YtfeficdndjiijaaGreatDoor
open Go.RowKit Go.Maps
set_option linter.unusedVariables false
set_option linter.unusedSimpArgs false

theorem ranges_onl {w w' : World} {k : TypeId} {R : Value → Option (DataW Unit × List MemPlace)} {b r n : Nat} {D : DataW Unit} {left : Lit → Bool} {cnt : Nat} (h : w.ranges Tryz.prog k R b r n D left cnt) (h1 : w'.heap[b]? = w.heap[b]?) (h2 : w'.heap[r]? = w.heap[r]?) : w'.ranges Tryz.prog k R b r n D left cnt := by
  obtain ⟨es, clock, since, seen, c0, hb, F, hs, hD, hr, rest⟩ := h
  exact ⟨es, clock, since, seen, c0, h1.trans hb, F, hs, hD, h2.trans hr, rest⟩
theorem ranges_iter {w : World} {k : TypeId} {R : Value → Option (DataW Unit × List MemPlace)} {b r n : Nat} {D : DataW Unit} {left : Lit → Bool} {cnt : Nat} (h : w.ranges Tryz.prog k R b r n D left cnt) : ∃ a s c d, w.heap[r]? = some (.mapIter a s c d) := by
  obtain ⟨es, clock, since, seen, c0, hb, F, hs, hD, hr, rest⟩ := h
  exact ⟨_, _, _, _, hr⟩
def TickSt (U : World → World → Prop) (w2 : World) (R : Nat) (left : Lit → Bool) (wq : World) : Prop :=
  (left (.int .i64 4) = true ∧ Below w2.heap.size w2 wq) ∨ (left (.int .i64 4) = false ∧ ∃ wa wb, Below w2.heap.size w2 wa ∧ U wa wb ∧ (∃ a s c d, wb.heap[R]? = some (.mapIter a s c d)) ∧ Onl (fun k => k = R) wb wq)
theorem TickSt.step {U : World → World → Prop} {w2 : World} {R : Nat} {left : Lit → Bool} {wq w3 : World} (h : TickSt U w2 R left wq) (hg : wq.grownBy w3 (some R)) (hR : w2.heap.size ≤ R) : TickSt U w2 R left w3 := by
  rcases h with ⟨h1, h2⟩ | ⟨h1, wa, wb, h2, h3, h4, h5⟩
  · exact .inl ⟨h1, h2.grown hg h2.size (fun q e => by have := Option.some.inj e; omega)⟩
  · exact .inr ⟨h1, wa, wb, h2, h3, h4, h5.trans (Onl.of_gr hg)⟩
theorem TickSt.kept {U : World → World → Prop} {w2 : World} {R : Nat} {left : Lit → Bool} {wq w3 : World} (h : TickSt U w2 R left wq) (hb : Below wq.heap.size wq w3) : TickSt U w2 R left w3 := by
  rcases h with ⟨h1, h2⟩ | ⟨h1, wa, wb, h2, h3, h4, h5⟩
  · exact .inl ⟨h1, btr h2 hb⟩
  · exact .inr ⟨h1, wa, wb, h2, h3, h4, h5.trans (Onl.below hb)⟩
theorem TickSt.other {U : World → World → Prop} {w2 : World} {R : Nat} {left : Lit → Bool} {wq : World} (h : TickSt U w2 R left wq) {x : Int} (hx : x ≠ 4) : TickSt U w2 R (fun z => left z && !z.sameKey (.int .i64 x)) wq := by
  have e : (Lit.int .i64 4).sameKey (.int .i64 x) = false := by simp [Lit.sameKey]; omega
  rcases h with ⟨h1, h2⟩ | ⟨h1, h2⟩
  · exact .inl ⟨by simp [h1, e], h2⟩
  · exact .inr ⟨by simp [h1], h2⟩
set_option maxRecDepth 100000 in
set_option maxHeartbeats 4000000 in
theorem tick_win (w : World) (A b n V BR : Nat) (T : Nat → Option Nat × Option Nat) (h : AggIs w A b n T) (hn : n = 4) (hT : ∀ k, 1 ≤ k → k ≤ 3 → (T k).2 = none) (hT4 : T 4 = (none, some V)) (hVB : V < w.heap.size ∧ BR < w.heap.size ∧ b ≠ V ∧ b ≠ BR) (U : World → World → Prop)
  (hC : ∀ w1, Below w.heap.size w w1 → Calls Tryz.prog 88 #[.pointer (some ⟨V, 0, none⟩)] w1 fun e w' => e = .returned (.int .i64 0) ∧ Below w1.heap.size w1 w')
  (hK : ∀ w1, Below w.heap.size w w1 → Calls Tryz.prog 89 #[.pointer (some ⟨V, 0, none⟩)] w1 fun e w' => e = .returned (.int .i64 0) ∧ U w1 w' ∧ Onl (fun k => k = V ∨ k = BR) w1 w') :
  Calls Tryz.prog 50 #[.pointer (some ⟨A, 0, none⟩)] w fun e w' => e = .returned (.tuple #[.iface 133 (.agg #[]), .int .i64 0]) ∧ ∃ wa wb R, Below w.heap.size w wa ∧ U wa wb ∧ w.heap.size ≤ R ∧ (∃ a s c d, wb.heap[R]? = some (.mapIter a s c d)) ∧ Onl (fun k => k = R) wb w' := by
 have PH := Lib.hid (handles_any w A b n T h (by omega))
 have HA := Lib.hid h
 have HT := Lib.hid hT
 have HT4 := Lib.hid hT4
 have HN := Lib.hid hn
 have HC := Lib.hid hC
 have HK := Lib.hid hK
 have HVB := Lib.hid hVB
 clear h hT hn hT4 hC hK hVB
 go_enter Tryz.func50, Tryz.ntmps50
 go_wp2_with fail
 with_reducible refine PH.out.mono ?_
 rintro e w2 ⟨v, ss, rfl, hlen, hin, hi, hb⟩
 have HIN := Lib.hid hin
 have HL := Lib.hid hlen
 have HB2 := Lib.hid hb
 have HA2 := Lib.hid (HA.out.kept hb)
 obtain ⟨ao, cap, rfl, hx⟩ := id hi
 have HI := Lib.hid hi
 clear hin hb hi hx
 rw [hlen] at HI ⊢
 clear hlen
 go_wp2_with fail
 go_loopw [12] (fun i wr => ∃ k : Nat, k ≤ n ∧ i = .int .i64 (k : Int) ∧ Below w2.heap.size w2 wr) (fun i _ => n - (intOf i).toNat)
 case atStart => exact ⟨0, by omega, rfl, Below.refl _ _⟩
 case round =>
  obtain ⟨k, hk, rfl, hbk⟩ := hrel
  have HBK := Lib.hid hbk
  by_cases hlt : k < n
  ·have hkl : k < ss.length := by have := HL.out; omega
   obtain ⟨g, hg, hgl, hc⟩ := (HI.out.kept hbk).cell hkl
   subst hg
   obtain ⟨x, hx⟩ : ∃ x, x = cellD ss k := ⟨_, rfl⟩
   have hxm : x ∈ ss := by rw [hx]; unfold cellD; rw [List.getElem?_eq_getElem hkl]; exact List.getElem_mem _
   rw [← hx] at hc
   obtain ⟨hx1, hx2⟩ := HIN.out x hxm
   have hak := HA2.out.kept hbk
   have hlk := hak.look1 x hx1 hx2 (by have := HN.out; omega)
   have q0 := hak.1.cell 0
   simp at q0
   have i0 : (0 : Int) ≤ (k : Int) := by omega
   have i1 : (k : Int) < (n : Int) := by omega
   have i2 : (k : Int) < 100 := by have := HN.out; omega
   by_cases hx4 : x = 4
   ·subst hx4
    rw [show ((4 : Int).toNat) = 4 from rfl, HT4.out] at hlk
    have hf1 := thField (.pointer none) (.pointer (some ⟨V, 0, none⟩)) wr
    have PC := Lib.hid (HC.out wr (HB2.out.trans (hbk.mono HB2.out.size)))
    simp only [thPtr, Option.map_none, Option.map_some] at hlk
    clear hbk hkl hgl hx hxm hx1 hx2 hak
    go_wp2_with fail
    with_reducible refine PC.out.mono ?_
    rintro e w7 ⟨rfl, hb7⟩
    have HBK7 := Lib.hid (btr HBK.out hb7)
    clear hb7 PC hlk hc q0 hf1
    go_wp2_with fail
    go_roundw
    case rel => exact ⟨k + 1, by omega, by go_num, HBK7.out⟩
    case measure => simp [intOf]; omega
   ·have hT2 := HT.out x.toNat (by omega) (by have := HN.out; omega)
    rw [hT2] at hlk
    obtain ⟨p1, hp1⟩ : ∃ p1, p1 = thPtr (T x.toNat).1 := ⟨_, rfl⟩
    rw [← hp1] at hlk
    have hf1 := thField p1 (.pointer none) wr
    simp only [thPtr, Option.map_none] at hlk
    clear hp1
    clear hbk hkl hgl hx hxm hx1 hx2 hak hT2 hx4
    go_wp2_with fail
    go_roundw
    case rel => exact ⟨k + 1, by omega, by go_num, HBK.out⟩
    case measure => simp [intOf]; omega
  ·obtain rfl : k = n := by omega
   obtain ⟨hA3, D, hown, hsz, hD⟩ := HA2.out.kept hbk
   have HD := Lib.hid hD
   have q0 := hA3.cell 0
   simp at q0
   have hR : w2.heap.size ≤ wr.heap.size := hbk.size
   clear hbk hsz hD hA3 hlt
   go_wp2_with (at_range; refine wpList_range_own _ rfl _ 75 rfl 3 84 keyInt Tryz.underlying75 thElem b k D rfl hown ?_; intro w0 hrg0 hg0 hs0)
   go_frame
   have HB0 : Hid (Below w2.heap.size w2 w0) := Lib.hid (HBK.out.grown hg0 hR (fun q e => by cases e))
   clear hown hg0 hs0 q0 HBK
   generalize wr.heap.size = R at *
   have HR := Lib.hid hR
   clear hR
   have HSS : Hid (TickSt U w2 R (has D) w0) := Lib.hid (.inl ⟨by rw [(HD.out 4 (by unfold In64; omega)).1]; exact decide_eq_true (by have := HN.out; omega), HB0.out⟩)
   go_loopw [37] (fun _ wq => ∃ (left : Lit → Bool) (cnt : Nat), wq.ranges Tryz.prog 3 thElem b R k D left cnt ∧ TickSt U w2 R left wq) (fun _ wq => wq.rangeLeft b R)
   case atStart => exact ⟨_, _, hrg0, HSS.out⟩
   case round =>
    obtain ⟨left, cnt, hrg, hsq⟩ := hrel
    have HSQ := Lib.hid hsq
    clear hrg0 HB0 HSS hsq
    go_wp2_with (at_next; refine wpList_next_ranges _ rfl _ rfl 3 keyInt thElem (Value.int .i64) (fun c : Option Nat × Option Nat => thVal c.1 c.2) keyShape thElem_shape b R k D _ _ rfl hrg ?_ ?_)
    ·intro hc0 hl0
     have HE : Hid (∃ wa wb, Below w2.heap.size w2 wa ∧ U wa wb ∧ (∃ a s c d, wb.heap[R]? = some (.mapIter a s c d)) ∧ Onl (fun k => k = R) wb wr) := Lib.hid (by
      rcases HSQ.out with ⟨h1, -⟩ | ⟨-, h2⟩
      ·rw [hl0] at h1; cases h1
      ·exact h2)
     clear hrg hl0 hc0
     go_wp2_with fail
     go_ret2
     obtain ⟨wa, wb, h1, h2, h3, h4⟩ := HE.out
     exact ⟨rfl, wa, wb, R, HB2.out.trans (h1.mono HB2.out.size), h2, Nat.le_trans HB2.out.size HR.out, h3, h4⟩
    ·intro x c1 c2 kl y1 y2 w3 cnt3 hkey hlk hv hat hrg3 hlt3 hg3 hs3 hen
     obtain ⟨x', ex, rfl, hwf⟩ := Maps.keyOf_int_inv Tryz.underlying3 hkey
     obtain rfl : x = x' := by simpa using ex
     have hin : In64 x := by
      simp [Lit.wf, IntKind.min, IntKind.max, IntKind.signed, IntKind.bits] at hwf
      unfold In64
      omega
     obtain ⟨h1, h2⟩ := HD.out x hin
     rw [has_true_of_atKey hat] at h1
     have h3 := of_decide_eq_true h1.symm
     have h4 := h2 h3
     rw [hat] at h4
     have h5 : y1 = thD c1 c2 := by
      have := (thElem_mk c1 c2).symm.trans hv
      simp only [Option.some.injEq, Prod.mk.injEq] at this
      exact this.1.symm
     rw [h5] at h4
     have h6 := thD_inj h4
     have HRG := Lib.hid hrg3
     have HME : Hid (w3.rangeLeft b R < wr.rangeLeft b R) := Lib.hid (by rw [hrg3.left_eq, hrg.left_eq]; exact hlt3)
     have HSQ3 := Lib.hid (HSQ.out.step hg3 HR.out)
     by_cases hx4 : x = 4
     ·subst hx4
      rw [show ((4 : Int).toNat) = 4 from rfl, HT4.out] at h6
      obtain ⟨e1, e2⟩ := h6
      subst e1 e2
      have HB3 : Hid (Below w2.heap.size w2 w3) := Lib.hid (by
       rcases HSQ3.out with ⟨-, h7⟩ | ⟨h7, -⟩
       ·exact h7
       ·rw [hlk] at h7; cases h7)
      simp only [thVal, thPtr, Option.map_none, Option.map_some] at hen ⊢
      clear hkey hlk hv hat hrg3 hlt3 hg3 hs3 ex hwf hin h1 h2 h3 h4 h5 hrg HSQ HSQ3
      have t1 := (blkRowNew (cs' := #[.pointer none, .pointer (some ⟨V, 0, none⟩)]) (Blk.new w3 84 #[.pointer none, .pointer none])).cell 1
      have hbn := below_setRow ((Below.refl w3.heap.size w3).alloc (Nat.le_refl _) (.cells #[.pointer none, .pointer none] 84)) (Nat.le_refl _) #[.pointer none, .pointer (some ⟨V, 0, none⟩)]
      simp at t1
      have PK := Lib.hid (HK.out _ (HB2.out.trans ((btr HB3.out hbn).mono HB2.out.size)))
      have HBN := Lib.hid hbn
      clear hbn
      go_wp2_with (refine wpList_store_row rfl 84 _ _ rfl w3.heap.size #[.pointer none, .pointer (some ⟨V, 0, none⟩)] rfl rfl 84 #[.pointer none, .pointer none] (Blk.new _ _ _) (by kernel_rfl) rfl (by simp [Value.oneCell']) ?_)
      generalize ((w3.alloc (.cells #[.pointer none, .pointer none] 84)).setRow w3.heap.size #[.pointer none, .pointer (some ⟨V, 0, none⟩)]) = w5 at *
      with_reducible refine PK.out.mono ?_
      rintro e w6 ⟨rfl, hu, ho⟩
      have hrg5 := HRG.out.kept (row := none) (below_gr HBN.out) (by simp) (by simp)
      have hvb := HVB.out
      have hrl := HR.out
      have hws := HB2.out.size
      have hrg6 := ranges_onl hrg5 (ho.2.2.2.2 b hrg5.owns.lt (by rintro (e | e) <;> omega)) (ho.2.2.2.2 R hrg5.lt (by rintro (e | e) <;> omega))
      have HRG6 := Lib.hid hrg6
      have HS6 : Hid (TickSt U w2 R (fun z => left z && !z.sameKey (.int .i64 4)) w6) := Lib.hid (.inr ⟨by simp [Lit.sameKey], w5, w6, btr HB3.out HBN.out, hu, ranges_iter hrg6, Onl.below (Below.refl _ _)⟩)
      clear hu ho hrg5 hrg6 hvb hrl hws PK t1 hen
      go_wp2_with fail
      go_roundw
      case rel => exact ⟨_, cnt3, HRG6.out, HS6.out⟩
      case measure =>
       have h1 := HRG6.out.left_eq
       have h2 := HRG.out.left_eq
       have h3 := HME.out
       omega
     ·have h7 := h6.2
      rw [HT.out x.toNat (by omega) (by have := HN.out; omega)] at h7
      subst h7
      obtain ⟨p1, hp1⟩ : ∃ p1, p1 = thPtr c1 := ⟨_, rfl⟩
      have HP1 : Hid (Value.oneCell' p1 = true) := Lib.hid (by rw [hp1]; unfold thPtr; cases c1 <;> rfl)
      have HSQ4 := Lib.hid (HSQ3.out.other hx4)
      simp only [thVal, ← hp1] at hen ⊢
      simp only [thPtr, Option.map_none] at hen ⊢
      clear hkey hlk hv hat hrg3 hlt3 hg3 hs3 ex hwf hin h1 h2 h3 h4 h5 h6 hrg hp1 HSQ HSQ3
      have t1 := (blkRowNew (cs' := #[p1, .pointer none]) (Blk.new w3 84 #[.pointer none, .pointer none])).cell 1
      have hbn := below_setRow ((Below.refl w3.heap.size w3).alloc (Nat.le_refl _) (.cells #[.pointer none, .pointer none] 84)) (Nat.le_refl _) #[p1, .pointer none]
      simp at t1
      have HBN := Lib.hid hbn
      clear hbn
      go_wp2_with (refine wpList_store_row rfl 84 _ _ rfl w3.heap.size #[p1, .pointer none] rfl rfl 84 #[.pointer none, .pointer none] (Blk.new _ _ _) (by kernel_rfl) rfl (by have h := HP1.out; revert h; cases p1 <;> simp [Value.oneCell']) ?_)
      go_roundw
      case rel => exact ⟨_, cnt3, HRG.out.kept (row := none) (below_gr HBN.out) (by simp) (by simp), HSQ4.out.kept HBN.out⟩
      case measure =>
       have h1 := (HRG.out.kept (row := none) (below_gr HBN.out) (by simp) (by simp)).left_eq
       have h2 := HRG.out.left_eq
       have h3 := HME.out
       omega
end Go.Proofs.YtfeficdndjiijaaGreatDoor


namespace Go.Proofs.YtfeficdndjiijaaGreatDoor
open Go.RowKit
set_option linter.unusedVariables false
set_option linter.unusedSimpArgs false

theorem taExEx (a : Addr) (w : World) : (Instr.typeAssert (.iface 232 (.pointer (some a))) 174 232 true).run Tryz.prog w = .ok (.tuple #[.pointer (some a), .bool true]) w := by kernel_rfl
theorem taExSk (a : Addr) (w : World) : (Instr.typeAssert (.iface 232 (.pointer (some a))) 174 235 true).run Tryz.prog w = .ok (.tuple #[.pointer none, .bool false]) w := by kernel_rfl
theorem taSkSk (a : Addr) (w : World) : (Instr.typeAssert (.iface 235 (.pointer (some a))) 174 235 true).run Tryz.prog w = .ok (.tuple #[.pointer (some a), .bool true]) w := by kernel_rfl
theorem taSkEx (a : Addr) (w : World) : (Instr.typeAssert (.iface 235 (.pointer (some a))) 174 232 true).run Tryz.prog w = .ok (.tuple #[.pointer none, .bool false]) w := by kernel_rfl
theorem taSkMust (a : Addr) (w : World) : (Instr.typeAssert (.iface 235 (.pointer (some a))) 174 235 false).run Tryz.prog w = .ok (.pointer (some a)) w := by kernel_rfl
theorem asSk_sk (a : Addr) (w : World) : Calls Tryz.prog 216 #[.iface 235 (.pointer (some a))] w fun e w' => e = .returned (.tuple #[.pointer (some a), .bool true]) ∧ w = w' := by
  have t0 := taSkSk a
  go_enter Tryz.func216, Tryz.ntmps216
  go_wp2_with fail
  go_ret2
  exact ⟨rfl, rfl⟩
theorem asSk_ex (a : Addr) (w : World) : Calls Tryz.prog 216 #[.iface 232 (.pointer (some a))] w fun e w' => e = .returned (.tuple #[.pointer none, .bool false]) ∧ w = w' := by
  have t0 := taExSk a
  go_enter Tryz.func216, Tryz.ntmps216
  go_wp2_with fail
  go_ret2
  exact ⟨rfl, rfl⟩
theorem mustSk (a : Addr) (w : World) : Calls Tryz.prog 217 #[.iface 235 (.pointer (some a))] w fun e w' => e = .returned (.pointer (some a)) ∧ w = w' := by
  have t0 := taSkMust a
  go_enter Tryz.func217, Tryz.ntmps217
  go_wp2_with fail
  go_ret
  exact ⟨rfl, rfl⟩
theorem sketches_ex (x : Value) (a : Addr) (w : World) : Calls Tryz.prog 183 #[x, .iface 232 (.pointer (some a))] w fun e w' => e = .returned (.tuple #[.pointer none, .pointer none, .bool false]) ∧ w = w' := by
  have P := Lib.hid (asSk_ex a)
  go_enter Tryz.func183, Tryz.ntmps183
  go_wp2_with fail
  with_reducible refine (P.out _).mono ?_
  rintro e w1 ⟨rfl, hw⟩
  subst hw
  go_wp2_with fail
  refine bodyPost_ret (results_tmp3 rfl _ _ _) rfl ?_
  exact ⟨rfl, rfl⟩
theorem sketches_sk (a b : Addr) (w : World) : Calls Tryz.prog 183 #[.iface 235 (.pointer (some a)), .iface 235 (.pointer (some b))] w fun e w' => e = .returned (.tuple #[.pointer (some a), .pointer (some b), .bool true]) ∧ w = w' := by
  have P := Lib.hid asSk_sk
  have PM := Lib.hid mustSk
  go_enter Tryz.func183, Tryz.ntmps183
  go_wp2_with fail
  with_reducible refine (P.out _ _).mono ?_
  rintro e w1 ⟨rfl, hw⟩
  subst hw
  go_wp2_with fail
  with_reducible refine (P.out _ _).mono ?_
  rintro e w1 ⟨rfl, hw⟩
  subst hw
  go_wp2_with fail
  with_reducible refine (PM.out _ _).mono ?_
  rintro e w1 ⟨rfl, hw⟩
  subst hw
  go_wp2_with fail
  refine bodyPost_ret (results_tmp3 rfl _ _ _) rfl ?_
  exact ⟨rfl, rfl⟩
theorem arrays_ex (a b : Addr) (w : World) : Calls Tryz.prog 185 #[.iface 232 (.pointer (some a)), .iface 232 (.pointer (some b))] w fun e w' => e = .returned (.tuple #[.pointer (some a), .pointer (some b), .bool true]) ∧ w = w' := by
  have t0 := taExEx a
  have t1 := taExEx b
  go_enter Tryz.func185, Tryz.ntmps185
  go_wp2_with fail
  refine bodyPost_ret (results_tmp3 rfl _ _ _) rfl ?_
  exact ⟨rfl, rfl⟩
theorem alike_yes (w : World) (S1 S2 : Nat) (b r d m s : Int) (h1 : ∀ wq, Below w.heap.size w wq → Calls Tryz.prog 84 #[.pointer (some ⟨S1, 0, none⟩)] wq fun e w' => e = .returned (.agg #[.int .i64 b, .int .i64 r, .int .i64 d, .int .i64 m, .int .u64 s]) ∧ Below wq.heap.size wq w')
  (h2 : ∀ wq, Below w.heap.size w wq → Calls Tryz.prog 84 #[.pointer (some ⟨S2, 0, none⟩)] wq fun e w' => e = .returned (.agg #[.int .i64 b, .int .i64 r, .int .i64 d, .int .i64 m, .int .u64 s]) ∧ Below wq.heap.size wq w') :
  Calls Tryz.prog 139 #[.pointer (some ⟨S1, 0, none⟩), .pointer (some ⟨S2, 0, none⟩)] w fun e w' => e = .returned (.bool true) ∧ Below w.heap.size w w' := by
 have hgd : Tryz.prog.eqGuardType Tryz.prog.depth 24 = false := by kernel_rfl
 have EQ := eqCfg b r d m s b r d m s
 have hq : cfgEq b r d m s b r d m s = true := by simp [cfgEq]
 rw [hq] at EQ
 have P1 := Lib.hid h1
 have P2 := Lib.hid h2
 clear h1 h2 hq
 go_enter Tryz.func139, Tryz.ntmps139
 go_wp2_with fail
 with_reducible refine (P1.out _ (Below.refl _ _)).mono ?_
 rintro e w1 ⟨rfl, hb1⟩
 have HB1 := Lib.hid hb1
 clear hb1
 go_wp2_with fail
 with_reducible refine (P2.out _ HB1.out).mono ?_
 rintro e w2 ⟨rfl, hb2⟩
 have HB2 := Lib.hid (btr HB1.out hb2)
 clear hb2
 go_wp2_with fail
 go_ret
 exact ⟨rfl, HB2.out⟩
set_option maxRecDepth 100000 in
set_option maxHeartbeats 4000000 in
theorem times_small (a b : Nat) (ha : a ≤ 1000000) (hb : b ≤ 1000000) (w : World) :
  Calls Tryz.prog 222 #[.int .i64 (a : Int), .int .i64 (b : Int)] w fun e w' => e = .returned (.agg #[.int .i64 0, .int .u64 ((a * b : Nat) : Int)]) ∧ Below w.heap.size w w' := by
 have hab : a * b ≤ 1000000 * 1000000 := Nat.mul_le_mul ha hb
 have PM := Lib.hid (fun w => Tryz.bits_Mul64 a b (by omega) (by omega) w)
 have e1 : a * b / 18446744073709551616 = 0 := Nat.div_eq_of_lt (by omega)
 have e2 : a * b % 18446744073709551616 = a * b := Nat.mod_eq_of_lt (by omega)
 rw [e1, e2] at PM
 have u1 : IntKind.u64.wrap (a : Int) = (a : Int) := by rw [wrapU_eq]; omega
 have u2 : IntKind.u64.wrap (b : Int) = (b : Int) := by rw [wrapU_eq]; omega
 have n1 : ¬ ((a : Int) < 0) := by omega
 have n2 : ¬ ((b : Int) < 0) := by omega
 obtain ⟨p, hp⟩ : ∃ p : Int, p = ((a * b : Nat) : Int) := ⟨_, rfl⟩
 rw [← hp] at PM ⊢
 clear hab e1 e2 hp
 go_enter Tryz.func222, Tryz.ntmps222
 go_wp2_with fail
 with_reducible refine (PM.out _).mono ?_
 rintro e w1 ⟨rfl, hw⟩
 subst hw
 go_wp2_with fail
 refine bodyPost_ret (results_cell_row rfl _ _ w.heap.size 143 _ (0, 0) _ rfl (Blk.new w _ _) Tryz.underlying143 rfl (by kernel_rfl)) rfl ?_
 exact ⟨rfl, (Below.refl _ w).alloc (Nat.le_refl _) _⟩
theorem results_row_tmp {P : Program} {fn : Func} {p q : Tmp} {ty : TypeId} (h : fn.results = #[.cell q ty, .tmp p]) (tmps : Array Value) (w : World) (g : Nat) (t : TypeId) (cs : Array Value) (fr : Nat × Nat) (d : TypeDesc)
    (hq : tmps.getD q undef = .pointer (some ⟨g, 0, none⟩)) (hg : w.heap[g]? = some (.cells cs t fr))
    (hu : P.underlying ty = some d) (hd : (match d with | .struct _ | .array _ _ => true | _ => false) = true) (hi : (P.info? ty).map (·.size) = some cs.size) :
    (results fn tmps).run P w = .ok (.tuple #[.agg cs, tmps.getD p undef]) w := by
  have hq' : tmps[q]?.getD undef = .pointer (some ⟨g, 0, none⟩) := by simpa using hq
  simp [results, h, hq', asAddr, run_loadVar_row w g t ty cs fr d hg hu hd hi]
def dotN (zs hs : List Int) : Nat → Nat
  | 0 => 0
  | j + 1 => dotN zs hs j + (cellD zs j).toNat * (cellD hs j).toNat
theorem dotN_le (zs hs : List Int) (hz : ∀ j, (cellD zs j).toNat ≤ 1000000) (hh : ∀ j, (cellD hs j).toNat ≤ 1000000) : ∀ j, dotN zs hs j ≤ j * 1000000000000
  | 0 => Nat.zero_le _
  | j + 1 => by
    have h1 := dotN_le zs hs hz hh j
    have h2 := Nat.mul_le_mul (hz j) (hh j)
    rw [dotN]
    omega
set_option maxRecDepth 100000 in
set_option maxHeartbeats 8000000 in
theorem dot_small (w : World) (C D ca cb n : Nat) (zs hs : List Int) (hn : n ≤ 2000) (hlz : zs.length = n) (hlh : hs.length = n) (hz : ∀ x ∈ zs, 0 ≤ x ∧ x ≤ 1000000) (hh : ∀ x ∈ hs, 0 ≤ x ∧ x ≤ 1000000)
  (hC : ∀ i u, zs[i]? = some u → w.cell? ⟨C, i, none⟩ = some (.int .i64 u)) (hD : ∀ i u, hs[i]? = some u → w.cell? ⟨D, i, none⟩ = some (.int .i64 u)) (lC : C < w.heap.size) (lD : D < w.heap.size) :
  Calls Tryz.prog 188 #[.slice (some ⟨C, 0, none⟩) n ca, .slice (some ⟨D, 0, none⟩) n cb] w fun e w' => e = .returned (.tuple #[.agg #[.int .i64 0, .int .u64 ((dotN zs hs n : Nat) : Int)], .bool true]) ∧ Below w.heap.size w w' := by
 have bd : ∀ (l : List Int), (∀ x ∈ l, 0 ≤ x ∧ x ≤ 1000000) → ∀ j, (cellD l j).toNat ≤ 1000000 := fun l hl j => by
  unfold cellD
  cases hx : l[j]? with
  | none => simp
  | some x => have := hl x (List.mem_of_getElem? hx); simp; omega
 have HDN := Lib.hid (dotN_le zs hs (bd zs hz) (bd hs hh))
 have HC := Lib.hid hC
 have HD := Lib.hid hD
 have HLZ := Lib.hid hlz
 have HLH := Lib.hid hlh
 have HZ := Lib.hid hz
 have HH := Lib.hid hh
 have HL := Lib.hid (And.intro lC lD)
 clear hC hD hlz hlh hz hh lC lD bd
 go_enter Tryz.func188, Tryz.ntmps188
 go_wp2_with fail
 obtain ⟨ga, gb, gc, gd⟩ := news2 w (.cells #[.int .i64 0, .int .u64 0] 143) (.cells #[.int .i64 0, .int .u64 0] 143)
 have HGA : Hid (Blk _ w.heap.size 143 #[.int .i64 0, .int .u64 0]) := Lib.hid ga
 have HGB : Hid (Blk _ (w.heap.size + 1) 143 #[.int .i64 0, .int .u64 0]) := Lib.hid gb
 have HB1 := Lib.hid gc
 clear ga gb gc gd
 generalize ((w.alloc (.cells #[.int .i64 0, .int .u64 0] 143)).alloc (.cells #[.int .i64 0, .int .u64 0] 143)) = w1 at *
 go_loopw [19] (fun i wr => ∃ j : Nat, j ≤ n ∧ i = .int .i64 (j : Int) ∧ Blk wr (w.heap.size + 1) 143 #[.int .i64 0, .int .u64 ((dotN zs hs j : Nat) : Int)] ∧ (∃ cs, Blk wr w.heap.size 143 cs ∧ cs.size = 2) ∧ Below w.heap.size w wr) (fun i _ => n - (intOf i).toNat)
 case atStart => exact ⟨0, by omega, rfl, HGB.out, ⟨_, HGA.out, rfl⟩, HB1.out⟩
 case round =>
  obtain ⟨j, hj, rfl, hbo, hbr, hbel⟩ := hrel
  have HBO := Lib.hid hbo
  have HBR := Lib.hid hbr
  have HBL := Lib.hid hbel
  clear hbo hbr hbel HGA HGB HB1
  by_cases hlt : j < n
  ·obtain ⟨x, hx⟩ : ∃ x, zs[j]? = some x := ⟨_, List.getElem?_eq_getElem (by have := HLZ.out; omega)⟩
   obtain ⟨y, hy⟩ : ∃ y, hs[j]? = some y := ⟨_, List.getElem?_eq_getElem (by have := HLH.out; omega)⟩
   have cx : wr.cell? ⟨C, j, none⟩ = some (.int .i64 x) := by
    rw [World.cell?_of_block (HBL.out.block C HL.out.1)]; exact HC.out j x hx
   have cy : wr.cell? ⟨D, j, none⟩ = some (.int .i64 y) := by
    rw [World.cell?_of_block (HBL.out.block D HL.out.2)]; exact HD.out j y hy
   have htL : (j : Int) < (n : Int) := by omega
   have ht0 : (0 : Int) ≤ (j : Int) := by omega
   have HST : Hid (dotN zs hs (j + 1) = dotN zs hs j + x.toNat * y.toNat) := Lib.hid (by rw [dotN]; simp [cellD, hx, hy])
   have hx2 := HZ.out x (List.mem_of_getElem? hx)
   have hy2 := HH.out y (List.mem_of_getElem? hy)
   clear hx hy
   obtain ⟨a, rfl⟩ : ∃ a : Nat, x = (a : Int) := ⟨x.toNat, by omega⟩
   obtain ⟨b, rfl⟩ : ∃ b : Nat, y = (b : Int) := ⟨y.toNat, by omega⟩
   have hab : a * b ≤ 1000000 * 1000000 := Nat.mul_le_mul (by omega) (by omega)
   have hdn := HDN.out j
   have PT := Lib.hid (fun w => times_small a b (by omega) (by omega) w)
   have PA := Lib.hid (fun w => wadd_any 0 ((dotN zs hs j : Nat) : Int) 0 ((a * b : Nat) : Int) 0 ((dotN zs hs (j + 1) : Nat) : Int) (by omega) (by omega) (by omega) (by omega) (by omega) (by omega) (by omega) (by omega) (by omega) (by rw [HST.out]; simp only [Int.toNat_natCast]; omega) (by omega) (by omega) w)
   generalize ((dotN zs hs j : Nat) : Int) = P at *
   obtain ⟨P', hP'⟩ : ∃ P', P' = ((dotN zs hs (j + 1) : Nat) : Int) := ⟨_, rfl⟩
   rw [← hP'] at PA
   have HP' := Lib.hid hP'
   clear hP'
   generalize ((a * b : Nat) : Int) = AB at *
   clear hab hdn hx2 hy2 HST
   go_wp2_with fail
   refine wp_region_held_drew (S := fun w' => Below wr.heap.size wr w') (by kernel_rfl) (by exact below_drewN (Below.refl _ _) 1) (fun hHeld => ?_)
   refine tkH (i := 0) (v := ?_) rfl (by kernel_rfl) (fun _ _ _ h => h) (Or.inl ⟨by rfl, ?_⟩) (by assumption) ?_
   rotate_left
   ·intro w hSw
    have q1 := HBO.out.kept hSw
    have q2 : w.cell? ⟨D, j, none⟩ = some (.int .i64 (b : Int)) := (World.cell?_of_block (hSw.block D (by have := HL.out.2; have := HBL.out.size; omega))).trans cy
    try (refine (exec_load_row 143 _ rfl _ rfl 143 _ (0, 0) _ q1 Tryz.underlying143 rfl (by kernel_rfl)).trans ?_)
    go_simp
    try with_reducible rfl
   simp only [Act.put, z1, z2, z3, z4, z5, z6]
   refine tkH (i := 1) (v := ?_) rfl (by kernel_rfl) (fun _ _ _ h => h) (Or.inl ⟨by rfl, ?_⟩) (by assumption) ?_
   rotate_left
   ·intro w hSw
    try dsimp only at hSw
    go_simp
    try with_reducible rfl
   simp only [Act.put, z1, z2, z3, z4, z5, z6]
   refine tkH (i := 2) (v := ?_) rfl (by kernel_rfl) (fun _ _ _ h => h) (Or.inl ⟨by rfl, ?_⟩) (by assumption) ?_
   rotate_left
   ·intro w hSw
    try dsimp only at hSw
    go_simp
    try with_reducible rfl
   simp only [Act.put, z1, z2, z3, z4, z5, z6]
   refine tkH (i := 3) (v := ?_) rfl (by kernel_rfl) (fun _ _ _ h => h) (Or.inl ⟨by rfl, ?_⟩) (by assumption) ?_
   rotate_left
   ·intro w hSw
    try dsimp only at hSw
    go_simp
    try with_reducible rfl
   simp only [Act.put, z1, z2, z3, z4, z5, z6]
   refine tkH (i := 4) (v := ?_) rfl (by kernel_rfl) (fun _ _ _ h => h) (Or.inl ⟨by rfl, ?_⟩) (by assumption) ?_
   rotate_left
   ·intro w hSw
    try dsimp only at hSw
    go_simp
    try with_reducible rfl
   simp only [Act.put, z1, z2, z3, z4, z5, z6]
   refine tkH (i := 5) (v := ?_) rfl (by kernel_rfl) (fun _ _ _ h => h) (Or.inl ⟨by rfl, ?_⟩) (by assumption) ?_
   rotate_left
   ·intro w hSw
    have q1 := HBO.out.kept hSw
    have q2 : w.cell? ⟨D, j, none⟩ = some (.int .i64 (b : Int)) := (World.cell?_of_block (hSw.block D (by have := HL.out.2; have := HBL.out.size; omega))).trans cy
    try (refine (exec_load_row 143 _ rfl _ rfl 143 _ (0, 0) _ q1 Tryz.underlying143 rfl (by kernel_rfl)).trans ?_)
    go_simp
    try with_reducible rfl
   simp only [Act.put, z1, z2, z3, z4, z5, z6]
   refine wpAnyH_ready (rs := [6, 11]) (by kernel_rfl) (by simp) ?_
   refine AllReadyH.cons rfl (fun Kc hKc => ?_) (AllReadyH.cons rfl (fun Kc hKc => ?_) AllReadyH.nil)
   ·go_simp
    go_wp2_with (first | ((with_reducible refine (PT.out _).mono ?_); rintro e wq ⟨rfl, hb'⟩; try have HAQ := Lib.hid (HAQ.out.kept hb')) | ((with_reducible refine (PA.out _).mono ?_); rintro e wq ⟨rfl, hb'⟩; try have HAQ := Lib.hid (HAQ.out.kept hb')))
    refine hKc.out _ _ ?_ (fun hHeld => ?_)
    ·first | assumption | exact hHeld | exact btr hHeld hb' | exact hHeld.alloc hHeld.size _ | exact below_setRow hHeld hPrev.out _
    clear hKc Kc
    refine wpAnyH_ready (rs := [7, 11]) (by kernel_rfl) (by simp) ?_
    refine AllReadyH.cons rfl (fun Kc hKc => ?_) (AllReadyH.cons rfl (fun Kc hKc => ?_) AllReadyH.nil)
    ·go_simp
     go_wp2_with (first | ((with_reducible refine (PT.out _).mono ?_); rintro e wq ⟨rfl, hb'⟩; try have HAQ := Lib.hid (HAQ.out.kept hb')) | ((with_reducible refine (PA.out _).mono ?_); rintro e wq ⟨rfl, hb'⟩; try have HAQ := Lib.hid (HAQ.out.kept hb')))
     refine hKc.out _ _ ?_ (fun hHeld => ?_)
     ·first | assumption | exact hHeld | exact btr hHeld hb' | exact hHeld.alloc hHeld.size _ | exact below_setRow hHeld hPrev.out _
     clear hKc Kc
     refine tkH (i := 8) (v := ?_) rfl (by kernel_rfl) (fun _ _ _ h => h) (Or.inl ⟨by rfl, ?_⟩) (by assumption) ?_
     rotate_left
     ·intro w hSw
      try dsimp only at hSw
      go_simp
      try with_reducible rfl
     simp only [Act.put, z1, z2, z3, z4, z5, z6]
     refine tkH (i := 9) (v := ?_) rfl (by kernel_rfl) (fun _ _ _ h => h) (Or.inl ⟨by rfl, ?_⟩) (by assumption) ?_
     rotate_left
     ·intro w hSw
      try dsimp only at hSw
      go_simp
      try with_reducible rfl
     simp only [Act.put, z1, z2, z3, z4, z5, z6]
     refine tkH (i := 10) (v := ?_) rfl (by kernel_rfl) (fun _ _ _ h => h) (Or.inl ⟨by rfl, ?_⟩) (by assumption) ?_
     rotate_left
     ·intro w hSw
      try dsimp only at hSw
      go_simp
      try with_reducible rfl
     simp only [Act.put, z1, z2, z3, z4, z5, z6]
     refine wpAnyH_ready (rs := [11]) (by kernel_rfl) (by simp) ?_
     refine AllReadyH.cons rfl (fun Kc hKc => ?_) AllReadyH.nil
     go_simp
     have hPrev := Lib.hid hHeld.size
     refine hKc.out _ _ ?_ (fun hHeld => ?_)
     ·first | assumption | exact hHeld | exact btr hHeld hb' | exact hHeld.alloc hHeld.size _ | exact below_setRow hHeld hPrev.out _
     clear hKc Kc
     first | have HAQ := Lib.hid (freshOf hHeld) | have HAQ := Lib.hid (freshDrew hHeld)
     refine wpAnyH_ready (rs := [12]) (by kernel_rfl) (by simp) ?_
     refine AllReadyH.cons rfl (fun Kc hKc => ?_) AllReadyH.nil
     have HAR := Lib.hid (blkRowNew (cs' := #[.int .i64 0, .int .u64 P']) HAQ.out); refine wp_store_row 143 _ _ rfl _ #[.int .i64 0, .int .u64 P'] rfl (by rfl) 143 _ HAQ.out (by kernel_rfl) rfl (by simp [Value.oneCell']) ?_
     refine hKc.out _ _ ?_ (fun hHeld => ?_)
     ·first | assumption | exact hHeld | exact btr hHeld hb' | exact hHeld.alloc hHeld.size _ | exact below_setRow hHeld hPrev.out _
     clear hKc Kc
     refine tkH (i := 13) (v := ?_) rfl (by kernel_rfl) (fun _ _ _ h => h) (Or.inl ⟨by rfl, ?_⟩) (by assumption) ?_
     rotate_left
     ·intro w hSw
      try dsimp only at hSw
      go_simp
      try with_reducible rfl
     simp only [Act.put, z1, z2, z3, z4, z5, z6]
     refine wpAnyH_done (by kernel_rfl) ?_ _
     have HBZ := Lib.hid (btr HBL.out hHeld)
     have hbo := HBO.out.kept hHeld
     obtain ⟨cs0, hbr, hcs⟩ := HBR.out
     have HBR9 : Hid (Blk _ w.heap.size 143 cs0 ∧ cs0.size = 2) := Lib.hid ⟨hbr.kept hHeld, hcs⟩
     have har := HAR.out
     have HBO9 := Lib.hid hbo
     clear hHeld hbr hcs
     go_wp2_with (first | refine wpList_load_row rfl 143 _ rfl _ rfl 143 _ (0, 0) _ har Tryz.underlying143 rfl (by kernel_rfl) ?_ | refine wpList_store_row rfl 143 _ _ rfl (w.heap.size + 1) #[.int .i64 0, .int .u64 P'] rfl (by rfl) 143 _ hbo (by kernel_rfl) rfl (by simp [Value.oneCell']) ?_)
     go_roundw
     case rel => exact ⟨j + 1, by omega, by go_num, by rw [← HP'.out]; exact blkRowNew HBO9.out, ⟨cs0, (setRow_other _ _ _ _ (by omega)).trans HBR9.out.1, HBR9.out.2⟩, below_setRow HBZ.out (by omega) _⟩
     case measure => simp [intOf]; omega
    ·go_simp
     have hPrev := Lib.hid hHeld.size
     refine hKc.out _ _ ?_ (fun hHeld => ?_)
     ·first | assumption | exact hHeld | exact btr hHeld hb' | exact hHeld.alloc hHeld.size _ | exact below_setRow hHeld hPrev.out _
     clear hKc Kc
     first | have HAQ := Lib.hid (freshOf hHeld) | have HAQ := Lib.hid (freshDrew hHeld)
     refine wpAnyH_ready (rs := [7]) (by kernel_rfl) (by simp) ?_
     refine AllReadyH.cons rfl (fun Kc hKc => ?_) AllReadyH.nil
     go_simp
     go_wp2_with (first | ((with_reducible refine (PT.out _).mono ?_); rintro e wq ⟨rfl, hb'⟩; try have HAQ := Lib.hid (HAQ.out.kept hb')) | ((with_reducible refine (PA.out _).mono ?_); rintro e wq ⟨rfl, hb'⟩; try have HAQ := Lib.hid (HAQ.out.kept hb')))
     refine hKc.out _ _ ?_ (fun hHeld => ?_)
     ·first | assumption | exact hHeld | exact btr hHeld hb' | exact hHeld.alloc hHeld.size _ | exact below_setRow hHeld hPrev.out _
     clear hKc Kc
     refine tkH (i := 8) (v := ?_) rfl (by kernel_rfl) (fun _ _ _ h => h) (Or.inl ⟨by rfl, ?_⟩) (by assumption) ?_
     rotate_left
     ·intro w hSw
      try dsimp only at hSw
      go_simp
      try with_reducible rfl
     simp only [Act.put, z1, z2, z3, z4, z5, z6]
     refine tkH (i := 9) (v := ?_) rfl (by kernel_rfl) (fun _ _ _ h => h) (Or.inl ⟨by rfl, ?_⟩) (by assumption) ?_
     rotate_left
     ·intro w hSw
      try dsimp only at hSw
      go_simp
      try with_reducible rfl
     simp only [Act.put, z1, z2, z3, z4, z5, z6]
     refine tkH (i := 10) (v := ?_) rfl (by kernel_rfl) (fun _ _ _ h => h) (Or.inl ⟨by rfl, ?_⟩) (by assumption) ?_
     rotate_left
     ·intro w hSw
      try dsimp only at hSw
      go_simp
      try with_reducible rfl
     simp only [Act.put, z1, z2, z3, z4, z5, z6]
     refine wpAnyH_ready (rs := [12]) (by kernel_rfl) (by simp) ?_
     refine AllReadyH.cons rfl (fun Kc hKc => ?_) AllReadyH.nil
     have HAR := Lib.hid (blkRowNew (cs' := #[.int .i64 0, .int .u64 P']) HAQ.out); refine wp_store_row 143 _ _ rfl _ #[.int .i64 0, .int .u64 P'] rfl (by rfl) 143 _ HAQ.out (by kernel_rfl) rfl (by simp [Value.oneCell']) ?_
     refine hKc.out _ _ ?_ (fun hHeld => ?_)
     ·first | assumption | exact hHeld | exact btr hHeld hb' | exact hHeld.alloc hHeld.size _ | exact below_setRow hHeld hPrev.out _
     clear hKc Kc
     refine tkH (i := 13) (v := ?_) rfl (by kernel_rfl) (fun _ _ _ h => h) (Or.inl ⟨by rfl, ?_⟩) (by assumption) ?_
     rotate_left
     ·intro w hSw
      try dsimp only at hSw
      go_simp
      try with_reducible rfl
     simp only [Act.put, z1, z2, z3, z4, z5, z6]
     refine wpAnyH_done (by kernel_rfl) ?_ _
     have HBZ := Lib.hid (btr HBL.out hHeld)
     have hbo := HBO.out.kept hHeld
     obtain ⟨cs0, hbr, hcs⟩ := HBR.out
     have HBR9 : Hid (Blk _ w.heap.size 143 cs0 ∧ cs0.size = 2) := Lib.hid ⟨hbr.kept hHeld, hcs⟩
     have har := HAR.out
     have HBO9 := Lib.hid hbo
     clear hHeld hbr hcs
     go_wp2_with (first | refine wpList_load_row rfl 143 _ rfl _ rfl 143 _ (0, 0) _ har Tryz.underlying143 rfl (by kernel_rfl) ?_ | refine wpList_store_row rfl 143 _ _ rfl (w.heap.size + 1) #[.int .i64 0, .int .u64 P'] rfl (by rfl) 143 _ hbo (by kernel_rfl) rfl (by simp [Value.oneCell']) ?_)
     go_roundw
     case rel => exact ⟨j + 1, by omega, by go_num, by rw [← HP'.out]; exact blkRowNew HBO9.out, ⟨cs0, (setRow_other _ _ _ _ (by omega)).trans HBR9.out.1, HBR9.out.2⟩, below_setRow HBZ.out (by omega) _⟩
     case measure => simp [intOf]; omega
   ·go_simp
    have hPrev := Lib.hid hHeld.size
    refine hKc.out _ _ ?_ (fun hHeld => ?_)
    ·first | assumption | exact hHeld | exact btr hHeld hb' | exact hHeld.alloc hHeld.size _ | exact below_setRow hHeld hPrev.out _
    clear hKc Kc
    first | have HAQ := Lib.hid (freshOf hHeld) | have HAQ := Lib.hid (freshDrew hHeld)
    refine wpAnyH_ready (rs := [6]) (by kernel_rfl) (by simp) ?_
    refine AllReadyH.cons rfl (fun Kc hKc => ?_) AllReadyH.nil
    go_simp
    go_wp2_with (first | ((with_reducible refine (PT.out _).mono ?_); rintro e wq ⟨rfl, hb'⟩; try have HAQ := Lib.hid (HAQ.out.kept hb')) | ((with_reducible refine (PA.out _).mono ?_); rintro e wq ⟨rfl, hb'⟩; try have HAQ := Lib.hid (HAQ.out.kept hb')))
    refine hKc.out _ _ ?_ (fun hHeld => ?_)
    ·first | assumption | exact hHeld | exact btr hHeld hb' | exact hHeld.alloc hHeld.size _ | exact below_setRow hHeld hPrev.out _
    clear hKc Kc
    refine wpAnyH_ready (rs := [7]) (by kernel_rfl) (by simp) ?_
    refine AllReadyH.cons rfl (fun Kc hKc => ?_) AllReadyH.nil
    go_simp
    go_wp2_with (first | ((with_reducible refine (PT.out _).mono ?_); rintro e wq ⟨rfl, hb'⟩; try have HAQ := Lib.hid (HAQ.out.kept hb')) | ((with_reducible refine (PA.out _).mono ?_); rintro e wq ⟨rfl, hb'⟩; try have HAQ := Lib.hid (HAQ.out.kept hb')))
    refine hKc.out _ _ ?_ (fun hHeld => ?_)
    ·first | assumption | exact hHeld | exact btr hHeld hb' | exact hHeld.alloc hHeld.size _ | exact below_setRow hHeld hPrev.out _
    clear hKc Kc
    refine tkH (i := 8) (v := ?_) rfl (by kernel_rfl) (fun _ _ _ h => h) (Or.inl ⟨by rfl, ?_⟩) (by assumption) ?_
    rotate_left
    ·intro w hSw
     try dsimp only at hSw
     go_simp
     try with_reducible rfl
    simp only [Act.put, z1, z2, z3, z4, z5, z6]
    refine tkH (i := 9) (v := ?_) rfl (by kernel_rfl) (fun _ _ _ h => h) (Or.inl ⟨by rfl, ?_⟩) (by assumption) ?_
    rotate_left
    ·intro w hSw
     try dsimp only at hSw
     go_simp
     try with_reducible rfl
    simp only [Act.put, z1, z2, z3, z4, z5, z6]
    refine tkH (i := 10) (v := ?_) rfl (by kernel_rfl) (fun _ _ _ h => h) (Or.inl ⟨by rfl, ?_⟩) (by assumption) ?_
    rotate_left
    ·intro w hSw
     try dsimp only at hSw
     go_simp
     try with_reducible rfl
    simp only [Act.put, z1, z2, z3, z4, z5, z6]
    refine wpAnyH_ready (rs := [12]) (by kernel_rfl) (by simp) ?_
    refine AllReadyH.cons rfl (fun Kc hKc => ?_) AllReadyH.nil
    have HAR := Lib.hid (blkRowNew (cs' := #[.int .i64 0, .int .u64 P']) HAQ.out); refine wp_store_row 143 _ _ rfl _ #[.int .i64 0, .int .u64 P'] rfl (by rfl) 143 _ HAQ.out (by kernel_rfl) rfl (by simp [Value.oneCell']) ?_
    refine hKc.out _ _ ?_ (fun hHeld => ?_)
    ·first | assumption | exact hHeld | exact btr hHeld hb' | exact hHeld.alloc hHeld.size _ | exact below_setRow hHeld hPrev.out _
    clear hKc Kc
    refine tkH (i := 13) (v := ?_) rfl (by kernel_rfl) (fun _ _ _ h => h) (Or.inl ⟨by rfl, ?_⟩) (by assumption) ?_
    rotate_left
    ·intro w hSw
     try dsimp only at hSw
     go_simp
     try with_reducible rfl
    simp only [Act.put, z1, z2, z3, z4, z5, z6]
    refine wpAnyH_done (by kernel_rfl) ?_ _
    have HBZ := Lib.hid (btr HBL.out hHeld)
    have hbo := HBO.out.kept hHeld
    obtain ⟨cs0, hbr, hcs⟩ := HBR.out
    have HBR9 : Hid (Blk _ w.heap.size 143 cs0 ∧ cs0.size = 2) := Lib.hid ⟨hbr.kept hHeld, hcs⟩
    have har := HAR.out
    have HBO9 := Lib.hid hbo
    clear hHeld hbr hcs
    go_wp2_with (first | refine wpList_load_row rfl 143 _ rfl _ rfl 143 _ (0, 0) _ har Tryz.underlying143 rfl (by kernel_rfl) ?_ | refine wpList_store_row rfl 143 _ _ rfl (w.heap.size + 1) #[.int .i64 0, .int .u64 P'] rfl (by rfl) 143 _ hbo (by kernel_rfl) rfl (by simp [Value.oneCell']) ?_)
    go_roundw
    case rel => exact ⟨j + 1, by omega, by go_num, by rw [← HP'.out]; exact blkRowNew HBO9.out, ⟨cs0, (setRow_other _ _ _ _ (by omega)).trans HBR9.out.1, HBR9.out.2⟩, below_setRow HBZ.out (by omega) _⟩
    case measure => simp [intOf]; omega
  ·obtain rfl : j = n := by omega
   obtain ⟨cs0, hbr, hcs⟩ := HBR.out
   have hbo := HBO.out
   have HBS := Lib.hid hbr
   clear hbr
   go_wp2_with (first | refine wpList_load_row rfl 143 _ rfl _ rfl 143 _ (0, 0) _ hbo Tryz.underlying143 rfl (by kernel_rfl) ?_ | refine wpList_store_row rfl 143 _ _ rfl w.heap.size #[.int .i64 0, .int .u64 ((dotN zs hs j : Nat) : Int)] rfl (by rfl) 143 _ HBS.out (by kernel_rfl) (by rw [hcs]; rfl) (by simp [Value.oneCell']) ?_)
   have HF := Lib.hid (blkRowNew (cs' := #[.int .i64 0, .int .u64 ((dotN zs hs j : Nat) : Int)]) HBS.out)
   refine bodyPost_ret (results_row_tmp rfl _ _ w.heap.size 143 _ (0, 0) _ rfl HF.out Tryz.underlying143 rfl (by kernel_rfl)) rfl ?_
   exact ⟨rfl, below_setRow HBL.out (by omega) _⟩
end Go.Proofs.YtfeficdndjiijaaGreatDoor


namespace Go.Proofs.YtfeficdndjiijaaGreatDoor
open Go.RowKit
set_option linter.unusedVariables false
set_option linter.unusedSimpArgs false

def SkCopyPost (w : World) (b r d m s l : Int) (zs : List Int) (e : Ending) (w' : World) : Prop :=
  ∃ A G C, e = .returned (.pointer (some ⟨A, 0, none⟩)) ∧ w.heap.size ≤ A ∧ w.heap.size ≤ G ∧ w.heap.size ≤ C ∧ SkIs w' A G C b r d m s l zs ∧ Below w.heap.size w w'
set_option maxRecDepth 100000 in
set_option maxHeartbeats 4000000 in
theorem skcopy (w : World) (A G C : Nat) (b r d m s l : Int) (zs : List Int) (h : SkIs w A G C b r d m s l zs) :
  Calls Tryz.prog 210 #[.pointer (some ⟨A, 0, none⟩)] w (SkCopyPost w b r d m s l zs) := by
 have P := Lib.hid (copy_any (w.drewN 1) G C r.toNat d.toNat zs (h.grid.drewN 1))
 have HA := Lib.hid h
 clear h
 go_enter Tryz.func210, Tryz.ntmps210
 go_wp2_with fail
 refine wp_region_held_drew (S := fun w' => Blk w' A 288 #[.pointer (some ⟨G, 0, none⟩), .int .i64 b, .int .i64 r, .int .i64 d, .int .i64 m, .int .u64 s, .int .i64 l]) (by kernel_rfl) (by exact HA.out.box.drewN 1) (fun hHeld => ?_)
 refine tkH (i := 0) (v := ?_) rfl (by kernel_rfl) (fun _ _ _ h => h) (Or.inl ⟨by rfl, ?_⟩) (by assumption) ?_
 rotate_left
 ·intro w hSw
  try dsimp only at hSw
  go_simp
  try with_reducible rfl
 simp only [Act.put, z1, z2, z3, z4, z5, z6]
 refine tkH (i := 1) (v := ?_) rfl (by kernel_rfl) (fun _ _ _ h => h) (Or.inl ⟨by rfl, ?_⟩) (by assumption) ?_
 rotate_left
 ·intro w hSw
  try dsimp only at hSw
  go_simp
  try with_reducible rfl
 simp only [Act.put, z1, z2, z3, z4, z5, z6]
 refine tkH (i := 2) (v := ?_) rfl (by kernel_rfl) (fun _ _ _ h => h) (Or.inl ⟨by rfl, ?_⟩) (by assumption) ?_
 rotate_left
 ·intro w hSw
  try dsimp only at hSw
  go_simp
  try with_reducible rfl
 simp only [Act.put, z1, z2, z3, z4, z5, z6]
 refine tkH (i := 3) (v := ?_) rfl (by kernel_rfl) (fun _ _ _ h => h) (Or.inl ⟨by rfl, ?_⟩) (by assumption) ?_
 rotate_left
 ·intro w hSw
  try dsimp only at hSw
  go_simp
  try with_reducible rfl
 simp only [Act.put, z1, z2, z3, z4, z5, z6]
 refine tkH (i := 4) (v := ?_) rfl (by kernel_rfl) (fun _ _ _ h => h) (Or.inl ⟨by rfl, ?_⟩) (by assumption) ?_
 rotate_left
 ·intro w hSw
  have q0 := hSw.cell 0
  have q1 := hSw.cell 1
  have q2 := hSw.cell 2
  have q3 := hSw.cell 3
  have q4 := hSw.cell 4
  have q5 := hSw.cell 5
  have q6 := hSw.cell 6
  simp at q0 q1 q2 q3 q4 q5 q6
  go_simp
  try with_reducible rfl
 simp only [Act.put, z1, z2, z3, z4, z5, z6]
 refine tkH (i := 7) (v := ?_) rfl (by kernel_rfl) (fun _ _ _ h => h) (Or.inl ⟨by rfl, ?_⟩) (by assumption) ?_
 rotate_left
 ·intro w hSw
  try dsimp only at hSw
  go_simp
  try with_reducible rfl
 simp only [Act.put, z1, z2, z3, z4, z5, z6]
 refine tkH (i := 8) (v := ?_) rfl (by kernel_rfl) (fun _ _ _ h => h) (Or.inl ⟨by rfl, ?_⟩) (by assumption) ?_
 rotate_left
 ·intro w hSw
  try dsimp only at hSw
  go_simp
  try with_reducible rfl
 simp only [Act.put, z1, z2, z3, z4, z5, z6]
 refine tkH (i := 9) (v := ?_) rfl (by kernel_rfl) (fun _ _ _ h => h) (Or.inl ⟨by rfl, ?_⟩) (by assumption) ?_
 rotate_left
 ·intro w hSw
  try dsimp only at hSw
  go_simp
  try with_reducible rfl
 simp only [Act.put, z1, z2, z3, z4, z5, z6]
 refine tkH (i := 10) (v := ?_) rfl (by kernel_rfl) (fun _ _ _ h => h) (Or.inl ⟨by rfl, ?_⟩) (by assumption) ?_
 rotate_left
 ·intro w hSw
  have q0 := hSw.cell 0
  have q1 := hSw.cell 1
  have q2 := hSw.cell 2
  have q3 := hSw.cell 3
  have q4 := hSw.cell 4
  have q5 := hSw.cell 5
  have q6 := hSw.cell 6
  simp at q0 q1 q2 q3 q4 q5 q6
  go_simp
  try with_reducible rfl
 simp only [Act.put, z1, z2, z3, z4, z5, z6]
 refine tkH (i := 11) (v := ?_) rfl (by kernel_rfl) (fun _ _ _ h => h) (Or.inl ⟨by rfl, ?_⟩) (by assumption) ?_
 rotate_left
 ·intro w hSw
  try dsimp only at hSw
  go_simp
  try with_reducible rfl
 simp only [Act.put, z1, z2, z3, z4, z5, z6]
 refine tkH (i := 12) (v := ?_) rfl (by kernel_rfl) (fun _ _ _ h => h) (Or.inl ⟨by rfl, ?_⟩) (by assumption) ?_
 rotate_left
 ·intro w hSw
  try dsimp only at hSw
  go_simp
  try with_reducible rfl
 simp only [Act.put, z1, z2, z3, z4, z5, z6]
 refine tkH (i := 13) (v := ?_) rfl (by kernel_rfl) (fun _ _ _ h => h) (Or.inl ⟨by rfl, ?_⟩) (by assumption) ?_
 rotate_left
 ·intro w hSw
  try dsimp only at hSw
  go_simp
  try with_reducible rfl
 simp only [Act.put, z1, z2, z3, z4, z5, z6]
 refine tkH (i := 14) (v := ?_) rfl (by kernel_rfl) (fun _ _ _ h => h) (Or.inl ⟨by rfl, ?_⟩) (by assumption) ?_
 rotate_left
 ·intro w hSw
  have q0 := hSw.cell 0
  have q1 := hSw.cell 1
  have q2 := hSw.cell 2
  have q3 := hSw.cell 3
  have q4 := hSw.cell 4
  have q5 := hSw.cell 5
  have q6 := hSw.cell 6
  simp at q0 q1 q2 q3 q4 q5 q6
  go_simp
  try with_reducible rfl
 simp only [Act.put, z1, z2, z3, z4, z5, z6]
 refine wpAnyH_ready (rs := [5]) (by kernel_rfl) (by simp) ?_
 refine AllReadyH.cons rfl (fun Kc hKc => ?_) AllReadyH.nil
 go_simp
 go_wp2_with ((go_at_call 235; refine P.out.mono ?_; rintro e w4 ⟨G', C', rfl, hG, hC, hg, hb'⟩; have HG4 := Lib.hid hg; have HB4 := Lib.hid hb'; have hGC : Hid (w.heap.size ≤ G' ∧ w.heap.size ≤ C') := ⟨hG, hC⟩; clear hg))
 refine hKc.out _ _ ?_ (fun hHeld => ?_)
 ·first | exact hHeld | exact hHeld.kept hb' | exact hHeld.alloc _
 clear hKc Kc
 refine tkH (i := 6) (v := ?_) rfl (by kernel_rfl) (fun _ _ _ h => h) (Or.inl ⟨by rfl, ?_⟩) (by assumption) ?_
 rotate_left
 ·intro w hSw
  try dsimp only at hSw
  go_simp
  try with_reducible rfl
 simp only [Act.put, z1, z2, z3, z4, z5, z6]
 refine tkH (i := 15) (v := ?_) rfl (by kernel_rfl) (fun _ _ _ h => h) (Or.inl ⟨by rfl, ?_⟩) (by assumption) ?_
 rotate_left
 ·intro w hSw
  try dsimp only at hSw
  go_simp
  try with_reducible rfl
 simp only [Act.put, z1, z2, z3, z4, z5, z6]
 refine wpAnyH_ready (rs := [16]) (by kernel_rfl) (by simp) ?_
 refine AllReadyH.cons rfl (fun Kc hKc => ?_) AllReadyH.nil
 go_simp
 refine hKc.out _ _ ?_ (fun hHeld => ?_)
 ·first | exact hHeld | exact hHeld.kept hb' | exact hHeld.alloc _
 clear hKc Kc
 refine tkH (i := 17) (v := ?_) rfl (by kernel_rfl) (fun _ _ _ h => h) (Or.inl ⟨by rfl, ?_⟩) (by assumption) ?_
 rotate_left
 ·intro w hSw
  try dsimp only at hSw
  go_simp
  try with_reducible rfl
 simp only [Act.put, z1, z2, z3, z4, z5, z6]
 refine wpAnyH_done (by kernel_rfl) ?_ _
 have HNEW := Lib.hid (Blk.new w4 288 #[.pointer (some ⟨G', 0, none⟩), .int .i64 b, .int .i64 r, .int .i64 d, .int .i64 m, .int .u64 s, .int .i64 l])
 have HAL : Hid (Below w4.heap.size w4 (w4.alloc (.cells #[.pointer (some ⟨G', 0, none⟩), .int .i64 b, .int .i64 r, .int .i64 d, .int .i64 m, .int .u64 s, .int .i64 l] 288))) := Lib.hid ((Below.refl _ _).alloc (Nat.le_refl _) _)
 have HG5 := Lib.hid (HG4.out.kept HAL.out)
 have HB5 : Hid (Below w.heap.size w _) := Lib.hid (((below_drewN (Below.refl w.heap.size w) 1).trans HB4.out).trans (HAL.out.mono HB4.out.size))
 clear hHeld
 go_wp2_with fail
 go_ret
 exact ⟨w4.heap.size, G', C', rfl, HB4.out.size, hGC.out.1, hGC.out.2, ⟨HNEW.out, HG5.out⟩, HB5.out⟩
def LvCopyPost (w : World) (b r d m s l : Int) (zs : List Int) (e : Ending) (w' : World) : Prop :=
  ∃ x A G C, e = .returned x ∧ w.heap.size ≤ A ∧ w.heap.size ≤ G ∧ w.heap.size ≤ C ∧ LevIs w' x A G C b r d m s l zs ∧ Below w.heap.size w w'
set_option maxRecDepth 100000 in
set_option maxHeartbeats 4000000 in
theorem lvcopy (w : World) (x : Value) (A G C : Nat) (b r d m s l : Int) (zs : List Int) (h : LevIs w x A G C b r d m s l zs) :
  Calls Tryz.prog 169 #[x] w (LvCopyPost w b r d m s l zs) := by
 rcases h with ⟨hx, rfl, ha⟩ | ⟨hx, rfl, ha⟩
 ·have t0 := taExEx ⟨A, 0, none⟩
  have P := Lib.hid (excopy w A G C b r d m s l _ zs ha)
  have HX := Lib.hid hx
  clear ha hx
  go_enter Tryz.func169, Tryz.ntmps169
  go_wp2_with fail
  with_reducible refine P.out.mono ?_
  rintro e w1 ⟨A', G', C', rfl, h1, h2, h3, h4, hb⟩
  have HP := Lib.hid (And.intro h1 (And.intro h2 (And.intro h3 (And.intro h4 hb))))
  clear h1 h2 h3 h4 hb P
  go_wp2_with fail
  go_ret
  exact ⟨_, A', G', C', rfl, HP.out.1, HP.out.2.1, HP.out.2.2.1, .inl ⟨HX.out, rfl, HP.out.2.2.2.1⟩, HP.out.2.2.2.2⟩
 ·have t0 := taSkEx ⟨A, 0, none⟩
  have t1 := taSkSk ⟨A, 0, none⟩
  have P := Lib.hid (skcopy w A G C b r d m s l zs ha)
  have HX := Lib.hid hx
  clear ha hx
  go_enter Tryz.func169, Tryz.ntmps169
  go_wp2_with fail
  with_reducible refine P.out.mono ?_
  rintro e w1 ⟨A', G', C', rfl, h1, h2, h3, h4, hb⟩
  have HP := Lib.hid (And.intro h1 (And.intro h2 (And.intro h3 (And.intro h4 hb))))
  clear h1 h2 h3 h4 hb P
  go_wp2_with fail
  go_ret
  exact ⟨_, A', G', C', rfl, HP.out.1, HP.out.2.1, HP.out.2.2.1, .inr ⟨HX.out, rfl, HP.out.2.2.2.1⟩, HP.out.2.2.2.2⟩
def StAtPost (w : World) (b r d m s l : Int) (zs : List Int) (e : Ending) (w' : World) : Prop :=
  ∃ x A G C, e = .returned (.tuple #[x, .bool true]) ∧ w.heap.size ≤ A ∧ w.heap.size ≤ G ∧ w.heap.size ≤ C ∧ LevIs w' x A G C b r d m s l zs ∧ Below w.heap.size w w'
set_option maxRecDepth 100000 in
set_option maxHeartbeats 4000000 in
theorem stAt (w : World) (base S L : Nat) (b r d m s : Int) (X : Nat → Value) (A G C : Nat → Nat) (Z : Nat → List Int) (h : StIs w base S L b r d m s X A G C Z) (n : Nat) (hn : n ≤ b.toNat) :
  Calls Tryz.prog 140 #[.pointer (some ⟨S, 0, none⟩), .int .i64 (n : Int)] w (StAtPost w b r d m s (n : Int) (Z n)) := by
 have PL := Lib.hid (stlevel w base S L b r d m s X A G C Z h n hn)
 have PC := Lib.hid (fun w' hb => lvcopy w' (X n) (A n) (G n) (C n) b r d m s n (Z n) ((h.kept hb).lev n hn))
 obtain ⟨t, hx⟩ := (h.lev n hn).open_
 clear h
 rw [hx] at PL PC
 go_enter Tryz.func140, Tryz.ntmps140
 go_wp2_with fail
 with_reducible refine PL.out.mono ?_
 rintro e w1 ⟨rfl, hw⟩
 subst hw
 have PC := Lib.hid (PC.out _ (Below.refl _ _))
 go_wp2_with fail
 with_reducible refine PC.out.mono ?_
 rintro e w2 ⟨x, A', G', C', rfl, h1, h2, h3, h4, hb⟩
 obtain ⟨t', hx'⟩ := h4.open_
 subst hx'
 have HP := Lib.hid (And.intro h1 (And.intro h2 (And.intro h3 (And.intro h4 hb))))
 clear h1 h2 h3 h4 hb PL
 go_wp2_with fail
 go_ret2
 exact ⟨_, A', G', C', rfl, HP.out.1, HP.out.2.1, HP.out.2.2.1, HP.out.2.2.2.1, HP.out.2.2.2.2⟩
set_option maxRecDepth 100000 in
set_option maxHeartbeats 4000000 in
theorem lvinner (w : World) (x y : Value) (A G C B H D : Nat) (b r d s l : Int) (zs hs : List Int) (K : Nat) (hK0 : K = (keysI b r d 1 l).toNat) (hx : LevIs w x A G C b r d 1 s l zs) (hy : LevIs w y B H D b r d 1 s l hs) (he : exactB b r d 1 l = true) (hz : ∀ x ∈ zs, 0 ≤ x ∧ x ≤ 1000000) (hh : ∀ x ∈ hs, 0 ≤ x ∧ x ≤ 1000000) :
  Calls Tryz.prog 141 #[x, y] w fun e w' => e = .returned (.tuple #[.agg #[.int .i64 0, .int .u64 ((dotN zs hs K : Nat) : Int)], .int .i64 0]) ∧ Below w.heap.size w w' := by
 have hx' := hx
 have hy' := hy
 obtain ⟨rfl, ha⟩ : x = .iface 232 (.pointer (some ⟨A, 0, none⟩)) ∧ ArrIs w A G C b r d 1 s l (keysI b r d 1 l).toNat zs := by
  rcases hx' with ⟨-, h1, h2⟩ | ⟨h0, -, -⟩
  ·exact ⟨h1, h2⟩
  ·rw [he] at h0; cases h0
 obtain ⟨rfl, hb⟩ : y = .iface 232 (.pointer (some ⟨B, 0, none⟩)) ∧ ArrIs w B H D b r d 1 s l (keysI b r d 1 l).toNat hs := by
  rcases hy' with ⟨-, h1, h2⟩ | ⟨h0, -, -⟩
  ·exact ⟨h1, h2⟩
  ·rw [he] at h0; cases h0
 clear hx hy hx' hy'
 obtain ⟨P, hP⟩ : ∃ P, P = ((dotN zs hs K : Nat) : Int) := ⟨_, rfl⟩
 rw [← hP]
 have HP := Lib.hid hP
 clear hP
 have hgd : Tryz.prog.eqGuardType Tryz.prog.depth 24 = false := by kernel_rfl
 have EQ := eqCfg b r d 1 s b r d 1 s
 have hq : cfgEq b r d 1 s b r d 1 s = true := by simp [cfgEq]
 rw [hq] at EQ
 have hb1 : Below w.heap.size w (w.alloc (.cells #[.int .i64 0, .int .u64 0] 143)) := (Below.refl _ w).alloc (Nat.le_refl _) _
 have HRS := Lib.hid (Blk.new w 143 #[.int .i64 0, .int .u64 0])
 have HA := Lib.hid (ha.kept hb1)
 have HB := Lib.hid (hb.kept hb1)
 have HB1 := Lib.hid hb1
 have P0 := Lib.hid (fun w => sketches_ex (.iface 232 (.pointer (some ⟨A, 0, none⟩))) ⟨B, 0, none⟩ w)
 have P1 := Lib.hid (fun w => arrays_ex ⟨A, 0, none⟩ ⟨B, 0, none⟩ w)
 have hlz : zs.length = (keysI b r d 1 l).toNat := by rw [ha.2.len, Nat.one_mul]
 have hlh : hs.length = (keysI b r d 1 l).toNat := by rw [hb.2.len, Nat.one_mul]
 have hK : (keysI b r d 1 l).toNat ≤ 1024 := by have h1 := ha.2.width; omega
 rw [← hK0] at hlz hlh hK ha hb HA HB
 clear hK0
 clear ha hb hb1 hq he
 have hfd : ∀ w : World, (Instr.field 24 (.agg #[.int .i64 b, .int .i64 r, .int .i64 d, .int .i64 1, .int .u64 s]) 3).run Tryz.prog w = .ok (.int .i64 1) w := fun _ => by kernel_rfl
 go_enter Tryz.func141, Tryz.ntmps141
 go_wp2_with fail
 generalize (w.alloc (.cells #[.int .i64 0, .int .u64 0] 143)) = w1 at *
 with_reducible refine (P0.out _).mono ?_
 rintro e w2 ⟨rfl, hw⟩
 subst hw
 go_wp2_with fail
 with_reducible refine (P1.out _).mono ?_
 rintro e w2 ⟨rfl, hw⟩
 subst hw
 have PC1 := Lib.hid (exconfig w1 A G C b r d 1 s l K zs HA.out)
 go_wp2_with fail
 with_reducible refine PC1.out.mono ?_
 rintro e w2 ⟨rfl, hb2⟩
 have HA2 := Lib.hid (HA.out.kept hb2)
 have HB2 := Lib.hid (HB.out.kept hb2)
 have HBL2 := Lib.hid (btr HB1.out hb2)
 have HRS2 := Lib.hid (HRS.out.kept hb2)
 have PC2 := Lib.hid (exconfig w2 B H D b r d 1 s l K hs HB2.out)
 clear hb2 HA HB HB1 HRS PC1
 go_wp2_with fail
 with_reducible refine PC2.out.mono ?_
 rintro e w3 ⟨rfl, hb3⟩
 have HA3 := Lib.hid (HA2.out.kept hb3)
 have HB3 := Lib.hid (HB2.out.kept hb3)
 have HBL3 := Lib.hid (btr HBL2.out hb3)
 have HRS3 := Lib.hid ((show Blk w2 w.heap.size 143 #[.int .i64 0, .int .u64 0] from HRS2.out).kept hb3)
 have PL1 := Lib.hid (exlevel w3 A G C b r d 1 s l K zs HA3.out)
 have PL2 := Lib.hid (exlevel w3 B H D b r d 1 s l K hs HB3.out)
 clear hb3 HA2 HB2 HBL2 HRS2 PC2
 go_wp2_with fail
 with_reducible refine PL1.out.mono ?_
 rintro e w4 ⟨rfl, hw⟩
 subst hw
 go_wp2_with fail
 with_reducible refine PL2.out.mono ?_
 rintro e w4 ⟨rfl, hw⟩
 subst hw
 have PC3 := Lib.hid (exconfig w3 A G C b r d 1 s l K zs HA3.out)
 go_wp2_with fail
 with_reducible refine PC3.out.mono ?_
 rintro e w4 ⟨rfl, hb4⟩
 have HA4 := Lib.hid (HA3.out.kept hb4)
 have HB4 := Lib.hid (HB3.out.kept hb4)
 have HBL4 := Lib.hid (btr HBL3.out hb4)
 have HRS4 := Lib.hid (HRS3.out.kept hb4)
 have PX := Lib.hid (excells w4 A G C b r d 1 s l K zs HA4.out)
 clear hb4 HA3 HB3 HBL3 HRS3 PC3 PL1 PL2
 go_wp2_with fail
 with_reducible refine PX.out.mono ?_
 rintro e w5 ⟨v, rfl, hown, hne, hb5⟩
 obtain ⟨gz, cz, rfl, -, -, curz, hbz, hcz⟩ := own_row hown hne
 have HZ5 := Lib.hid (And.intro hbz hcz)
 rw [hlz]
 have HB5 := Lib.hid (HB4.out.kept hb5)
 have HBL5 := Lib.hid (btr HBL4.out hb5)
 have HRS5 := Lib.hid (HRS4.out.kept hb5)
 have PY := Lib.hid (excells w5 B H D b r d 1 s l K hs HB5.out)
 clear hown hne hbz hcz hb5 HA4 HB4 HBL4 HRS4 PX
 go_wp2_with fail
 with_reducible refine PY.out.mono ?_
 rintro e w6 ⟨v, rfl, hown, hne, hb6⟩
 obtain ⟨gh, ch, rfl, -, -, curh, hbh, hch⟩ := own_row hown hne
 have hbz6 := HZ5.out.1.kept hb6
 have HBL6 := Lib.hid (btr HBL5.out hb6)
 have HRS6 := Lib.hid (HRS5.out.kept hb6)
 have PD := dot_small w6 gz gh cz ch K zs hs (by omega) hlz hlh hz hh (fun i u hu => (hbz6.cell i).trans (HZ5.out.2 i u hu)) (fun i u hu => (hbh.cell i).trans (hch i u hu)) hbz6.lt hbh.lt
 rw [hlh]
 rw [← HP.out] at PD
 have PD := Lib.hid PD
 clear hown hne hbh hch hb6 hbz6 HB5 HBL5 HRS5 PY HZ5 hz hh
 go_wp2_with fail
 with_reducible refine PD.out.mono ?_
 rintro e w7 ⟨rfl, hb7⟩
 have HBL7 := Lib.hid (btr HBL6.out hb7)
 have HRS7 := Lib.hid (HRS6.out.kept hb7)
 clear hb7 PD HBL6 HRS6
 go_wp2_with (refine wpList_store_row rfl 143 _ _ rfl w.heap.size #[.int .i64 0, .int .u64 P] rfl (by rfl) 143 _ (HRS7.out.kept ((Below.refl _ _).alloc (Nat.le_refl _) _)) (by kernel_rfl) rfl (by simp [Value.oneCell']) ?_)
 have HF := Lib.hid (blkRowNew (cs' := #[.int .i64 0, .int .u64 P]) (HRS7.out.kept ((Below.refl w7.heap.size w7).alloc (Nat.le_refl _) (.cells #[.int .i64 0, .int .u64 P] 143))))
 refine bodyPost_ret (results_row_tmp rfl _ _ w.heap.size 143 _ (0, 0) _ rfl HF.out Tryz.underlying143 rfl (by kernel_rfl)) rfl ?_
 exact ⟨rfl, below_setRow (HBL7.out.alloc HBL7.out.size _) (Nat.le_refl _) _⟩
end Go.Proofs.YtfeficdndjiijaaGreatDoor


namespace Go.Proofs.YtfeficdndjiijaaGreatDoor
open Go.RowKit
set_option linter.unusedVariables false
set_option linter.unusedSimpArgs false

theorem LevsB.boxed {w : World} {base : Nat} {v : Value} {r d m s : Int} {X : Nat → Value} {A G C : Nat → Nat} {Z : Nat → List Int} {n : Nat} (h : LevsB w base v (n : Int) r d m s X A G C Z (n + 1)) (hr : rightB (n : Int) r d m = true) :
    StIs (w.alloc (.cells #[.int .i64 (n : Int), .int .i64 r, .int .i64 d, .int .i64 m, .int .u64 s, v] 172)) base w.heap.size ((v.ownBlock).getD 0) (n : Int) r d m s X A G C Z := by
  obtain ⟨L, cap, cur, rfl, hcap, hL, hrow, hcur⟩ := h.row (by omega)
  have hb : Below w.heap.size w (w.alloc (.cells #[.int .i64 (n : Int), .int .i64 r, .int .i64 d, .int .i64 m, .int .u64 s, .slice (some ⟨L, 0, none⟩) (n + 1) cap] 172)) := (Below.refl _ w).alloc (Nat.le_refl _) _
  refine ⟨⟨cap, by rw [Int.toNat_natCast]; exact Blk.new w 172 _, by simpa using hcap⟩, hr, ⟨cur, hrow.kept hb, fun k hk => hcur k (by simp at hk; omega)⟩, fun k hk => (h.lev k (by simp at hk; omega)).kept hb, fun k q hk hq e => h.apart k q (by simp at hk; omega) (by simp at hq; omega) e, fun k hk => h.low k (by simp at hk; omega)⟩
def StCopyPost (w : World) (b r d m s : Int) (Z : Nat → List Int) (e : Ending) (w' : World) : Prop :=
  ∃ S L X A G C, e = .returned (.pointer (some ⟨S, 0, none⟩)) ∧ w.heap.size ≤ S ∧ StIs w' w.heap.size S L b r d m s X A G C Z ∧ Below w.heap.size w w'
set_option maxRecDepth 100000 in
set_option maxHeartbeats 4000000 in
theorem stcopy (w : World) (base S L : Nat) (b r d m s : Int) (X : Nat → Value) (A G C : Nat → Nat) (Z : Nat → List Int) (h : StIs w base S L b r d m s X A G C Z) :
  Calls Tryz.prog 128 #[.pointer (some ⟨S, 0, none⟩)] w (StCopyPost w b r d m s Z) := by
 obtain ⟨i0', hi, hz0, hz1, hz2⟩ := info_parts Tryz.infoLv
 have hb59 := right_of h.right
 obtain ⟨n, hn⟩ : ∃ n : Nat, b = (n : Int) := ⟨b.toNat, by omega⟩
 subst hn
 have hn59 : n ≤ 59 := by omega
 have htn : ((n : Int)).toNat = n := Int.toNat_natCast n
 have HH := Lib.hid h
 obtain ⟨cap0, hbox, hcap0⟩ := h.box
 obtain ⟨cur0, hrow0, hcur0⟩ := h.row
 rw [htn] at hbox hcap0 hcur0
 have HR0 := Lib.hid (And.intro hrow0 hcur0)
 have HBX := Lib.hid hbox
 have PN := Lib.hid (fun (j : Nat) (hj : j ≤ n) w' (hb : Below w.heap.size w w') => lvcopy w' (X j) (A j) (G j) (C j) (n : Int) r d m s (j : Int) (Z j) ((h.kept hb).lev j (by rw [htn]; exact hj)))
 have q5 := hbox.cell 5
 simp at q5
 clear hb59 h hrow0 hcur0 hbox hcap0
 go_enter Tryz.func128, Tryz.ntmps128
 go_wp2_with fail
 clear q5
 go_loopw [3, 11] (fun v i wr => ∃ (j : Nat) (X' : Nat → Value) (A' G' C' : Nat → Nat), j ≤ n + 1 ∧ i = .int .i64 (j : Int) ∧ LevsB wr w.heap.size v (n : Int) r d m s X' A' G' C' Z j ∧ Below w.heap.size w wr) (fun _ i _ => n + 1 - (intOf i).toNat)
 case atStart => exact ⟨0, fun _ => .nilIface, fun _ => 0, fun _ => 0, fun _ => 0, by omega, rfl, LevsB.zero _ _ _ _ _ _ _ _ _ _ _ _, Below.refl _ _⟩
 case round =>
  obtain ⟨j, X', A', G', C', hj, rfl, hlv, hbel⟩ := hrel
  have HLV := Lib.hid hlv
  have HBL := Lib.hid hbel
  clear hlv hbel
  by_cases hlt : j < n + 1
  ·have i0 : (0 : Int) ≤ (j : Int) := by omega
   have i1 : (j : Int) < (n : Int) + 1 := by omega
   have i2 : (j : Int) < 100 := by omega
   have PL := Lib.hid (PN.out j (by omega) wr HBL.out)
   have hcx := (HR0.out.1.kept HBL.out).cell j
   rw [HR0.out.2 j (by omega)] at hcx
   obtain ⟨tx0, htx⟩ := (HH.out.lev j (by rw [htn]; omega)).open_
   rw [htx] at hcx PL
   clear htx
   go_wp2_with fail
   with_reducible refine PL.out.mono ?_
   rintro e w4 ⟨x, A4, G4, C4, rfl, -, -, hC4, hl4, hb4⟩
   obtain ⟨tx, rfl⟩ := hl4.open_
   have HL4 := Lib.hid hl4
   have HC4 := Lib.hid hC4
   have HLV4 := Lib.hid (HLV.out.kept hb4)
   have HB4 := Lib.hid (btr HBL.out hb4)
   have hs4 := HB4.out.size
   have HLN : Hid (((List.range j).map X').length = j) := Lib.hid (by simp)
   have HCN : Hid (∀ k, k < j → C' k ≠ C4) := Lib.hid (fun k hk => by have := (HLV.out.lev k hk).ltC; omega)
   have hc1 : j + 1 ≤ maxLen := by unfold maxLen; omega
   have hc4 : (j + 1) * 16 ≤ 140737488355328 := by omega
   clear hl4 hC4 hb4 PL hcx
   go_wp2_with (at_builtin; refine wpList_append_own_at _ rfl _ _ 170 rfl w.heap.size 174 i0' .nilIface 1 16 Tryz.underlying170 hi hz0 hz1 hz2 rfl (by decide) _ j _ rfl (World.ownsRow.alloc HLV4.out.own _) ⟨w4.heap.size, 0, none⟩ 1 1 [.iface tx (.pointer (some ⟨A4, 0, none⟩))] rfl rfl (cell_one_new _ _ _) ?c2 hc1 hc4 ?c5 ?_)
   case c2 => simp [Value.oneCell']
   case c5 => simp; omega
   intro v8 w8 hown' hgrow hnil' hq9
   have HAL : Hid (Below w4.heap.size w4 (w4.alloc (.cells #[.iface tx (.pointer (some ⟨A4, 0, none⟩))] 174))) := Lib.hid ((Below.refl _ _).alloc (Nat.le_refl _) _)
   have HLV8 := Lib.hid ((HLV4.out.kept HAL.out).push (HL4.out.kept HAL.out) (Nat.le_trans HBL.out.size HC4.out) HCN.out hgrow hown')
   have HB8 : Hid (Below w.heap.size w w8) := Lib.hid ((HB4.out.alloc HB4.out.size _).grown hgrow (by simp; omega) (fun k e => (HLV4.out.own.lt k e).1))
   have HZ8 : Hid (upN Z j (Z j) = Z) := Lib.hid (by
    funext k
    by_cases e : k = j
    ·subst e; exact upN_same _ _ _
    ·exact upN_other _ _ e)
   rw [HZ8.out] at HLV8
   clear hown' hgrow hnil' hq9 HAL HL4 HZ8
   go_wp2
   go_roundw
   case rel => exact ⟨j + 1, _, _, _, _, by omega, by go_num, HLV8.out, HB8.out⟩
   case measure => simp [intOf]; omega
  ·obtain rfl : j = n + 1 := by omega
   have HST := Lib.hid (HLV.out.boxed HH.out.right)
   obtain ⟨L2, cap, cur, rfl, -⟩ := HLV.out.row (by omega)
   have hxk := HBX.out.kept HBL.out
   have c0 := hxk.cell 0
   have c1 := hxk.cell 1
   have c2 := hxk.cell 2
   have c3 := hxk.cell 3
   have c4 := hxk.cell 4
   simp at c0 c1 c2 c3 c4
   clear HLV hlt hxk
   go_wp2_with fail
   go_ret
   exact ⟨wr.heap.size, _, X', A', G', C', rfl, HBL.out.size, HST.out, HBL.out.alloc HBL.out.size _⟩
end Go.Proofs.YtfeficdndjiijaaGreatDoor

