/-
  The walk of wire.Decode. Conditions: none beyond those stated at each theorem.
-/
import Derived.Test.YtbghchgmoiniiaaWirD
import Derived.Defers
import Derived.Recover
namespace Go.Proofs.Ytbghchgmoiniiaa
open Go.RowKit
set_option linter.unusedVariables false
set_option linter.unusedSimpArgs false

set_option maxRecDepth 100000 in
theorem catch_panic (p q : Addr) (x y : Value) (u : TypeId) (pv : Value) (older : List PanicEntry) (w : World) (hp : w.cell? p = some x) (hq : w.cell? q = some y) (hpz : w.frozen? p = false) (hqz : w.frozen? q = false) (hne : p ≠ q) :
    CallsD Try.prog 20 #[.pointer (some p), .pointer (some q)] (.panicking ({ v := .iface u pv, recovered := false } :: older)) w fun e u' w' =>
      e = .returned (.tuple #[]) ∧ u' = .panicking ({ v := .iface u pv, recovered := true } :: older) ∧ w' = (w.setCell p (.pointer none)).setCell q (.int .i64 8) := by
  refine callsD_of_wpS Try.func20 rfl fun c₀ cs hu => ?_
  apply wpS_seq
  apply wpS_region
  simp [wpOpsS, go_sem, recoverD, hu, Try.ntmps20, Exit.thenS]
  refine wpS_cond (t := true) (by simp [Act.eval, Array.replicate]) ?_
  simp only [if_true]
  apply wpS_region
  have h1 : (w.setCell p (.pointer none)).cell? q = some y := by rw [World.cell?_setCell_other]; exact hq; exact hne
  have h2 : (w.setCell p (.pointer none)).frozen? q = false := by rw [World.frozen?_setCell]; exact hqz
  simp [wpOpsS, go_sem, hp, hpz, h1, h2, bodyPostS, results, Try.results20]
set_option maxRecDepth 100000 in
theorem catch_idle (p q : Addr) (w : World) :
    CallsD Try.prog 20 #[.pointer (some p), .pointer (some q)] .returning w fun e u' w' => e = .returned (.tuple #[]) ∧ u' = .returning ∧ w' = w := by
  refine callsD_of_wpS Try.func20 rfl fun c₀ cs hu => ?_
  apply wpS_seq
  apply wpS_region
  simp [wpOpsS, go_sem, recoverD, hu, Try.ntmps20, Exit.thenS]
  refine wpS_cond (t := false) (by simp [Act.eval, Array.replicate]) ?_
  simp only [Bool.false_eq_true, if_false]
  refine wpS_of_wp (wp_skip ?_)
  cases c₀
  simp_all [bodyPostS, results, Try.results20]
set_option maxRecDepth 100000 in
theorem dec_results (tmps : Array Value) (w : World) (p q : Addr) (x : Option Addr) (y : Int) (h2 : tmps[2]?.getD undef = .pointer (some p)) (h3 : tmps[3]?.getD undef = .pointer (some q)) (hp : w.cell? p = some (.pointer x)) (hq : w.cell? q = some (.int .i64 y)) :
    (results Try.f8 tmps).run Try.prog w = .ok (.tuple #[.pointer x, .int .i64 y]) w := by
  simp [results, Try.results8, go_sem, h2, h3, hp, hq]
def DecRes (w : World) (bs : List Int) (e : Ending) (w' : World) : Prop :=
  ((∃ b r d m s Z S L X A G C, DecS bs b r d m s Z ∧ e = .returned (.tuple #[.pointer (some ⟨S, 0, none⟩), .int .i64 0]) ∧ w.heap.size ≤ S ∧ StIs w' w.heap.size S L b r d m s X A G C Z) ∨ (DecNo bs ∧ e = .returned (.tuple #[.pointer none, .int .i64 (errOf bs)]))) ∧ Below w.heap.size w w'
theorem news1b (w : World) (a b : Obj) : Below w.heap.size w ((w.alloc a).alloc b) := ((Below.refl _ _).alloc (Nat.le_refl _) _).alloc (by simp) _
set_option maxRecDepth 100000 in
set_option maxHeartbeats 8000000 in
theorem dec_few (w : World) (v : Value) (bs : List Int) (hv : BytesAt w v bs) (hl : bs.length < 4) :
    Calls Try.prog 8 #[v] w (DecRes w bs) := by
  have HNO := Lib.hid (dec_short hl)
  have HER : Hid (errOf bs = 8) := Lib.hid (by unfold errOf; rw [if_pos hl])
  obtain ⟨ao, cap, rfl, hcap, hmx, hc⟩ := hv
  obtain ⟨n, hn⟩ : ∃ n, n = bs.length := ⟨_, rfl⟩
  rw [← hn] at hcap hl ⊢
  clear hn hc
  have d1 : decide ((n : Int) < 4) = true := decide_eq_true (by omega)
  have HB := Lib.hid (news1b w (.cells #[.pointer none] 25) (.cells #[.int .i64 0] 26))
  go_enter_defers Try.func8, Try.ntmps8
  go_wp2_with fail
  obtain ⟨g1, g2, -, -⟩ := news2 w (.cells #[.pointer none] 25) (.cells #[.int .i64 8] 26)
  have c0 : World.cell? ((w.alloc (.cells #[.pointer none] 25)).alloc (.cells #[.int .i64 8] 26)) ⟨w.heap.size, 0, none⟩ = some (.pointer none) := (show Blk _ w.heap.size 25 #[.pointer none] from g1).cell 0
  have c1 : World.cell? ((w.alloc (.cells #[.pointer none] 25)).alloc (.cells #[.int .i64 8] 26)) ⟨w.heap.size + 1, 0, none⟩ = some (.int .i64 8) := (show Blk _ (w.heap.size + 1) 26 #[.int .i64 8] from g2).cell 0
  refine ⟨_, dec_results _ _ ⟨w.heap.size, 0, none⟩ ⟨w.heap.size + 1, 0, none⟩ none 8 rfl rfl c0 c1, .inr ⟨HNO.out, by rw [HER.out]⟩, news1b _ _ _⟩
theorem door_ret {w wz : World} {bs : List Int} {t : Array Value} {S E : Nat} {x : Option Addr} {y : Int} (h2 : t[2]?.getD undef = .pointer (some ⟨S, 0, none⟩)) (h3 : t[3]?.getD undef = .pointer (some ⟨E, 0, none⟩)) (hS : Blk wz S 25 #[.pointer x]) (hE : Blk wz E 26 #[.int .i64 y])
    (hR : DecRes w bs (.returned (.tuple #[.pointer x, .int .i64 y])) wz) : bodyPostD Try.prog Try.f8 (DecRes w bs) Exit.ret { tmps := t, defers := [{ target := .fn (.func 20) #[.pointer (some ⟨S, 0, none⟩), .pointer (some ⟨E, 0, none⟩)], args := #[] }] } wz := by
  refine leaves_cons (f := 20) (args := #[.pointer (some ⟨S, 0, none⟩), .pointer (some ⟨E, 0, none⟩)]) (by simp) (by simp [go_sem]) ?_
  refine (catch_idle ⟨S, 0, none⟩ ⟨E, 0, none⟩ wz).mono ?_
  rintro e u' w'' ⟨rfl, rfl, rfl⟩
  exact ⟨_, dec_results t _ _ _ x y h2 h3 (hS.cell 0) (hE.cell 0), hR⟩
theorem door_panic {w wz : World} {bs : List Int} {t : Array Value} {S E : Nat} {x : Option Addr} {y : Int} (h2 : t[2]?.getD undef = .pointer (some ⟨S, 0, none⟩)) (h3 : t[3]?.getD undef = .pointer (some ⟨E, 0, none⟩)) (hS : Blk wz S 25 #[.pointer x]) (hE : Blk wz E 26 #[.int .i64 y]) (hne : S ≠ E)
    (h0 : w.heap.size ≤ S) (h1 : w.heap.size ≤ E) (hb : Below w.heap.size w wz) (hn : DecNo bs) (he : errOf bs = 8) : bodyPostD Try.prog Try.f8 (DecRes w bs) (Exit.panic [{ v := .iface 80 (.agg #[]), recovered := false }]) { tmps := t, defers := [{ target := .fn (.func 20) #[.pointer (some ⟨S, 0, none⟩), .pointer (some ⟨E, 0, none⟩)], args := #[] }] } wz := by
  have hS' : Blk ((wz.setCell ⟨S, 0, none⟩ (.pointer none)).setCell ⟨E, 0, none⟩ (.int .i64 8)) S 25 #[.pointer none] := by
    have := (hS.set_ 0 (.pointer none)).far (p := ⟨E, 0, none⟩) hne (.int .i64 8)
    simpa using this
  have hE' : Blk ((wz.setCell ⟨S, 0, none⟩ (.pointer none)).setCell ⟨E, 0, none⟩ (.int .i64 8)) E 26 #[.int .i64 8] := by
    have := (hE.far (p := ⟨S, 0, none⟩) (Ne.symm hne) (.pointer none)).set_ 0 (.int .i64 8)
    simpa using this
  have hB' := (hb.setCell (p := ⟨S, 0, none⟩) h0 (.pointer none)).setCell (p := ⟨E, 0, none⟩) h1 (.int .i64 8)
  refine leaves_cons (f := 20) (args := #[.pointer (some ⟨S, 0, none⟩), .pointer (some ⟨E, 0, none⟩)]) (by simp) (by simp [go_sem]) ?_
  refine (catch_panic ⟨S, 0, none⟩ ⟨E, 0, none⟩ _ _ _ _ [] wz (hS.cell 0) (hE.cell 0) (hS.frozen 0) (hE.frozen 0) (fun h => hne (by cases h; rfl))).mono ?_
  rintro e u' w'' ⟨rfl, rfl, rfl⟩
  exact ⟨_, dec_results t _ _ _ none 8 h2 h3 (hS'.cell 0) (hE'.cell 0), .inr ⟨hn, by rw [he]⟩, hB'⟩
theorem sign_iff {bs : List Int} {n : Nat} (hn : bs.length = n + 4) : leB (sumI 0 (bs.take n)) 4 = bs.drop n ↔ signB (bs.take (bs.length - 4)) = bs := by
  have e : bs.length - 4 = n := by omega
  rw [e, signB]
  constructor
  · intro h
    rw [h, List.take_append_drop]
  · intro h
    have h2 : bs.take n ++ leB (sumI 0 (bs.take n)) 4 = bs.take n ++ bs.drop n := by rw [h, List.take_append_drop]
    exact List.append_cancel_left h2
theorem leaves_tmps {P : Program} {fn : Func} {t t' : Array Value} {R : Ending → World → Prop} (h : results fn t = results fn t') : ∀ (ds : List Deferred) (u : FrameMode) (w : World), Leaves P fn t R ds u w → Leaves P fn t' R ds u w := by
  intro ds
  induction ds with
  | nil =>
    intro u w hl
    cases u with
    | run => exact hl
    | returning => obtain ⟨v, h1, h2⟩ := hl; exact ⟨v, h ▸ h1, h2⟩
    | panicking chain => exact hl
  | cons d ds ih =>
    intro u w hl
    obtain ⟨h1, fv, cap, f, args, h2, h3, h4⟩ := hl
    refine ⟨h1, fv, cap, f, args, h2, h3, h4.mono ?_⟩
    intro e u' w' he
    cases e with
    | returned v => exact ih _ _ he
    | panicked chain => exact ih _ _ he
    | outgrown => exact he
theorem dec_tmps (t : Array Value) (k : Nat) (v : Value) (h2 : k ≠ 2) (h3 : k ≠ 3) : results Try.f8 (t.setIfInBounds k v) = results Try.f8 t := by
  have e2 : (t.setIfInBounds k v)[2]? = t[2]? := by rw [Array.getElem?_setIfInBounds]; simp [h2]
  have e3 : (t.setIfInBounds k v)[3]? = t[3]? := by rw [Array.getElem?_setIfInBounds]; simp [h3]
  simp [results, Try.results8, e2, e3]
theorem dec_put {R : Ending → World → Prop} {c : List PanicEntry} {a : Act} {k : Nat} {v : Value} {w : World} (hk : k ≠ 2 ∧ k ≠ 3) (h : bodyPostD Try.prog Try.f8 R (Exit.panic c) (a.put (some k) v) w) : bodyPostD Try.prog Try.f8 R (Exit.panic c) a w :=
  leaves_tmps (dec_tmps a.tmps k v hk.1 hk.2) _ _ _ h
theorem BytesAt.upto2 {w : World} {g off n cap : Nat} {bs : List Int} (h : BytesAt w (.slice (some ⟨g, off, none⟩) n cap) bs) (a : Nat) (ha : a ≤ n) : BytesAt w (.slice (some ⟨g, off, none⟩) a cap) (bs.take a) := by
  obtain ⟨ao2, cap2, e, h1, h2, h3⟩ := h
  simp only [Value.slice.injEq] at e
  obtain ⟨rfl, rfl, rfl⟩ := e
  have hl : (bs.take a).length = a := by simp; omega
  refine ⟨_, cap, by rw [hl], by rw [hl]; omega, by omega, ?_⟩
  rcases h3 with ⟨rfl, h3⟩ | ⟨g2, off2, e2, hg, hcc⟩
  · cases h3
  · have e2 := Option.some.inj e2
    cases e2
    refine .inr ⟨g, off, rfl, hg, fun i u hu => ?_⟩
    rw [List.getElem?_take] at hu
    split at hu
    · exact hcc i u hu
    · cases hu
theorem u32_u64 (x : Int) (h0 : 0 ≤ x) (h1 : x ≤ 4294967295) : IntKind.u64.wrap x = x := by rw [wrapU_mod]; omega
theorem takerow_yes (w : World) (v : Value) (bs : List Int) (n : Nat) (hv : BytesAt w v bs) (hb : Byts bs) (hl : bs.length ≤ 100000) (hn : n ≤ 100000) {zs : List Int} {a : Nat} (h : TRow bs n zs a) :
    Calls Try.prog 23 #[v, .int .i64 (n : Int)] w fun e w' => ∃ x, e = .returned (.tuple #[x, .int .i64 (a : Int), .int .i64 0]) ∧ OwnZ w' w.heap.size x zs ∧ Below w.heap.size w w' := by
  refine (takerow_any w v bs n hv hb hl hn).mono ?_
  rintro e w' ⟨⟨ys, c, x, h1, h2, h3⟩ | ⟨h1, h2⟩, h4⟩
  · obtain ⟨rfl, rfl⟩ := h.unique h1
    exact ⟨x, h2, h3, h4⟩
  · exact absurd h (h1 _ _)
theorem takerow_no (w : World) (v : Value) (bs : List Int) (n : Nat) (hv : BytesAt w v bs) (hb : Byts bs) (hl : bs.length ≤ 100000) (hn : n ≤ 100000) (h : TRowNo bs n) :
    Calls Try.prog 23 #[v, .int .i64 (n : Int)] w fun e w' => e = .returned (.tuple #[.slice none 0 0, .int .i64 0, .int .i64 8]) ∧ Below w.heap.size w w' := by
  refine (takerow_any w v bs n hv hb hl hn).mono ?_
  rintro e w' ⟨⟨ys, c, x, h1, h2, h3⟩ | ⟨h1, h2⟩, h4⟩
  · exact absurd h1 (h _ _)
  · exact ⟨h2, h4⟩
theorem StIs.low_ {w : World} {base base' S L : Nat} {b r d m s : Int} {X : Nat → Value} {A G C : Nat → Nat} {Z : Nat → List Int} (h : StIs w base S L b r d m s X A G C Z) (hb : base' ≤ base) : StIs w base' S L b r d m s X A G C Z :=
  ⟨h.box, h.right, h.row, h.lev, h.apart, fun n hn => Nat.le_trans hb (h.low n hn)⟩
theorem StIs.far {w w' : World} {base S L g : Nat} {t : TypeId} {cs : Array Value} {b r d m s : Int} {X : Nat → Value} {A G C : Nat → Nat} {Z : Nat → List Int} (h : StIs w base S L b r d m s X A G C Z) (hb : Blk w g t cs) (ht : 2 ≠ t ∧ 133 ≠ t ∧ 126 ≠ t ∧ 130 ≠ t)
    (ht2 : 74 ≠ t ∧ 76 ≠ t) (hg : w.grownBy w' (some g)) : StIs w' base S L b r d m s X A G C Z := by
  obtain ⟨cap, h1, h2⟩ := h.box
  obtain ⟨cur, h3, h4⟩ := h.row
  exact ⟨⟨cap, h1.grown hg (by simpa using h1.ne_ hb ht2.1), h2⟩, h.right, ⟨cur, h3.grown hg (by simpa using h3.ne_ hb ht2.2), h4⟩, fun n hn => (h.lev n hn).far hb ht hg, h.apart, h.low⟩
theorem RdIs.blk {w : World} {N R : Nat} {bs : List Int} (h : RdIs w N R bs) : ∃ cs, Blk w R 49 cs := by
  obtain ⟨g, off, cap, h1, -⟩ := h
  exact ⟨_, h1⟩
theorem rowsB_up {Z : Nat → List Int} {j : Nat} {cs : List Int} : rowsB (upN Z j cs) (j + 1) = rowsB Z j ++ rowB cs := by
  rw [rowsB, upN_same, rowsB_congr (fun n hn => upN_other Z cs (show n ≠ j by omega))]
theorem Shaped.up {b r d m : Int} {Z : Nat → List Int} {j : Nat} {cs : List Int} (h : Shaped b r d m Z j) (hl : cs.length = cellsN b r d m (j : Int)) (hf : Fit cs) : Shaped b r d m (upN Z j cs) (j + 1) := fun n hn => by
  by_cases e : n = j
  · subst e; rw [upN_same]; exact ⟨hl, hf⟩
  · rw [upN_other _ _ e]; exact h n (by omega)
end Go.Proofs.Ytbghchgmoiniiaa
