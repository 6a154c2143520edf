import Derived.Test.YtbghchgmoiniiaaWirA
import Derived.Test.YtbghchgmoiniiaaGrdT
import Derived.StillTailTactics
import Derived.Test.YtbghchgmoiniiaaStl
/-
  The walks of the document's array: New, Point, Copy, Update. Conditions: none beyond those stated at each theorem.
-/
namespace Go.Proofs.Ytbghchgmoiniiaa
open Go.RowKit
set_option linter.unusedVariables false
set_option linter.unusedSimpArgs false


section
variable {P : Program}
theorem wp_append_own_at {o : Oper} {a : Act} {w : World} {K : Act → World → Prop} {Q : Exit → Act → World → Prop} (s x : Operand) (t : TypeId)
    (ho : o.op = .call { callee := .builtin .append, args := #[s, x], argTypes := #[t, t] })
    (base : Nat) (e : TypeId) (i : TypeInfo) (z : Value) (size bytes : Nat) (ht : P.underlying t = some (.slice e)) (hi : P.info? e = some i) (hz : i.zero = some z)
    (hsize : i.size = size) (hby : i.bytes = bytes) (hzs : z.cells.size = size) (hsz : 0 < size)
    (v : Value) (n : Nat) (xs : List Value) (hs : a.eval s = v) (hown : w.ownsRow base e size v n xs)
    (ad : Addr) (m c : Nat) (news : List Value) (hx : a.eval x = .slice (some ad) m c) (hl : news.length = m * size) (hnews : ∀ j u, news[j]? = some u → w.cell? (ad.add j) = some u) (h1 : ∀ u ∈ news, u.oneCell' = true)
    (h63 : n + m ≤ maxLen) (hbytes : (n + m) * bytes ≤ 140737488355328) (hbase : base ≤ w.heap.size)
    (h : ∀ v' w', w'.ownsRow base e size v' (n + m) (xs ++ news) → w.grownBy w' v.ownBlock → (v' = .slice none 0 0 ↔ v = .slice none 0 0 ∧ m = 0) → (v'.ownBlock = v.ownBlock ∨ v'.ownBlock = some w.heap.size) → K (a.put o.dst v') w') :
    o.wp P a w K Q := by
  obtain ⟨v', w', hr, h2, h3, h4, h5⟩ := run_append_own_at (P := P) w base t o.type e i z size bytes ht hi hz hsize hby hzs hsz v n xs hown ad m c news hl hnews h1 h63 hbytes hbase
  unfold Oper.wp execOp
  simp only [ho, resolve, invoke, builtin, Sem.run_bind, Sem.run_pure, Result.andThen_ok, List.map_toArray, List.map_cons, List.map_nil, hs, hx, hr]
  exact h v' w' h2 h3 h4 h5
/-- 'append([]T{}, s...)' in a region that draws its order -/
theorem wp_append_lit {o : Oper} {w : World} {a : Act} {K : Act → World → Prop} {Q : Exit → Act → World → Prop} (s x : Operand) (t : TypeId)
    (ho : o.op = .call { callee := .builtin .append, args := #[s, x], argTypes := #[t, t] })
    (base : Nat) (e : TypeId) (i : TypeInfo) (z : Value) (bytes : Nat) (ht : P.underlying t = some (.slice e)) (hi : P.info? e = some i) (hz : i.zero = some z)
    (hsize : i.size = 1) (hby : i.bytes = bytes) (hzs : z.cells.size = 1)
    (g cap : Nat) (hs : a.eval s = .slice (some ⟨g, 0, none⟩) 0 cap) (hown : w.ownsRow base e 1 (.slice (some ⟨g, 0, none⟩) 0 cap) 0 [])
    (ao : Option Addr) (m c : Nat) (news : List Value) (hx : a.eval x = .slice ao m c) (hl : news.length = m) (hnews : 0 < m → ∃ ad, ao = some ad ∧ ∀ j u, news[j]? = some u → w.cell? (ad.add j) = some u) (h1 : ∀ u ∈ news, u.oneCell' = true)
    (h63 : m ≤ maxLen) (hbytes : m * bytes ≤ 140737488355328) (hbase : base ≤ w.heap.size)
    (h : ∀ v' w', w'.ownsRow base e 1 v' m news → w.grownBy w' (some g) → v' ≠ .slice none 0 0 → (v'.ownBlock = some g ∨ v'.ownBlock = some w.heap.size) → K (a.put o.dst v') w') :
    o.wp P a w K Q := by
  by_cases h0 : 0 < m
  · obtain ⟨ad, rfl, hc⟩ := hnews h0
    refine wp_append_own_at s x t ho base e i z 1 bytes ht hi hz hsize hby hzs (by decide) _ 0 [] hs hown ad m c news hx (by omega) hc h1 (by omega) (by rw [Nat.zero_add]; exact hbytes) hbase ?_
    intro v' w' h2 h3 h4 h5
    refine h v' w' (by simpa using h2) h3 ?_ h5
    intro hv
    have := (h4.1 hv).1
    cases this
  · obtain rfl : m = 0 := by omega
    obtain rfl : news = [] := List.eq_nil_of_length_eq_zero hl
    unfold Oper.wp execOp
    simp only [ho, resolve, invoke, builtin, Sem.run_bind, Sem.run_pure, Result.andThen_ok, List.map_toArray, List.map_cons, List.map_nil, hs, hx, run_append_none w t o.type e i ht hi g cap ao c]
    exact h _ w hown ⟨rfl, rfl, rfl, Nat.le_refl _, fun _ _ _ => rfl⟩ (by simp) (.inl rfl)
end

theorem below_grown {w w' : World} {row : Option Nat} (h : Below w.heap.size w w') : w.grownBy w' row := ⟨h.os, h.tape, h.output, h.size, fun k hk _ => h.block k hk⟩
theorem grown_tr {w w1 w2 : World} {row : Option Nat} (h : w.grownBy w1 row) (k : w1.grownBy w2 row) : w.grownBy w2 row :=
  ⟨k.os.trans h.os, k.tape.trans h.tape, k.output.trans h.output, Nat.le_trans h.size k.size, fun j hj hne => (k.block j (Nat.lt_of_lt_of_le hj h.size) hne).trans (h.block j hj hne)⟩
/-- block R is the document's array, its numbers lie in block L -/
def RArr (w : World) (R L : Nat) (b r d m s l : Int) (zs : List Int) : Prop :=
  ∃ (cap : Nat) (cur : Array Value), zs.length ≤ cap ∧ Blk w R 95 #[.int .i64 b, .int .i64 r, .int .i64 d, .int .i64 m, .int .u64 s, .int .i64 l, .slice (some ⟨L, 0, none⟩) zs.length cap] ∧ Blk w L 2 cur ∧ ∀ (i : Nat) (u : Int), zs[i]? = some u → cur[i]? = some (Value.int .i64 u)
theorem RArr.grown {w w' : World} {R L : Nat} {b r d m s l : Int} {zs : List Int} {row : Option Nat} (h : RArr w R L b r d m s l zs) (hb : w.grownBy w' row) (h1 : some R ≠ row) (h2 : some L ≠ row) : RArr w' R L b r d m s l zs := by
  obtain ⟨cap, cur, h3, h4, h5, h6⟩ := h
  exact ⟨cap, cur, h3, h4.grown hb h1, h5.grown hb h2, h6⟩
theorem RArr.kept {w w' : World} {R L : Nat} {b r d m s l : Int} {zs : List Int} (h : RArr w R L b r d m s l zs) (hb : Below w.heap.size w w') : RArr w' R L b r d m s l zs := by
  obtain ⟨cap, cur, h3, h4, h5, h6⟩ := h
  exact ⟨cap, cur, h3, h4.kept hb, h5.kept hb, h6⟩
theorem RArr.ltR {w : World} {R L : Nat} {b r d m s l : Int} {zs : List Int} (h : RArr w R L b r d m s l zs) : R < w.heap.size := by
  obtain ⟨cap, cur, h3, h4, h5, h6⟩ := h
  exact h4.lt
theorem RArr.ltL {w : World} {R L : Nat} {b r d m s l : Int} {zs : List Int} (h : RArr w R L b r d m s l zs) : L < w.heap.size := by
  obtain ⟨cap, cur, h3, h4, h5, h6⟩ := h
  exact h5.lt
theorem RArr.ne {w : World} {R L : Nat} {b r d m s l : Int} {zs : List Int} (h : RArr w R L b r d m s l zs) : R ≠ L := by
  obtain ⟨cap, cur, h3, h4, h5, h6⟩ := h
  exact h4.ne_ h5 (by decide)
/-- of what was there, at most one block has changed -/
def RxPost (w : World) (b r d m s l : Int) (zs : List Int) (e : Ending) (w' : World) : Prop :=
  ∃ R L, e = .returned (.pointer (some ⟨R, 0, none⟩)) ∧ w.heap.size ≤ R ∧ w.heap.size ≤ L ∧ RArr w' R L b r d m s l zs ∧ Below w.heap.size w w'

set_option maxRecDepth 100000 in
set_option maxHeartbeats 4000000 in
theorem rxnew (b r d m s l : Int) (K : Nat) (hK : K ≤ 128) (w : World) :
    Calls Try.prog 61 #[.agg #[.int .i64 b, .int .i64 r, .int .i64 d, .int .i64 m, .int .u64 s], .int .i64 l, .int .u64 (K : Int)] w (RxPost w b r d m s l (List.replicate K 0)) := by
  obtain ⟨g1, hb1, hsz1⟩ := news1 w (.cells #[.int .i64 b, .int .i64 r, .int .i64 d, .int .i64 m, .int .u64 s] 36)
  have hx1 : Blk _ w.heap.size 36 #[.int .i64 b, .int .i64 r, .int .i64 d, .int .i64 m, .int .u64 s] := g1
  have HB1 := Lib.hid hb1
  have HX1 := Lib.hid hx1
  have HZ1 : Hid (w.heap.size ≤ (w.alloc (.cells #[.int .i64 b, .int .i64 r, .int .i64 d, .int .i64 m, .int .u64 s] 36)).heap.size) := Lib.hid (by simp)
  clear g1 hb1 hsz1 hx1
  have emk : (if (128 : Int) < (K : Int) then (128 : Int) else (K : Int)) = (K : Int) := by split <;> omega
  have hmk := fun W => run_make_row' (P := Try.prog) 51 2 (.int .i64 0) 8 Try.underlying51 Try.info64 rfl .u64 .u64 K (by omega) (by omega) W
  go_enter Try.func61, Try.ntmps61
  go_wp2_with fail
  refine wp_region_held_drew (S := fun w' => Blk w' w.heap.size 36 #[.int .i64 b, .int .i64 r, .int .i64 d, .int .i64 m, .int .u64 s] ∧ Below w.heap.size w w') (by kernel_rfl) (by exact ⟨HX1.out.drewN 1, below_drewN HB1.out 1⟩) (fun hHeld => ?_)
  refine wpAnyH_take (i := 0) (v := ?_) rfl (by kernel_rfl) (by kernel_rfl) (by kernel_rfl) (fun _ _ _ h => h) (Or.inl ⟨by rfl, ?_⟩) (by assumption) ?_
  rotate_left
  · intro w hSw
    refine (exec_load_row 36 _ rfl _ rfl 36 _ (0, 0) _ hSw.1 Try.underlying36 rfl (by kernel_rfl)).trans ?_
    go_simp
    try with_reducible rfl
  simp only [Act.put, List.setIfInBounds_toArray, List.set_cons_zero, List.set_cons_succ, List.getElem_toArray, List.getElem_cons_zero, List.getElem_cons_succ]
  refine wpAnyH_take (i := 1) (v := ?_) rfl (by kernel_rfl) (by kernel_rfl) (by kernel_rfl) (fun _ _ _ h => h) (Or.inl ⟨by rfl, ?_⟩) (by assumption) ?_
  rotate_left
  · intro w hSw
    try dsimp only at hSw
    go_simp
    try with_reducible rfl
  simp only [Act.put, List.setIfInBounds_toArray, List.set_cons_zero, List.set_cons_succ, List.getElem_toArray, List.getElem_cons_zero, List.getElem_cons_succ]
  refine wpAnyH_take (i := 2) (v := ?_) rfl (by kernel_rfl) (by kernel_rfl) (by kernel_rfl) (fun _ _ _ h => h) (Or.inl ⟨by rfl, ?_⟩) (by assumption) ?_
  rotate_left
  · intro w hSw
    try dsimp only at hSw
    go_simp
    try with_reducible rfl
  simp only [Act.put, List.setIfInBounds_toArray, List.set_cons_zero, List.set_cons_succ, List.getElem_toArray, List.getElem_cons_zero, List.getElem_cons_succ]
  refine wpAnyH_take (i := 3) (v := ?_) rfl (by kernel_rfl) (by kernel_rfl) (by kernel_rfl) (fun _ _ _ h => h) (Or.inl ⟨by rfl, ?_⟩) (by assumption) ?_
  rotate_left
  · intro w hSw
    try dsimp only at hSw
    go_simp
    try with_reducible rfl
  simp only [Act.put, List.setIfInBounds_toArray, List.set_cons_zero, List.set_cons_succ, List.getElem_toArray, List.getElem_cons_zero, List.getElem_cons_succ]
  refine wpAnyH_ready (rs := [4]) (by kernel_rfl) (by simp) ?_
  refine AllReadyH.cons rfl (fun Kc hKc => ?_) AllReadyH.nil
  go_simp
  refine hKc.out _ _ ?_ (fun hHeld => ?_)
  · first | exact hHeld | exact ⟨hHeld.1.alloc _, hHeld.2.alloc hHeld.2.size _⟩
  clear hKc Kc
  refine wpAnyH_take (i := 5) (v := ?_) rfl (by kernel_rfl) (by kernel_rfl) (by kernel_rfl) (fun _ _ _ h => h) (Or.inl ⟨by rfl, ?_⟩) (by assumption) ?_
  rotate_left
  · intro w hSw
    try dsimp only at hSw
    go_simp
    try with_reducible rfl
  simp only [Act.put, List.setIfInBounds_toArray, List.set_cons_zero, List.set_cons_succ, List.getElem_toArray, List.getElem_cons_zero, List.getElem_cons_succ]
  refine wpAnyH_ready (rs := [6]) (by kernel_rfl) (by simp) ?_
  refine AllReadyH.cons rfl (fun Kc hKc => ?_) AllReadyH.nil
  go_simp
  refine hKc.out _ _ ?_ (fun hHeld => ?_)
  · first | exact hHeld | exact ⟨hHeld.1.alloc _, hHeld.2.alloc hHeld.2.size _⟩
  clear hKc Kc
  refine wpAnyH_take (i := 7) (v := ?_) rfl (by kernel_rfl) (by kernel_rfl) (by kernel_rfl) (fun _ _ _ h => h) (Or.inl ⟨by rfl, ?_⟩) (by assumption) ?_
  rotate_left
  · intro w hSw
    try dsimp only at hSw
    go_simp
    try with_reducible rfl
  simp only [Act.put, List.setIfInBounds_toArray, List.set_cons_zero, List.set_cons_succ, List.getElem_toArray, List.getElem_cons_zero, List.getElem_cons_succ]
  refine wpAnyH_done (by kernel_rfl) ?_ _
  have HBL : Hid (Blk (((w.alloc (.cells #[.int .i64 b, .int .i64 r, .int .i64 d, .int .i64 m, .int .u64 s] 36)).alloc (.cells (madeCells #[.int .i64 0] K) 2)).alloc (.cells #[.int .i64 b, .int .i64 r, .int .i64 d, .int .i64 m, .int .u64 s, .int .i64 l, .slice (some ⟨w.heap.size + 1, 0, none⟩) K K] 95)).drew (w.heap.size + 1) 2 (madeCells #[.int .i64 0] K)) := Lib.hid (by
    have h1 := (Blk.new (w.alloc (.cells #[.int .i64 b, .int .i64 r, .int .i64 d, .int .i64 m, .int .u64 s] 36)) 2 (madeCells #[.int .i64 0] K)).alloc (.cells #[.int .i64 b, .int .i64 r, .int .i64 d, .int .i64 m, .int .u64 s, .int .i64 l, .slice (some ⟨w.heap.size + 1, 0, none⟩) K K] 95)
    rw [show (w.alloc (.cells #[.int .i64 b, .int .i64 r, .int .i64 d, .int .i64 m, .int .u64 s] 36)).heap.size = w.heap.size + 1 by simp] at h1
    exact h1.drew)
  have HBR : Hid (Blk (((w.alloc (.cells #[.int .i64 b, .int .i64 r, .int .i64 d, .int .i64 m, .int .u64 s] 36)).alloc (.cells (madeCells #[.int .i64 0] K) 2)).alloc (.cells #[.int .i64 b, .int .i64 r, .int .i64 d, .int .i64 m, .int .u64 s, .int .i64 l, .slice (some ⟨w.heap.size + 1, 0, none⟩) K K] 95)).drew (w.heap.size + 1 + 1) 95 #[.int .i64 b, .int .i64 r, .int .i64 d, .int .i64 m, .int .u64 s, .int .i64 l, .slice (some ⟨w.heap.size + 1, 0, none⟩) K K]) := Lib.hid (by
    have h1 := (Blk.new ((w.alloc (.cells #[.int .i64 b, .int .i64 r, .int .i64 d, .int .i64 m, .int .u64 s] 36)).alloc (.cells (madeCells #[.int .i64 0] K) 2)) 95 #[.int .i64 b, .int .i64 r, .int .i64 d, .int .i64 m, .int .u64 s, .int .i64 l, .slice (some ⟨w.heap.size + 1, 0, none⟩) K K])
    rw [show ((w.alloc (.cells #[.int .i64 b, .int .i64 r, .int .i64 d, .int .i64 m, .int .u64 s] 36)).alloc (.cells (madeCells #[.int .i64 0] K) 2)).heap.size = w.heap.size + 1 + 1 by simp] at h1
    exact h1.drew)
  have HMC : Hid (∀ (i : Nat) (u : Int), (List.replicate K (0 : Int))[i]? = some u → (madeCells #[.int .i64 0] K)[i]? = some (Value.int .i64 u)) := Lib.hid (fun i u hi => by
    have hin : i < K := by
      have := (List.getElem?_eq_some_iff.1 hi).1
      simp at this
      omega
    have hu : u = 0 := by
      have := List.mem_of_getElem? hi
      simp at this
      exact this.2
    subst hu
    have h1 := (World.rowIs_made w (.int .i64 0) K 2).cell hin
    rw [(Blk.new w 2 (madeCells #[.int .i64 0] K)).cell i] at h1
    exact h1)
  have HBB := Lib.hid hHeld.2
  clear hHeld
  go_wp2
  go_ret
  exact ⟨w.heap.size + 1 + 1, w.heap.size + 1, rfl, by omega, by omega, ⟨K, _, by simp, by rw [List.length_replicate]; exact HBR.out, HBL.out, HMC.out⟩, HBB.out⟩


end Go.Proofs.Ytbghchgmoiniiaa

/-
  The walks of gaugerref02.Add, of the document's Cells, Meet. Conditions: none beyond those stated at each theorem.
-/
namespace Go.Proofs.Ytbghchgmoiniiaa
open Go.RowKit
set_option linter.unusedVariables false
set_option linter.unusedSimpArgs false

def rowZ (zs : List Int) (W r : Nat) : List Int := (zs.drop (r * W)).take W
theorem rowZ_len {zs : List Int} {R W r : Nat} (h : zs.length = R * W) (hr : r < R) : (rowZ zs W r).length = W := by
  have h1 : (r + 1) * W ≤ R * W := Nat.mul_le_mul_right W hr
  rw [Nat.add_mul] at h1
  simp [rowZ]; omega
theorem rowZ_get {zs : List Int} {W r c : Nat} (hc : c < W) : (rowZ zs W r)[c]? = zs[r * W + c]? := by
  simp [rowZ, List.getElem?_take, hc, List.getElem?_drop]
theorem rowZ_next (zs : List Int) (W r : Nat) : zs.take ((r + 1) * W) = zs.take (r * W) ++ rowZ zs W r := by
  rw [Nat.add_mul, Nat.one_mul, List.take_add]; rfl

theorem RefIs.below {w w' : World} {N G : Nat} {v : Value} {B K : Nat → Nat} {R W : Nat} {zs : List Int} {M : Nat} (h : RefIs w N G v B K R W zs) (hb : Below M w w') (hM : w.heap.size ≤ M) : RefIs w' N G v B K R W zs := h.kept (hb.mono hM)

set_option maxRecDepth 100000 in
set_option maxHeartbeats 4000000 in
theorem rcells_any (w : World) (N G : Nat) (v : Value) (B K : Nat → Nat) (R W : Nat) (zs : List Int) (h : RefIs w N G v B K R W zs) :
    Calls Try.prog 50 #[.pointer (some ⟨G, 0, none⟩)] w fun e w' => ∃ g cap, e = .returned (.slice (some ⟨g, 0, none⟩) zs.length cap) ∧ zs.length ≤ cap ∧ w.heap.size ≤ g ∧ IntsAt w' (.slice (some ⟨g, 0, none⟩) zs.length cap) zs ∧ Below w.heap.size w w' := by
  have H := Lib.hid h
  have hR := h.rows
  have hW := h.width
  have hlen := Lib.hid h.len
  have hsmall : R * W ≤ 8 * 128 := Nat.mul_le_mul hR hW
  obtain ⟨ao, vcap, rfl, hvc, hao⟩ := h.openG
  have HAO := Lib.hid hao
  clear h hao
  obtain ⟨i0, hi, hz0, hz1, hz2⟩ := info_parts Try.info64
  go_enter Try.func50, Try.ntmps50
  go_wp2_with fail
  obtain ⟨g1, hb1, hsz1⟩ := news1 w (.cells #[] 2)
  have hown0 := World.ownsRow_lit (base := w.heap.size) (e := 2) (size := 1) w #[] 0 (by simp) (by unfold maxLen; omega) (by simp)
  generalize hwn : (w.alloc (.cells #[] 2)) = wn at *
  clear hwn g1
  have HO1 := Lib.hid hown0
  have HB1 := Lib.hid hb1
  clear hown0 hb1
  have hsz2 : w.heap.size ≤ wn.heap.size := by omega
  clear hsz1
  go_loopw [3, 4] (fun x i wr => ∃ r : Nat, r ≤ R ∧ i = .int .i64 (r : Int) ∧ x ≠ .slice none 0 0 ∧ wr.ownsRow w.heap.size 2 1 x (r * W) ((zs.take (r * W)).map (Value.int .i64)) ∧ Below w.heap.size w wr ∧ w.heap.size ≤ wr.heap.size) (fun _ i _ => R - (intOf i).toNat)
  case atStart => exact ⟨0, by omega, rfl, by simp, by simpa using HO1.out, HB1.out, hsz2⟩
  case round =>
    obtain ⟨r, hr, rfl, hnil, hown, hbel, hszr⟩ := hrel
    clear HO1 HB1 hsz2
    have HB := Lib.hid hbel
    have HO := Lib.hid hown
    have HNIL := Lib.hid hnil
    have HR := Lib.hid (H.out.kept hbel)
    have c0 := HR.out.box.cell 0
    simp at c0
    clear hbel hown hnil
    by_cases hlt : r < R
    · obtain ⟨L, cur, rfl, _, _, _⟩ := HAO.out (by omega)
      obtain ⟨ao2, vcap2, e2, _, hao2⟩ := HR.out.openG
      simp only [Value.slice.injEq] at e2
      obtain ⟨rfl, _, rfl⟩ := e2
      obtain ⟨L2, cur2, e3, _, hL2, hcur2⟩ := hao2 (by omega)
      simp only [Option.some.injEq, Addr.mk.injEq, and_true] at e3
      subst e3
      have cl := (hL2.cell r).trans (hcur2 r hlt)
      obtain ⟨curB, hCB, hcurB⟩ := HR.out.cells r hlt
      have HCELL : Hid (∀ j u, ((rowZ zs W r).map (Value.int .i64))[j]? = some u → wr.cell? ((⟨B r, 0, none⟩ : Addr).add j) = some u) := Lib.hid (by
        intro j u hu
        have hj : j < W := by
          have := (List.getElem?_eq_some_iff.1 hu).1
          simp [rowZ_len hlen.out hlt] at this
          exact this
        rw [List.getElem?_map, rowZ_get hj] at hu
        cases hz : zs[r * W + j]? with
        | none => rw [hz] at hu; simp at hu
        | some z =>
          rw [hz] at hu
          simp at hu
          subst hu
          have : ((⟨B r, 0, none⟩ : Addr).add j) = ⟨B r, j, none⟩ := by simp [Addr.add]; intro h; omega
          rw [this]
          exact (hCB.cell j).trans (hcurB j z hj hz))
      have hrl : Hid ((rowZ zs W r).length = W) := Lib.hid (rowZ_len hlen.out hlt)
      have HNX : Hid (zs.take ((r + 1) * W) = zs.take (r * W) ++ rowZ zs W r) := Lib.hid (rowZ_next zs W r)
      have hnx : (r + 1) * W = r * W + W := by rw [Nat.add_mul, Nat.one_mul]
      have HNX2 := Lib.hid hnx
      have hlm : (r + 1) * W ≤ R * W := Nat.mul_le_mul_right W hlt
      rw [hnx] at hlm
      have hmx : r * W + W ≤ maxLen := by unfold maxLen; omega
      clear hL2 hcur2 hCB hcurB hao2 hnx
      generalize rowZ zs W r = zr at *
      generalize B r = Br at *
      generalize K r = Kr at *
      have d1 : (0 : Int) ≤ (r : Int) := by omega
      have d2 : (r : Int) < (R : Int) := by omega
      go_wp2_with (at_builtin; refine wpList_append_own_at _ rfl _ _ 51 rfl w.heap.size 2 i0 (.int .i64 0) 1 8 Try.underlying51 hi hz0 hz1 hz2 rfl (by decide) _ (r * W) _ rfl HO.out ⟨Br, 0, none⟩ W Kr (zr.map (Value.int .i64)) rfl ?c1 HCELL.out ?c3 hmx ?c5 hszr ?_)
      case c1 => simp [hrl.out]
      case c3 =>
        intro u hu
        simp at hu
        obtain ⟨z, _, rfl⟩ := hu
        simp [Value.oneCell']
      case c5 => omega
      intro v' w3 hown' hgrow hnil' hq9
      have HNIL' : Hid (v' ≠ .slice none 0 0) := Lib.hid (fun h => HNIL.out (hnil'.1 h).1)
      have HO3 : Hid (w3.ownsRow w.heap.size 2 1 v' ((r + 1) * W) ((zs.take ((r + 1) * W)).map (Value.int .i64))) := Lib.hid (by rw [HNX.out, HNX2.out, List.map_append, List.map_take]; exact hown')
      have hMk := fun k hk => (HO.out.lt k hk).1
      have HB3 : Hid (Below w.heap.size w w3) := Lib.hid (HB.out.grown hgrow hszr (fun k e => hMk k e))
      have hsz3 : w.heap.size ≤ w3.heap.size := by have := hgrow.size; omega
      clear hown' hgrow hnil' hq9 hMk
      go_wp2
      go_roundw
      case rel => exact ⟨r + 1, by omega, by go_num, HNIL'.out, HO3.out, HB3.out, hsz3⟩
      case measure => simp [intOf]; omega
    · obtain rfl : r = R := by omega
      have hrow := HO.out
      rw [← hlen.out, List.take_length] at hrow
      have hi := IntsAt.of_own hrow rfl
      obtain ⟨g, cap, rfl, hg, hc, _⟩ := own_row hrow HNIL.out
      have HI := Lib.hid hi
      clear hi hrow
      go_wp2
      go_ret
      exact ⟨g, cap, rfl, hc, hg, HI.out, HB.out⟩



/-- what lies at a place of the document's grid -/
theorem RefIs.look {w : World} {N G L vcap : Nat} {B K : Nat → Nat} {R W r c : Nat} {zs : List Int} (h : RefIs w N G (.slice (some ⟨L, 0, none⟩) R vcap) B K R W zs) (hr : r < R) (hc : c < W) :
    w.cell? ⟨G, 0, none⟩ = some (.slice (some ⟨L, 0, none⟩) R vcap) ∧ w.cell? ⟨L, r, none⟩ = some (.slice (some ⟨B r, 0, none⟩) W (K r)) ∧ w.cell? ⟨B r, c, none⟩ = some (.int .i64 (cellD zs (r * W + c))) ∧ w.frozen? ⟨B r, c, none⟩ = false := by
  obtain ⟨b1, -, -⟩ := placeBd hr hc h.rows h.width
  obtain ⟨ao, cap, e, _, hao⟩ := h.openG
  simp only [Value.slice.injEq] at e
  obtain ⟨rfl, -, rfl⟩ := e
  obtain ⟨L', cur, e, -, hL, hcur⟩ := hao (by omega)
  simp only [Option.some.injEq, Addr.mk.injEq, and_true] at e
  subst e
  obtain ⟨curB, hB, hcurB⟩ := h.cells r hr
  have hz : zs[r * W + c]? = some (cellD zs (r * W + c)) := by
    have : r * W + c < zs.length := by rw [h.len]; omega
    simp [cellD, this]
  exact ⟨h.box.cell 0, (hL.cell r).trans (hcur r hr), (hB.cell c).trans (hcurB c _ hc hz), hB.frozen c⟩
theorem RefIs.lookR {w : World} {N G L vcap : Nat} {B K : Nat → Nat} {R W r : Nat} {zs : List Int} (h : RefIs w N G (.slice (some ⟨L, 0, none⟩) R vcap) B K R W zs) (hr : r < R) :
    w.cell? ⟨G, 0, none⟩ = some (.slice (some ⟨L, 0, none⟩) R vcap) ∧ w.cell? ⟨L, r, none⟩ = some (.slice (some ⟨B r, 0, none⟩) W (K r)) := by
  obtain ⟨ao, cap, e, _, hao⟩ := h.openG
  simp only [Value.slice.injEq] at e
  obtain ⟨rfl, -, rfl⟩ := e
  obtain ⟨L', cur, e, -, hL, hcur⟩ := hao (by omega)
  simp only [Option.some.injEq, Addr.mk.injEq, and_true] at e
  subst e
  exact ⟨h.box.cell 0, (hL.cell r).trans (hcur r hr)⟩
theorem RefIs.openL {w : World} {N G : Nat} {v : Value} {B K : Nat → Nat} {R W : Nat} {zs : List Int} (h : RefIs w N G v B K R W zs) (hR : 0 < R) : ∃ L vcap, v = .slice (some ⟨L, 0, none⟩) R vcap := by
  obtain ⟨ao, cap, e, _, hao⟩ := h.openG
  obtain ⟨L, cur, rfl, -⟩ := hao hR
  exact ⟨L, cap, e⟩

end Go.Proofs.Ytbghchgmoiniiaa

/-
  The document's levels in memory; the walks of gaugerref10.New and gaugerref13.New. Conditions: none beyond those stated at each theorem.
-/
namespace Go.Proofs.Ytbghchgmoiniiaa
open Go.RowKit
set_option linter.unusedVariables false
set_option linter.unusedSimpArgs false

theorem own_frame {w w' : World} {base n : Nat} {e : TypeId} {v : Value} {xs : List Value} (h : w.ownsRow base e 1 v n xs) (hk : ∀ k, v.ownBlock = some k → w'.heap[k]? = w.heap[k]?) : w'.ownsRow base e 1 v n xs := by
  refine ⟨h.1, ?_⟩
  rcases h.2 with h2 | ⟨g, cap, cur, rfl, hb, hg, rest⟩
  · exact .inl h2
  · exact .inr ⟨g, cap, cur, rfl, hb, (hk g rfl).trans hg, rest⟩
theorem RefIs.frame {w w' : World} {N G : Nat} {v : Value} {B K : Nat → Nat} {R W : Nat} {zs : List Int} (h : RefIs w N G v B K R W zs) (hG : w'.heap[G]? = w.heap[G]?) (hv : ∀ k, v.ownBlock = some k → w'.heap[k]? = w.heap[k]?) (hB : ∀ i, i < R → w'.heap[B i]? = w.heap[B i]?) : RefIs w' N G v B K R W zs :=
  ⟨hG.trans h.box, own_frame h.own hv, h.cap, fun r hr => by obtain ⟨cur, hc, hcur⟩ := h.cells r hr; exact ⟨cur, (hB r hr).trans hc, hcur⟩, h.inj, h.lo, h.len, h.rows, h.width⟩
/-- block P is the document's level, all its blocks are F's -/
def RLevIs (w : World) (F : Nat → Prop) (P : Nat) (b r d m s l : Int) (zs : List Int) : Prop :=
  (exactB b r d m l = true ∧ ∃ RA LA, Blk w P 93 #[.pointer (some ⟨RA, 0, none⟩), .pointer none] ∧ RArr w RA LA b r d m s l zs ∧ zs.length = (keysI b r d m l).toNat ∧ F P ∧ F RA ∧ F LA) ∨
  (exactB b r d m l = false ∧ ∃ SA G v B K N, Blk w P 93 #[.pointer none, .pointer (some ⟨SA, 0, none⟩)] ∧ Blk w SA 98 #[.int .i64 b, .int .i64 r, .int .i64 d, .int .i64 m, .int .u64 s, .int .i64 l, .pointer (some ⟨G, 0, none⟩)] ∧
    RefIs w N G v B K r.toNat d.toNat zs ∧ F P ∧ F SA ∧ F G ∧ (∀ k, v.ownBlock = some k → F k) ∧ ∀ i, i < r.toNat → F (B i))
theorem RLevIs.frame {w w' : World} {F : Nat → Prop} {P : Nat} {b r d m s l : Int} {zs : List Int} (h : RLevIs w F P b r d m s l zs) (hk : ∀ k, F k → w'.heap[k]? = w.heap[k]?) : RLevIs w' F P b r d m s l zs := by
  rcases h with ⟨h1, RA, LA, h2, ⟨cap, cur, h3, h4, h5, h6⟩, h7, f1, f2, f3⟩ | ⟨h1, SA, G, v, B, K, N, h2, h3, h4, f1, f2, f3, f4, f5⟩
  · exact .inl ⟨h1, RA, LA, (hk _ f1).trans h2, ⟨cap, cur, h3, (hk _ f2).trans h4, (hk _ f3).trans h5, h6⟩, h7, f1, f2, f3⟩
  · exact .inr ⟨h1, SA, G, v, B, K, N, (hk _ f1).trans h2, (hk _ f2).trans h3, h4.frame (hk _ f3) (fun k e => hk _ (f4 k e)) (fun i hi => hk _ (f5 i hi)), f1, f2, f3, f4, f5⟩
theorem RLevIs.len {w : World} {F : Nat → Prop} {P : Nat} {b r d m s l : Int} {zs : List Int} (h : RLevIs w F P b r d m s l zs) : zs.length = cellsN b r d m l := by
  unfold cellsN
  rcases h with ⟨h1, RA, LA, h2, h3, h7, -⟩ | ⟨h1, SA, G, v, B, K, N, h2, h3, h4, -⟩
  · rw [if_pos h1, h7]
  · rw [h1]; simpa using h4.len
theorem RLevIs.more {w : World} {F F' : Nat → Prop} {P : Nat} {b r d m s l : Int} {zs : List Int} (h : RLevIs w F P b r d m s l zs) (hf : ∀ k, F k → F' k) : RLevIs w F' P b r d m s l zs := by
  rcases h with ⟨h1, RA, LA, h2, h3, h7, f1, f2, f3⟩ | ⟨h1, SA, G, v, B, K, N, h2, h3, h4, f1, f2, f3, f4, f5⟩
  · exact .inl ⟨h1, RA, LA, h2, h3, h7, hf _ f1, hf _ f2, hf _ f3⟩
  · exact .inr ⟨h1, SA, G, v, B, K, N, h2, h3, h4, hf _ f1, hf _ f2, hf _ f3, fun k e => hf _ (f4 k e), fun i hi => hf _ (f5 i hi)⟩
def RSkPost (w : World) (b r d m s l : Int) (e : Ending) (w' : World) : Prop :=
  ∃ SA G v B K, e = .returned (.pointer (some ⟨SA, 0, none⟩)) ∧ w.heap.size ≤ SA ∧ Blk w' SA 98 #[.int .i64 b, .int .i64 r, .int .i64 d, .int .i64 m, .int .u64 s, .int .i64 l, .pointer (some ⟨G, 0, none⟩)] ∧ RefIs w' w.heap.size G v B K r.toNat d.toNat (List.replicate (r.toNat * d.toNat) 0) ∧ Below w.heap.size w w'
theorem RefIs.base {w : World} {N N' G : Nat} {v : Value} {B K : Nat → Nat} {R W : Nat} {zs : List Int} (h : RefIs w N G v B K R W zs) (hn : N' ≤ N) : RefIs w N' G v B K R W zs := by
  refine ⟨h.box, ⟨h.own.1, ?_⟩, h.cap, h.cells, h.inj, ⟨Nat.le_trans hn h.lo.1, fun r hr => Nat.le_trans hn (h.lo.2 r hr)⟩, h.len, h.rows, h.width⟩
  rcases h.own.2 with h2 | ⟨g, cap, cur, e, hb, rest⟩
  · exact .inl h2
  · exact .inr ⟨g, cap, cur, e, Nat.le_trans hn hb, rest⟩
set_option maxRecDepth 100000 in
set_option maxHeartbeats 4000000 in
theorem rsknew (b r d m s l : Int) (hr : rightB b r d m = true) (w : World) :
    Calls Try.prog 62 #[.agg #[.int .i64 b, .int .i64 r, .int .i64 d, .int .i64 m, .int .u64 s], .int .i64 l] w (RSkPost w b r d m s l) := by
  have hR := right_of hr
  have PN := Lib.hid (fun w => rnew_any r d w)
  rw [clampN_of (by omega), clampN_of (by omega)] at PN
  clear hr hR
  obtain ⟨g1, hb1, hsz1⟩ := news1 w (.cells #[.int .i64 b, .int .i64 r, .int .i64 d, .int .i64 m, .int .u64 s] 36)
  have HX1 : Hid (Blk _ w.heap.size 36 #[.int .i64 b, .int .i64 r, .int .i64 d, .int .i64 m, .int .u64 s]) := Lib.hid g1
  have HB1 := Lib.hid hb1
  clear g1 hb1 hsz1
  go_enter Try.func62, Try.ntmps62
  go_wp2_with fail
  refine wp_region_held_drew (S := fun w' => Blk w' w.heap.size 36 #[.int .i64 b, .int .i64 r, .int .i64 d, .int .i64 m, .int .u64 s] ∧ Below w.heap.size w w') (by kernel_rfl) (by exact ⟨HX1.out.drewN 1, below_drewN HB1.out 1⟩) (fun hHeld => ?_)
  refine wpAnyH_take (i := 0) (v := ?_) rfl (by kernel_rfl) (by kernel_rfl) (by kernel_rfl) (fun _ _ _ h => h) (Or.inl ⟨by rfl, ?_⟩) (by assumption) ?_
  rotate_left
  · intro w hSw
    have q0 := hSw.1.cell 0
    have q1 := hSw.1.cell 1
    have q2 := hSw.1.cell 2
    simp at q0 q1 q2
    try refine (exec_load_row 36 _ rfl _ rfl 36 _ (0, 0) _ hSw.1 Try.underlying36 rfl (by kernel_rfl)).trans ?_
    go_simp
    try with_reducible rfl
  simp only [Act.put, List.setIfInBounds_toArray, List.set_cons_zero, List.set_cons_succ, List.getElem_toArray, List.getElem_cons_zero, List.getElem_cons_succ]
  refine wpAnyH_take (i := 1) (v := ?_) rfl (by kernel_rfl) (by kernel_rfl) (by kernel_rfl) (fun _ _ _ h => h) (Or.inl ⟨by rfl, ?_⟩) (by assumption) ?_
  rotate_left
  · intro w hSw
    try dsimp only at hSw
    go_simp
    try with_reducible rfl
  simp only [Act.put, List.setIfInBounds_toArray, List.set_cons_zero, List.set_cons_succ, List.getElem_toArray, List.getElem_cons_zero, List.getElem_cons_succ]
  refine wpAnyH_take (i := 2) (v := ?_) rfl (by kernel_rfl) (by kernel_rfl) (by kernel_rfl) (fun _ _ _ h => h) (Or.inl ⟨by rfl, ?_⟩) (by assumption) ?_
  rotate_left
  · intro w hSw
    try dsimp only at hSw
    go_simp
    try with_reducible rfl
  simp only [Act.put, List.setIfInBounds_toArray, List.set_cons_zero, List.set_cons_succ, List.getElem_toArray, List.getElem_cons_zero, List.getElem_cons_succ]
  refine wpAnyH_take (i := 3) (v := ?_) rfl (by kernel_rfl) (by kernel_rfl) (by kernel_rfl) (fun _ _ _ h => h) (Or.inl ⟨by rfl, ?_⟩) (by assumption) ?_
  rotate_left
  · intro w hSw
    have q0 := hSw.1.cell 0
    have q1 := hSw.1.cell 1
    have q2 := hSw.1.cell 2
    simp at q0 q1 q2
    try refine (exec_load_row 36 _ rfl _ rfl 36 _ (0, 0) _ hSw.1 Try.underlying36 rfl (by kernel_rfl)).trans ?_
    go_simp
    try with_reducible rfl
  simp only [Act.put, List.setIfInBounds_toArray, List.set_cons_zero, List.set_cons_succ, List.getElem_toArray, List.getElem_cons_zero, List.getElem_cons_succ]
  refine wpAnyH_take (i := 4) (v := ?_) rfl (by kernel_rfl) (by kernel_rfl) (by kernel_rfl) (fun _ _ _ h => h) (Or.inl ⟨by rfl, ?_⟩) (by assumption) ?_
  rotate_left
  · intro w hSw
    try dsimp only at hSw
    go_simp
    try with_reducible rfl
  simp only [Act.put, List.setIfInBounds_toArray, List.set_cons_zero, List.set_cons_succ, List.getElem_toArray, List.getElem_cons_zero, List.getElem_cons_succ]
  refine wpAnyH_take (i := 5) (v := ?_) rfl (by kernel_rfl) (by kernel_rfl) (by kernel_rfl) (fun _ _ _ h => h) (Or.inl ⟨by rfl, ?_⟩) (by assumption) ?_
  rotate_left
  · intro w hSw
    have q0 := hSw.1.cell 0
    have q1 := hSw.1.cell 1
    have q2 := hSw.1.cell 2
    simp at q0 q1 q2
    try refine (exec_load_row 36 _ rfl _ rfl 36 _ (0, 0) _ hSw.1 Try.underlying36 rfl (by kernel_rfl)).trans ?_
    go_simp
    try with_reducible rfl
  simp only [Act.put, List.setIfInBounds_toArray, List.set_cons_zero, List.set_cons_succ, List.getElem_toArray, List.getElem_cons_zero, List.getElem_cons_succ]
  refine wpAnyH_ready (rs := [6]) (by kernel_rfl) (by simp) ?_
  refine AllReadyH.cons rfl (fun Kc hKc => ?_) AllReadyH.nil
  go_simp
  go_wp2_with (go_at_call 64; refine (PN.out _).mono ?_; rintro e w4 ⟨G, v, B, K, rfl, hg, hb'⟩; have HG4 := Lib.hid hg; have HB4 := Lib.hid (btr hHeld.2 hb'); have HN4 : Hid (w.heap.size ≤ _) := Lib.hid hHeld.2.size; clear hg)
  refine hKc.out _ _ ?_ (fun hHeld => ?_)
  · first | assumption | exact ⟨hHeld.1.kept hb', btr hHeld.2 hb'⟩ | exact ⟨hHeld.1.alloc _, hHeld.2.alloc hHeld.2.size _⟩
  clear hKc Kc
  refine wpAnyH_take (i := 7) (v := ?_) rfl (by kernel_rfl) (by kernel_rfl) (by kernel_rfl) (fun _ _ _ h => h) (Or.inl ⟨by rfl, ?_⟩) (by assumption) ?_
  rotate_left
  · intro w hSw
    try dsimp only at hSw
    go_simp
    try with_reducible rfl
  simp only [Act.put, List.setIfInBounds_toArray, List.set_cons_zero, List.set_cons_succ, List.getElem_toArray, List.getElem_cons_zero, List.getElem_cons_succ]
  refine wpAnyH_ready (rs := [8]) (by kernel_rfl) (by simp) ?_
  refine AllReadyH.cons rfl (fun Kc hKc => ?_) AllReadyH.nil
  go_simp
  refine hKc.out _ _ ?_ (fun hHeld => ?_)
  · first | assumption | exact ⟨hHeld.1.kept hb', btr hHeld.2 hb'⟩ | exact ⟨hHeld.1.alloc _, hHeld.2.alloc hHeld.2.size _⟩
  clear hKc Kc
  refine wpAnyH_take (i := 9) (v := ?_) rfl (by kernel_rfl) (by kernel_rfl) (by kernel_rfl) (fun _ _ _ h => h) (Or.inl ⟨by rfl, ?_⟩) (by assumption) ?_
  rotate_left
  · intro w hSw
    try dsimp only at hSw
    go_simp
    try with_reducible rfl
  simp only [Act.put, List.setIfInBounds_toArray, List.set_cons_zero, List.set_cons_succ, List.getElem_toArray, List.getElem_cons_zero, List.getElem_cons_succ]
  refine wpAnyH_done (by kernel_rfl) ?_ _
  have HNEW := Lib.hid (Blk.new w4 98 #[.int .i64 b, .int .i64 r, .int .i64 d, .int .i64 m, .int .u64 s, .int .i64 l, .pointer (some ⟨G, 0, none⟩)])
  have HAL : Hid (Below w4.heap.size w4 (w4.alloc (.cells #[.int .i64 b, .int .i64 r, .int .i64 d, .int .i64 m, .int .u64 s, .int .i64 l, .pointer (some ⟨G, 0, none⟩)] 98))) := Lib.hid ((Below.refl _ _).alloc (Nat.le_refl _) _)
  have HG5 := Lib.hid ((HG4.out.kept HAL.out).base HN4.out)
  have HB5 := Lib.hid (btr HB4.out HAL.out)
  clear hHeld
  go_wp2_with fail
  go_ret
  exact ⟨w4.heap.size, G, v, B, K, rfl, HB4.out.size, HNEW.out, HG5.out, HB5.out⟩
/-- the blocks that lie between two places -/
def Btw (a c : Nat) : Nat → Prop := fun k => a ≤ k ∧ k < c
def RLvPost (w : World) (b r d m s l : Int) (e : Ending) (w' : World) : Prop :=
  ∃ P, e = .returned (.pointer (some ⟨P, 0, none⟩)) ∧ RLevIs w' (Btw w.heap.size w'.heap.size) P b r d m s l (List.replicate (cellsN b r d m l) 0) ∧ Below w.heap.size w w'
theorem RefIs.inside {w : World} {N G : Nat} {v : Value} {B K : Nat → Nat} {R W : Nat} {zs : List Int} (h : RefIs w N G v B K R W zs) : Btw N w.heap.size G ∧ (∀ k, v.ownBlock = some k → Btw N w.heap.size k) ∧ ∀ i, i < R → Btw N w.heap.size (B i) :=
  ⟨⟨h.lo.1, h.box.lt⟩, fun k e => h.own.lt k e, fun i hi => ⟨h.lo.2 i hi, by obtain ⟨cur, hc, -⟩ := h.cells i hi; exact (show Blk w (B i) _ _ from hc).lt⟩⟩
set_option maxRecDepth 100000 in
set_option maxHeartbeats 4000000 in
theorem rlnew (b r d m s l : Int) (hr : rightB b r d m = true) (w : World) :
    Calls Try.prog 49 #[.agg #[.int .i64 b, .int .i64 r, .int .i64 d, .int .i64 m, .int .u64 s], .int .i64 l] w (RLvPost w b r d m s l) := by
  have PE := fun w => rexact_any b r d m s l w
  have hR := right_of hr
  obtain ⟨g1, hb1, hsz1⟩ := news1 w (.cells #[.int .i64 b, .int .i64 r, .int .i64 d, .int .i64 m, .int .u64 s] 36)
  have hx1 : Blk _ w.heap.size 36 #[.int .i64 b, .int .i64 r, .int .i64 d, .int .i64 m, .int .u64 s] := g1
  have HB1 := Lib.hid hb1
  have HX1 := Lib.hid hx1
  clear g1 hb1 hsz1
  cases he : exactB b r d m l
  · rw [he] at PE
    have PE := Lib.hid PE
    have PS := Lib.hid (fun w => rsknew b r d m s l hr w)
    have HEX := Lib.hid he
    have HCN : Hid (cellsN b r d m l = r.toNat * d.toNat) := Lib.hid (by unfold cellsN; rw [he]; simp)
    clear he hr hR
    go_enter Try.func49, Try.ntmps49
    go_wp2_with (refine wpList_load_row rfl 36 _ rfl w.heap.size rfl 36 _ (0, 0) _ hx1 Try.underlying36 rfl (by kernel_rfl) ?_)
    with_reducible refine (PE.out _).mono ?_
    rintro e w2 ⟨rfl, hb⟩
    have HB2 := Lib.hid (btr HB1.out hb)
    have HX2 := Lib.hid (HX1.out.kept hb)
    clear hb hx1
    go_wp2_with (refine wpList_load_row rfl 36 _ rfl w.heap.size rfl 36 _ (0, 0) _ HX2.out Try.underlying36 rfl (by kernel_rfl) ?_)
    with_reducible refine (PS.out _).mono ?_
    rintro e w3 ⟨SA, G, v, B, K, rfl, hSA, hsk, hrf, hb⟩
    have HB3 := Lib.hid (btr HB2.out hb)
    have HSK := Lib.hid hsk
    have HRF := Lib.hid (hrf.base HB2.out.size)
    have HSA : Hid (w.heap.size ≤ SA) := Lib.hid (Nat.le_trans HB2.out.size hSA)
    clear hb hsk hrf hSA
    have HNEW := Lib.hid (Blk.new w3 93 #[.pointer none, .pointer (some ⟨SA, 0, none⟩)])
    have HAL : Hid (Below w3.heap.size w3 (w3.alloc (.cells #[.pointer none, .pointer (some ⟨SA, 0, none⟩)] 93))) := Lib.hid ((Below.refl _ _).alloc (Nat.le_refl _) _)
    have HSK4 := Lib.hid (HSK.out.kept HAL.out)
    have HRF4 := Lib.hid (HRF.out.kept HAL.out)
    have HB4 := Lib.hid (btr HB3.out HAL.out)
    have hsz3 := HB3.out.size
    go_wp2
    go_ret
    exact ⟨w3.heap.size, rfl, .inr ⟨HEX.out, SA, G, v, B, K, _, HNEW.out, HSK4.out, by rw [HCN.out]; exact HRF4.out, ⟨hsz3, HNEW.out.lt⟩, ⟨HSA.out, HSK4.out.lt⟩, HRF4.out.inside.1, HRF4.out.inside.2.1, HRF4.out.inside.2.2⟩, HB4.out⟩
  · rw [he] at PE
    have PE := Lib.hid PE
    have hkd := of_decide_eq_true he
    obtain ⟨K, hK⟩ : ∃ K : Nat, keysI b r d m l = (K : Int) := ⟨(keysI b r d m l).toNat, by omega⟩
    have hK128 : K ≤ 128 := by omega
    have PK := Lib.hid (fun w => rkeys_any b r d m s l w)
    rw [hK] at PK
    have PX := Lib.hid (fun w => rxnew b r d m s l K hK128 w)
    have HEX := Lib.hid he
    have HKK := Lib.hid hK
    have HCN : Hid (cellsN b r d m l = K) := Lib.hid (by unfold cellsN; rw [he, hK]; simp)
    clear he hr hR hkd hK
    go_enter Try.func49, Try.ntmps49
    go_wp2_with (refine wpList_load_row rfl 36 _ rfl w.heap.size rfl 36 _ (0, 0) _ hx1 Try.underlying36 rfl (by kernel_rfl) ?_)
    with_reducible refine (PE.out _).mono ?_
    rintro e w2 ⟨rfl, hb⟩
    have HB2 := Lib.hid (btr HB1.out hb)
    have HX2 := Lib.hid (HX1.out.kept hb)
    clear hb hx1
    go_wp2_with fail
    refine wp_region_held_drew (S := fun w' => Blk w' w.heap.size 36 #[.int .i64 b, .int .i64 r, .int .i64 d, .int .i64 m, .int .u64 s] ∧ Below w.heap.size w w') (by kernel_rfl) (by exact ⟨HX2.out.drewN 1, below_drewN HB2.out 1⟩) (fun hHeld => ?_)
    refine wpAnyH_take (i := 0) (v := ?_) rfl (by kernel_rfl) (by kernel_rfl) (by kernel_rfl) (fun _ _ _ h => h) (Or.inl ⟨by rfl, ?_⟩) (by assumption) ?_
    rotate_left
    · intro w hSw
      try refine (exec_load_row 36 _ rfl _ rfl 36 _ (0, 0) _ hSw.1 Try.underlying36 rfl (by kernel_rfl)).trans ?_
      go_simp
      try with_reducible rfl
    simp only [Act.put, List.setIfInBounds_toArray, List.set_cons_zero, List.set_cons_succ, List.getElem_toArray, List.getElem_cons_zero, List.getElem_cons_succ]
    refine wpAnyH_take (i := 1) (v := ?_) rfl (by kernel_rfl) (by kernel_rfl) (by kernel_rfl) (fun _ _ _ h => h) (Or.inl ⟨by rfl, ?_⟩) (by assumption) ?_
    rotate_left
    · intro w hSw
      try dsimp only at hSw
      go_simp
      try with_reducible rfl
    simp only [Act.put, List.setIfInBounds_toArray, List.set_cons_zero, List.set_cons_succ, List.getElem_toArray, List.getElem_cons_zero, List.getElem_cons_succ]
    refine wpAnyH_take (i := 2) (v := ?_) rfl (by kernel_rfl) (by kernel_rfl) (by kernel_rfl) (fun _ _ _ h => h) (Or.inl ⟨by rfl, ?_⟩) (by assumption) ?_
    rotate_left
    · intro w hSw
      try refine (exec_load_row 36 _ rfl _ rfl 36 _ (0, 0) _ hSw.1 Try.underlying36 rfl (by kernel_rfl)).trans ?_
      go_simp
      try with_reducible rfl
    simp only [Act.put, List.setIfInBounds_toArray, List.set_cons_zero, List.set_cons_succ, List.getElem_toArray, List.getElem_cons_zero, List.getElem_cons_succ]
    refine wpAnyH_take (i := 3) (v := ?_) rfl (by kernel_rfl) (by kernel_rfl) (by kernel_rfl) (fun _ _ _ h => h) (Or.inl ⟨by rfl, ?_⟩) (by assumption) ?_
    rotate_left
    · intro w hSw
      try dsimp only at hSw
      go_simp
      try with_reducible rfl
    simp only [Act.put, List.setIfInBounds_toArray, List.set_cons_zero, List.set_cons_succ, List.getElem_toArray, List.getElem_cons_zero, List.getElem_cons_succ]
    refine wpAnyH_ready (rs := [4]) (by kernel_rfl) (by simp) ?_
    refine AllReadyH.cons rfl (fun Kc hKc => ?_) AllReadyH.nil
    go_simp
    go_wp2_with (first | (go_at_call 36; refine (PK.out _).mono ?_; rintro e w3 ⟨rfl, hb'⟩) | (go_at_call 61; refine (PX.out _).mono ?_; rintro e w4 ⟨RA, LA, rfl, hRA, hLA, hra, hb'⟩; have HRA := Lib.hid hra; have HB4 := Lib.hid (btr hHeld.2 hb'); have HLO : Hid (w.heap.size ≤ RA ∧ w.heap.size ≤ LA) := Lib.hid ⟨Nat.le_trans hHeld.2.size hRA, Nat.le_trans hHeld.2.size hLA⟩; clear hra hRA hLA))
    refine hKc.out _ _ ?_ (fun hHeld => ?_)
    · first | assumption | exact ⟨hHeld.1.kept hb', btr hHeld.2 hb'⟩ | exact ⟨hHeld.1.alloc _, hHeld.2.alloc hHeld.2.size _⟩
    clear hKc Kc
    refine wpAnyH_ready (rs := [5]) (by kernel_rfl) (by simp) ?_
    refine AllReadyH.cons rfl (fun Kc hKc => ?_) AllReadyH.nil
    go_simp
    go_wp2_with (first | (go_at_call 36; refine (PK.out _).mono ?_; rintro e w3 ⟨rfl, hb'⟩) | (go_at_call 61; refine (PX.out _).mono ?_; rintro e w4 ⟨RA, LA, rfl, hRA, hLA, hra, hb'⟩; have HRA := Lib.hid hra; have HB4 := Lib.hid (btr hHeld.2 hb'); have HLO : Hid (w.heap.size ≤ RA ∧ w.heap.size ≤ LA) := Lib.hid ⟨Nat.le_trans hHeld.2.size hRA, Nat.le_trans hHeld.2.size hLA⟩; clear hra hRA hLA))
    refine hKc.out _ _ ?_ (fun hHeld => ?_)
    · first | assumption | exact ⟨hHeld.1.kept hb', btr hHeld.2 hb'⟩ | exact ⟨hHeld.1.alloc _, hHeld.2.alloc hHeld.2.size _⟩
    clear hKc Kc
    refine wpAnyH_take (i := 6) (v := ?_) rfl (by kernel_rfl) (by kernel_rfl) (by kernel_rfl) (fun _ _ _ h => h) (Or.inl ⟨by rfl, ?_⟩) (by assumption) ?_
    rotate_left
    · intro w hSw
      try dsimp only at hSw
      go_simp
      try with_reducible rfl
    simp only [Act.put, List.setIfInBounds_toArray, List.set_cons_zero, List.set_cons_succ, List.getElem_toArray, List.getElem_cons_zero, List.getElem_cons_succ]
    refine wpAnyH_ready (rs := [7]) (by kernel_rfl) (by simp) ?_
    refine AllReadyH.cons rfl (fun Kc hKc => ?_) AllReadyH.nil
    go_simp
    refine hKc.out _ _ ?_ (fun hHeld => ?_)
    · first | assumption | exact ⟨hHeld.1.kept hb', btr hHeld.2 hb'⟩ | exact ⟨hHeld.1.alloc _, hHeld.2.alloc hHeld.2.size _⟩
    clear hKc Kc
    refine wpAnyH_take (i := 8) (v := ?_) rfl (by kernel_rfl) (by kernel_rfl) (by kernel_rfl) (fun _ _ _ h => h) (Or.inl ⟨by rfl, ?_⟩) (by assumption) ?_
    rotate_left
    · intro w hSw
      try dsimp only at hSw
      go_simp
      try with_reducible rfl
    simp only [Act.put, List.setIfInBounds_toArray, List.set_cons_zero, List.set_cons_succ, List.getElem_toArray, List.getElem_cons_zero, List.getElem_cons_succ]
    refine wpAnyH_done (by kernel_rfl) ?_ _
    have HNEW := Lib.hid (Blk.new w4 93 #[.pointer (some ⟨RA, 0, none⟩), .pointer none])
    have HAL : Hid (Below w4.heap.size w4 (w4.alloc (.cells #[.pointer (some ⟨RA, 0, none⟩), .pointer none] 93))) := Lib.hid ((Below.refl _ _).alloc (Nat.le_refl _) _)
    have HRA5 := Lib.hid (HRA.out.kept HAL.out)
    have HB5 := Lib.hid (btr HB4.out HAL.out)
    have hsz4 := HB4.out.size
    clear hHeld
    go_wp2
    go_ret
    exact ⟨w4.heap.size, rfl, .inl ⟨HEX.out, RA, LA, HNEW.out, by rw [HCN.out]; exact HRA5.out, by rw [HCN.out, HKK.out]; simp, ⟨hsz4, HNEW.out.lt⟩, ⟨HLO.out.1, HRA5.out.ltR⟩, ⟨HLO.out.2, HRA5.out.ltL⟩⟩, HB5.out⟩
end Go.Proofs.Ytbghchgmoiniiaa

/-
  The walk of the document's level's Cells. Conditions: none beyond those stated at each theorem.
-/
namespace Go.Proofs.Ytbghchgmoiniiaa
open Go.RowKit
set_option linter.unusedVariables false
set_option linter.unusedSimpArgs false

/-- a new slice that holds the numbers -/
def IntsNew (w : World) (zs : List Int) (e : Ending) (w' : World) : Prop :=
  ∃ g cap, e = .returned (.slice (some ⟨g, 0, none⟩) zs.length cap) ∧ zs.length ≤ cap ∧ w.heap.size ≤ g ∧ IntsAt w' (.slice (some ⟨g, 0, none⟩) zs.length cap) zs ∧ Below w.heap.size w w'
theorem RArr.ints {w : World} {R L : Nat} {b r d m s l : Int} {zs : List Int} (h : RArr w R L b r d m s l zs) : ∃ cap, w.cell? ⟨R, 6, none⟩ = some (.slice (some ⟨L, 0, none⟩) zs.length cap) ∧ zs.length ≤ cap ∧ ∀ j u, (zs.map (Value.int .i64))[j]? = some u → w.cell? ((Addr.mk L 0 none).add j) = some u := by
  obtain ⟨cap, cur, h1, h2, h3, h4⟩ := h
  refine ⟨cap, h2.cell 6, h1, fun j u hu => ?_⟩
  rw [List.getElem?_map] at hu
  cases hz : zs[j]? with
  | none => rw [hz] at hu; simp at hu
  | some z =>
    rw [hz] at hu
    simp at hu
    subst hu
    rw [addr_add, Nat.zero_add]
    exact (h3.cell j).trans (h4 j z hz)
set_option maxRecDepth 100000 in
set_option maxHeartbeats 4000000 in
theorem rlcells (w : World) (F : Nat → Prop) (P : Nat) (b r d m s l : Int) (zs : List Int) (h : RLevIs w F P b r d m s l zs) (hl : zs.length ≤ 1024) :
    Calls Try.prog 29 #[.pointer (some ⟨P, 0, none⟩)] w (IntsNew w zs) := by
  obtain ⟨i0', hi, hz0, hz1, hz2⟩ := info_parts Try.info64
  rcases h with ⟨h1, RA, LA, h2, h3, h7, f1, f2, f3⟩ | ⟨h1, SA, G, v, B, K, N, h2, h3, h4, f1, f2, f3, f4, f5⟩
  · have HP1 := h2.alloc (.cells #[] 2)
    have c0 := h2.cell 0
    have k0 := HP1.cell 0
    simp at c0 k0
    have h3' := h3.kept ((Below.refl _ _).alloc (Nat.le_refl _) (.cells #[] 2))
    obtain ⟨cap, k6, hcap, hnw⟩ := h3'.ints
    have HNW := Lib.hid hnw
    obtain ⟨n, hn⟩ : ∃ n, n = zs.length := ⟨_, rfl⟩
    have HN := Lib.hid hn
    rw [← hn] at k6 hcap hl
    have hown0 := World.ownsRow_lit (base := w.heap.size) (e := 2) (size := 1) w #[] 0 (by exact Nat.le_refl _) (by unfold maxLen; omega) (by simp)
    have HO1 := Lib.hid hown0
    have HB1 : Hid (Below w.heap.size w (w.alloc (.cells #[] 2))) := Lib.hid ((Below.refl _ _).alloc (Nat.le_refl _) _)
    clear h1 h2 h3 h7 f1 f2 f3 HP1 h3' hnw hn hown0
    go_enter Try.func29, Try.ntmps29
    go_wp2_with (at_builtin; go_loud (refine wpList_append_lit rfl _ _ 51 rfl w.heap.size 2 i0' (.int .i64 0) 8 Try.underlying51 hi hz0 hz1 hz2 rfl w.heap.size 0 rfl HO1.out (some ⟨LA, 0, none⟩) n cap (zs.map (Value.int .i64)) rfl (by rw [List.length_map]; exact HN.out.symm) (fun _ => ⟨_, rfl, HNW.out⟩) (fun u hu => by obtain ⟨z, -, rfl⟩ := List.mem_map.1 hu; rfl) (by unfold maxLen; omega) (by omega) (by simp) ?_))
    intro v5 w5 o5 g5 n5 q5
    rw [HN.out] at o5
    obtain ⟨g, cp, rfl, hg0, hgc, cur, hcur, hcc⟩ := own_row o5 n5
    have HI : Hid (IntsAt w5 (.slice (some ⟨g, 0, none⟩) zs.length cp) zs) := Lib.hid (IntsAt.of_own o5 rfl)
    have HB5 : Hid (Below w.heap.size w w5) := Lib.hid (HB1.out.grown g5 (by simp) (fun k e => by have := Option.some.inj e; omega))
    have HG := Lib.hid (And.intro hgc hg0)
    clear o5 g5 n5 q5 hcur hcc hgc hg0
    go_wp2
    go_ret
    exact ⟨g, cp, rfl, HG.out.1, HG.out.2, HI.out, HB5.out⟩
  · have c0 := h2.cell 0
    have c1 := h2.cell 1
    have c6 := h3.cell 6
    simp at c0 c1 c6
    have PC := Lib.hid (rcells_any w N G v B K _ _ zs h4)
    clear h1 h2 h3 h4 f1 f2 f3 f4 f5
    go_enter Try.func29, Try.ntmps29
    go_wp2_with fail
    with_reducible refine PC.out.mono ?_
    rintro e w2 ⟨g, cp, rfl, hgc, hg0, hi, hb⟩
    have HH := Lib.hid (And.intro hgc (And.intro hg0 (And.intro hi hb)))
    clear hgc hg0 hi hb
    go_wp2
    go_ret
    exact ⟨g, cp, rfl, HH.out.1, HH.out.2.1, HH.out.2.2.1, HH.out.2.2.2⟩
end Go.Proofs.Ytbghchgmoiniiaa

/-
  The walk of the document's level's Load. Conditions: none beyond those stated at each theorem.
-/
namespace Go.Proofs.Ytbghchgmoiniiaa
open Go.RowKit
set_option linter.unusedVariables false
set_option linter.unusedSimpArgs false

/-- a slice of numbers, anywhere in a block of numbers -/
def ZAt (w : World) (v : Value) (zs : List Int) : Prop :=
  ∃ g off cap cur, v = .slice (some ⟨g, off, none⟩) zs.length cap ∧ zs.length ≤ cap ∧ Blk w g 2 cur ∧ ∀ (i : Nat) (u : Int), zs[i]? = some u → w.cell? ⟨g, off + i, none⟩ = some (.int .i64 u)
/-- only blocks of F have changed; new ones may be there -/
def Only (F : Nat → Prop) (w w' : World) : Prop := w'.os = w.os ∧ w'.tape = w.tape ∧ w'.output = w.output ∧ w.heap.size ≤ w'.heap.size ∧ ∀ k, k < w.heap.size → ¬ F k → w'.heap[k]? = w.heap[k]?
theorem Only.of_gr {w w' : World} {F : Nat → Prop} {g : Nat} (h : w.grownBy w' (some g)) (hg : F g) : Only F w w' :=
  ⟨h.os, h.tape, h.output, h.size, fun k hk hn => h.block k hk (fun e => hn (by rw [Option.some.inj e]; exact hg))⟩
theorem Only.trans {w w1 w2 : World} {F F1 : Nat → Prop} (h : Only F w w1) (k : Only F1 w1 w2) (hf : ∀ x, F1 x → F x ∨ w.heap.size ≤ x) : Only F w w2 :=
  ⟨k.1.trans h.1, k.2.1.trans h.2.1, k.2.2.1.trans h.2.2.1, Nat.le_trans h.2.2.2.1 k.2.2.2.1, fun x hx hn => (k.2.2.2.2 x (Nat.lt_of_lt_of_le hx h.2.2.2.1) (fun h1 => by rcases hf x h1 with h2 | h2; exact hn h2; omega)).trans (h.2.2.2.2 x hx hn)⟩
theorem Only.below {w w' : World} {F : Nat → Prop} {B : Nat} (h : Only F w w') (hf : ∀ x, F x → B ≤ x) (hB : B ≤ w.heap.size) : Below B w w' :=
  ⟨h.1, h.2.1, h.2.2.1, h.2.2.2.1, fun k hk => h.2.2.2.2 k (by omega) (fun hn => by have := hf k hn; omega)⟩
theorem grownBy_drew (w : World) (row : Option Nat) : w.grownBy (w.drewN 1) row := below_gr (below_drewN (Below.refl _ _) 1)
def RLoadPost (w : World) (F : Nat → Prop) (P : Nat) (b r d m s l : Int) (cs : List Int) (e : Ending) (w' : World) : Prop :=
  (∃ v, e = .returned v) ∧ ∃ F', RLevIs w' F' P b r d m s l cs ∧ (∀ k, F' k → F k ∨ (w.heap.size ≤ k ∧ k < w'.heap.size)) ∧ Only F w w'
set_option maxRecDepth 100000 in
set_option maxHeartbeats 8000000 in
theorem rlload_ex (w : World) (F : Nat → Prop) (P RA LA : Nat) (b r d m s l : Int) (zs cs : List Int) (v : Value) (hex : exactB b r d m l = true) (hP : Blk w P 93 #[.pointer (some ⟨RA, 0, none⟩), .pointer none]) (hA : RArr w RA LA b r d m s l zs)
    (f1 : F P) (f2 : F RA) (hv : ZAt w v cs) (hl : cs.length = (keysI b r d m l).toNat) (hl2 : cs.length ≤ 1024) :
    Calls Try.prog 30 #[.pointer (some ⟨P, 0, none⟩), v] w (RLoadPost w F P b r d m s l cs) := by
  obtain ⟨i0, hi, hz0, hz1, hz2⟩ := info_parts Try.info64
  obtain ⟨g, off, cap, cur, rfl, hcap, hbk, hcc⟩ := hv
  obtain ⟨cp, ca, -, hRA, -, -⟩ := hA
  have HPB := Lib.hid hP
  have HRB := Lib.hid hRA
  have hPR := hP.ne_ hRA (by decide)
  have hgR := hbk.ne_ hRA (by decide)
  have hgl := hbk.lt
  have c0 := hP.cell 0
  simp at c0
  have HF := Lib.hid (And.intro f1 f2)
  have HEX := Lib.hid hex
  have HCL := Lib.hid hl
  obtain ⟨n, hn⟩ : ∃ n, n = cs.length := ⟨_, rfl⟩
  have HN := Lib.hid hn
  rw [← hn] at hl2 hcap ⊢
  have hown0 := World.ownsRow_lit (base := w.heap.size) (e := 2) (size := 1) (w.drewN 1) #[] 0 (by exact Nat.le_refl _) (by unfold maxLen; omega) (by simp)
  have HO := Lib.hid hown0
  have HNEWS : Hid (∀ w', w.grownBy w' (some RA) → (0 < n → ∃ ad, (some ⟨g, off, none⟩ : Option Addr) = some ad ∧ ∀ j u, (cs.map (Value.int .i64))[j]? = some u → w'.cell? (ad.add j) = some u)) := Lib.hid (fun w' hb _ => ⟨_, rfl, fun j u hu => by
    rw [addr_add]
    rw [List.getElem?_map] at hu
    cases hz : cs[j]? with
    | none => rw [hz] at hu; simp at hu
    | some z =>
      rw [hz] at hu
      simp at hu
      subst hu
      exact hb.cell (hcc j z hz) (by simpa using hgR)⟩)
  have HPC : Hid (∀ w', w.grownBy w' (some RA) → w'.cell? ⟨P, 0, none⟩ = some (.pointer (some ⟨RA, 0, none⟩))) := Lib.hid (fun w' hb => hb.cell c0 (by simpa using hPR))
  have HGD := Lib.hid (grownBy_drew w (some RA))
  clear hex hP hRA hbk hcc f1 f2 hn hl hown0
  go_enter Try.func30, Try.ntmps30
  go_wp2_with fail
  refine wp_region_held_drew (S := fun w' => (∃ x, Blk w' RA 95 #[.int .i64 b, .int .i64 r, .int .i64 d, .int .i64 m, .int .u64 s, .int .i64 l, x]) ∧ w.grownBy w' (some RA)) (by kernel_rfl) (by exact ⟨⟨_, HRB.out.drewN 1⟩, HGD.out⟩) (fun hHeld => ?_)
  refine wpAnyH_take (i := 0) (v := ?_) rfl (by kernel_rfl) (by kernel_rfl) (by kernel_rfl) (fun _ _ _ h => h) (Or.inl ⟨by rfl, ?_⟩) (by assumption) ?_
  rotate_left
  · intro w hSw
    try dsimp only at hSw
    go_simp
    try with_reducible rfl
  simp only [Act.put, List.setIfInBounds_toArray, List.set_cons_zero, List.set_cons_succ, List.getElem_toArray, List.getElem_cons_zero, List.getElem_cons_succ]
  refine wpAnyH_take (i := 1) (v := ?_) rfl (by kernel_rfl) (by kernel_rfl) (by kernel_rfl) (fun _ _ _ h => h) (Or.inl ⟨by rfl, ?_⟩) (by assumption) ?_
  rotate_left
  · intro w hSw
    try dsimp only at hSw
    go_simp
    try with_reducible rfl
  simp only [Act.put, List.setIfInBounds_toArray, List.set_cons_zero, List.set_cons_succ, List.getElem_toArray, List.getElem_cons_zero, List.getElem_cons_succ]
  refine wpAnyH_take (i := 2) (v := ?_) rfl (by kernel_rfl) (by kernel_rfl) (by kernel_rfl) (fun _ _ _ h => h) (Or.inl ⟨by rfl, ?_⟩) (by assumption) ?_
  rotate_left
  · intro w hSw
    try dsimp only at hSw
    go_simp
    try with_reducible rfl
  simp only [Act.put, List.setIfInBounds_toArray, List.set_cons_zero, List.set_cons_succ, List.getElem_toArray, List.getElem_cons_zero, List.getElem_cons_succ]
  refine wpAnyH_take (i := 3) (v := ?_) rfl (by kernel_rfl) (by kernel_rfl) (by kernel_rfl) (fun _ _ _ h => h) (Or.inl ⟨by rfl, ?_⟩) (by assumption) ?_
  rotate_left
  · intro w hSw
    have q0 := HPC.out _ hSw.2
    go_simp
    try with_reducible rfl
  simp only [Act.put, List.setIfInBounds_toArray, List.set_cons_zero, List.set_cons_succ, List.getElem_toArray, List.getElem_cons_zero, List.getElem_cons_succ]
  refine wpAnyH_take (i := 5) (v := ?_) rfl (by kernel_rfl) (by kernel_rfl) (by kernel_rfl) (fun _ _ _ h => h) (Or.inl ⟨by rfl, ?_⟩) (by assumption) ?_
  rotate_left
  · intro w hSw
    try dsimp only at hSw
    go_simp
    try with_reducible rfl
  simp only [Act.put, List.setIfInBounds_toArray, List.set_cons_zero, List.set_cons_succ, List.getElem_toArray, List.getElem_cons_zero, List.getElem_cons_succ]
  refine wpAnyH_ready (rs := [4]) (by kernel_rfl) (by simp) ?_
  refine AllReadyH.cons rfl (fun Kc hKc => ?_) AllReadyH.nil
  go_simp
  refine hKc.out _ _ ?_ (fun hHeld => ?_)
  · first | exact ⟨by obtain ⟨x, hx⟩ := hHeld.1; exact ⟨x, hx.alloc _⟩, gr_trans hHeld.2 (below_gr ((Below.refl _ _).alloc (Nat.le_refl _) _))⟩ | exact ⟨by obtain ⟨x, hx⟩ := hHeld.1; exact ⟨x, hx.grown hgrow (by have := HRB.out.lt; simp; omega)⟩, gr_new hHeld.2 hgrow (.inr ⟨_, rfl, Nat.le_refl _⟩)⟩ | exact ⟨⟨_, hxs⟩, gr_trans hHeld.2 (grown_set _ RA 6 _)⟩
  clear hKc Kc
  refine wpAnyH_ready (rs := [6]) (by kernel_rfl) (by simp) ?_
  refine AllReadyH.cons rfl (fun Kc hKc => ?_) AllReadyH.nil
  refine wp_append_lit _ _ 51 rfl w.heap.size 2 i0 (.int .i64 0) 8 Try.underlying51 hi hz0 hz1 hz2 rfl w.heap.size 0 rfl HO.out (some ⟨g, off, none⟩) n cap (cs.map (Value.int .i64)) rfl (by rw [List.length_map]; exact HN.out.symm) (HNEWS.out _ hHeld.2) (fun u hu => by obtain ⟨z, -, rfl⟩ := List.mem_map.1 hu; rfl) (by unfold maxLen; omega) (by omega) (by simp) ?_; intro v' w5 hown' hgrow hnil' hq9; rw [HN.out] at hown'; obtain ⟨LB, cpB, rfl, hLB, hcpB, curL, hcurL, hccL⟩ := own_row hown' hnil'; have HLL := Lib.hid (And.intro hLB (And.intro hcpB (And.intro hcurL hccL))); clear hown' hnil' hq9 hLB hcpB hcurL hccL
  refine hKc.out _ _ ?_ (fun hHeld => ?_)
  · first | exact ⟨by obtain ⟨x, hx⟩ := hHeld.1; exact ⟨x, hx.alloc _⟩, gr_trans hHeld.2 (below_gr ((Below.refl _ _).alloc (Nat.le_refl _) _))⟩ | exact ⟨by obtain ⟨x, hx⟩ := hHeld.1; exact ⟨x, hx.grown hgrow (by have := HRB.out.lt; simp; omega)⟩, gr_new hHeld.2 hgrow (.inr ⟨_, rfl, Nat.le_refl _⟩)⟩ | exact ⟨⟨_, hxs⟩, gr_trans hHeld.2 (grown_set _ RA 6 _)⟩
  clear hKc Kc
  refine wpAnyH_take (i := 7) (v := ?_) rfl (by kernel_rfl) (by kernel_rfl) (by kernel_rfl) (fun _ _ _ h => h) (Or.inl ⟨by rfl, ?_⟩) (by assumption) ?_
  rotate_left
  · intro w hSw
    try dsimp only at hSw
    go_simp
    try with_reducible rfl
  simp only [Act.put, List.setIfInBounds_toArray, List.set_cons_zero, List.set_cons_succ, List.getElem_toArray, List.getElem_cons_zero, List.getElem_cons_succ]
  refine wpAnyH_take (i := 8) (v := ?_) rfl (by kernel_rfl) (by kernel_rfl) (by kernel_rfl) (fun _ _ _ h => h) (Or.inl ⟨by rfl, ?_⟩) (by assumption) ?_
  rotate_left
  · intro w hSw
    try dsimp only at hSw
    go_simp
    try with_reducible rfl
  simp only [Act.put, List.setIfInBounds_toArray, List.set_cons_zero, List.set_cons_succ, List.getElem_toArray, List.getElem_cons_zero, List.getElem_cons_succ]
  refine wpAnyH_ready (rs := [9]) (by kernel_rfl) (by simp) ?_
  refine AllReadyH.cons rfl (fun Kc hKc => ?_) AllReadyH.nil
  obtain ⟨x, hx⟩ := hHeld.1; have k6 := hx.cell 6; have fz6 := hx.frozen 6; simp at k6; go_simp; have hxs := hx.set_ 6 (.slice (some ⟨LB, 0, none⟩) cs.length cpB); simp at hxs
  refine hKc.out _ _ ?_ (fun hHeld => ?_)
  · first | exact ⟨by obtain ⟨x, hx⟩ := hHeld.1; exact ⟨x, hx.alloc _⟩, gr_trans hHeld.2 (below_gr ((Below.refl _ _).alloc (Nat.le_refl _) _))⟩ | exact ⟨by obtain ⟨x, hx⟩ := hHeld.1; exact ⟨x, hx.grown hgrow (by have := HRB.out.lt; simp; omega)⟩, gr_new hHeld.2 hgrow (.inr ⟨_, rfl, Nat.le_refl _⟩)⟩ | exact ⟨⟨_, hxs⟩, gr_trans hHeld.2 (grown_set _ RA 6 _)⟩
  clear hKc Kc
  refine wpAnyH_done (by kernel_rfl) ?_ _
  have HXS := Lib.hid hxs
  have HLB : Hid (Blk (w5.setCell ⟨RA, 6, none⟩ (.slice (some ⟨LB, 0, none⟩) cs.length cpB)) LB 2 curL) := Lib.hid (HLL.out.2.2.1.far (HLL.out.2.2.1.ne_ hx (by decide)) _)
  have HPF := Lib.hid (HPB.out.grown hHeld.2 (by simpa using hPR))
  have HGF := Lib.hid hHeld.2
  have hLl : w.heap.size ≤ LB ∧ LB < w5.heap.size := ⟨HLL.out.1, HLL.out.2.2.1.lt⟩
  clear hHeld hx hxs k6 fz6
  go_wp2
  refine bodyPost_ret (results_none rfl _ _ _) rfl ?_
  refine ⟨⟨_, rfl⟩, fun k => F k ∨ k = LB, .inl ⟨HEX.out, RA, LB, HPF.out, ⟨cpB, curL, HLL.out.2.1, HXS.out, HLB.out, HLL.out.2.2.2⟩, HCL.out, .inl HF.out.1, .inl HF.out.2, .inr rfl⟩, fun k hk => ?_, Only.of_gr HGF.out HF.out.2⟩
  rcases hk with hk | rfl
  · exact .inl hk
  · exact .inr ⟨hLl.1, by simpa using hLl.2⟩
/-- while a sketch is laid anew: so many of its cells are new -/
def RLd (w0 w : World) (F : Nat → Prop) (P SA G L vcap N : Nat) (B K : Nat → Nat) (R W : Nat) (b r d m s l : Int) (cs zs : List Int) (a : Nat) : Prop :=
  Blk w P 93 #[.pointer none, .pointer (some ⟨SA, 0, none⟩)] ∧ Blk w SA 98 #[.int .i64 b, .int .i64 r, .int .i64 d, .int .i64 m, .int .u64 s, .int .i64 l, .pointer (some ⟨G, 0, none⟩)] ∧
  RefIs w N G (.slice (some ⟨L, 0, none⟩) R vcap) B K R W (cs.take a ++ zs.drop a) ∧ Only F w0 w
theorem Only.refl (F : Nat → Prop) (w : World) : Only F w w := ⟨rfl, rfl, rfl, Nat.le_refl _, fun _ _ _ => rfl⟩
theorem Only.drew {F : Nat → Prop} {w w' : World} (h : Only F w w') : Only F w (w'.drewN 1) := h
theorem Only.cell {F : Nat → Prop} {w w' : World} (h : Only F w w') {g i : Nat} {u : Value} (hg : ¬ F g) (hc : w.cell? ⟨g, i, none⟩ = some u) : w'.cell? ⟨g, i, none⟩ = some u := by
  have hlt : g < w.heap.size := cell_block hc
  have := h.2.2.2.2 g hlt hg
  unfold World.cell? at hc ⊢
  simp only at hc ⊢
  rw [this]; exact hc
theorem RLd.step {w0 w : World} {F : Nat → Prop} {P SA G L vcap N : Nat} {B K : Nat → Nat} {R W : Nat} {b r d m s l : Int} {cs zs : List Int} {i c : Nat} (h : RLd w0 w F P SA G L vcap N B K R W b r d m s l cs zs (i * W + c)) (hi : i < R) (hc : c < W) (hl : cs.length = zs.length) (hf : F (B i)) {u : Int} (hu : cs[i * W + c]? = some u) :
    RLd w0 (w.setCell ⟨B i, c, none⟩ (.int .i64 u)) F P SA G L vcap N B K R W b r d m s l cs zs (i * W + c + 1) := by
  obtain ⟨h1, h2, h3, h4⟩ := h
  obtain ⟨cur, hB, -⟩ := h3.cells i hi
  refine ⟨h1.far ((show Blk w P _ _ from h1).ne_ (show Blk w (B i) _ _ from hB) (by decide)) _, h2.far ((show Blk w SA _ _ from h2).ne_ (show Blk w (B i) _ _ from hB) (by decide)) _, ?_, h4.trans (Only.of_gr (F := F) (grown_set w (B i) c _) hf) (fun x hx => .inl hx)⟩
  have := h3.set i c u hi hc
  rw [take_drop_set hu hl] at this
  exact this
set_option maxRecDepth 100000 in
set_option maxHeartbeats 8000000 in
theorem rlload_sk (w : World) (F : Nat → Prop) (P SA G L vcap N : Nat) (B K : Nat → Nat) (R W : Nat) (b r d m s l : Int) (zs cs : List Int) (v : Value) (h0 : RLd w w F P SA G L vcap N B K R W b r d m s l cs zs 0) (hR : 0 < R) (hW : 0 < W)
    (fB : ∀ i, i < R → F (B i)) (hv : ZAt w v cs) (hvf : ∀ g off c, v = .slice (some ⟨g, off, none⟩) cs.length c → ¬ F g) (hl : cs.length = R * W) (hlz : zs.length = R * W) :
    Calls Try.prog 30 #[.pointer (some ⟨P, 0, none⟩), v] w fun e w' => (∃ x, e = .returned x) ∧ RLd w w' F P SA G L vcap N B K R W b r d m s l cs zs (R * W) := by
  obtain ⟨g, off, cap, cur, rfl, hcap, hbk, hcc⟩ := hv
  have hgF := hvf g off cap rfl
  have hR8 := h0.2.2.1.rows
  have hW8 := h0.2.2.1.width
  have H0 := Lib.hid h0
  have HFB := Lib.hid fB
  have HCC := Lib.hid hcc
  have HCL := Lib.hid hl
  have HLL := Lib.hid (show cs.length = zs.length by omega)
  obtain ⟨n, hn⟩ : ∃ n, n = cs.length := ⟨_, rfl⟩
  have HN := Lib.hid hn
  have hn1 : n ≤ 1024 := by rw [hn, hl]; exact Nat.mul_le_mul hR8 hW8
  rw [← hn] at hcap ⊢
  have p0 := h0.1.cell 0
  simp at p0
  clear h0 fB hbk hcc hl hlz hn hvf
  go_enter Try.func30, Try.ntmps30
  go_wp2_with fail
  clear p0
  go_loopw [4, 5] (fun x y wr => ∃ i : Nat, i ≤ R ∧ y = .int .i64 (i : Int) ∧ x = .int .i64 ((i * W : Nat) : Int) ∧ RLd w wr F P SA G L vcap N B K R W b r d m s l cs zs (i * W)) (fun _ y _ => R - (intOf y).toNat)
  case atStart => exact ⟨0, by omega, rfl, by simp, by simpa using H0.out⟩
  case round =>
    obtain ⟨i, hi, rfl, rfl, hst⟩ := hrel
    have HST := Lib.hid hst
    have p1 := hst.1.cell 1
    have s6 := hst.2.1.cell 6
    have g0 := hst.2.2.1.box.cell 0
    simp at p1 s6 g0
    clear hst H0
    by_cases hlt : i < R
    · have i0 : (0 : Int) ≤ (i : Int) := by omega
      have i1 : (i : Int) < (R : Int) := by omega
      generalize hwo : wr = wo at *
      clear hwo
      go_wp2_with fail
      go_loopw [4, 6] (fun x y wr => ∃ c : Nat, c ≤ W ∧ y = .int .i64 (c : Int) ∧ x = .int .i64 ((i * W + c : Nat) : Int) ∧ RLd w wr F P SA G L vcap N B K R W b r d m s l cs zs (i * W + c)) (fun _ y _ => W - (intOf y).toNat)
      case atStart => exact ⟨0, by omega, rfl, by simp, by simpa using HST.out⟩
      case round =>
        obtain ⟨c, hc, rfl, rfl, hst⟩ := hrel
        have HS2 := Lib.hid hst
        have hlook := hst.2.2.1.lookR hlt
        have p1 := hst.1.cell 1
        have s6 := hst.2.1.cell 6
        simp at p1 s6
        obtain ⟨g0, g1⟩ := hlook
        obtain ⟨b1, -, -⟩ : i * W ≤ R * W ∧ True ∧ True := ⟨Nat.mul_le_mul_right _ hi, trivial, trivial⟩
        clear hst HST
        by_cases hlc : c < W
        · have hal : i * W + c < R * W := (placeBd hlt hlc hR8 hW8).1
          have hac : i * W + c < n := by have := HN.out; have := HCL.out; omega
          have hu : cs[i * W + c]? = some (cellD cs (i * W + c)) := by
            have : i * W + c < cs.length := by have := HN.out; omega
            simp [cellD, this]
          have HNX := Lib.hid (fun wd (h : RLd w wd F P SA G L vcap N B K R W b r d m s l cs zs (i * W + c)) => h.step hlt hlc HLL.out (HFB.out i hlt) hu)
          have HSC := Lib.hid (HCC.out _ _ hu)
          have HLK := Lib.hid (fun wd (h : RLd w wd F P SA G L vcap N B K R W b r d m s l cs zs (i * W + c)) => h.2.2.1.look hlt hlc)
          have c0 : (0 : Int) ≤ (c : Int) := by omega
          have c1 : (c : Int) < (W : Int) := by omega
          have c2 : decide ((c : Int) < (W : Int)) = true := decide_eq_true c1
          have c3 : decide (c < W) = true := decide_eq_true hlc
          generalize cellD cs (i * W + c) = u at *
          have HA1 : Hid (i * W + (c + 1) = i * W + c + 1) := Lib.hid (by omega)
          generalize i * W + c = a at *
          have a0 : (0 : Int) ≤ (a : Int) := by omega
          have a1 : (a : Int) < (n : Int) := by omega
          have a2 : decide ((a : Int) < (n : Int)) = true := decide_eq_true a1
          have a3 : decide (a < n) = true := decide_eq_true hac
          clear hu hal
          go_wp2_with fail
          refine wp_region_still_tail 19 (by kernel_rfl) (by kernel_rfl) ?_
          simp only [List.take_succ_cons, List.take_zero, List.drop_succ_cons, List.drop_zero]
          have HS3 : Hid (RLd w { heap := wr.heap, tape := wr.tape, drawn := wr.drawn + 1, os := wr.os, output := wr.output } F P SA G L vcap N B K R W b r d m s l cs zs a) := Lib.hid ⟨HS2.out.1.drewN 1, HS2.out.2.1.drewN 1, HS2.out.2.2.1.drewN 1, HS2.out.2.2.2⟩
          clear p1 s6 g0 g1 HS2
          generalize ({ heap := wr.heap, tape := wr.tape, drawn := wr.drawn + 1, os := wr.os, output := wr.output } : World) = wd at *
          have p1 := HS3.out.1.cell 1
          have s6 := HS3.out.2.1.cell 6
          simp at p1 s6
          obtain ⟨k0, k1, k2, k3⟩ := HLK.out wd HS3.out
          have cx := HS3.out.2.2.2.cell hgF HSC.out
          repeat still_step
          refine wpStill_nil ?_
          have HS4 := Lib.hid (HNX.out wd HS3.out)
          clear HS3 HNX HLK HSC
          go_wp2
          go_roundw
          case rel => exact ⟨c + 1, by omega, by go_num, by rw [HA1.out]; go_num, by rw [HA1.out]; exact HS4.out⟩
          case measure => simp [intOf]; omega
        · obtain rfl : c = W := by omega
          have HAW : Hid (i * c + c = (i + 1) * c) := Lib.hid (by rw [Nat.add_mul, Nat.one_mul])
          have HS3 : Hid (RLd w wr F P SA G L vcap N B K R c b r d m s l cs zs ((i + 1) * c)) := Lib.hid (by rw [← HAW.out]; exact HS2.out)
          have c2 : decide ((c : Int) < (c : Int)) = false := by simp
          clear hlc
          go_wp2
          go_roundw
          case rel => exact ⟨i + 1, by omega, by go_num, by rw [← HAW.out], HS3.out⟩
          case measure => simp [intOf]; omega
    · obtain rfl : i = R := by omega
      have i1 : ¬ (i : Int) < (i : Int) := by omega
      clear hlt
      go_wp2
      go_end0
      exact ⟨⟨_, rfl⟩, HST.out⟩
end Go.Proofs.Ytbghchgmoiniiaa

/-
  The document's stacks in memory; the walk of gaugerref15.New. Conditions: none beyond those stated at each theorem.
-/
namespace Go.Proofs.Ytbghchgmoiniiaa
open Go.RowKit
set_option linter.unusedVariables false
set_option linter.unusedSimpArgs false

theorem rlload (w : World) (F : Nat → Prop) (P : Nat) (b r d m s l : Int) (zs cs : List Int) (v : Value) (h : RLevIs w F P b r d m s l zs) (hr : rightB b r d m = true) (hv : ZAt w v cs) (hvf : ∀ g off c, v = .slice (some ⟨g, off, none⟩) cs.length c → ¬ F g) (hl : cs.length = cellsN b r d m l) :
    Calls Try.prog 30 #[.pointer (some ⟨P, 0, none⟩), v] w (RLoadPost w F P b r d m s l cs) := by
  have hle : cs.length ≤ 1024 := by rw [hl]; exact cellsN_le hr
  have hlen := h.len
  rcases h with ⟨h1, RA, LA, h2, h3, h7, f1, f2, f3⟩ | ⟨h1, SA, G, x, B, K, N, h2, h3, h4, f1, f2, f3, f4, f5⟩
  · exact rlload_ex w F P RA LA b r d m s l zs cs v h1 h2 h3 f1 f2 hv (by rw [hl, ← hlen, h7]) hle
  · have hR := right_of hr
    obtain ⟨L, vcap, rfl⟩ := h4.openL (by omega)
    have hc : cellsN b r d m l = r.toNat * d.toNat := by unfold cellsN; rw [h1]; simp
    have h0 : RLd w w F P SA G L vcap N B K r.toNat d.toNat b r d m s l cs zs 0 := ⟨h2, h3, by simpa using h4, Only.refl _ _⟩
    refine (rlload_sk w F P SA G L vcap N B K r.toNat d.toNat b r d m s l zs cs v h0 (by omega) (by omega) f5 hv hvf (by rw [hl, hc]) (by rw [hlen, hc])).mono ?_
    rintro e w' ⟨he, k1, k2, k3, k4⟩
    have e1 : cs.take (r.toNat * d.toNat) = cs := List.take_of_length_le (by rw [hl, hc]; exact Nat.le_refl _)
    have e2 : zs.drop (r.toNat * d.toNat) = [] := List.drop_eq_nil_of_le (by rw [hlen, hc]; exact Nat.le_refl _)
    rw [e1, e2, List.append_nil] at k3
    exact ⟨he, F, .inr ⟨h1, SA, G, _, B, K, N, k1, k2, k3, f1, f2, f3, f4, f5⟩, fun k hk => .inl hk, k4⟩
theorem cellsL_small {b r d m l : Int} : (List.replicate (cellsN b r d m l) (0 : Int)).length = cellsN b r d m l := by simp
/-- j of the document's levels are laid in a row -/
structure RLevsB (w : World) (base RS : Nat) (v : Value) (b r d m s : Int) (P : Nat → Nat) (F : Nat → Nat → Prop) (Z : Nat → List Int) (j : Nat) : Prop where
  own : w.ownsRow base 62 1 v j ((List.range j).map fun n => .pointer (some ⟨P n, 0, none⟩))
  lev : ∀ n, n < j → RLevIs w (F n) (P n) b r d m s n (Z n)
  fin : ∀ n k, n < j → F n k → base ≤ k ∧ k < w.heap.size
  apart : ∀ n q k, n < j → q < j → n ≠ q → F n k → ¬ F q k
  out : ∀ n, n < j → ¬ F n RS ∧ ∀ k, v.ownBlock = some k → ¬ F n k
theorem RLevsB.kept {w w' : World} {base RS : Nat} {v : Value} {b r d m s : Int} {P : Nat → Nat} {F : Nat → Nat → Prop} {Z : Nat → List Int} {j : Nat} (h : RLevsB w base RS v b r d m s P F Z j) (hb : Below w.heap.size w w') : RLevsB w' base RS v b r d m s P F Z j :=
  ⟨World.ownsRow.kept h.own (below_gr (row := none) hb) (by cases v.ownBlock <;> simp), fun n hn => (h.lev n hn).frame (fun k hk => hb.block k (h.fin n k hn hk).2), fun n k hn hk => ⟨(h.fin n k hn hk).1, Nat.lt_of_lt_of_le (h.fin n k hn hk).2 hb.size⟩, h.apart, h.out⟩
theorem RLevsB.far {w : World} {base RS : Nat} {v : Value} {b r d m s : Int} {P : Nat → Nat} {F : Nat → Nat → Prop} {Z : Nat → List Int} {j : Nat} (h : RLevsB w base RS v b r d m s P F Z j) {cs : Array Value} (hs : Blk w RS 61 cs) (i : Nat) (u : Value) : RLevsB (w.setCell ⟨RS, i, none⟩ u) base RS v b r d m s P F Z j := by
  have hg := grown_set w RS i u
  have hne := own_ne h.own hs (by decide)
  exact ⟨World.ownsRow.kept h.own hg (.inr hne), fun n hn => (h.lev n hn).frame (fun k hk => hg.block k (h.fin n k hn hk).2 (fun e => (h.out n hn).1 (by rw [← Option.some.inj e]; exact hk))), fun n k hn hk => ⟨(h.fin n k hn hk).1, by simpa using (h.fin n k hn hk).2⟩, h.apart, h.out⟩
theorem RLevsB.zero (w : World) (base RS : Nat) (b r d m s : Int) (P : Nat → Nat) (F : Nat → Nat → Prop) (Z : Nat → List Int) : RLevsB w base RS (.slice none 0 0) b r d m s P F Z 0 :=
  ⟨World.ownsRow_nil _ _ _ _, fun n hn => by omega, fun n k hn => by omega, fun n q k hn => by omega, fun n hn => by omega⟩
theorem RLevsB.push {w w' : World} {base RS lo : Nat} {v v' : Value} {b r d m s : Int} {P : Nat → Nat} {F : Nat → Nat → Prop} {Z : Nat → List Int} {j p : Nat} {f : Nat → Prop} {zs : List Int} (h : RLevsB w base RS v b r d m s P F Z j)
    (hl : RLevIs w f p b r d m s j zs) (hf : ∀ k, f k → lo ≤ k ∧ k < w.heap.size) (hlo : base ≤ lo) (hF : ∀ n k, n < j → F n k → k < lo) (hRS : RS < lo) (hv : ∀ k, v.ownBlock = some k → k < lo)
    (hg : w.grownBy w' v.ownBlock) (ho : w'.ownsRow base 62 1 v' (j + 1) ((List.range j).map (fun n => Value.pointer (some ⟨P n, 0, none⟩)) ++ [.pointer (some ⟨p, 0, none⟩)])) (hq : v'.ownBlock = v.ownBlock ∨ v'.ownBlock = some w.heap.size) :
    RLevsB w' base RS v' b r d m s (upN P j p) (upN F j f) (upN Z j zs) (j + 1) := by
  have hnf : ∀ k, f k → some k ≠ v.ownBlock := fun k hk e => by have := hv k e.symm; have := hf k hk; omega
  refine ⟨?_, fun n hn => ?_, fun n k hn hk => ?_, fun n q k hn hq2 e hk => ?_, fun n hn => ?_⟩
  · have e : (List.range (j + 1)).map (fun n => Value.pointer (some ⟨upN P j p n, 0, none⟩)) = (List.range j).map (fun n => Value.pointer (some ⟨P n, 0, none⟩)) ++ [.pointer (some ⟨p, 0, none⟩)] := by
      rw [List.range_succ, List.map_append]
      congr 1
      · exact List.map_congr_left fun k hk => by rw [upN_other _ _ (by have := List.mem_range.1 hk; omega)]
      · simp [upN]
    rw [e]; exact ho
  · by_cases e : n = j
    · subst e; rw [upN_same, upN_same, upN_same]
      exact hl.frame (fun k hk => hg.block k (hf k hk).2 (hnf k hk))
    · rw [upN_other _ _ e, upN_other _ _ e, upN_other _ _ e]
      exact (h.lev n (by omega)).frame (fun k hk => hg.block k (h.fin n k (by omega) hk).2 (fun e2 => (h.out n (by omega)).2 k e2.symm hk))
  · by_cases e : n = j
    · subst e; rw [upN_same] at hk
      have := hf k hk
      have := hg.size
      omega
    · rw [upN_other _ _ e] at hk
      have := h.fin n k (by omega) hk
      have := hg.size
      omega
  · by_cases e1 : n = j
    · subst e1
      rw [upN_same] at hk
      rw [upN_other _ _ (Ne.symm e)]
      intro hk2
      have := hF q k (by omega) hk2
      have := hf k hk
      omega
    · rw [upN_other _ _ e1] at hk
      by_cases e2 : q = j
      · subst e2
        rw [upN_same]
        intro hk2
        have := hF n k (by omega) hk
        have := hf k hk2
        omega
      · rw [upN_other _ _ e2]
        exact h.apart n q k (by omega) (by omega) e hk
  · have hnew : ∀ k, v'.ownBlock = some k → v.ownBlock = some k ∨ k = w.heap.size := fun k hk => by
      rcases hq with e | e
      · exact .inl (e ▸ hk)
      · rw [e] at hk; exact .inr (Option.some.inj hk).symm
    by_cases e : n = j
    · subst e; rw [upN_same]
      refine ⟨fun hk => by have := hf RS hk; omega, fun k hk hf2 => ?_⟩
      rcases hnew k hk with h1 | h1
      · exact hnf k hf2 h1.symm
      · have := hf k hf2; omega
    · rw [upN_other _ _ e]
      refine ⟨(h.out n (by omega)).1, fun k hk hf2 => ?_⟩
      rcases hnew k hk with h1 | h1
      · exact (h.out n (by omega)).2 k h1 hf2
      · have := h.fin n k (by omega) hf2; omega
/-- block RS is the document's stack of a config, its levels read as Z -/
structure RStIs (w : World) (base RS RL : Nat) (b r d m s : Int) (P : Nat → Nat) (F : Nat → Nat → Prop) (Z : Nat → List Int) : Prop where
  box : ∃ cap : Nat, Blk w RS 61 #[.int .i64 b, .int .i64 r, .int .i64 d, .int .i64 m, .int .u64 s, .slice (some ⟨RL, 0, none⟩) (b.toNat + 1) cap] ∧ b.toNat + 1 ≤ cap
  right : rightB b r d m = true
  row : ∃ cur : Array Value, Blk w RL 62 cur ∧ ∀ n, n ≤ b.toNat → cur[n]? = some (.pointer (some ⟨P n, 0, none⟩))
  lev : ∀ n, n ≤ b.toNat → RLevIs w (F n) (P n) b r d m s n (Z n)
  fin : ∀ n k, n ≤ b.toNat → F n k → base ≤ k ∧ k < w.heap.size
  apart : ∀ n q k, n ≤ b.toNat → q ≤ b.toNat → n ≠ q → F n k → ¬ F q k
  out : ∀ n, n ≤ b.toNat → ¬ F n RS ∧ ¬ F n RL
theorem RStIs.kept {w w' : World} {base RS RL : Nat} {b r d m s : Int} {P : Nat → Nat} {F : Nat → Nat → Prop} {Z : Nat → List Int} (h : RStIs w base RS RL b r d m s P F Z) (hb : Below w.heap.size w w') : RStIs w' base RS RL b r d m s P F Z := by
  obtain ⟨cap, h1, h2⟩ := h.box
  obtain ⟨cur, h3, h4⟩ := h.row
  exact ⟨⟨cap, h1.kept hb, h2⟩, h.right, ⟨cur, h3.kept hb, h4⟩, fun n hn => (h.lev n hn).frame (fun k hk => hb.block k (h.fin n k hn hk).2), fun n k hn hk => ⟨(h.fin n k hn hk).1, Nat.lt_of_lt_of_le (h.fin n k hn hk).2 hb.size⟩, h.apart, h.out⟩
theorem RStIs.low_ {w : World} {base base' RS RL : Nat} {b r d m s : Int} {P : Nat → Nat} {F : Nat → Nat → Prop} {Z : Nat → List Int} (h : RStIs w base RS RL b r d m s P F Z) (hb : base' ≤ base) : RStIs w base' RS RL b r d m s P F Z :=
  ⟨h.box, h.right, h.row, h.lev, fun n k hn hk => ⟨Nat.le_trans hb (h.fin n k hn hk).1, (h.fin n k hn hk).2⟩, h.apart, h.out⟩
theorem RLevsB.stack {w : World} {base RS : Nat} {v : Value} {r d m s : Int} {P : Nat → Nat} {F : Nat → Nat → Prop} {Z : Nat → List Int} {n : Nat} (h : RLevsB w base RS v (n : Int) r d m s P F Z (n + 1)) (hr : rightB (n : Int) r d m = true)
    (hs : Blk w RS 61 #[.int .i64 (n : Int), .int .i64 r, .int .i64 d, .int .i64 m, .int .u64 s, v]) : ∃ RL, RStIs w base RS RL (n : Int) r d m s P F Z := by
  rcases h.own.2 with ⟨rfl, h0⟩ | ⟨g, cap, cur, rfl, hb, hg, hnc, hcm, hsz, htake⟩
  · omega
  · refine ⟨g, ⟨cap, by simpa using hs, by simpa using hnc⟩, hr, ⟨cur, hg, fun k hk => ?_⟩, fun k hk => h.lev k (by simp at hk; omega), fun k q hk => h.fin k q (by simp at hk; omega), fun k q x hk hq e => h.apart k q x (by simp at hk; omega) (by simp at hq; omega) e, fun k hk => ⟨(h.out k (by simp at hk; omega)).1, (h.out k (by simp at hk; omega)).2 g rfl⟩⟩
    have hk : k < n + 1 := by simp at hk; omega
    have h2 : (cur.toList.take ((n + 1) * 1))[k]? = ((List.range (n + 1)).map fun n => Value.pointer (some ⟨P n, 0, none⟩))[k]? := by rw [htake]
    rw [List.getElem?_take, if_pos (by omega)] at h2
    simpa [hk] using h2
end Go.Proofs.Ytbghchgmoiniiaa

/-
  The walk of gaugerref15.New. Conditions: none beyond those stated at each theorem.
-/
namespace Go.Proofs.Ytbghchgmoiniiaa
open Go.RowKit
set_option linter.unusedVariables false
set_option linter.unusedSimpArgs false

def RStNewPost (w : World) (b r d m s : Int) (e : Ending) (w' : World) : Prop :=
  ∃ RS RL P F, e = .returned (.pointer (some ⟨RS, 0, none⟩)) ∧ w.heap.size ≤ RS ∧ RStIs w' w.heap.size RS RL b r d m s P F (zeroZ b r d m) ∧ Below w.heap.size w w'
theorem Try.infoRL : (Try.prog.info? 62).map (fun i => (i.zero, i.size, i.bytes)) = some (some (.pointer none), 1, 8) := by kernel_rfl
theorem RLevsB.open2 {w : World} {base RS : Nat} {v : Value} {b r d m s : Int} {P : Nat → Nat} {F : Nat → Nat → Prop} {Z : Nat → List Int} {j : Nat} (h : RLevsB w base RS v b r d m s P F Z j) : ∃ ao n cap, v = .slice ao n cap := by
  rcases h.own.2 with ⟨rfl, h0⟩ | ⟨g, cap, cur, rfl, -⟩
  · exact ⟨_, _, _, rfl⟩
  · exact ⟨_, _, _, rfl⟩
set_option maxRecDepth 100000 in
set_option maxHeartbeats 8000000 in
theorem rstnew (b r d m s : Int) (hr : rightB b r d m = true) (w : World) :
    Calls Try.prog 28 #[.agg #[.int .i64 b, .int .i64 r, .int .i64 d, .int .i64 m, .int .u64 s]] w (RStNewPost w b r d m s) := by
  obtain ⟨i0, hi, hz0, hz1, hz2⟩ := info_parts Try.infoRL
  have HR := Lib.hid hr
  have hb59 := right_of hr
  obtain ⟨n, hn⟩ : ∃ n : Nat, b = (n : Int) := ⟨b.toNat, by omega⟩
  subst hn
  have hn59 : n ≤ 59 := by omega
  have PN := Lib.hid (fun (j : Nat) w => rlnew (n : Int) r d m s (j : Int) hr w)
  clear hb59 hr
  obtain ⟨g1, hb1, hsz1⟩ := news1 w (.cells #[.int .i64 (n : Int), .int .i64 r, .int .i64 d, .int .i64 m, .int .u64 s] 36)
  have hx1 : Blk _ w.heap.size 36 #[.int .i64 (n : Int), .int .i64 r, .int .i64 d, .int .i64 m, .int .u64 s] := g1
  have HB1 := Lib.hid hb1
  have HX1 := Lib.hid hx1
  have hs1 : (w.alloc (.cells #[.int .i64 (n : Int), .int .i64 r, .int .i64 d, .int .i64 m, .int .u64 s] 36)).heap.size = w.heap.size + 1 := by simp
  clear g1 hb1 hsz1
  have HSB := Lib.hid (Blk.new (w.alloc (.cells #[.int .i64 (n : Int), .int .i64 r, .int .i64 d, .int .i64 m, .int .u64 s] 36)) 61 #[.int .i64 (n : Int), .int .i64 r, .int .i64 d, .int .i64 m, .int .u64 s, .slice none 0 0])
  have HX2 := Lib.hid (HX1.out.alloc (.cells #[.int .i64 (n : Int), .int .i64 r, .int .i64 d, .int .i64 m, .int .u64 s, .slice none 0 0] 61))
  have HB2 := Lib.hid (HB1.out.alloc HB1.out.size (.cells #[.int .i64 (n : Int), .int .i64 r, .int .i64 d, .int .i64 m, .int .u64 s, .slice none 0 0] 61))
  rw [hs1] at HSB
  clear hs1
  go_enter Try.func28, Try.ntmps28
  go_wp2_with (refine wpList_load_row rfl 36 _ rfl w.heap.size rfl 36 _ (0, 0) _ hx1 Try.underlying36 rfl (by kernel_rfl) ?_)
  clear hx1
  generalize (w.alloc (.cells #[.int .i64 (n : Int), .int .i64 r, .int .i64 d, .int .i64 m, .int .u64 s] 36)).alloc (.cells #[.int .i64 (n : Int), .int .i64 r, .int .i64 d, .int .i64 m, .int .u64 s, .slice none 0 0] 61) = w2 at *
  obtain ⟨RS, hRS⟩ : ∃ RS, RS = w.heap.size + 1 := ⟨_, rfl⟩
  rw [← hRS] at HSB ⊢
  have hRS1 : w.heap.size < RS := by omega
  clear hRS HX1 HB1
  go_loopw [4] (fun i wr => ∃ (j : Nat) (P : Nat → Nat) (F : Nat → Nat → Prop) (v : Value), j ≤ n + 1 ∧ i = .int .i64 (j : Int) ∧ Blk wr w.heap.size 36 #[.int .i64 (n : Int), .int .i64 r, .int .i64 d, .int .i64 m, .int .u64 s] ∧ Blk wr RS 61 #[.int .i64 (n : Int), .int .i64 r, .int .i64 d, .int .i64 m, .int .u64 s, v] ∧ RLevsB wr w.heap.size RS v (n : Int) r d m s P F (zeroZ (n : Int) r d m) j ∧ Below w.heap.size w wr) (fun i _ => n + 1 - (intOf i).toNat)
  case atStart => exact ⟨0, fun _ => 0, fun _ _ => False, _, by omega, rfl, HX2.out, HSB.out, RLevsB.zero _ _ _ _ _ _ _ _ _ _ _, HB2.out⟩
  case round =>
    obtain ⟨j, P, F, v, hj, rfl, hx, hs, hlv, hbel⟩ := hrel
    obtain ⟨vo, vl, vc, rfl⟩ := hlv.open2
    have q0 := hx.cell 0
    simp at q0
    have HX := Lib.hid (hx.drewN 1)
    have HS := Lib.hid (hs.drewN 1)
    have HLV := Lib.hid (hlv.kept (below_drewN (Below.refl _ _) 1))
    have HB := Lib.hid (below_drewN hbel 1)
    have HX0 := Lib.hid hx
    have HS0 := Lib.hid hs
    have HLV0 := Lib.hid hlv
    have HB0 := Lib.hid hbel
    have hRSl := hs.lt
    clear hx hs hlv hbel HX2 HSB HB2
    by_cases hlt : j < n + 1
    · have i1 : (j : Int) ≤ (n : Int) := by omega
      have i2 : decide ((j : Int) ≤ (n : Int)) = true := decide_eq_true i1
      have i3 : decide (j ≤ n) = true := decide_eq_true (by omega)
      have PN2 := Lib.hid (PN.out j)
      have HZZ : Hid (upN (zeroZ (n : Int) r d m) j (List.replicate (cellsN (n : Int) r d m (j : Int)) 0) = zeroZ (n : Int) r d m) := Lib.hid (by
        funext k
        by_cases e : k = j
        · subst e; exact upN_same _ _ _
        · exact upN_other _ _ e)
      go_wp2_with fail
      clear q0
      have k5 := HS.out.cell 5
      simp at k5
      refine wp_region_held_drew (S := fun w' => Blk w' w.heap.size 36 #[.int .i64 (n : Int), .int .i64 r, .int .i64 d, .int .i64 m, .int .u64 s] ∧ (∃ x, Blk w' RS 61 #[.int .i64 (n : Int), .int .i64 r, .int .i64 d, .int .i64 m, .int .u64 s, x]) ∧ Below w.heap.size w w') (by kernel_rfl) (by exact ⟨HX.out, ⟨_, HS.out⟩, HB.out⟩) (fun hHeld => ?_)
      refine wpAnyH_take (i := 0) (v := ?_) rfl (by kernel_rfl) (by kernel_rfl) (by kernel_rfl) (fun _ _ _ h => h) (Or.inl ⟨by rfl, ?_⟩) (by assumption) ?_
      rotate_left
      · intro w hSw
        try dsimp only at hSw
        go_simp
        try with_reducible rfl
      simp only [Act.put, List.setIfInBounds_toArray, List.set_cons_zero, List.set_cons_succ, List.getElem_toArray, List.getElem_cons_zero, List.getElem_cons_succ]
      refine wpAnyH_take (i := 1) (v := ?_) rfl (by kernel_rfl) (by kernel_rfl) (by kernel_rfl) (fun _ _ _ h => h) (Or.inl ⟨by rfl, ?_⟩) (by assumption) ?_
      rotate_left
      · intro w hSw
        try dsimp only at hSw
        go_simp
        try with_reducible rfl
      simp only [Act.put, List.setIfInBounds_toArray, List.set_cons_zero, List.set_cons_succ, List.getElem_toArray, List.getElem_cons_zero, List.getElem_cons_succ]
      refine wpAnyH_take (i := 2) (v := ?_) rfl (by kernel_rfl) (by kernel_rfl) (by kernel_rfl) (fun _ _ _ h => h) (Or.inl ⟨by rfl, ?_⟩) (by assumption) ?_
      rotate_left
      · intro w hSw
        try dsimp only at hSw
        go_simp
        try with_reducible rfl
      simp only [Act.put, List.setIfInBounds_toArray, List.set_cons_zero, List.set_cons_succ, List.getElem_toArray, List.getElem_cons_zero, List.getElem_cons_succ]
      refine wpAnyH_take (i := 3) (v := ?_) rfl (by kernel_rfl) (by kernel_rfl) (by kernel_rfl) (fun _ _ _ h => h) (Or.inl ⟨by rfl, ?_⟩) (by assumption) ?_
      rotate_left
      · intro w hSw
        try dsimp only at hSw
        go_simp
        try with_reducible rfl
      simp only [Act.put, List.setIfInBounds_toArray, List.set_cons_zero, List.set_cons_succ, List.getElem_toArray, List.getElem_cons_zero, List.getElem_cons_succ]
      refine wpAnyH_take (i := 5) (v := ?_) rfl (by kernel_rfl) (by kernel_rfl) (by kernel_rfl) (fun _ _ _ h => h) (Or.inl ⟨by rfl, ?_⟩) (by assumption) ?_
      rotate_left
      · intro w hSw
        try refine (exec_load_row 36 _ rfl _ rfl 36 _ (0, 0) _ hSw.1 Try.underlying36 rfl (by kernel_rfl)).trans ?_
        go_simp
        try with_reducible rfl
      simp only [Act.put, List.setIfInBounds_toArray, List.set_cons_zero, List.set_cons_succ, List.getElem_toArray, List.getElem_cons_zero, List.getElem_cons_succ]
      refine wpAnyH_take (i := 6) (v := ?_) rfl (by kernel_rfl) (by kernel_rfl) (by kernel_rfl) (fun _ _ _ h => h) (Or.inl ⟨by rfl, ?_⟩) (by assumption) ?_
      rotate_left
      · intro w hSw
        try dsimp only at hSw
        go_simp
        try with_reducible rfl
      simp only [Act.put, List.setIfInBounds_toArray, List.set_cons_zero, List.set_cons_succ, List.getElem_toArray, List.getElem_cons_zero, List.getElem_cons_succ]
      refine wpAnyH_ready (rs := [4, 7]) (by kernel_rfl) (by simp) ?_
      refine AllReadyH.cons rfl (fun Kc hKc => ?_) (AllReadyH.cons rfl (fun Kc hKc => ?_) AllReadyH.nil)
      · go_simp
        refine hKc.out _ _ ?_ (fun hHeld => ?_)
        · first | exact hHeld | exact ⟨HX4.out, ⟨_, HS4.out⟩, HB4.out⟩ | exact ⟨HX4.out.far (p := ⟨RS, 5, none⟩) (by simp; omega) _, ⟨_, HS4.out.set_ 5 _⟩, HB4.out.setCell (p := ⟨RS, 5, none⟩) (by simp; omega) _⟩ | exact ⟨hHeld.1.kept hb', ⟨_, HS.out.kept hb'⟩, btr hHeld.2.2 hb'⟩ | exact ⟨hHeld.1.alloc _, by obtain ⟨x, hx⟩ := hHeld.2.1; exact ⟨x, hx.alloc _⟩, hHeld.2.2.alloc hHeld.2.2.size _⟩
        clear hKc Kc
        refine wpAnyH_ready (rs := [7]) (by kernel_rfl) (by simp) ?_
        refine AllReadyH.cons rfl (fun Kc hKc => ?_) AllReadyH.nil
        go_simp
        go_wp2_with (go_at_call 49; refine (PN2.out _).mono ?_; rintro e w3 ⟨p, rfl, hlv3, hb'⟩; have HL3 := Lib.hid hlv3; have HBK := Lib.hid hb'; have k5' := (HS.out.kept hb').cell 5; simp at k5'; have k6' := ((HS.out.kept hb').alloc (.cells #[.pointer (some ⟨p, 0, none⟩)] 62)).cell 5; simp at k6'; clear hlv3)
        refine hKc.out _ _ ?_ (fun hHeld => ?_)
        · first | exact hHeld | exact ⟨HX4.out, ⟨_, HS4.out⟩, HB4.out⟩ | exact ⟨HX4.out.far (p := ⟨RS, 5, none⟩) (by simp; omega) _, ⟨_, HS4.out.set_ 5 _⟩, HB4.out.setCell (p := ⟨RS, 5, none⟩) (by simp; omega) _⟩ | exact ⟨hHeld.1.kept hb', ⟨_, HS.out.kept hb'⟩, btr hHeld.2.2 hb'⟩ | exact ⟨hHeld.1.alloc _, by obtain ⟨x, hx⟩ := hHeld.2.1; exact ⟨x, hx.alloc _⟩, hHeld.2.2.alloc hHeld.2.2.size _⟩
        clear hKc Kc
        refine wpAnyH_ready (rs := [8]) (by kernel_rfl) (by simp) ?_
        refine AllReadyH.cons rfl (fun Kc hKc => ?_) AllReadyH.nil
        go_simp
        refine hKc.out _ _ ?_ (fun hHeld => ?_)
        · first | exact hHeld | exact ⟨HX4.out, ⟨_, HS4.out⟩, HB4.out⟩ | exact ⟨HX4.out.far (p := ⟨RS, 5, none⟩) (by simp; omega) _, ⟨_, HS4.out.set_ 5 _⟩, HB4.out.setCell (p := ⟨RS, 5, none⟩) (by simp; omega) _⟩ | exact ⟨hHeld.1.kept hb', ⟨_, HS.out.kept hb'⟩, btr hHeld.2.2 hb'⟩ | exact ⟨hHeld.1.alloc _, by obtain ⟨x, hx⟩ := hHeld.2.1; exact ⟨x, hx.alloc _⟩, hHeld.2.2.alloc hHeld.2.2.size _⟩
        clear hKc Kc
        refine wpAnyH_ready (rs := [9]) (by kernel_rfl) (by simp) ?_
        refine AllReadyH.cons rfl (fun Kc hKc => ?_) AllReadyH.nil
        refine wp_append_own_at _ _ 59 rfl w.heap.size 62 i0 (.pointer none) 1 8 Try.underlying59 hi hz0 hz1 hz2 rfl (by decide) _ j _ rfl ((HLV.out.kept HBK.out).own.alloc _) ⟨w3.heap.size, 0, none⟩ 1 1 [.pointer (some ⟨p, 0, none⟩)] rfl rfl (cell_one_new _ _ _) (by simp [Value.oneCell']) (by unfold maxLen; omega) (by omega) (by have := (btr HB.out HBK.out).size; simp; omega) ?_; intro v' w4 hown' hgrow hnil' hq9; have HAL : Hid (Below w3.heap.size w3 (w3.alloc (.cells #[.pointer (some ⟨p, 0, none⟩)] 62))) := Lib.hid ((Below.refl _ _).alloc (Nat.le_refl _) _); have hpush := RLevsB.push ((HLV.out.kept HBK.out).kept HAL.out) (HL3.out.frame (fun k hk => HAL.out.block k hk.2)) (fun k hk => ⟨hk.1, Nat.lt_of_lt_of_le hk.2 HAL.out.size⟩) HB.out.size (fun q k hq hk => (HLV.out.fin q k hq hk).2) HS.out.lt (fun k hk => (HLV.out.own.lt k hk).2) hgrow hown' hq9; rw [HZZ.out] at hpush; have HX4 := Lib.hid (((HX.out.kept HBK.out).kept HAL.out).grown hgrow (Ne.symm (own_ne ((HLV.out.kept HBK.out).kept HAL.out).own ((HX.out.kept HBK.out).kept HAL.out) (by decide)))); have HS4 := Lib.hid (((HS.out.kept HBK.out).kept HAL.out).grown hgrow (Ne.symm (own_ne ((HLV.out.kept HBK.out).kept HAL.out).own ((HS.out.kept HBK.out).kept HAL.out) (by decide)))); have HB4 : Hid (Below w.heap.size w w4) := Lib.hid ((btr (btr HB.out HBK.out) HAL.out).grown hgrow (btr (btr HB.out HBK.out) HAL.out).size (fun k e => (HLV.out.own.lt k e).1)); obtain ⟨xo, xl, xc, rfl⟩ := hpush.open2; have HP := Lib.hid hpush; clear hpush hown' hgrow hnil' hq9 k5 k5' k6'
        refine hKc.out _ _ ?_ (fun hHeld => ?_)
        · first | exact hHeld | exact ⟨HX4.out, ⟨_, HS4.out⟩, HB4.out⟩ | exact ⟨HX4.out.far (p := ⟨RS, 5, none⟩) (by simp; omega) _, ⟨_, HS4.out.set_ 5 _⟩, HB4.out.setCell (p := ⟨RS, 5, none⟩) (by simp; omega) _⟩ | exact ⟨hHeld.1.kept hb', ⟨_, HS.out.kept hb'⟩, btr hHeld.2.2 hb'⟩ | exact ⟨hHeld.1.alloc _, by obtain ⟨x, hx⟩ := hHeld.2.1; exact ⟨x, hx.alloc _⟩, hHeld.2.2.alloc hHeld.2.2.size _⟩
        clear hKc Kc
        refine wpAnyH_take (i := 10) (v := ?_) rfl (by kernel_rfl) (by kernel_rfl) (by kernel_rfl) (fun _ _ _ h => h) (Or.inl ⟨by rfl, ?_⟩) (by assumption) ?_
        rotate_left
        · intro w hSw
          try dsimp only at hSw
          go_simp
          try with_reducible rfl
        simp only [Act.put, List.setIfInBounds_toArray, List.set_cons_zero, List.set_cons_succ, List.getElem_toArray, List.getElem_cons_zero, List.getElem_cons_succ]
        refine wpAnyH_take (i := 11) (v := ?_) rfl (by kernel_rfl) (by kernel_rfl) (by kernel_rfl) (fun _ _ _ h => h) (Or.inl ⟨by rfl, ?_⟩) (by assumption) ?_
        rotate_left
        · intro w hSw
          try dsimp only at hSw
          go_simp
          try with_reducible rfl
        simp only [Act.put, List.setIfInBounds_toArray, List.set_cons_zero, List.set_cons_succ, List.getElem_toArray, List.getElem_cons_zero, List.getElem_cons_succ]
        refine wpAnyH_ready (rs := [12]) (by kernel_rfl) (by simp) ?_
        refine AllReadyH.cons rfl (fun Kc hKc => ?_) AllReadyH.nil
        have k7 := HS4.out.cell 5; have fz7 := HS4.out.frozen 5; simp at k7; go_simp
        refine hKc.out _ _ ?_ (fun hHeld => ?_)
        · first | exact hHeld | exact ⟨HX4.out, ⟨_, HS4.out⟩, HB4.out⟩ | exact ⟨HX4.out.far (p := ⟨RS, 5, none⟩) (by simp; omega) _, ⟨_, HS4.out.set_ 5 _⟩, HB4.out.setCell (p := ⟨RS, 5, none⟩) (by simp; omega) _⟩ | exact ⟨hHeld.1.kept hb', ⟨_, HS.out.kept hb'⟩, btr hHeld.2.2 hb'⟩ | exact ⟨hHeld.1.alloc _, by obtain ⟨x, hx⟩ := hHeld.2.1; exact ⟨x, hx.alloc _⟩, hHeld.2.2.alloc hHeld.2.2.size _⟩
        clear hKc Kc
        refine wpAnyH_done (by kernel_rfl) ?_ _
        clear hHeld
        go_wp2
        go_roundw
        case rel => exact ⟨j + 1, _, _, _, by omega, by go_num, HX4.out.far (p := ⟨RS, 5, none⟩) (by simp; omega) _, by simpa using HS4.out.set_ 5 (.slice xo xl xc), HP.out.far HS4.out 5 _, HB4.out.setCell (p := ⟨RS, 5, none⟩) (by simp; omega) _⟩
        case measure => simp [intOf]; omega
      · go_simp
        go_wp2_with (go_at_call 49; refine (PN2.out _).mono ?_; rintro e w3 ⟨p, rfl, hlv3, hb'⟩; have HL3 := Lib.hid hlv3; have HBK := Lib.hid hb'; have k5' := (HS.out.kept hb').cell 5; simp at k5'; have k6' := ((HS.out.kept hb').alloc (.cells #[.pointer (some ⟨p, 0, none⟩)] 62)).cell 5; simp at k6'; clear hlv3)
        refine hKc.out _ _ ?_ (fun hHeld => ?_)
        · first | exact hHeld | exact ⟨HX4.out, ⟨_, HS4.out⟩, HB4.out⟩ | exact ⟨HX4.out.far (p := ⟨RS, 5, none⟩) (by simp; omega) _, ⟨_, HS4.out.set_ 5 _⟩, HB4.out.setCell (p := ⟨RS, 5, none⟩) (by simp; omega) _⟩ | exact ⟨hHeld.1.kept hb', ⟨_, HS.out.kept hb'⟩, btr hHeld.2.2 hb'⟩ | exact ⟨hHeld.1.alloc _, by obtain ⟨x, hx⟩ := hHeld.2.1; exact ⟨x, hx.alloc _⟩, hHeld.2.2.alloc hHeld.2.2.size _⟩
        clear hKc Kc
        refine wpAnyH_ready (rs := [4, 8]) (by kernel_rfl) (by simp) ?_
        refine AllReadyH.cons rfl (fun Kc hKc => ?_) (AllReadyH.cons rfl (fun Kc hKc => ?_) AllReadyH.nil)
        · go_simp
          refine hKc.out _ _ ?_ (fun hHeld => ?_)
          · first | exact hHeld | exact ⟨HX4.out, ⟨_, HS4.out⟩, HB4.out⟩ | exact ⟨HX4.out.far (p := ⟨RS, 5, none⟩) (by simp; omega) _, ⟨_, HS4.out.set_ 5 _⟩, HB4.out.setCell (p := ⟨RS, 5, none⟩) (by simp; omega) _⟩ | exact ⟨hHeld.1.kept hb', ⟨_, HS.out.kept hb'⟩, btr hHeld.2.2 hb'⟩ | exact ⟨hHeld.1.alloc _, by obtain ⟨x, hx⟩ := hHeld.2.1; exact ⟨x, hx.alloc _⟩, hHeld.2.2.alloc hHeld.2.2.size _⟩
          clear hKc Kc
          refine wpAnyH_ready (rs := [8]) (by kernel_rfl) (by simp) ?_
          refine AllReadyH.cons rfl (fun Kc hKc => ?_) AllReadyH.nil
          go_simp
          refine hKc.out _ _ ?_ (fun hHeld => ?_)
          · first | exact hHeld | exact ⟨HX4.out, ⟨_, HS4.out⟩, HB4.out⟩ | exact ⟨HX4.out.far (p := ⟨RS, 5, none⟩) (by simp; omega) _, ⟨_, HS4.out.set_ 5 _⟩, HB4.out.setCell (p := ⟨RS, 5, none⟩) (by simp; omega) _⟩ | exact ⟨hHeld.1.kept hb', ⟨_, HS.out.kept hb'⟩, btr hHeld.2.2 hb'⟩ | exact ⟨hHeld.1.alloc _, by obtain ⟨x, hx⟩ := hHeld.2.1; exact ⟨x, hx.alloc _⟩, hHeld.2.2.alloc hHeld.2.2.size _⟩
          clear hKc Kc
          refine wpAnyH_ready (rs := [9]) (by kernel_rfl) (by simp) ?_
          refine AllReadyH.cons rfl (fun Kc hKc => ?_) AllReadyH.nil
          refine wp_append_own_at _ _ 59 rfl w.heap.size 62 i0 (.pointer none) 1 8 Try.underlying59 hi hz0 hz1 hz2 rfl (by decide) _ j _ rfl ((HLV.out.kept HBK.out).own.alloc _) ⟨w3.heap.size, 0, none⟩ 1 1 [.pointer (some ⟨p, 0, none⟩)] rfl rfl (cell_one_new _ _ _) (by simp [Value.oneCell']) (by unfold maxLen; omega) (by omega) (by have := (btr HB.out HBK.out).size; simp; omega) ?_; intro v' w4 hown' hgrow hnil' hq9; have HAL : Hid (Below w3.heap.size w3 (w3.alloc (.cells #[.pointer (some ⟨p, 0, none⟩)] 62))) := Lib.hid ((Below.refl _ _).alloc (Nat.le_refl _) _); have hpush := RLevsB.push ((HLV.out.kept HBK.out).kept HAL.out) (HL3.out.frame (fun k hk => HAL.out.block k hk.2)) (fun k hk => ⟨hk.1, Nat.lt_of_lt_of_le hk.2 HAL.out.size⟩) HB.out.size (fun q k hq hk => (HLV.out.fin q k hq hk).2) HS.out.lt (fun k hk => (HLV.out.own.lt k hk).2) hgrow hown' hq9; rw [HZZ.out] at hpush; have HX4 := Lib.hid (((HX.out.kept HBK.out).kept HAL.out).grown hgrow (Ne.symm (own_ne ((HLV.out.kept HBK.out).kept HAL.out).own ((HX.out.kept HBK.out).kept HAL.out) (by decide)))); have HS4 := Lib.hid (((HS.out.kept HBK.out).kept HAL.out).grown hgrow (Ne.symm (own_ne ((HLV.out.kept HBK.out).kept HAL.out).own ((HS.out.kept HBK.out).kept HAL.out) (by decide)))); have HB4 : Hid (Below w.heap.size w w4) := Lib.hid ((btr (btr HB.out HBK.out) HAL.out).grown hgrow (btr (btr HB.out HBK.out) HAL.out).size (fun k e => (HLV.out.own.lt k e).1)); obtain ⟨xo, xl, xc, rfl⟩ := hpush.open2; have HP := Lib.hid hpush; clear hpush hown' hgrow hnil' hq9 k5 k5' k6'
          refine hKc.out _ _ ?_ (fun hHeld => ?_)
          · first | exact hHeld | exact ⟨HX4.out, ⟨_, HS4.out⟩, HB4.out⟩ | exact ⟨HX4.out.far (p := ⟨RS, 5, none⟩) (by simp; omega) _, ⟨_, HS4.out.set_ 5 _⟩, HB4.out.setCell (p := ⟨RS, 5, none⟩) (by simp; omega) _⟩ | exact ⟨hHeld.1.kept hb', ⟨_, HS.out.kept hb'⟩, btr hHeld.2.2 hb'⟩ | exact ⟨hHeld.1.alloc _, by obtain ⟨x, hx⟩ := hHeld.2.1; exact ⟨x, hx.alloc _⟩, hHeld.2.2.alloc hHeld.2.2.size _⟩
          clear hKc Kc
          refine wpAnyH_take (i := 10) (v := ?_) rfl (by kernel_rfl) (by kernel_rfl) (by kernel_rfl) (fun _ _ _ h => h) (Or.inl ⟨by rfl, ?_⟩) (by assumption) ?_
          rotate_left
          · intro w hSw
            try dsimp only at hSw
            go_simp
            try with_reducible rfl
          simp only [Act.put, List.setIfInBounds_toArray, List.set_cons_zero, List.set_cons_succ, List.getElem_toArray, List.getElem_cons_zero, List.getElem_cons_succ]
          refine wpAnyH_take (i := 11) (v := ?_) rfl (by kernel_rfl) (by kernel_rfl) (by kernel_rfl) (fun _ _ _ h => h) (Or.inl ⟨by rfl, ?_⟩) (by assumption) ?_
          rotate_left
          · intro w hSw
            try dsimp only at hSw
            go_simp
            try with_reducible rfl
          simp only [Act.put, List.setIfInBounds_toArray, List.set_cons_zero, List.set_cons_succ, List.getElem_toArray, List.getElem_cons_zero, List.getElem_cons_succ]
          refine wpAnyH_ready (rs := [12]) (by kernel_rfl) (by simp) ?_
          refine AllReadyH.cons rfl (fun Kc hKc => ?_) AllReadyH.nil
          have k7 := HS4.out.cell 5; have fz7 := HS4.out.frozen 5; simp at k7; go_simp
          refine hKc.out _ _ ?_ (fun hHeld => ?_)
          · first | exact hHeld | exact ⟨HX4.out, ⟨_, HS4.out⟩, HB4.out⟩ | exact ⟨HX4.out.far (p := ⟨RS, 5, none⟩) (by simp; omega) _, ⟨_, HS4.out.set_ 5 _⟩, HB4.out.setCell (p := ⟨RS, 5, none⟩) (by simp; omega) _⟩ | exact ⟨hHeld.1.kept hb', ⟨_, HS.out.kept hb'⟩, btr hHeld.2.2 hb'⟩ | exact ⟨hHeld.1.alloc _, by obtain ⟨x, hx⟩ := hHeld.2.1; exact ⟨x, hx.alloc _⟩, hHeld.2.2.alloc hHeld.2.2.size _⟩
          clear hKc Kc
          refine wpAnyH_done (by kernel_rfl) ?_ _
          clear hHeld
          go_wp2
          go_roundw
          case rel => exact ⟨j + 1, _, _, _, by omega, by go_num, HX4.out.far (p := ⟨RS, 5, none⟩) (by simp; omega) _, by simpa using HS4.out.set_ 5 (.slice xo xl xc), HP.out.far HS4.out 5 _, HB4.out.setCell (p := ⟨RS, 5, none⟩) (by simp; omega) _⟩
          case measure => simp [intOf]; omega
        · go_simp
          refine hKc.out _ _ ?_ (fun hHeld => ?_)
          · first | exact hHeld | exact ⟨HX4.out, ⟨_, HS4.out⟩, HB4.out⟩ | exact ⟨HX4.out.far (p := ⟨RS, 5, none⟩) (by simp; omega) _, ⟨_, HS4.out.set_ 5 _⟩, HB4.out.setCell (p := ⟨RS, 5, none⟩) (by simp; omega) _⟩ | exact ⟨hHeld.1.kept hb', ⟨_, HS.out.kept hb'⟩, btr hHeld.2.2 hb'⟩ | exact ⟨hHeld.1.alloc _, by obtain ⟨x, hx⟩ := hHeld.2.1; exact ⟨x, hx.alloc _⟩, hHeld.2.2.alloc hHeld.2.2.size _⟩
          clear hKc Kc
          refine wpAnyH_ready (rs := [4]) (by kernel_rfl) (by simp) ?_
          refine AllReadyH.cons rfl (fun Kc hKc => ?_) AllReadyH.nil
          go_simp
          refine hKc.out _ _ ?_ (fun hHeld => ?_)
          · first | exact hHeld | exact ⟨HX4.out, ⟨_, HS4.out⟩, HB4.out⟩ | exact ⟨HX4.out.far (p := ⟨RS, 5, none⟩) (by simp; omega) _, ⟨_, HS4.out.set_ 5 _⟩, HB4.out.setCell (p := ⟨RS, 5, none⟩) (by simp; omega) _⟩ | exact ⟨hHeld.1.kept hb', ⟨_, HS.out.kept hb'⟩, btr hHeld.2.2 hb'⟩ | exact ⟨hHeld.1.alloc _, by obtain ⟨x, hx⟩ := hHeld.2.1; exact ⟨x, hx.alloc _⟩, hHeld.2.2.alloc hHeld.2.2.size _⟩
          clear hKc Kc
          refine wpAnyH_ready (rs := [9]) (by kernel_rfl) (by simp) ?_
          refine AllReadyH.cons rfl (fun Kc hKc => ?_) AllReadyH.nil
          refine wp_append_own_at _ _ 59 rfl w.heap.size 62 i0 (.pointer none) 1 8 Try.underlying59 hi hz0 hz1 hz2 rfl (by decide) _ j _ rfl ((HLV.out.kept HBK.out).own.alloc _) ⟨w3.heap.size, 0, none⟩ 1 1 [.pointer (some ⟨p, 0, none⟩)] rfl rfl (cell_one_new _ _ _) (by simp [Value.oneCell']) (by unfold maxLen; omega) (by omega) (by have := (btr HB.out HBK.out).size; simp; omega) ?_; intro v' w4 hown' hgrow hnil' hq9; have HAL : Hid (Below w3.heap.size w3 (w3.alloc (.cells #[.pointer (some ⟨p, 0, none⟩)] 62))) := Lib.hid ((Below.refl _ _).alloc (Nat.le_refl _) _); have hpush := RLevsB.push ((HLV.out.kept HBK.out).kept HAL.out) (HL3.out.frame (fun k hk => HAL.out.block k hk.2)) (fun k hk => ⟨hk.1, Nat.lt_of_lt_of_le hk.2 HAL.out.size⟩) HB.out.size (fun q k hq hk => (HLV.out.fin q k hq hk).2) HS.out.lt (fun k hk => (HLV.out.own.lt k hk).2) hgrow hown' hq9; rw [HZZ.out] at hpush; have HX4 := Lib.hid (((HX.out.kept HBK.out).kept HAL.out).grown hgrow (Ne.symm (own_ne ((HLV.out.kept HBK.out).kept HAL.out).own ((HX.out.kept HBK.out).kept HAL.out) (by decide)))); have HS4 := Lib.hid (((HS.out.kept HBK.out).kept HAL.out).grown hgrow (Ne.symm (own_ne ((HLV.out.kept HBK.out).kept HAL.out).own ((HS.out.kept HBK.out).kept HAL.out) (by decide)))); have HB4 : Hid (Below w.heap.size w w4) := Lib.hid ((btr (btr HB.out HBK.out) HAL.out).grown hgrow (btr (btr HB.out HBK.out) HAL.out).size (fun k e => (HLV.out.own.lt k e).1)); obtain ⟨xo, xl, xc, rfl⟩ := hpush.open2; have HP := Lib.hid hpush; clear hpush hown' hgrow hnil' hq9 k5 k5' k6'
          refine hKc.out _ _ ?_ (fun hHeld => ?_)
          · first | exact hHeld | exact ⟨HX4.out, ⟨_, HS4.out⟩, HB4.out⟩ | exact ⟨HX4.out.far (p := ⟨RS, 5, none⟩) (by simp; omega) _, ⟨_, HS4.out.set_ 5 _⟩, HB4.out.setCell (p := ⟨RS, 5, none⟩) (by simp; omega) _⟩ | exact ⟨hHeld.1.kept hb', ⟨_, HS.out.kept hb'⟩, btr hHeld.2.2 hb'⟩ | exact ⟨hHeld.1.alloc _, by obtain ⟨x, hx⟩ := hHeld.2.1; exact ⟨x, hx.alloc _⟩, hHeld.2.2.alloc hHeld.2.2.size _⟩
          clear hKc Kc
          refine wpAnyH_take (i := 10) (v := ?_) rfl (by kernel_rfl) (by kernel_rfl) (by kernel_rfl) (fun _ _ _ h => h) (Or.inl ⟨by rfl, ?_⟩) (by assumption) ?_
          rotate_left
          · intro w hSw
            try dsimp only at hSw
            go_simp
            try with_reducible rfl
          simp only [Act.put, List.setIfInBounds_toArray, List.set_cons_zero, List.set_cons_succ, List.getElem_toArray, List.getElem_cons_zero, List.getElem_cons_succ]
          refine wpAnyH_take (i := 11) (v := ?_) rfl (by kernel_rfl) (by kernel_rfl) (by kernel_rfl) (fun _ _ _ h => h) (Or.inl ⟨by rfl, ?_⟩) (by assumption) ?_
          rotate_left
          · intro w hSw
            try dsimp only at hSw
            go_simp
            try with_reducible rfl
          simp only [Act.put, List.setIfInBounds_toArray, List.set_cons_zero, List.set_cons_succ, List.getElem_toArray, List.getElem_cons_zero, List.getElem_cons_succ]
          refine wpAnyH_ready (rs := [12]) (by kernel_rfl) (by simp) ?_
          refine AllReadyH.cons rfl (fun Kc hKc => ?_) AllReadyH.nil
          have k7 := HS4.out.cell 5; have fz7 := HS4.out.frozen 5; simp at k7; go_simp
          refine hKc.out _ _ ?_ (fun hHeld => ?_)
          · first | exact hHeld | exact ⟨HX4.out, ⟨_, HS4.out⟩, HB4.out⟩ | exact ⟨HX4.out.far (p := ⟨RS, 5, none⟩) (by simp; omega) _, ⟨_, HS4.out.set_ 5 _⟩, HB4.out.setCell (p := ⟨RS, 5, none⟩) (by simp; omega) _⟩ | exact ⟨hHeld.1.kept hb', ⟨_, HS.out.kept hb'⟩, btr hHeld.2.2 hb'⟩ | exact ⟨hHeld.1.alloc _, by obtain ⟨x, hx⟩ := hHeld.2.1; exact ⟨x, hx.alloc _⟩, hHeld.2.2.alloc hHeld.2.2.size _⟩
          clear hKc Kc
          refine wpAnyH_done (by kernel_rfl) ?_ _
          clear hHeld
          go_wp2
          go_roundw
          case rel => exact ⟨j + 1, _, _, _, by omega, by go_num, HX4.out.far (p := ⟨RS, 5, none⟩) (by simp; omega) _, by simpa using HS4.out.set_ 5 (.slice xo xl xc), HP.out.far HS4.out 5 _, HB4.out.setCell (p := ⟨RS, 5, none⟩) (by simp; omega) _⟩
          case measure => simp [intOf]; omega
    · obtain rfl : j = n + 1 := by omega
      have i1 : ¬ (((n + 1 : Nat) : Int) ≤ (n : Int)) := by omega
      have i3 : decide (n + 1 ≤ n) = false := decide_eq_false (by omega)
      obtain ⟨RL, hst⟩ := HLV0.out.stack HR.out HS0.out
      have HST := Lib.hid hst
      clear hst hlt
      go_wp2
      go_ret
      exact ⟨RS, RL, P, F, rfl, by omega, HST.out, HB0.out⟩
end Go.Proofs.Ytbghchgmoiniiaa
