/-
  The walks of ExactPlays' switch, apart. Conditions: none beyond those stated at each theorem.
-/
import Derived.Test.YtcfmipgdhhogcaaRxK
namespace Go.Proofs.Ytcfmipgdhhogcaa
open Go.RowKit
set_option linter.unusedVariables false
set_option linter.unusedSimpArgs false

set_option maxRecDepth 1000000 in
set_option maxHeartbeats 32000000 in
theorem sw_mid (w wr : World) (P A G C B H D R L Q M : Nat) (b r d m s i : Int) (K' : Nat) (zs hs : List Int) (n cap bb off j ke : Nat) (kd dj : Int)
    (hst : St w wr P A G C B H D R L Q M b r d m s i K' zs hs zs hs) (hbb : bb < w.heap.size) (hw0 : w.cell? ⟨bb, off + j * 3, none⟩ = some (.int .i64 kd)) (hw1 : w.cell? ⟨bb, off + j * 3 + 1, none⟩ = some (.int .u64 (ke : Int))) (hw2 : w.cell? ⟨bb, off + j * 3 + 2, none⟩ = some (.int .i64 dj))
    (hdj : In64 dj ∧ ke < 18446744073709551616) (hjn : j < n) (hmx : n ≤ maxLen) (hK1 : K' ≤ 128) (hkd : kd = 4 ∨ kd = 5 ∨ kd = 6)
    (c0 c1 c3 c4 c5 c6 c7 c8 c10 c12 c18 c19 c20 c21 c22 c23 c24 c25 c26 c27 c28 c29 c30 c31 c32 c33 c34 c35 c36 c37 c38 c39 c40 c41 c42 c43 c44 c45 c46 c47 c48 c49 c50 c51 c52 c53 c54 c55 c56 c57 c58 c59 c60 c61 c62 c63 c64 c65 c66 c67 c68 c69 c70 c71 c72 c73 c74 c75 c76 c77 c78 c79 c80 c81 c82 c83 c84 c85 c86 c87 c88 c89 c90 c91 c92 c93 c94 c95 c96 c97 c98 c99 c100 c101 c102 c103 c104 c105 c106 c107 c108 c109 c110 c111 c112 c113 c114 c115 c116 c117 c118 c119 c120 c121 c122 c123 c124 c125 c126 c127 c128 c129 c130 c131 c132 c133 c134 c135 c136 c137 c138 c139 c140 c141 c142 c143 c144 c145 c146 c147 c148 c149 c150 c151 c152 c153 c154 c155 c156 c157 c158 c159 c160 c161 c162 c163 c164 c165 c166 c167 c168 c169 c170 c171 c172 c173 c174 c175 c176 c177 c178 c179 c180 c181 c182 c183 c184 c185 c186 c187 c188 c189 c190 c191 c192 c193 c194 c195 c196 c197 c198 c199 c200 c201 c202 c203 c204 c205 c206 c207 c208 c209 c210 c211 c212 c213 c214 c215 c216 c217 c218 c219 c220 c221 c222 c223 c224 c225 c226 c227 c228 c229 c230 c231 c232 c233 c234 c235 c236 c237 c238 c239 c240 c241 c242 c243 c244 c245 c246 c247 : Value) (KK K1 K2 K3 : Act → World → Prop) (RR : Ending → World → Prop)
    (hK : ∀ (er : Int) (A G C B H D R L Q M : Nat) (zs hs : List Int) (u18 u19 u20 u21 u22 u23 u24 u25 u26 u81 u82 u83 u84 u85 u86 u87 u88 u89 u90 u91 u92 u93 u94 u95 u96 u97 u98 u99 u100 u101 u102 u103 u104 u105 u106 u107 u108 u109 u110 u111 u112 u113 u114 u115 u116 u117 u118 u119 u120 u121 u122 u123 u124 u125 u126 u127 u128 u129 u130 u131 u132 u133 u134 u135 u136 u137 u138 u139 u140 u141 u142 u143 u144 u145 u146 u147 u148 u149 u150 u151 u152 u153 u154 u155 u156 u157 u158 u159 u160 u161 u162 u163 u164 u165 u166 u167 u168 u169 u170 u171 u172 u173 u174 u175 u176 u177 u178 u179 u180 u181 u182 u183 u184 u185 u186 u187 u188 u189 u190 u191 u192 u193 u194 u195 u196 u197 u198 u199 u200 u201 u202 u203 u204 u205 u206 u207 u208 u209 u210 u211 : Value) (wt : World), St w wt P A G C B H D R L Q M b r d m s i K' zs hs zs hs → KK ⟨List.toArray (c0 :: c1 :: (.slice (some ⟨bb, off, none⟩) n cap) :: c3 :: c4 :: c5 :: c6 :: c7 :: c8 :: (.pointer (some ⟨A, 0, none⟩)) :: c10 :: (.pointer (some ⟨B, 0, none⟩)) :: c12 :: (.pointer (some ⟨R, 0, none⟩)) :: (.pointer (some ⟨Q, 0, none⟩)) :: (.int .i64 (j : Int)) :: (.int .i64 er) :: (.int .i64 er) :: u18 :: u19 :: u20 :: u21 :: u22 :: u23 :: u24 :: u25 :: u26 :: c27 :: c28 :: c29 :: c30 :: c31 :: c32 :: c33 :: c34 :: c35 :: c36 :: c37 :: c38 :: c39 :: c40 :: c41 :: c42 :: c43 :: c44 :: c45 :: c46 :: c47 :: c48 :: c49 :: c50 :: c51 :: c52 :: c53 :: c54 :: c55 :: c56 :: c57 :: c58 :: c59 :: c60 :: c61 :: c62 :: c63 :: c64 :: c65 :: c66 :: c67 :: c68 :: c69 :: c70 :: c71 :: c72 :: c73 :: c74 :: c75 :: c76 :: c77 :: c78 :: c79 :: c80 :: u81 :: u82 :: u83 :: u84 :: u85 :: u86 :: u87 :: u88 :: u89 :: u90 :: u91 :: u92 :: u93 :: u94 :: u95 :: u96 :: u97 :: u98 :: u99 :: u100 :: u101 :: u102 :: u103 :: u104 :: u105 :: u106 :: u107 :: u108 :: u109 :: u110 :: u111 :: u112 :: u113 :: u114 :: u115 :: u116 :: u117 :: u118 :: u119 :: u120 :: u121 :: u122 :: u123 :: u124 :: u125 :: u126 :: u127 :: u128 :: u129 :: u130 :: u131 :: u132 :: u133 :: u134 :: u135 :: u136 :: u137 :: u138 :: u139 :: u140 :: u141 :: u142 :: u143 :: u144 :: u145 :: u146 :: u147 :: u148 :: u149 :: u150 :: u151 :: u152 :: u153 :: u154 :: u155 :: u156 :: u157 :: u158 :: u159 :: u160 :: u161 :: u162 :: u163 :: u164 :: u165 :: u166 :: u167 :: u168 :: u169 :: u170 :: u171 :: u172 :: u173 :: u174 :: u175 :: u176 :: u177 :: u178 :: u179 :: u180 :: u181 :: u182 :: u183 :: u184 :: u185 :: u186 :: u187 :: u188 :: u189 :: u190 :: u191 :: u192 :: u193 :: u194 :: u195 :: u196 :: u197 :: u198 :: u199 :: u200 :: u201 :: u202 :: u203 :: u204 :: u205 :: u206 :: u207 :: u208 :: u209 :: u210 :: u211 :: c212 :: c213 :: c214 :: c215 :: c216 :: c217 :: c218 :: c219 :: c220 :: c221 :: c222 :: c223 :: c224 :: c225 :: c226 :: c227 :: c228 :: c229 :: c230 :: c231 :: c232 :: c233 :: c234 :: c235 :: c236 :: c237 :: c238 :: c239 :: c240 :: c241 :: c242 :: c243 :: c244 :: c245 :: c246 :: c247 :: []), []⟩ wt) :
    Code.wp Try.prog swC (Exit.then KK (Exit.inBlock 1 (Exit.then K1 (Exit.then K2 (Exit.inBlock 0 (Exit.then K3 (bodyPost Try.prog Try.f7 RR))))))) ⟨List.toArray (c0 :: c1 :: (.slice (some ⟨bb, off, none⟩) n cap) :: c3 :: c4 :: c5 :: c6 :: c7 :: c8 :: (.pointer (some ⟨A, 0, none⟩)) :: c10 :: (.pointer (some ⟨B, 0, none⟩)) :: c12 :: (.pointer (some ⟨R, 0, none⟩)) :: (.pointer (some ⟨Q, 0, none⟩)) :: (.int .i64 (j : Int)) :: (.int .i64 0) :: (.int .i64 0) :: c18 :: c19 :: c20 :: c21 :: c22 :: c23 :: c24 :: c25 :: c26 :: c27 :: c28 :: c29 :: c30 :: c31 :: c32 :: c33 :: c34 :: c35 :: c36 :: c37 :: c38 :: c39 :: c40 :: c41 :: c42 :: c43 :: c44 :: c45 :: c46 :: c47 :: c48 :: c49 :: c50 :: c51 :: c52 :: c53 :: c54 :: c55 :: c56 :: c57 :: c58 :: c59 :: c60 :: c61 :: c62 :: c63 :: c64 :: c65 :: c66 :: c67 :: c68 :: c69 :: c70 :: c71 :: c72 :: c73 :: c74 :: c75 :: c76 :: c77 :: c78 :: c79 :: c80 :: c81 :: c82 :: c83 :: c84 :: c85 :: c86 :: c87 :: c88 :: c89 :: c90 :: c91 :: c92 :: c93 :: c94 :: c95 :: c96 :: c97 :: c98 :: c99 :: c100 :: c101 :: c102 :: c103 :: c104 :: c105 :: c106 :: c107 :: c108 :: c109 :: c110 :: c111 :: c112 :: c113 :: c114 :: c115 :: c116 :: c117 :: c118 :: c119 :: c120 :: c121 :: c122 :: c123 :: c124 :: c125 :: c126 :: c127 :: c128 :: c129 :: c130 :: c131 :: c132 :: c133 :: c134 :: c135 :: c136 :: c137 :: c138 :: c139 :: c140 :: c141 :: c142 :: c143 :: c144 :: c145 :: c146 :: c147 :: c148 :: c149 :: c150 :: c151 :: c152 :: c153 :: c154 :: c155 :: c156 :: c157 :: c158 :: c159 :: c160 :: c161 :: c162 :: c163 :: c164 :: c165 :: c166 :: c167 :: c168 :: c169 :: c170 :: c171 :: c172 :: c173 :: c174 :: c175 :: c176 :: c177 :: c178 :: c179 :: c180 :: c181 :: c182 :: c183 :: c184 :: c185 :: c186 :: c187 :: c188 :: c189 :: c190 :: c191 :: c192 :: c193 :: c194 :: c195 :: c196 :: c197 :: c198 :: c199 :: c200 :: c201 :: c202 :: c203 :: c204 :: c205 :: c206 :: c207 :: c208 :: c209 :: c210 :: c211 :: c212 :: c213 :: c214 :: c215 :: c216 :: c217 :: c218 :: c219 :: c220 :: c221 :: c222 :: c223 :: c224 :: c225 :: c226 :: c227 :: c228 :: c229 :: c230 :: c231 :: c232 :: c233 :: c234 :: c235 :: c236 :: c237 :: c238 :: c239 :: c240 :: c241 :: c242 :: c243 :: c244 :: c245 :: c246 :: c247 :: []), []⟩ wr := by
  have HKK := Lib.hid hK
  clear hK
  have HS := Lib.hid hst
  have HDJ := Lib.hid hdj
  have p0 := (HS.out.below.cell (p := ⟨bb, off + j * 3, none⟩) hbb).trans hw0
  have HP1 := Lib.hid ((HS.out.below.cell (p := ⟨bb, off + j * 3 + 1, none⟩) hbb).trans hw1)
  have HP2 := Lib.hid ((HS.out.below.cell (p := ⟨bb, off + j * 3 + 2, none⟩) hbb).trans hw2)
  have HBW := Lib.hid hbb
  have HW1 := Lib.hid hw1
  have HW2 := Lib.hid hw2
  have HBB : Hid (bb < wr.heap.size) := Lib.hid (Nat.lt_of_lt_of_le hbb HS.out.below.size)
  have i0 : (0 : Int) ≤ (j : Int) := by omega
  have i1 : (j : Int) < (n : Int) := by omega
  clear hst hdj hw0 hw1 hw2 hbb
  conv => arg 2; whnf
  rcases hkd with rfl | rfl | rfl
  · have HSt := Lib.hid (HS.out.swap)
    generalize wr = wt at *
    go_wp2_with fail
    exact HKK.out 0 B H D A G C Q M R L hs zs _ _ _ _ _ _ _ _ _ _ _ _ _ _ _ _ _ _ _ _ _ _ _ _ _ _ _ _ _ _ _ _ _ _ _ _ _ _ _ _ _ _ _ _ _ _ _ _ _ _ _ _ _ _ _ _ _ _ _ _ _ _ _ _ _ _ _ _ _ _ _ _ _ _ _ _ _ _ _ _ _ _ _ _ _ _ _ _ _ _ _ _ _ _ _ _ _ _ _ _ _ _ _ _ _ _ _ _ _ _ _ _ _ _ _ _ _ _ _ _ _ _ _ _ _ _ _ _ _ _ _ _ _ _ _ _ _ _ _ _ _ HSt.out
  · have PC := Lib.hid (excopy wr B H D b r d m s i K' hs HS.out.fb)
    go_wp2_with fail
    with_reducible refine PC.out.mono ?_
    rintro e w7 ⟨A', G', C', rfl, hA', hG', hC', ha, hb⟩
    have HS7 := Lib.hid (HS.out.newA hb ha hC')
    clear ha hb hA' hG' hC' PC
    have PC := Lib.hid (rxcopy w7 Q M b r d m s i hs HS7.out.fq (by have := HS7.out.lq; omega))
    go_wp2_with fail
    with_reducible refine PC.out.mono ?_
    rintro e w8 ⟨R', L', rfl, hR', hL', hra, hb⟩
    have HSt := Lib.hid (HS7.out.newR hb hra HS7.out.lq hR' hL')
    clear hra hb hR' hL' PC
    generalize w8 = wt at *
    go_wp2_with fail
    exact HKK.out 0 A' G' C' B H D R' L' Q M hs hs _ _ _ _ _ _ _ _ _ _ _ _ _ _ _ _ _ _ _ _ _ _ _ _ _ _ _ _ _ _ _ _ _ _ _ _ _ _ _ _ _ _ _ _ _ _ _ _ _ _ _ _ _ _ _ _ _ _ _ _ _ _ _ _ _ _ _ _ _ _ _ _ _ _ _ _ _ _ _ _ _ _ _ _ _ _ _ _ _ _ _ _ _ _ _ _ _ _ _ _ _ _ _ _ _ _ _ _ _ _ _ _ _ _ _ _ _ _ _ _ _ _ _ _ _ _ _ _ _ _ _ _ _ _ _ _ _ _ _ _ _ HSt.out
  · have PC := Lib.hid (excells wr A G C b r d m s i K' zs HS.out.fa)
    go_wp2_with fail
    with_reducible refine PC.out.mono ?_
    rintro e w7 ⟨va, rfl, hown, hne, hb⟩
    have HS7 := Lib.hid (HS.out.kept hb)
    have HVA := Lib.hid (IntsAt.of_own hown rfl)
    have HVB : Hid (va.ownBlock ≠ some D) := Lib.hid (fun e => by have := (hown.lt D e).1; have := HS.out.fb.2.ltC; omega)
    clear hown hne hb PC
    have PL := Lib.hid (exload_yes w7 B H D b r d m s i K' hs zs va HS7.out.fb HVA.out HS7.out.lr HS7.out.fa.2.fit HVB.out)
    go_wp2_with fail
    with_reducible refine PL.out.mono ?_
    rintro e w8 ⟨rfl, ha, hgr⟩
    have HS8 := Lib.hid (HS7.out.chgB hgr ha)
    clear ha hgr PL HVA HVB
    have PC := Lib.hid (rxcopy w8 R L b r d m s i zs HS8.out.fr (by have := HS8.out.lr; omega))
    go_wp2_with fail
    with_reducible refine PC.out.mono ?_
    rintro e w9 ⟨Q', M', rfl, hR', hL', hra, hb⟩
    have HSt := Lib.hid (HS8.out.newQ hb hra HS8.out.lr hR' hL')
    clear hra hb hR' hL' PC
    generalize w9 = wt at *
    go_wp2_with fail
    exact HKK.out 0 A G C B H D R L Q' M' zs zs _ _ _ _ _ _ _ _ _ _ _ _ _ _ _ _ _ _ _ _ _ _ _ _ _ _ _ _ _ _ _ _ _ _ _ _ _ _ _ _ _ _ _ _ _ _ _ _ _ _ _ _ _ _ _ _ _ _ _ _ _ _ _ _ _ _ _ _ _ _ _ _ _ _ _ _ _ _ _ _ _ _ _ _ _ _ _ _ _ _ _ _ _ _ _ _ _ _ _ _ _ _ _ _ _ _ _ _ _ _ _ _ _ _ _ _ _ _ _ _ _ _ _ _ _ _ _ _ _ _ _ _ _ _ _ _ _ _ _ _ _ HSt.out

set_option maxRecDepth 1000000 in
set_option maxHeartbeats 32000000 in
theorem sw_other (w wr : World) (P A G C B H D R L Q M : Nat) (b r d m s i : Int) (K' : Nat) (zs hs : List Int) (n cap bb off j ke : Nat) (kd dj : Int)
    (hst : St w wr P A G C B H D R L Q M b r d m s i K' zs hs zs hs) (hbb : bb < w.heap.size) (hw0 : w.cell? ⟨bb, off + j * 3, none⟩ = some (.int .i64 kd)) (hw1 : w.cell? ⟨bb, off + j * 3 + 1, none⟩ = some (.int .u64 (ke : Int))) (hw2 : w.cell? ⟨bb, off + j * 3 + 2, none⟩ = some (.int .i64 dj))
    (hdj : In64 dj ∧ ke < 18446744073709551616) (hjn : j < n) (hmx : n ≤ maxLen) (hK1 : K' ≤ 128) (hkd : kd ≠ 1 ∧ kd ≠ 2 ∧ kd ≠ 3 ∧ kd ≠ 4 ∧ kd ≠ 5 ∧ kd ≠ 6)
    (c0 c1 c3 c4 c5 c6 c7 c8 c10 c12 c18 c19 c20 c21 c22 c23 c24 c25 c26 c27 c28 c29 c30 c31 c32 c33 c34 c35 c36 c37 c38 c39 c40 c41 c42 c43 c44 c45 c46 c47 c48 c49 c50 c51 c52 c53 c54 c55 c56 c57 c58 c59 c60 c61 c62 c63 c64 c65 c66 c67 c68 c69 c70 c71 c72 c73 c74 c75 c76 c77 c78 c79 c80 c81 c82 c83 c84 c85 c86 c87 c88 c89 c90 c91 c92 c93 c94 c95 c96 c97 c98 c99 c100 c101 c102 c103 c104 c105 c106 c107 c108 c109 c110 c111 c112 c113 c114 c115 c116 c117 c118 c119 c120 c121 c122 c123 c124 c125 c126 c127 c128 c129 c130 c131 c132 c133 c134 c135 c136 c137 c138 c139 c140 c141 c142 c143 c144 c145 c146 c147 c148 c149 c150 c151 c152 c153 c154 c155 c156 c157 c158 c159 c160 c161 c162 c163 c164 c165 c166 c167 c168 c169 c170 c171 c172 c173 c174 c175 c176 c177 c178 c179 c180 c181 c182 c183 c184 c185 c186 c187 c188 c189 c190 c191 c192 c193 c194 c195 c196 c197 c198 c199 c200 c201 c202 c203 c204 c205 c206 c207 c208 c209 c210 c211 c212 c213 c214 c215 c216 c217 c218 c219 c220 c221 c222 c223 c224 c225 c226 c227 c228 c229 c230 c231 c232 c233 c234 c235 c236 c237 c238 c239 c240 c241 c242 c243 c244 c245 c246 c247 : Value) (KK K1 K2 K3 : Act → World → Prop) (RR : Ending → World → Prop)
    (hK : ∀ (er : Int) (A G C B H D R L Q M : Nat) (zs hs : List Int) (u18 u19 u20 u21 u22 u23 u24 u25 u26 u81 u82 u83 u84 u85 u86 u87 u88 u89 u90 u91 u92 u93 u94 u95 u96 u97 u98 u99 u100 u101 u102 u103 u104 u105 u106 u107 u108 u109 u110 u111 u112 u113 u114 u115 u116 u117 u118 u119 u120 u121 u122 u123 u124 u125 u126 u127 u128 u129 u130 u131 u132 u133 u134 u135 u136 u137 u138 u139 u140 u141 u142 u143 u144 u145 u146 u147 u148 u149 u150 u151 u152 u153 u154 u155 u156 u157 u158 u159 u160 u161 u162 u163 u164 u165 u166 u167 u168 u169 u170 u171 u172 u173 u174 u175 u176 u177 u178 u179 u180 u181 u182 u183 u184 u185 u186 u187 u188 u189 u190 u191 u192 u193 u194 u195 u196 u197 u198 u199 u200 u201 u202 u203 u204 u205 u206 u207 u208 u209 u210 u211 : Value) (wt : World), St w wt P A G C B H D R L Q M b r d m s i K' zs hs zs hs → KK ⟨List.toArray (c0 :: c1 :: (.slice (some ⟨bb, off, none⟩) n cap) :: c3 :: c4 :: c5 :: c6 :: c7 :: c8 :: (.pointer (some ⟨A, 0, none⟩)) :: c10 :: (.pointer (some ⟨B, 0, none⟩)) :: c12 :: (.pointer (some ⟨R, 0, none⟩)) :: (.pointer (some ⟨Q, 0, none⟩)) :: (.int .i64 (j : Int)) :: (.int .i64 er) :: (.int .i64 er) :: u18 :: u19 :: u20 :: u21 :: u22 :: u23 :: u24 :: u25 :: u26 :: c27 :: c28 :: c29 :: c30 :: c31 :: c32 :: c33 :: c34 :: c35 :: c36 :: c37 :: c38 :: c39 :: c40 :: c41 :: c42 :: c43 :: c44 :: c45 :: c46 :: c47 :: c48 :: c49 :: c50 :: c51 :: c52 :: c53 :: c54 :: c55 :: c56 :: c57 :: c58 :: c59 :: c60 :: c61 :: c62 :: c63 :: c64 :: c65 :: c66 :: c67 :: c68 :: c69 :: c70 :: c71 :: c72 :: c73 :: c74 :: c75 :: c76 :: c77 :: c78 :: c79 :: c80 :: u81 :: u82 :: u83 :: u84 :: u85 :: u86 :: u87 :: u88 :: u89 :: u90 :: u91 :: u92 :: u93 :: u94 :: u95 :: u96 :: u97 :: u98 :: u99 :: u100 :: u101 :: u102 :: u103 :: u104 :: u105 :: u106 :: u107 :: u108 :: u109 :: u110 :: u111 :: u112 :: u113 :: u114 :: u115 :: u116 :: u117 :: u118 :: u119 :: u120 :: u121 :: u122 :: u123 :: u124 :: u125 :: u126 :: u127 :: u128 :: u129 :: u130 :: u131 :: u132 :: u133 :: u134 :: u135 :: u136 :: u137 :: u138 :: u139 :: u140 :: u141 :: u142 :: u143 :: u144 :: u145 :: u146 :: u147 :: u148 :: u149 :: u150 :: u151 :: u152 :: u153 :: u154 :: u155 :: u156 :: u157 :: u158 :: u159 :: u160 :: u161 :: u162 :: u163 :: u164 :: u165 :: u166 :: u167 :: u168 :: u169 :: u170 :: u171 :: u172 :: u173 :: u174 :: u175 :: u176 :: u177 :: u178 :: u179 :: u180 :: u181 :: u182 :: u183 :: u184 :: u185 :: u186 :: u187 :: u188 :: u189 :: u190 :: u191 :: u192 :: u193 :: u194 :: u195 :: u196 :: u197 :: u198 :: u199 :: u200 :: u201 :: u202 :: u203 :: u204 :: u205 :: u206 :: u207 :: u208 :: u209 :: u210 :: u211 :: c212 :: c213 :: c214 :: c215 :: c216 :: c217 :: c218 :: c219 :: c220 :: c221 :: c222 :: c223 :: c224 :: c225 :: c226 :: c227 :: c228 :: c229 :: c230 :: c231 :: c232 :: c233 :: c234 :: c235 :: c236 :: c237 :: c238 :: c239 :: c240 :: c241 :: c242 :: c243 :: c244 :: c245 :: c246 :: c247 :: []), []⟩ wt) :
    Code.wp Try.prog swC (Exit.then KK (Exit.inBlock 1 (Exit.then K1 (Exit.then K2 (Exit.inBlock 0 (Exit.then K3 (bodyPost Try.prog Try.f7 RR))))))) ⟨List.toArray (c0 :: c1 :: (.slice (some ⟨bb, off, none⟩) n cap) :: c3 :: c4 :: c5 :: c6 :: c7 :: c8 :: (.pointer (some ⟨A, 0, none⟩)) :: c10 :: (.pointer (some ⟨B, 0, none⟩)) :: c12 :: (.pointer (some ⟨R, 0, none⟩)) :: (.pointer (some ⟨Q, 0, none⟩)) :: (.int .i64 (j : Int)) :: (.int .i64 0) :: (.int .i64 0) :: c18 :: c19 :: c20 :: c21 :: c22 :: c23 :: c24 :: c25 :: c26 :: c27 :: c28 :: c29 :: c30 :: c31 :: c32 :: c33 :: c34 :: c35 :: c36 :: c37 :: c38 :: c39 :: c40 :: c41 :: c42 :: c43 :: c44 :: c45 :: c46 :: c47 :: c48 :: c49 :: c50 :: c51 :: c52 :: c53 :: c54 :: c55 :: c56 :: c57 :: c58 :: c59 :: c60 :: c61 :: c62 :: c63 :: c64 :: c65 :: c66 :: c67 :: c68 :: c69 :: c70 :: c71 :: c72 :: c73 :: c74 :: c75 :: c76 :: c77 :: c78 :: c79 :: c80 :: c81 :: c82 :: c83 :: c84 :: c85 :: c86 :: c87 :: c88 :: c89 :: c90 :: c91 :: c92 :: c93 :: c94 :: c95 :: c96 :: c97 :: c98 :: c99 :: c100 :: c101 :: c102 :: c103 :: c104 :: c105 :: c106 :: c107 :: c108 :: c109 :: c110 :: c111 :: c112 :: c113 :: c114 :: c115 :: c116 :: c117 :: c118 :: c119 :: c120 :: c121 :: c122 :: c123 :: c124 :: c125 :: c126 :: c127 :: c128 :: c129 :: c130 :: c131 :: c132 :: c133 :: c134 :: c135 :: c136 :: c137 :: c138 :: c139 :: c140 :: c141 :: c142 :: c143 :: c144 :: c145 :: c146 :: c147 :: c148 :: c149 :: c150 :: c151 :: c152 :: c153 :: c154 :: c155 :: c156 :: c157 :: c158 :: c159 :: c160 :: c161 :: c162 :: c163 :: c164 :: c165 :: c166 :: c167 :: c168 :: c169 :: c170 :: c171 :: c172 :: c173 :: c174 :: c175 :: c176 :: c177 :: c178 :: c179 :: c180 :: c181 :: c182 :: c183 :: c184 :: c185 :: c186 :: c187 :: c188 :: c189 :: c190 :: c191 :: c192 :: c193 :: c194 :: c195 :: c196 :: c197 :: c198 :: c199 :: c200 :: c201 :: c202 :: c203 :: c204 :: c205 :: c206 :: c207 :: c208 :: c209 :: c210 :: c211 :: c212 :: c213 :: c214 :: c215 :: c216 :: c217 :: c218 :: c219 :: c220 :: c221 :: c222 :: c223 :: c224 :: c225 :: c226 :: c227 :: c228 :: c229 :: c230 :: c231 :: c232 :: c233 :: c234 :: c235 :: c236 :: c237 :: c238 :: c239 :: c240 :: c241 :: c242 :: c243 :: c244 :: c245 :: c246 :: c247 :: []), []⟩ wr := by
  have HKK := Lib.hid hK
  clear hK
  have HS := Lib.hid hst
  have HDJ := Lib.hid hdj
  have p0 := (HS.out.below.cell (p := ⟨bb, off + j * 3, none⟩) hbb).trans hw0
  have HP1 := Lib.hid ((HS.out.below.cell (p := ⟨bb, off + j * 3 + 1, none⟩) hbb).trans hw1)
  have HP2 := Lib.hid ((HS.out.below.cell (p := ⟨bb, off + j * 3 + 2, none⟩) hbb).trans hw2)
  have HBW := Lib.hid hbb
  have HW1 := Lib.hid hw1
  have HW2 := Lib.hid hw2
  have HBB : Hid (bb < wr.heap.size) := Lib.hid (Nat.lt_of_lt_of_le hbb HS.out.below.size)
  have i0 : (0 : Int) ≤ (j : Int) := by omega
  have i1 : (j : Int) < (n : Int) := by omega
  clear hst hdj hw0 hw1 hw2 hbb
  conv => arg 2; whnf
  have na1 : (kd == 1) = false := by have := hkd; simp; omega
  have nb1 : decide (kd = 1) = false := by have := hkd; simp; omega
  have na2 : (kd == 2) = false := by have := hkd; simp; omega
  have nb2 : decide (kd = 2) = false := by have := hkd; simp; omega
  have na3 : (kd == 3) = false := by have := hkd; simp; omega
  have nb3 : decide (kd = 3) = false := by have := hkd; simp; omega
  have na4 : (kd == 4) = false := by have := hkd; simp; omega
  have nb4 : decide (kd = 4) = false := by have := hkd; simp; omega
  have na5 : (kd == 5) = false := by have := hkd; simp; omega
  have nb5 : decide (kd = 5) = false := by have := hkd; simp; omega
  have na6 : (kd == 6) = false := by have := hkd; simp; omega
  have nb6 : decide (kd = 6) = false := by have := hkd; simp; omega
  clear hkd
  have HFZ : Hid (Fit zs ∧ zs.length = K') := Lib.hid ⟨HS.out.fa.2.fit, HS.out.lr⟩
  have HCB : Hid (w.heap.size ≤ C ∧ w.heap.size ≤ L) := Lib.hid ⟨HS.out.lo.1.1, HS.out.lo.2.1.1⟩
  obtain ⟨ck, hck⟩ : ∃ ck, ck = chkI K' m zs ke dj := ⟨_, rfl⟩
  obtain ⟨uz, huz⟩ : ∃ uz, uz = updZ K' m zs ke dj := ⟨_, rfl⟩
  have HCK := Lib.hid hck
  have HUZ := Lib.hid huz
  have HUL : Hid (uz.length = K') := Lib.hid (by rw [huz]; unfold updZ; split <;> simp [HS.out.lr])
  have PU := exupdate (wr.drewN 1) A G C b r d m s i K' ke zs dj (HS.out.fa.drewN 1) HDJ.out.1 HDJ.out.2
  unfold UpdPost at PU
  rw [← hck, ← huz] at PU
  have PU := Lib.hid PU
  clear hck huz
  go_wp2_with fail
  refine wp_region_held_drew (S := fun w' => Below w.heap.size w w') (by kernel_rfl) (by exact below_drewN HS.out.below 1) (fun hHeld => ?_)
  refine wpAnyH_take (i := 0) (v := ?_) rfl (by kernel_rfl) (by kernel_rfl) (by kernel_rfl) (fun _ _ _ h => h) (Or.inl ⟨by rfl, ?_⟩) (by assumption) ?_
  rotate_left
  · intro w hSw
    try dsimp only at hSw
    go_simp
    try with_reducible rfl
  simp only [Act.put, List.setIfInBounds_toArray, List.set_cons_zero, List.set_cons_succ, List.getElem_toArray, List.getElem_cons_zero, List.getElem_cons_succ]
  refine wpAnyH_take (i := 1) (v := ?_) rfl (by kernel_rfl) (by kernel_rfl) (by kernel_rfl) (fun _ _ _ h => h) (Or.inl ⟨by rfl, ?_⟩) (by assumption) ?_
  rotate_left
  · intro w hSw
    try dsimp only at hSw
    go_simp
    try with_reducible rfl
  simp only [Act.put, List.setIfInBounds_toArray, List.set_cons_zero, List.set_cons_succ, List.getElem_toArray, List.getElem_cons_zero, List.getElem_cons_succ]
  refine wpAnyH_take (i := 2) (v := ?_) rfl (by kernel_rfl) (by kernel_rfl) (by kernel_rfl) (fun _ _ _ h => h) (Or.inl ⟨by rfl, ?_⟩) (by assumption) ?_
  rotate_left
  · intro w hSw
    try dsimp only at hSw
    go_simp
    try with_reducible rfl
  simp only [Act.put, List.setIfInBounds_toArray, List.set_cons_zero, List.set_cons_succ, List.getElem_toArray, List.getElem_cons_zero, List.getElem_cons_succ]
  refine wpAnyH_take (i := 3) (v := ?_) rfl (by kernel_rfl) (by kernel_rfl) (by kernel_rfl) (fun _ _ _ h => h) (Or.inl ⟨by rfl, ?_⟩) (by assumption) ?_
  rotate_left
  · intro w hSw
    try dsimp only at hSw
    go_simp
    try with_reducible rfl
  simp only [Act.put, List.setIfInBounds_toArray, List.set_cons_zero, List.set_cons_succ, List.getElem_toArray, List.getElem_cons_zero, List.getElem_cons_succ]
  refine wpAnyH_take (i := 4) (v := ?_) rfl (by kernel_rfl) (by kernel_rfl) (by kernel_rfl) (fun _ _ _ h => h) (Or.inl ⟨by rfl, ?_⟩) (by assumption) ?_
  rotate_left
  · intro w hSw
    try dsimp only at hSw
    go_simp
    try with_reducible rfl
  simp only [Act.put, List.setIfInBounds_toArray, List.set_cons_zero, List.set_cons_succ, List.getElem_toArray, List.getElem_cons_zero, List.getElem_cons_succ]
  refine wpAnyH_take (i := 5) (v := ?_) rfl (by kernel_rfl) (by kernel_rfl) (by kernel_rfl) (fun _ _ _ h => h) (Or.inl ⟨by rfl, ?_⟩) (by assumption) ?_
  rotate_left
  · intro w hSw
    have p1 := (hSw.cell (p := ⟨bb, off + j * 3 + 1, none⟩) HBW.out).trans HW1.out
    have p2 := (hSw.cell (p := ⟨bb, off + j * 3 + 2, none⟩) HBW.out).trans HW2.out
    go_simp
    try with_reducible rfl
  simp only [Act.put, List.setIfInBounds_toArray, List.set_cons_zero, List.set_cons_succ, List.getElem_toArray, List.getElem_cons_zero, List.getElem_cons_succ]
  refine wpAnyH_take (i := 6) (v := ?_) rfl (by kernel_rfl) (by kernel_rfl) (by kernel_rfl) (fun _ _ _ h => h) (Or.inl ⟨by rfl, ?_⟩) (by assumption) ?_
  rotate_left
  · intro w hSw
    try dsimp only at hSw
    go_simp
    try with_reducible rfl
  simp only [Act.put, List.setIfInBounds_toArray, List.set_cons_zero, List.set_cons_succ, List.getElem_toArray, List.getElem_cons_zero, List.getElem_cons_succ]
  refine wpAnyH_take (i := 7) (v := ?_) rfl (by kernel_rfl) (by kernel_rfl) (by kernel_rfl) (fun _ _ _ h => h) (Or.inl ⟨by rfl, ?_⟩) (by assumption) ?_
  rotate_left
  · intro w hSw
    try dsimp only at hSw
    go_simp
    try with_reducible rfl
  simp only [Act.put, List.setIfInBounds_toArray, List.set_cons_zero, List.set_cons_succ, List.getElem_toArray, List.getElem_cons_zero, List.getElem_cons_succ]
  refine wpAnyH_take (i := 8) (v := ?_) rfl (by kernel_rfl) (by kernel_rfl) (by kernel_rfl) (fun _ _ _ h => h) (Or.inl ⟨by rfl, ?_⟩) (by assumption) ?_
  rotate_left
  · intro w hSw
    try dsimp only at hSw
    go_simp
    try with_reducible rfl
  simp only [Act.put, List.setIfInBounds_toArray, List.set_cons_zero, List.set_cons_succ, List.getElem_toArray, List.getElem_cons_zero, List.getElem_cons_succ]
  refine wpAnyH_take (i := 9) (v := ?_) rfl (by kernel_rfl) (by kernel_rfl) (by kernel_rfl) (fun _ _ _ h => h) (Or.inl ⟨by rfl, ?_⟩) (by assumption) ?_
  rotate_left
  · intro w hSw
    try dsimp only at hSw
    go_simp
    try with_reducible rfl
  simp only [Act.put, List.setIfInBounds_toArray, List.set_cons_zero, List.set_cons_succ, List.getElem_toArray, List.getElem_cons_zero, List.getElem_cons_succ]
  refine wpAnyH_take (i := 10) (v := ?_) rfl (by kernel_rfl) (by kernel_rfl) (by kernel_rfl) (fun _ _ _ h => h) (Or.inl ⟨by rfl, ?_⟩) (by assumption) ?_
  rotate_left
  · intro w hSw
    have p1 := (hSw.cell (p := ⟨bb, off + j * 3 + 1, none⟩) HBW.out).trans HW1.out
    have p2 := (hSw.cell (p := ⟨bb, off + j * 3 + 2, none⟩) HBW.out).trans HW2.out
    go_simp
    try with_reducible rfl
  simp only [Act.put, List.setIfInBounds_toArray, List.set_cons_zero, List.set_cons_succ, List.getElem_toArray, List.getElem_cons_zero, List.getElem_cons_succ]
  refine wpAnyH_ready (rs := [11]) (by kernel_rfl) (by simp) ?_
  refine AllReadyH.cons rfl (fun Kc hKc => ?_) AllReadyH.nil
  go_simp
  go_wp2_with ((go_at_call 17; refine PU.out.mono ?_; rintro e w7 ⟨rfl, ha7, hgr7⟩; have HA7 := Lib.hid ha7; have HGR7 := Lib.hid hgr7; clear ha7 hgr7))
  refine hKc.out _ _ ?_ (fun hHeld => ?_)
  · exact hHeld.grown HGR7.out hHeld.size (fun k e => by have := Option.some.inj e; have := HCB.out; omega)
  clear hKc Kc
  refine wpAnyH_take (i := 12) (v := ?_) rfl (by kernel_rfl) (by kernel_rfl) (by kernel_rfl) (fun _ _ _ h => h) (Or.inl ⟨by rfl, ?_⟩) (by assumption) ?_
  rotate_left
  · intro w hSw
    try dsimp only at hSw
    go_simp
    try with_reducible rfl
  simp only [Act.put, List.setIfInBounds_toArray, List.set_cons_zero, List.set_cons_succ, List.getElem_toArray, List.getElem_cons_zero, List.getElem_cons_succ]
  refine wpAnyH_done (by kernel_rfl) ?_ _
  have HS7 := Lib.hid ((HS.out.kept (below_drewN (Below.refl _ _) 1)).chgA HGR7.out HA7.out)
  have PR := rxupdate (w7.drewN 1) R L b r d m s i ke zs dj (HS7.out.fr.kept (below_drewN (Below.refl _ _) 1)) (by have := HFZ.out.2; omega) HFZ.out.1 HDJ.out.1 HDJ.out.2
  unfold RUpPost at PR
  rw [HFZ.out.2, ← HCK.out, ← HUZ.out] at PR
  have PR := Lib.hid PR
  clear hHeld PU HA7 HGR7
  go_wp2_with fail
  refine wp_region_held_drew (S := fun w' => Below w.heap.size w w') (by kernel_rfl) (by exact below_drewN HS7.out.below 1) (fun hHeld => ?_)
  refine wpAnyH_take (i := 0) (v := ?_) rfl (by kernel_rfl) (by kernel_rfl) (by kernel_rfl) (fun _ _ _ h => h) (Or.inl ⟨by rfl, ?_⟩) (by assumption) ?_
  rotate_left
  · intro w hSw
    try dsimp only at hSw
    go_simp
    try with_reducible rfl
  simp only [Act.put, List.setIfInBounds_toArray, List.set_cons_zero, List.set_cons_succ, List.getElem_toArray, List.getElem_cons_zero, List.getElem_cons_succ]
  refine wpAnyH_take (i := 1) (v := ?_) rfl (by kernel_rfl) (by kernel_rfl) (by kernel_rfl) (fun _ _ _ h => h) (Or.inl ⟨by rfl, ?_⟩) (by assumption) ?_
  rotate_left
  · intro w hSw
    try dsimp only at hSw
    go_simp
    try with_reducible rfl
  simp only [Act.put, List.setIfInBounds_toArray, List.set_cons_zero, List.set_cons_succ, List.getElem_toArray, List.getElem_cons_zero, List.getElem_cons_succ]
  refine wpAnyH_take (i := 2) (v := ?_) rfl (by kernel_rfl) (by kernel_rfl) (by kernel_rfl) (fun _ _ _ h => h) (Or.inl ⟨by rfl, ?_⟩) (by assumption) ?_
  rotate_left
  · intro w hSw
    try dsimp only at hSw
    go_simp
    try with_reducible rfl
  simp only [Act.put, List.setIfInBounds_toArray, List.set_cons_zero, List.set_cons_succ, List.getElem_toArray, List.getElem_cons_zero, List.getElem_cons_succ]
  refine wpAnyH_take (i := 3) (v := ?_) rfl (by kernel_rfl) (by kernel_rfl) (by kernel_rfl) (fun _ _ _ h => h) (Or.inl ⟨by rfl, ?_⟩) (by assumption) ?_
  rotate_left
  · intro w hSw
    try dsimp only at hSw
    go_simp
    try with_reducible rfl
  simp only [Act.put, List.setIfInBounds_toArray, List.set_cons_zero, List.set_cons_succ, List.getElem_toArray, List.getElem_cons_zero, List.getElem_cons_succ]
  refine wpAnyH_take (i := 4) (v := ?_) rfl (by kernel_rfl) (by kernel_rfl) (by kernel_rfl) (fun _ _ _ h => h) (Or.inl ⟨by rfl, ?_⟩) (by assumption) ?_
  rotate_left
  · intro w hSw
    try dsimp only at hSw
    go_simp
    try with_reducible rfl
  simp only [Act.put, List.setIfInBounds_toArray, List.set_cons_zero, List.set_cons_succ, List.getElem_toArray, List.getElem_cons_zero, List.getElem_cons_succ]
  refine wpAnyH_take (i := 5) (v := ?_) rfl (by kernel_rfl) (by kernel_rfl) (by kernel_rfl) (fun _ _ _ h => h) (Or.inl ⟨by rfl, ?_⟩) (by assumption) ?_
  rotate_left
  · intro w hSw
    have p1 := (hSw.cell (p := ⟨bb, off + j * 3 + 1, none⟩) HBW.out).trans HW1.out
    have p2 := (hSw.cell (p := ⟨bb, off + j * 3 + 2, none⟩) HBW.out).trans HW2.out
    go_simp
    try with_reducible rfl
  simp only [Act.put, List.setIfInBounds_toArray, List.set_cons_zero, List.set_cons_succ, List.getElem_toArray, List.getElem_cons_zero, List.getElem_cons_succ]
  refine wpAnyH_take (i := 6) (v := ?_) rfl (by kernel_rfl) (by kernel_rfl) (by kernel_rfl) (fun _ _ _ h => h) (Or.inl ⟨by rfl, ?_⟩) (by assumption) ?_
  rotate_left
  · intro w hSw
    try dsimp only at hSw
    go_simp
    try with_reducible rfl
  simp only [Act.put, List.setIfInBounds_toArray, List.set_cons_zero, List.set_cons_succ, List.getElem_toArray, List.getElem_cons_zero, List.getElem_cons_succ]
  refine wpAnyH_take (i := 7) (v := ?_) rfl (by kernel_rfl) (by kernel_rfl) (by kernel_rfl) (fun _ _ _ h => h) (Or.inl ⟨by rfl, ?_⟩) (by assumption) ?_
  rotate_left
  · intro w hSw
    try dsimp only at hSw
    go_simp
    try with_reducible rfl
  simp only [Act.put, List.setIfInBounds_toArray, List.set_cons_zero, List.set_cons_succ, List.getElem_toArray, List.getElem_cons_zero, List.getElem_cons_succ]
  refine wpAnyH_take (i := 8) (v := ?_) rfl (by kernel_rfl) (by kernel_rfl) (by kernel_rfl) (fun _ _ _ h => h) (Or.inl ⟨by rfl, ?_⟩) (by assumption) ?_
  rotate_left
  · intro w hSw
    try dsimp only at hSw
    go_simp
    try with_reducible rfl
  simp only [Act.put, List.setIfInBounds_toArray, List.set_cons_zero, List.set_cons_succ, List.getElem_toArray, List.getElem_cons_zero, List.getElem_cons_succ]
  refine wpAnyH_take (i := 9) (v := ?_) rfl (by kernel_rfl) (by kernel_rfl) (by kernel_rfl) (fun _ _ _ h => h) (Or.inl ⟨by rfl, ?_⟩) (by assumption) ?_
  rotate_left
  · intro w hSw
    try dsimp only at hSw
    go_simp
    try with_reducible rfl
  simp only [Act.put, List.setIfInBounds_toArray, List.set_cons_zero, List.set_cons_succ, List.getElem_toArray, List.getElem_cons_zero, List.getElem_cons_succ]
  refine wpAnyH_take (i := 10) (v := ?_) rfl (by kernel_rfl) (by kernel_rfl) (by kernel_rfl) (fun _ _ _ h => h) (Or.inl ⟨by rfl, ?_⟩) (by assumption) ?_
  rotate_left
  · intro w hSw
    have p1 := (hSw.cell (p := ⟨bb, off + j * 3 + 1, none⟩) HBW.out).trans HW1.out
    have p2 := (hSw.cell (p := ⟨bb, off + j * 3 + 2, none⟩) HBW.out).trans HW2.out
    go_simp
    try with_reducible rfl
  simp only [Act.put, List.setIfInBounds_toArray, List.set_cons_zero, List.set_cons_succ, List.getElem_toArray, List.getElem_cons_zero, List.getElem_cons_succ]
  refine wpAnyH_ready (rs := [11]) (by kernel_rfl) (by simp) ?_
  refine AllReadyH.cons rfl (fun Kc hKc => ?_) AllReadyH.nil
  go_simp
  go_wp2_with ((go_at_call 27; refine PR.out.mono ?_; rintro e wt ⟨rfl, ha7, hgr7⟩; have HA7 := Lib.hid ha7; have HGR7 := Lib.hid hgr7; clear ha7 hgr7))
  refine hKc.out _ _ ?_ (fun hHeld => ?_)
  · exact hHeld.grown HGR7.out hHeld.size (fun k e => by have := Option.some.inj e; have := HCB.out; omega)
  clear hKc Kc
  refine wpAnyH_take (i := 12) (v := ?_) rfl (by kernel_rfl) (by kernel_rfl) (by kernel_rfl) (fun _ _ _ h => h) (Or.inl ⟨by rfl, ?_⟩) (by assumption) ?_
  rotate_left
  · intro w hSw
    try dsimp only at hSw
    go_simp
    try with_reducible rfl
  simp only [Act.put, List.setIfInBounds_toArray, List.set_cons_zero, List.set_cons_succ, List.getElem_toArray, List.getElem_cons_zero, List.getElem_cons_succ]
  refine wpAnyH_done (by kernel_rfl) ?_ _
  have HSt := Lib.hid ((HS7.out.kept (below_drewN (Below.refl _ _) 1)).chgL HGR7.out HA7.out HUL.out)
  clear hHeld PR HA7 HGR7
  go_wp2_with fail
  exact HKK.out ck A G C B H D R L Q M uz hs _ _ _ _ _ _ _ _ _ _ _ _ _ _ _ _ _ _ _ _ _ _ _ _ _ _ _ _ _ _ _ _ _ _ _ _ _ _ _ _ _ _ _ _ _ _ _ _ _ _ _ _ _ _ _ _ _ _ _ _ _ _ _ _ _ _ _ _ _ _ _ _ _ _ _ _ _ _ _ _ _ _ _ _ _ _ _ _ _ _ _ _ _ _ _ _ _ _ _ _ _ _ _ _ _ _ _ _ _ _ _ _ _ _ _ _ _ _ _ _ _ _ _ _ _ _ _ _ _ _ _ _ _ _ _ _ _ _ _ _ _ HSt.out

end Go.Proofs.Ytcfmipgdhhogcaa
