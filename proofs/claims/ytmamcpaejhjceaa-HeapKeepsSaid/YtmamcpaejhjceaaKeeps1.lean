/- HeapKeeps, the last part: what lies in the heap behind the collection. -/
import Derived.Test.YtmamcpaejhjceaaKeepsP
namespace Go.Proofs.Ytmamcpaejhjceaa.HP
open Go.MapKept Go.ChangeMaps Go.RowKit
theorem step4_16 : tail4 16 = (headSeq (tail4 16)).seq (tail4 17) := by kernel_rfl
set_option maxRecDepth 100000 in
theorem tail4_17 (w0 w : World) {u0 u1 u2 u3 u4 u5 u6 u7 u8 u9 u10 u11 u12 u13 u14 u15 u16 u17 u18 u19 u20 u21 u22 u23 u24 u25 u26 u27 u28 u29 u30 u31 u32 u33 u34 u35 u36 u37 u38 u39 u40 u41 u42 u43 u44 u45 u46 u47 u48 u49 u50 u51 u52 u53 u54 u55 u56 u57 u58 u59 u60 u61 u62 u63 u64 u65 u66 u67 u68 u69 u70 u71 u72 u73 u74 u75 u76 u77 u78 u79 u80 u81 u82 u83 u84 u85 u86 u87 u88 u89 u90 u91 u92 u93 u94 u95 u96 u97 u98 u99 u100 u101 u102 u103 u104 u105 u106 u107 u108 u109 u110 u111 u112 u113 u114 u115 u116 u117 u118 u119 u120 u121 u122 u123 u124 u125 u126 u127 u128 u129 u130 u131 u132 u133 u134 u135 u136 u137 u138 u139 u140 u141 u142 u143 u144 u145 u146 u147 u148 u149 u150 u151 u152 u153 u154 u155 u156 u157 u158 u159 u160 u161 u162 u163 u164 u165 u166 u167 u168 u169 u170 u171 u172 u173 u174 u175 u176 u177 u178 u179 u180 u181 u182 u183 u184 u185 u186 u187 u188 u189 u190 u191 u192 u193 u194 u195 u196 u197 u198 u199 u200 u201 u202 u203 u204 u205 u206 u207 u208 u209 u210 u211 u212 u213 u214 u215 u216 u217 u218 u219 u220 u221 u222 u223 u224 u225 u226 u227 u228 u229 u230 u231 u232 u233 u234 u235 u236 u237 u238 u239 u240 u241 u242 u243 u244 u245 u246 u247 u248 u249 u250 u251 u252 u253 u254 u255 u256 u257 u258 u259 u260 u261 u262 u263 u264 u265 u266 u267 u268 u269 u270 u271 u272 u273 u274 u275 u276 u277 u278 u279 u280 u281 u282 u283 u284 u285 u286 u287 u288 u289 u290 u291 u292 u293 u294 u295 u296 u297 u298 u299 u300 u301 u302 u303 u304 u305 u306 u307 u308 u309 u310 u311 u312 u313 u314 u315 u316 u317 u318 u319 u320 u321 u322 u323 u324 u325 u326 u327 u328 u329 u330 u331 u332 u333 u334 u335 u336 u337 u338 u339 u340 u341 u342 u343 u344 u345 u346 u347 : Value} (hb : Below w0.heap.size w0 w) : Code.wp Try.prog (tail4 17) (bodyPost Try.prog Try.f4 (KPost w0)) ⟨#[u0, u1, u2, u3, u4, u5, u6, u7, u8, u9, u10, u11, u12, u13, u14, u15, u16, u17, u18, u19, u20, u21, u22, u23, u24, u25, u26, u27, u28, u29, u30, u31, u32, u33, u34, u35, u36, u37, u38, u39, u40, u41, u42, u43, u44, u45, u46, u47, u48, u49, u50, u51, u52, u53, u54, u55, u56, u57, u58, u59, u60, u61, u62, u63, u64, u65, u66, u67, u68, u69, u70, u71, u72, u73, u74, u75, u76, u77, u78, u79, u80, u81, u82, u83, u84, u85, u86, u87, u88, u89, u90, u91, u92, u93, u94, u95, u96, u97, u98, u99, u100, u101, u102, u103, u104, u105, u106, u107, u108, u109, u110, u111, u112, u113, u114, u115, u116, u117, u118, u119, u120, u121, u122, u123, u124, u125, u126, u127, u128, u129, u130, u131, u132, u133, u134, u135, u136, u137, u138, u139, u140, u141, u142, u143, u144, u145, u146, u147, u148, u149, u150, u151, u152, u153, u154, u155, u156, u157, u158, u159, u160, u161, u162, u163, u164, u165, u166, u167, u168, u169, u170, u171, u172, u173, u174, u175, u176, u177, u178, u179, u180, u181, u182, u183, u184, u185, u186, u187, u188, u189, u190, u191, u192, u193, u194, u195, u196, u197, u198, u199, u200, u201, u202, u203, u204, u205, u206, u207, u208, u209, u210, u211, u212, u213, u214, u215, u216, u217, u218, u219, u220, u221, u222, u223, u224, u225, u226, u227, u228, u229, u230, u231, u232, u233, u234, u235, u236, u237, u238, u239, u240, u241, u242, u243, u244, u245, u246, u247, u248, u249, u250, u251, u252, u253, u254, u255, u256, u257, u258, u259, u260, u261, u262, u263, u264, u265, u266, u267, u268, u269, u270, u271, u272, u273, u274, u275, u276, u277, u278, u279, u280, u281, u282, u283, u284, u285, u286, u287, u288, u289, u290, u291, u292, u293, u294, u295, u296, u297, u298, u299, u300, u301, u302, u303, u304, u305, u306, u307, u308, u309, u310, u311, u312, u313, u314, u315, u316, u317, u318, u319, u320, u321, u322, u323, u324, u325, u326, u327, u328, u329, u330, u331, u332, u333, u334, u335, u336, u337, u338, u339, u340, u341, u342, u343, u344, u345, u346, u347], []⟩ w := by
  conv => arg 2; whnf
  go_wp2
  go_ret
  exact ⟨rfl, hb⟩
/-- each word that is marked belongs to an object that has been seen: all words of those ahead of x, k words of x -/
def Seen (l : List Rec) (u0 u1 : List Bool) (x k : Int) : Prop :=
  (∀ pos : Nat, u0[pos]? = some true → ∃ r ∈ l, r.words.length ≤ 16 ∧ r.place ≤ pos ∧ pos < r.place + r.words.length ∧ (r.x < x ∨ r.x = x ∧ pos < r.place + k)) ∧
  (∀ pos : Nat, u1[pos]? = some true → ∃ r ∈ l, ¬ r.words.length ≤ 16 ∧ r.place ≤ pos ∧ pos < r.place + r.words.length ∧ (r.x < x ∨ r.x = x ∧ pos < r.place + k))
theorem Seen.next {l : List Rec} {b0 b1 : List Bool} {x k : Int} (h : Seen l b0 b1 x k) : Seen l b0 b1 (x + 1) 0 :=
  ⟨fun pos hp => by obtain ⟨r, h1, h2, h3, h4, h5⟩ := h.1 pos hp; exact ⟨r, h1, h2, h3, h4, by omega⟩, fun pos hp => by obtain ⟨r, h1, h2, h3, h4, h5⟩ := h.2 pos hp; exact ⟨r, h1, h2, h3, h4, by omega⟩⟩
theorem Seen.mark0 {l : List Rec} {b0 b1 : List Bool} {q : Rec} {pl k : Nat} (h : Seen l b0 b1 q.x k) (hq : q ∈ l) (hpl : q.place = pl) (hs : q.words.length ≤ 16) (hk : k < q.words.length) : Seen l (b0.set (pl + k) true) b1 q.x ((k : Int) + 1) := by
  refine ⟨fun pos hp => ?_, fun pos hp => by obtain ⟨r, h1, h2, h3, h4, h5⟩ := h.2 pos hp; exact ⟨r, h1, h2, h3, h4, by omega⟩⟩
  by_cases e : pl + k = pos
  · exact ⟨q, hq, hs, by omega, by omega, .inr ⟨rfl, by omega⟩⟩
  · rw [List.getElem?_set_ne e] at hp
    obtain ⟨r, h1, h2, h3, h4, h5⟩ := h.1 pos hp; exact ⟨r, h1, h2, h3, h4, by omega⟩
theorem Seen.mark1 {l : List Rec} {b0 b1 : List Bool} {q : Rec} {pl k : Nat} (h : Seen l b0 b1 q.x k) (hq : q ∈ l) (hpl : q.place = pl) (hs : ¬ q.words.length ≤ 16) (hk : k < q.words.length) : Seen l b0 (b1.set (pl + k) true) q.x ((k : Int) + 1) := by
  refine ⟨fun pos hp => by obtain ⟨r, h1, h2, h3, h4, h5⟩ := h.1 pos hp; exact ⟨r, h1, h2, h3, h4, by omega⟩, fun pos hp => ?_⟩
  by_cases e : pl + k = pos
  · exact ⟨q, hq, hs, by omega, by omega, .inr ⟨rfl, by omega⟩⟩
  · rw [List.getElem?_set_ne e] at hp
    obtain ⟨r, h1, h2, h3, h4, h5⟩ := h.2 pos hp; exact ⟨r, h1, h2, h3, h4, by omega⟩
/-- what is not yet seen is not marked -/
theorem Seen.free0 {s : St} {b0 b1 : List Bool} {q : Rec} {pl k : Nat} (h : Seen s.recs b0 b1 q.x k) (L : Lay s) (F : Fits s) (hq : q ∈ s.recs) (hpl : q.place = pl) (hs : q.words.length ≤ 16) (hk : k < q.words.length) (hb : pl + k < b0.length) : b0[pl + k]? = some false := by
  obtain ⟨v, hv⟩ : ∃ v, b0[pl + k]? = some v := ⟨_, List.getElem?_eq_getElem hb⟩
  cases v
  · exact hv
  · obtain ⟨r, h1, h2, h3, h4, h5⟩ := h.1 _ hv
    exfalso
    by_cases e : r.x = q.x
    · have e1 : find s.recs r.x = some r := find_of_mem F.ne h1
      rw [e, find_of_mem F.ne hq] at e1
      obtain rfl := Option.some.inj e1
      omega
    · rcases L.two h1 hq e ⟨fun _ => hs, fun _ => h2⟩ with h6 | h6 <;> omega
theorem Seen.free1 {s : St} {b0 b1 : List Bool} {q : Rec} {pl k : Nat} (h : Seen s.recs b0 b1 q.x k) (L : Lay s) (F : Fits s) (hq : q ∈ s.recs) (hpl : q.place = pl) (hs : ¬ q.words.length ≤ 16) (hk : k < q.words.length) (hb : pl + k < b1.length) : b1[pl + k]? = some false := by
  obtain ⟨v, hv⟩ : ∃ v, b1[pl + k]? = some v := ⟨_, List.getElem?_eq_getElem hb⟩
  cases v
  · exact hv
  · obtain ⟨r, h1, h2, h3, h4, h5⟩ := h.2 _ hv
    exfalso
    by_cases e : r.x = q.x
    · have e1 : find s.recs r.x = some r := find_of_mem F.ne h1
      rw [e, find_of_mem F.ne hq] at e1
      obtain rfl := Option.some.inj e1
      omega
    · rcases L.two h1 hq e ⟨fun h => absurd h h2, fun h => absurd h hs⟩ with h6 | h6 <;> omega
theorem bcell {W w1 : World} (hb : Below W.heap.size W w1) : (∀ b o, b < W.heap.size → w1.cell? ⟨b, o, none⟩ = W.cell? ⟨b, o, none⟩) ∧ (∀ b o, b < W.heap.size → w1.frozen? ⟨b, o, none⟩ = W.frozen? ⟨b, o, none⟩) :=
  ⟨fun b o h => hb.cell (p := ⟨b, o, none⟩) h, fun b o h => hb.frozen (p := ⟨b, o, none⟩) h⟩
structure Marks (w : World) (UB U0 U1 : Nat) (u0 u1 : List Bool) : Prop where
  c0 : w.cell? ⟨UB, 0, none⟩ = some (.slice (some ⟨U0, 0, none⟩) 600 600)
  c1 : w.cell? ⟨UB, 1, none⟩ = some (.slice (some ⟨U1, 0, none⟩) 900 900)
  r0 : BRow w U0 u0
  r1 : BRow w U1 u1
  l0 : u0.length = 600
  l1 : u1.length = 900
  lt : UB < w.heap.size
theorem Marks.below {w W : World} {UB U0 U1 : Nat} {b0 b1 : List Bool} (h : Marks w UB U0 U1 b0 b1) (hB : Below w.heap.size w W) : Marks W UB U0 U1 b0 b1 :=
  ⟨by rw [hB.cell (p := ⟨UB, 0, none⟩) h.lt]; exact h.c0, by rw [hB.cell (p := ⟨UB, 1, none⟩) h.lt]; exact h.c1, Blk.of_block h.r0 (hB.block _ (Blk.lt h.r0)), Blk.of_block h.r1 (hB.block _ (Blk.lt h.r1)), h.l0, h.l1, Nat.lt_of_lt_of_le h.lt hB.size⟩
theorem Marks.put0 {w : World} {UB U0 U1 : Nat} {b0 b1 : List Bool} (h : Marks w UB U0 U1 b0 b1) (n1 : UB ≠ U0) (n2 : U0 ≠ U1) (k : Nat) : Marks (w.setCell ⟨U0, k, none⟩ (.bool true)) UB U0 U1 (b0.set k true) b1 :=
  ⟨by rw [World.cell?_of_block (Below.heap_setCell _ _ _ _ n1)]; exact h.c0, by rw [World.cell?_of_block (Below.heap_setCell _ _ _ _ n1)]; exact h.c1, h.r0.put k true, Blk.other h.r1 n2.symm _, by simp [h.l0], h.l1, by simp; exact h.lt⟩
theorem Marks.put1 {w : World} {UB U0 U1 : Nat} {b0 b1 : List Bool} (h : Marks w UB U0 U1 b0 b1) (n1 : UB ≠ U1) (n2 : U0 ≠ U1) (k : Nat) : Marks (w.setCell ⟨U1, k, none⟩ (.bool true)) UB U0 U1 b0 (b1.set k true) :=
  ⟨by rw [World.cell?_of_block (Below.heap_setCell _ _ _ _ n1)]; exact h.c0, by rw [World.cell?_of_block (Below.heap_setCell _ _ _ _ n1)]; exact h.c1, Blk.other h.r0 n2 _, h.r1.put k true, h.l0, by simp [h.l1], by simp; exact h.lt⟩
structure MOwn (UB U0 U1 : Nat) (foot : List Nat) (M SB : Nat) (f : Nat → Nat) (N : Nat) : Prop where
  ub : UB ∉ foot ∧ UB ≠ U0 ∧ UB ≠ U1 ∧ U0 ≠ U1
  u0 : U0 ∉ foot ∧ U0 ≠ M ∧ U0 ≠ SB ∧ ∀ i, i < N → f i ≠ U0
  u1 : U1 ∉ foot ∧ U1 ≠ M ∧ U1 ≠ SB ∧ ∀ i, i < N → f i ≠ U1
set_option maxRecDepth 100000 in
set_option maxHeartbeats 4000000 in
theorem tail4_16 (w0 w : World) {u0 u1 u2 u3 u4 u5 u6 u8 u10 u11 u12 u14 u15 u16 u17 u18 u19 u20 u22 u23 u24 u25 u26 u27 u29 u30 u31 u32 u33 u34 u35 u36 u37 u38 u39 u40 u41 u42 u43 u44 u45 u46 u47 u48 u49 u50 u51 u52 u53 u54 u55 u56 u57 u58 u59 u60 u61 u62 u63 u64 u65 u66 u67 u68 u69 u70 u71 u72 u73 u74 u75 u76 u77 u78 u79 u80 u81 u82 u83 u84 u85 u86 u87 u88 u89 u90 u91 u92 u93 u94 u95 u96 u97 u98 u99 u100 u101 u102 u103 u104 u105 u106 u107 u108 u109 u110 u111 u112 u113 u114 u115 u116 u117 u118 u119 u120 u121 u122 u123 u124 u125 u126 u127 u128 u129 u130 u131 u132 u133 u134 u135 u136 u137 u138 u139 u140 u141 u142 u143 u144 u145 u146 u147 u148 u149 u150 u151 u152 u153 u154 u155 u156 u157 u158 u159 u160 u161 u162 u163 u164 u165 u166 u167 u168 u169 u170 u171 u172 u173 u174 u175 u176 u177 u178 u179 u180 u181 u182 u183 u184 u185 u186 u187 u188 u189 u190 u191 u192 u193 u194 u195 u196 u197 u198 u199 u200 u201 u202 u203 u204 u205 u206 u207 u208 u209 u210 u211 u212 u213 u214 u215 u216 u217 u218 u219 u220 u221 u222 u223 u224 u225 u226 u227 u228 u229 u230 u231 u232 u233 u234 u235 u236 u237 u238 u239 u240 u241 u242 u243 u244 u245 u246 u247 u248 u249 u250 u251 u252 u253 u254 u255 u256 u257 u258 u259 u260 u261 u262 u263 u264 u265 u266 u267 u268 u269 u270 u271 u272 u273 u274 u275 u276 u277 u278 u279 u280 u281 u282 u283 u284 u285 u286 u287 u288 u289 u290 u291 u292 u293 u294 u295 u296 u297 u298 u299 u300 u301 u302 u303 u304 u305 u306 u307 u308 u309 u310 u311 u312 u313 u314 u315 u316 u317 u318 u319 u320 u321 u322 u323 u324 u325 u326 u327 u328 u329 u330 u331 u332 u333 u334 u335 u336 u337 u338 u339 u340 u341 u342 u343 u344 u345 u346 u347 : Value} (p mb N M SB UB U0 U1 : Nat) (f : Nat → Nat) (s s' : St) (K : List Int) (st b0 b1 : List Bool) (hN : N ≤ 40) (hb : Below w0.heap.size w0 w) (hBs : ∀ i, i = U0 ∨ i = U1 → w0.heap.size ≤ i)
    (hH : HeapAt w w0.heap.size p mb s') (F : Fits s') (L : Lay s') (hsz : Hid (s'.small = 600 ∧ s'.big = 900)) (Sh : Shelved N s) (hC : Copy w M f s)
    (hin : Hid (∀ (i : Nat) (r : Rec), s.recs[i]? = some r → (i : Int) + 1 ∈ K → ∃ q, find s'.recs (i + 1) = some q ∧ q.words = r.words ∧ q.x = i + 1)) (hout : Hid (∀ i : Nat, i < N → (i : Int) + 1 ∉ K → find s'.recs (i + 1) = none))
    (hst : BRow w SB st) (hstl : st.length = N + 1) (hstk : Hid (∀ i, i < N → st[i + 1]? = some (decide ((i : Int) + 1 ∈ K))))
    (hU : Marks w UB U0 U1 b0 b1) (hO : MOwn UB U0 U1 (p :: mb :: blks s'.recs) M SB f N) (hseen : Seen s'.recs b0 b1 1 0) :
    Code.wp Try.prog (tail4 16) (bodyPost Try.prog Try.f4 (KPost w0)) ⟨#[u0, u1, u2, u3, u4, u5, u6, .pointer (some ⟨p, 0, none⟩), u8, .int .i64 N, u10, u11, u12, .slice (some ⟨M, 0, none⟩) (N + 1) (N + 1), u14, u15, u16, u17, u18, u19, u20, .slice (some ⟨SB, 0, none⟩) (N + 1) (N + 1), u22, u23, u24, u25, u26, u27, .pointer (some ⟨UB, 0, none⟩), u29, u30, u31, u32, u33, u34, u35, u36, u37, u38, u39, u40, u41, u42, u43, u44, u45, u46, u47, u48, u49, u50, u51, u52, u53, u54, u55, u56, u57, u58, u59, u60, u61, u62, u63, u64, u65, u66, u67, u68, u69, u70, u71, u72, u73, u74, u75, u76, u77, u78, u79, u80, u81, u82, u83, u84, u85, u86, u87, u88, u89, u90, u91, u92, u93, u94, u95, u96, u97, u98, u99, u100, u101, u102, u103, u104, u105, u106, u107, u108, u109, u110, u111, u112, u113, u114, u115, u116, u117, u118, u119, u120, u121, u122, u123, u124, u125, u126, u127, u128, u129, u130, u131, u132, u133, u134, u135, u136, u137, u138, u139, u140, u141, u142, u143, u144, u145, u146, u147, u148, u149, u150, u151, u152, u153, u154, u155, u156, u157, u158, u159, u160, u161, u162, u163, u164, u165, u166, u167, u168, u169, u170, u171, u172, u173, u174, u175, u176, u177, u178, u179, u180, u181, u182, u183, u184, u185, u186, u187, u188, u189, u190, u191, u192, u193, u194, u195, u196, u197, u198, u199, u200, u201, u202, u203, u204, u205, u206, u207, u208, u209, u210, u211, u212, u213, u214, u215, u216, u217, u218, u219, u220, u221, u222, u223, u224, u225, u226, u227, u228, u229, u230, u231, u232, u233, u234, u235, u236, u237, u238, u239, u240, u241, u242, u243, u244, u245, u246, u247, u248, u249, u250, u251, u252, u253, u254, u255, u256, u257, u258, u259, u260, u261, u262, u263, u264, u265, u266, u267, u268, u269, u270, u271, u272, u273, u274, u275, u276, u277, u278, u279, u280, u281, u282, u283, u284, u285, u286, u287, u288, u289, u290, u291, u292, u293, u294, u295, u296, u297, u298, u299, u300, u301, u302, u303, u304, u305, u306, u307, u308, u309, u310, u311, u312, u313, u314, u315, u316, u317, u318, u319, u320, u321, u322, u323, u324, u325, u326, u327, u328, u329, u330, u331, u332, u333, u334, u335, u336, u337, u338, u339, u340, u341, u342, u343, u344, u345, u346, u347], []⟩ w := by
  rw [step4_16]
  refine wp_seq_k fun KK hK => ?_
  have HK := Lib.hid hK
  have HSTL := Lib.hid hstl
  clear hK hstl
  conv => arg 2; whnf
  have hBk : ∀ {wx : World}, But (fun k => k = U0 ∨ k = U1) w wx → HeapAt wx w0.heap.size p mb s' ∧ Copy wx M f s ∧ BRow wx SB st ∧ Below w0.heap.size w0 wx := fun {wx} hB =>
    ⟨hH.kept hB (fun i hi e => by rcases e with rfl | rfl; exact hO.u0.1 hi; exact hO.u1.1 hi),
     hC.kept hB (fun e => by rcases e with e | e; exact hO.u0.2.1 e.symm; exact hO.u1.2.1 e.symm) (fun i hi e => by rw [Sh.cnt] at hi; rcases e with e | e; exact hO.u0.2.2.2 i hi e; exact hO.u1.2.2.2 i hi e),
     Blk.kept hst hB (fun e => by rcases e with e | e; exact hO.u0.2.2.1 e.symm; exact hO.u1.2.2.1 e.symm),
     hb.trans (hB.below (fun i hi => hBs i hi) hb.size)⟩
  go_wp2
  go_loopw [29] (fun i wx => ∃ (x : Nat) (a0 a1 : List Bool), i = .int .i64 x ∧ 1 ≤ x ∧ x ≤ N + 1 ∧ Marks wx UB U0 U1 a0 a1 ∧ Seen s'.recs a0 a1 x 0 ∧ But (fun k => k = U0 ∨ k = U1) w wx) (fun i _ => N + 1 - (intOf i).toNat)
  case atStart => exact ⟨1, b0, b1, rfl, Nat.le_refl _, by omega, hU, hseen, But.refl _ _⟩
  case round =>
    obtain ⟨x, a0, a1, rfl, hx1, hxn, hMk, hS, hB⟩ := hrel
    obtain ⟨hH2, hC2, hst2, hb2⟩ := hBk hB
    have HBK : Hid (∀ {wx : World}, But (fun k => k = U0 ∨ k = U1) w wx → HeapAt wx w0.heap.size p mb s' ∧ Copy wx M f s ∧ BRow wx SB st ∧ Below w0.heap.size w0 wx) := @hBk
    clear hBk hU hseen hH hC hst hb
    by_cases hlt : x ≤ N
    · obtain ⟨i, rfl⟩ : ∃ i, x = i + 1 := ⟨x - 1, by omega⟩
      have hiN : i < N := by omega
      obtain ⟨r, hr⟩ := Sh.at hiN
      have hsti := hstk.out i hiN
      have hck := hst2.cell (i + 1) hsti
      have hcel := hC2.cells i r hr
      have e1 : ((i + 1 : Nat) : Int) = (i : Int) + 1 := by omega
      by_cases hK : (i : Int) + 1 ∈ K
      · obtain ⟨q, hq, hqw, hqx⟩ := hin.out i r hr hK
        have hqm := (find_mem hq).1
        have hql : q.words.length ≤ 40 := by rw [hqw]; exact Sh.len r (List.mem_of_getElem? hr)
        have hpl0 := (F.recs q hqm).2.1
        obtain ⟨pl, hpl⟩ := Int.eq_ofNat_of_zero_le hpl0
        have hPl := fun (wx : World) (hx : HeapAt wx w0.heap.size p mb s') (hf : find s'.recs (i + 1) = some q) => Place_some (i + 1) q wx hx hf
        rw [hpl] at hPl
        rw [decide_eq_true hK] at hck
        rw [← hqw] at hcel
        have HR := Lib.hid hr
        have HQ := Lib.hid hq
        have HQW := Lib.hid hqw
        have HQX := Lib.hid hqx
        have HPL := Lib.hid hpl
        clear hr hq hqw hqx hsti
        by_cases hsm : q.words.length ≤ 16
        · have hup : q.place + q.words.length ≤ 600 := by have h1 := stacked_bound 0 _ L.small q hqm hsm; have h2 := F.topS; have h3 := F.top1; have h4 := hsz.out.1; omega
          have hd1 : decide ((600 : Int) - q.words.length < pl) = false := by simp; omega
          have hd2 : decide ((pl : Int) < 0) = false := by simp
          have hd3 : ((q.words.length : Int) != q.words.length) = false := by simp
          have hd4 : decide ((16 : Int) < q.words.length) = false := by simp; omega
          have u0c := hMk.c0
          have HMK := Lib.hid hMk
          clear hMk
          go_wp2_with (first
            | (go_at_call 12; refine (Size_some _ q _ hH2 (by first | exact HQ.out | (rw [e1]; exact HQ.out))).mono ?_; rintro e w' ⟨rfl, rfl⟩)
            | (go_at_call 14; refine (hPl _ hH2 (by first | exact HQ.out | (rw [e1]; exact HQ.out))).mono ?_; rintro e w' ⟨rfl, rfl⟩))
          obtain ⟨wo, rfl⟩ : ∃ wo : World, wo = wr := ⟨_, rfl⟩
          go_loopw [35] (fun kk wx => ∃ (k : Nat) (a0 a1 : List Bool), kk = .int .i64 k ∧ k ≤ q.words.length ∧ Marks wx UB U0 U1 a0 a1 ∧ Seen s'.recs a0 a1 ((i : Int) + 1) k ∧ But (fun k => k = U0 ∨ k = U1) w wx) (fun kk _ => q.words.length - (intOf kk).toNat)
          case atStart => exact ⟨0, a0, a1, rfl, Nat.zero_le _, HMK.out, by rw [e1] at hS; exact hS, hB⟩
          case round =>
            obtain ⟨k, c0, c1, rfl, hk, hMk, hSk, hBw⟩ := hrel
            clear HMK hS hB hH2 hC2 hst2 hb2 u0c hcel hck
            obtain ⟨hH3, hC3, hst3, hb3⟩ := HBK.out hBw
            by_cases hlk : k < q.words.length
            · obtain ⟨c, hc⟩ : ∃ c, q.words[k]? = some c := ⟨_, List.getElem?_eq_getElem hlk⟩
              have hg := cellsOf_get q.words k c hc
              have hbk := hC3.blk i r HR.out
              rw [← HQW.out] at hbk
              have m0 : wr.cell? ⟨f i, k * 2, none⟩ = some (.int .i64 c.1) := hbk.cell _ (by rw [Nat.mul_comm]; simpa using hg.1)
              have m1 : wr.cell? ⟨f i, k * 2 + 1, none⟩ = some (.bool c.2) := hbk.cell _ (by rw [Nat.mul_comm]; simpa using hg.2)
              have hcel := hC3.cells i r HR.out
              rw [← HQW.out] at hcel
              have hfree := Seen.free0 (q := q) (pl := pl) (k := k) (by rw [HQX.out]; exact hSk) L F hqm HPL.out hsm hlk (by have := hMk.l0; have := HPL.out; omega)
              have uc := hMk.r0.cell (pl + k) hfree
              have uf := Blk.free hMk.r0 (pl + k)
              have ucc := hMk.c0
              have hlts : f i < wr.heap.size ∧ U0 < wr.heap.size ∧ UB < wr.heap.size ∧ M < wr.heap.size := ⟨hbk.lt, Blk.lt hMk.r0, hMk.lt, hC3.size⟩
              obtain ⟨lt1, lt2, lt3, lt4⟩ := hlts
              have HC := Lib.hid hc
              have HM := Lib.hid hMk
              clear hg hc hfree hMk hst3 hC3 hbk
              go_wp2_with (first
                | (go_at_call 15; refine (Get_some _ k q c _ hH3 (by first | exact HQ.out | (rw [e1]; exact HQ.out)) (by omega) HC.out).mono ?_; rintro e w4 ⟨rfl, hb4⟩; obtain ⟨hcA, hfA⟩ := bcell hb4; have hws := hb4.size; have lt5 := Nat.lt_of_lt_of_le lt1 hws; have lt6 := Nat.lt_of_lt_of_le lt2 hws; have lt7 := Nat.lt_of_lt_of_le lt3 hws; have lt8 := Nat.lt_of_lt_of_le lt4 hws))
              go_quiet (fail)
              go_wp2
              have hb5 : Below wr.heap.size wr ((w4.alloc (.cells #[.int .i64 c.1, .bool c.2] 41)).drewN nq) := below_drewN (hb4.alloc hws _) nq
              go_roundw
              case rel => exact ⟨k + 1, c0.set (pl + k) true, c1, by go_num, by omega, (HM.out.below hb5).put0 hO.ub.2.1 hO.ub.2.2.2 (pl + k), by have := Seen.mark0 (q := q) (pl := pl) (k := k) (by rw [HQX.out]; exact hSk) hqm HPL.out hsm hlk; rw [HQX.out] at this; rw [show ((k + 1 : Nat) : Int) = (k : Int) + 1 by omega]; exact this, (hBw.trans (But.of_below (S := fun _ => False) hb5) (fun i hi => hi.elim)).setCell _ _ (Or.inl (Or.inl rfl))⟩
              case measure => simp [intOf]; omega
            · obtain rfl : k = q.words.length := by omega
              go_wp2
              go_roundw
              case rel => exact ⟨i + 2, c0, c1, by go_num, by omega, by omega, hMk, by have := hSk.next; rwa [show (i : Int) + 1 + 1 = ((i + 2 : Nat) : Int) by omega] at this, hBw⟩
              case measure => simp [intOf]; omega
        · have hup : q.place + q.words.length ≤ 900 := by have h1 := L.inside q hqm (by omega); have h4 := hsz.out.2; omega
          have hd1 : decide ((900 : Int) - q.words.length < pl) = false := by simp; omega
          have hd2 : decide ((pl : Int) < 0) = false := by simp
          have hd3 : ((q.words.length : Int) != q.words.length) = false := by simp
          have hd4 : decide ((16 : Int) < q.words.length) = true := by simp; omega
          have u0c := hMk.c1
          have HMK := Lib.hid hMk
          clear hMk
          go_wp2_with (first
            | (go_at_call 12; refine (Size_some _ q _ hH2 (by first | exact HQ.out | (rw [e1]; exact HQ.out))).mono ?_; rintro e w' ⟨rfl, rfl⟩)
            | (go_at_call 14; refine (hPl _ hH2 (by first | exact HQ.out | (rw [e1]; exact HQ.out))).mono ?_; rintro e w' ⟨rfl, rfl⟩))
          obtain ⟨wo, rfl⟩ : ∃ wo : World, wo = wr := ⟨_, rfl⟩
          go_loopw [35] (fun kk wx => ∃ (k : Nat) (a0 a1 : List Bool), kk = .int .i64 k ∧ k ≤ q.words.length ∧ Marks wx UB U0 U1 a0 a1 ∧ Seen s'.recs a0 a1 ((i : Int) + 1) k ∧ But (fun k => k = U0 ∨ k = U1) w wx) (fun kk _ => q.words.length - (intOf kk).toNat)
          case atStart => exact ⟨0, a0, a1, rfl, Nat.zero_le _, HMK.out, by rw [e1] at hS; exact hS, hB⟩
          case round =>
            obtain ⟨k, c0, c1, rfl, hk, hMk, hSk, hBw⟩ := hrel
            clear HMK hS hB hH2 hC2 hst2 hb2 u0c hcel hck
            obtain ⟨hH3, hC3, hst3, hb3⟩ := HBK.out hBw
            by_cases hlk : k < q.words.length
            · obtain ⟨c, hc⟩ : ∃ c, q.words[k]? = some c := ⟨_, List.getElem?_eq_getElem hlk⟩
              have hg := cellsOf_get q.words k c hc
              have hbk := hC3.blk i r HR.out
              rw [← HQW.out] at hbk
              have m0 : wr.cell? ⟨f i, k * 2, none⟩ = some (.int .i64 c.1) := hbk.cell _ (by rw [Nat.mul_comm]; simpa using hg.1)
              have m1 : wr.cell? ⟨f i, k * 2 + 1, none⟩ = some (.bool c.2) := hbk.cell _ (by rw [Nat.mul_comm]; simpa using hg.2)
              have hcel := hC3.cells i r HR.out
              rw [← HQW.out] at hcel
              have hfree := Seen.free1 (q := q) (pl := pl) (k := k) (by rw [HQX.out]; exact hSk) L F hqm HPL.out hsm hlk (by have := hMk.l1; have := HPL.out; omega)
              have uc := hMk.r1.cell (pl + k) hfree
              have uf := Blk.free hMk.r1 (pl + k)
              have ucc := hMk.c1
              have hlts : f i < wr.heap.size ∧ U1 < wr.heap.size ∧ UB < wr.heap.size ∧ M < wr.heap.size := ⟨hbk.lt, Blk.lt hMk.r1, hMk.lt, hC3.size⟩
              obtain ⟨lt1, lt2, lt3, lt4⟩ := hlts
              have HC := Lib.hid hc
              have HM := Lib.hid hMk
              clear hg hc hfree hMk hst3 hC3 hbk
              go_wp2_with (first
                | (go_at_call 15; refine (Get_some _ k q c _ hH3 (by first | exact HQ.out | (rw [e1]; exact HQ.out)) (by omega) HC.out).mono ?_; rintro e w4 ⟨rfl, hb4⟩; obtain ⟨hcA, hfA⟩ := bcell hb4; have hws := hb4.size; have lt5 := Nat.lt_of_lt_of_le lt1 hws; have lt6 := Nat.lt_of_lt_of_le lt2 hws; have lt7 := Nat.lt_of_lt_of_le lt3 hws; have lt8 := Nat.lt_of_lt_of_le lt4 hws))
              go_quiet (fail)
              go_wp2
              have hb5 : Below wr.heap.size wr ((w4.alloc (.cells #[.int .i64 c.1, .bool c.2] 41)).drewN nq) := below_drewN (hb4.alloc hws _) nq
              go_roundw
              case rel => exact ⟨k + 1, c0, c1.set (pl + k) true, by go_num, by omega, (HM.out.below hb5).put1 hO.ub.2.2.1 hO.ub.2.2.2 (pl + k), by have := Seen.mark1 (q := q) (pl := pl) (k := k) (by rw [HQX.out]; exact hSk) hqm HPL.out hsm hlk; rw [HQX.out] at this; rw [show ((k + 1 : Nat) : Int) = (k : Int) + 1 by omega]; exact this, (hBw.trans (But.of_below (S := fun _ => False) hb5) (fun i hi => hi.elim)).setCell _ _ (Or.inl (Or.inr rfl))⟩
              case measure => simp [intOf]; omega
            · obtain rfl : k = q.words.length := by omega
              go_wp2
              go_roundw
              case rel => exact ⟨i + 2, c0, c1, by go_num, by omega, by omega, hMk, by have := hSk.next; rwa [show (i : Int) + 1 + 1 = ((i + 2 : Nat) : Int) by omega] at this, hBw⟩
              case measure => simp [intOf]; omega
      · have hno := hout.out i hiN hK
        rw [decide_eq_false hK] at hck
        have HNO := Lib.hid hno
        clear hno hsti hr hcel
        go_wp2_with (first
          | (go_at_call 12; refine (Size_none _ _ hH2 (by first | exact HNO.out | (rw [e1]; exact HNO.out))).mono ?_; rintro e w' ⟨rfl, rfl⟩))
        go_roundw
        case rel => exact ⟨i + 2, a0, a1, by go_num, by omega, by omega, hMk, by have := hS.next; rwa [show ((i + 1 : Nat) : Int) + 1 = ((i + 2 : Nat) : Int) by omega] at this, hB⟩
        case measure => simp [intOf]; omega
    · obtain rfl : x = N + 1 := by omega
      go_wp2
      exact HK.out _ _ (tail4_17 w0 wr hb2)
end Go.Proofs.Ytmamcpaejhjceaa.HP
