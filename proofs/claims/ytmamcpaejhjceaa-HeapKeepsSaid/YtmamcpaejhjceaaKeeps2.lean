/- HeapKeeps: the collection, and the rows of marks. -/
import Derived.Test.YtmamcpaejhjceaaKeeps1
namespace Go.Proofs.Ytmamcpaejhjceaa.HP
open Go.MapKept Go.ChangeMaps Go.RowKit
theorem step4_13 : tail4 13 = (headSeq (tail4 13)).seq (tail4 14) := by kernel_rfl
theorem step4_14 : tail4 14 = (headSeq (tail4 14)).seq (tail4 15) := by kernel_rfl
theorem step4_15 : tail4 15 = (headSeq (tail4 15)).seq (tail4 16) := by kernel_rfl
def bc (n : Nat) : Array Value := ((List.replicate n false).map Value.bool).toArray
theorem made_bc (n : Nat) : madeCells #[.bool false] n = bc n := by
  apply Array.ext'
  rw [toList_madeCells_one]
  simp [bc]
theorem info4 : (Try.prog.info? 4).map (fun i => (i.zero, i.size, i.bytes)) = some (some (.bool false), 1, 1) := by kernel_rfl
theorem make_bc (n : Nat) (hn : n ≤ 65536) (w : World) : (Instr.makeSlice 43 (.int .i64 (n : Int)) (.int .i64 (n : Int))).run Try.prog w = .ok (.slice (some ⟨w.heap.size, 0, none⟩) n n) (w.alloc (.cells (bc n) 4)) := by
  obtain ⟨i, hi, hz0, hz1, hz2⟩ := info_parts info4
  have := run_make (P := Try.prog) w 43 4 i _ Try.underlying43 hi hz0 .i64 .i64 n n (by omega) (Int.le_refl _) (by rw [hz2]; omega) (by omega)
  rw [Int.toNat_natCast, hz1, Nat.mul_one] at this
  rw [this]
  have e : Value.cells (.bool false) = #[.bool false] := rfl
  rw [e, made_bc]
theorem BRow.made (w : World) (n : Nat) : BRow (w.alloc (.cells (bc n) 4)) w.heap.size (List.replicate n false) := Blk.made w _ 4
theorem seen_none (l : List Rec) (x k : Int) : Seen l (List.replicate 600 false) (List.replicate 900 false) x k := by
  refine ⟨fun pos h => ?_, fun pos h => ?_⟩ <;> (rw [List.getElem?_replicate] at h; split at h <;> simp at h)
/-- all that stands ahead of the rows of marks -/
structure Ready (w0 w : World) (p mb N M SB : Nat) (f : Nat → Nat) (s s' : St) (K : List Int) (st : List Bool) : Prop where
  bel : Below w0.heap.size w0 w
  heap : HeapAt w w0.heap.size p mb s'
  fits : Fits s'
  lay : Lay s'
  area : s'.small = 600 ∧ s'.big = 900
  shelved : Shelved N s
  copy : Copy w M f s
  keeps : ∀ (i : Nat) (r : Rec), s.recs[i]? = some r → (i : Int) + 1 ∈ K → ∃ q, find s'.recs (i + 1) = some q ∧ q.words = r.words ∧ q.x = i + 1
  drops : ∀ i : Nat, i < N → (i : Int) + 1 ∉ K → find s'.recs (i + 1) = none
  row : BRow w SB st
  rowl : st.length = N + 1
  rowk : ∀ i, i < N → st[i + 1]? = some (decide ((i : Int) + 1 ∈ K))
theorem Ready.below {w0 w W : World} {p mb N M SB : Nat} {f : Nat → Nat} {s s' : St} {K : List Int} {st : List Bool} (R : Ready w0 w p mb N M SB f s s' K st) (hB : Below w.heap.size w W) : Ready w0 W p mb N M SB f s s' K st :=
  ⟨R.bel.trans (hB.mono R.bel.size), R.heap.below hB, R.fits, R.lay, R.area, R.shelved, R.copy.kept (S := fun i => w.heap.size ≤ i) (But.of_below hB) (by have := R.copy.size; omega) (fun i hi h => by obtain ⟨r, hr⟩ : ∃ r, s.recs[i]? = some r := ⟨_, List.getElem?_eq_getElem hi⟩; have := (R.copy.blk i r hr).lt; omega),
   R.keeps, R.drops, Blk.of_block R.row (hB.block _ (Blk.lt R.row)), R.rowl, R.rowk⟩
theorem heap3 (w : World) (a b c : Obj) : (((w.alloc a).alloc b).alloc c).drew.heap[w.heap.size]? = some a ∧ (((w.alloc a).alloc b).alloc c).drew.heap[w.heap.size + 1]? = some b ∧ (((w.alloc a).alloc b).alloc c).drew.heap[w.heap.size + 1 + 1]? = some c := by
  have e : (((w.alloc a).alloc b).alloc c).drew.heap = ((w.heap.push a).push b).push c := rfl
  rw [e]
  refine ⟨?_, ?_, ?_⟩
  · rw [Array.getElem?_push, if_neg (by simp; omega), Array.getElem?_push, if_neg (by simp), Array.getElem?_push, if_pos rfl]
  · rw [Array.getElem?_push, if_neg (by simp), Array.getElem?_push, if_pos (by simp)]
  · rw [Array.getElem?_push, if_pos (by simp)]
set_option maxRecDepth 100000 in
theorem fin15 (w0 w W : World) {u0 u1 u2 u3 u4 u5 u6 u8 u10 u11 u12 u14 u15 u16 u17 u18 u19 u20 u22 u23 u24 u25 u26 u27 u29 u30 u31 u32 u33 u34 u35 u36 u37 u38 u39 u40 u41 u42 u43 u44 u45 u46 u47 u48 u49 u50 u51 u52 u53 u54 u55 u56 u57 u58 u59 u60 u61 u62 u63 u64 u65 u66 u67 u68 u69 u70 u71 u72 u73 u74 u75 u76 u77 u78 u79 u80 u81 u82 u83 u84 u85 u86 u87 u88 u89 u90 u91 u92 u93 u94 u95 u96 u97 u98 u99 u100 u101 u102 u103 u104 u105 u106 u107 u108 u109 u110 u111 u112 u113 u114 u115 u116 u117 u118 u119 u120 u121 u122 u123 u124 u125 u126 u127 u128 u129 u130 u131 u132 u133 u134 u135 u136 u137 u138 u139 u140 u141 u142 u143 u144 u145 u146 u147 u148 u149 u150 u151 u152 u153 u154 u155 u156 u157 u158 u159 u160 u161 u162 u163 u164 u165 u166 u167 u168 u169 u170 u171 u172 u173 u174 u175 u176 u177 u178 u179 u180 u181 u182 u183 u184 u185 u186 u187 u188 u189 u190 u191 u192 u193 u194 u195 u196 u197 u198 u199 u200 u201 u202 u203 u204 u205 u206 u207 u208 u209 u210 u211 u212 u213 u214 u215 u216 u217 u218 u219 u220 u221 u222 u223 u224 u225 u226 u227 u228 u229 u230 u231 u232 u233 u234 u235 u236 u237 u238 u239 u240 u241 u242 u243 u244 u245 u246 u247 u248 u249 u250 u251 u252 u253 u254 u255 u256 u257 u258 u259 u260 u261 u262 u263 u264 u265 u266 u267 u268 u269 u270 u271 u272 u273 u274 u275 u276 u277 u278 u279 u280 u281 u282 u283 u284 u285 u286 u287 u288 u289 u290 u291 u292 u293 u294 u295 u296 u297 u298 u299 u300 u301 u302 u303 u304 u305 u306 u307 u308 u309 u310 u311 u312 u313 u314 u315 u316 u317 u318 u319 u320 u321 u322 u323 u324 u325 u326 u327 u328 u329 u330 u331 u332 u333 u334 u335 u336 u337 u338 u339 u340 u341 u342 u343 u344 u345 u346 u347 : Value} (p mb N M SB UB U0 U1 : Nat) (f : Nat → Nat) (s s' : St) (K : List Int) (st : List Bool) (hN : N ≤ 40) (R : Ready w0 w p mb N M SB f s s' K st) (hB : Below w.heap.size w W)
    (g0 : w.heap.size ≤ UB) (g1 : w.heap.size ≤ U0) (g2 : w.heap.size ≤ U1) (n0 : UB ≠ U0) (n1 : UB ≠ U1) (n2 : U0 ≠ U1)
    (hc : Blk W UB #[.slice (some ⟨U0, 0, none⟩) 600 600, .slice (some ⟨U1, 0, none⟩) 900 900]) (h0 : Blk W U0 (bc 600)) (h1 : Blk W U1 (bc 900)) :
    Code.wp Try.prog (tail4 16) (bodyPost Try.prog Try.f4 (KPost w0)) ⟨#[u0, u1, u2, u3, u4, u5, u6, .pointer (some ⟨p, 0, none⟩), u8, .int .i64 N, u10, u11, u12, .slice (some ⟨M, 0, none⟩) (N + 1) (N + 1), u14, u15, u16, u17, u18, u19, u20, .slice (some ⟨SB, 0, none⟩) (N + 1) (N + 1), u22, u23, u24, u25, u26, u27, .pointer (some ⟨UB, 0, none⟩), u29, u30, u31, u32, u33, u34, u35, u36, u37, u38, u39, u40, u41, u42, u43, u44, u45, u46, u47, u48, u49, u50, u51, u52, u53, u54, u55, u56, u57, u58, u59, u60, u61, u62, u63, u64, u65, u66, u67, u68, u69, u70, u71, u72, u73, u74, u75, u76, u77, u78, u79, u80, u81, u82, u83, u84, u85, u86, u87, u88, u89, u90, u91, u92, u93, u94, u95, u96, u97, u98, u99, u100, u101, u102, u103, u104, u105, u106, u107, u108, u109, u110, u111, u112, u113, u114, u115, u116, u117, u118, u119, u120, u121, u122, u123, u124, u125, u126, u127, u128, u129, u130, u131, u132, u133, u134, u135, u136, u137, u138, u139, u140, u141, u142, u143, u144, u145, u146, u147, u148, u149, u150, u151, u152, u153, u154, u155, u156, u157, u158, u159, u160, u161, u162, u163, u164, u165, u166, u167, u168, u169, u170, u171, u172, u173, u174, u175, u176, u177, u178, u179, u180, u181, u182, u183, u184, u185, u186, u187, u188, u189, u190, u191, u192, u193, u194, u195, u196, u197, u198, u199, u200, u201, u202, u203, u204, u205, u206, u207, u208, u209, u210, u211, u212, u213, u214, u215, u216, u217, u218, u219, u220, u221, u222, u223, u224, u225, u226, u227, u228, u229, u230, u231, u232, u233, u234, u235, u236, u237, u238, u239, u240, u241, u242, u243, u244, u245, u246, u247, u248, u249, u250, u251, u252, u253, u254, u255, u256, u257, u258, u259, u260, u261, u262, u263, u264, u265, u266, u267, u268, u269, u270, u271, u272, u273, u274, u275, u276, u277, u278, u279, u280, u281, u282, u283, u284, u285, u286, u287, u288, u289, u290, u291, u292, u293, u294, u295, u296, u297, u298, u299, u300, u301, u302, u303, u304, u305, u306, u307, u308, u309, u310, u311, u312, u313, u314, u315, u316, u317, u318, u319, u320, u321, u322, u323, u324, u325, u326, u327, u328, u329, u330, u331, u332, u333, u334, u335, u336, u337, u338, u339, u340, u341, u342, u343, u344, u345, u346, u347], []⟩ W := by
  have R' := R.below hB
  have hfoot := fun i hi => R.heap.lt i hi
  have hM := R.copy.size
  have hSB := Blk.lt R.row
  have hf : ∀ i, i < N → f i < w.heap.size := fun i hi => by obtain ⟨r, hr⟩ := R.shelved.at hi; exact (R.copy.blk i r hr).lt
  have hbs := R.bel.size
  refine tail4_16 w0 W p mb N M SB UB U0 U1 f s s' K st (List.replicate 600 false) (List.replicate 900 false) hN R'.bel (fun i hi => by rcases hi with rfl | rfl <;> omega) R'.heap R'.fits R'.lay R'.area R'.shelved R'.copy R'.keeps R'.drops R'.row R'.rowl R'.rowk
    ⟨hc.cell 0 rfl, hc.cell 1 rfl, h0, h1, by simp, by simp, hc.lt⟩
    ⟨⟨fun h => by have := hfoot _ h; omega, n0, n1, n2⟩, ⟨fun h => by have := hfoot _ h; omega, by omega, by omega, fun i hi e => by have := hf i hi; omega⟩, ⟨fun h => by have := hfoot _ h; omega, by omega, by omega, fun i hi e => by have := hf i hi; omega⟩⟩
    (seen_none _ _ _)
set_option maxRecDepth 100000 in
set_option maxHeartbeats 1000000 in
theorem tail4_15 (w0 w : World) {u0 u1 u2 u3 u4 u5 u6 u8 u10 u11 u12 u14 u15 u16 u17 u18 u19 u20 u22 u23 u24 u25 u26 u27 u28 u29 u30 u31 u32 u33 u34 u35 u36 u37 u38 u39 u40 u41 u42 u43 u44 u45 u46 u47 u48 u49 u50 u51 u52 u53 u54 u55 u56 u57 u58 u59 u60 u61 u62 u63 u64 u65 u66 u67 u68 u69 u70 u71 u72 u73 u74 u75 u76 u77 u78 u79 u80 u81 u82 u83 u84 u85 u86 u87 u88 u89 u90 u91 u92 u93 u94 u95 u96 u97 u98 u99 u100 u101 u102 u103 u104 u105 u106 u107 u108 u109 u110 u111 u112 u113 u114 u115 u116 u117 u118 u119 u120 u121 u122 u123 u124 u125 u126 u127 u128 u129 u130 u131 u132 u133 u134 u135 u136 u137 u138 u139 u140 u141 u142 u143 u144 u145 u146 u147 u148 u149 u150 u151 u152 u153 u154 u155 u156 u157 u158 u159 u160 u161 u162 u163 u164 u165 u166 u167 u168 u169 u170 u171 u172 u173 u174 u175 u176 u177 u178 u179 u180 u181 u182 u183 u184 u185 u186 u187 u188 u189 u190 u191 u192 u193 u194 u195 u196 u197 u198 u199 u200 u201 u202 u203 u204 u205 u206 u207 u208 u209 u210 u211 u212 u213 u214 u215 u216 u217 u218 u219 u220 u221 u222 u223 u224 u225 u226 u227 u228 u229 u230 u231 u232 u233 u234 u235 u236 u237 u238 u239 u240 u241 u242 u243 u244 u245 u246 u247 u248 u249 u250 u251 u252 u253 u254 u255 u256 u257 u258 u259 u260 u261 u262 u263 u264 u265 u266 u267 u268 u269 u270 u271 u272 u273 u274 u275 u276 u277 u278 u279 u280 u281 u282 u283 u284 u285 u286 u287 u288 u289 u290 u291 u292 u293 u294 u295 u296 u297 u298 u299 u300 u301 u302 u303 u304 u305 u306 u307 u308 u309 u310 u311 u312 u313 u314 u315 u316 u317 u318 u319 u320 u321 u322 u323 u324 u325 u326 u327 u328 u329 u330 u331 u332 u333 u334 u335 u336 u337 u338 u339 u340 u341 u342 u343 u344 u345 u346 u347 : Value} (p mb N M SB : Nat) (f : Nat → Nat) (s s' : St) (K : List Int) (st : List Bool) (hN : N ≤ 40) (R : Ready w0 w p mb N M SB f s s' K st) :
    Code.wp Try.prog (tail4 15) (bodyPost Try.prog Try.f4 (KPost w0)) ⟨#[u0, u1, u2, u3, u4, u5, u6, .pointer (some ⟨p, 0, none⟩), u8, .int .i64 N, u10, u11, u12, .slice (some ⟨M, 0, none⟩) (N + 1) (N + 1), u14, u15, u16, u17, u18, u19, u20, .slice (some ⟨SB, 0, none⟩) (N + 1) (N + 1), u22, u23, u24, u25, u26, u27, u28, u29, u30, u31, u32, u33, u34, u35, u36, u37, u38, u39, u40, u41, u42, u43, u44, u45, u46, u47, u48, u49, u50, u51, u52, u53, u54, u55, u56, u57, u58, u59, u60, u61, u62, u63, u64, u65, u66, u67, u68, u69, u70, u71, u72, u73, u74, u75, u76, u77, u78, u79, u80, u81, u82, u83, u84, u85, u86, u87, u88, u89, u90, u91, u92, u93, u94, u95, u96, u97, u98, u99, u100, u101, u102, u103, u104, u105, u106, u107, u108, u109, u110, u111, u112, u113, u114, u115, u116, u117, u118, u119, u120, u121, u122, u123, u124, u125, u126, u127, u128, u129, u130, u131, u132, u133, u134, u135, u136, u137, u138, u139, u140, u141, u142, u143, u144, u145, u146, u147, u148, u149, u150, u151, u152, u153, u154, u155, u156, u157, u158, u159, u160, u161, u162, u163, u164, u165, u166, u167, u168, u169, u170, u171, u172, u173, u174, u175, u176, u177, u178, u179, u180, u181, u182, u183, u184, u185, u186, u187, u188, u189, u190, u191, u192, u193, u194, u195, u196, u197, u198, u199, u200, u201, u202, u203, u204, u205, u206, u207, u208, u209, u210, u211, u212, u213, u214, u215, u216, u217, u218, u219, u220, u221, u222, u223, u224, u225, u226, u227, u228, u229, u230, u231, u232, u233, u234, u235, u236, u237, u238, u239, u240, u241, u242, u243, u244, u245, u246, u247, u248, u249, u250, u251, u252, u253, u254, u255, u256, u257, u258, u259, u260, u261, u262, u263, u264, u265, u266, u267, u268, u269, u270, u271, u272, u273, u274, u275, u276, u277, u278, u279, u280, u281, u282, u283, u284, u285, u286, u287, u288, u289, u290, u291, u292, u293, u294, u295, u296, u297, u298, u299, u300, u301, u302, u303, u304, u305, u306, u307, u308, u309, u310, u311, u312, u313, u314, u315, u316, u317, u318, u319, u320, u321, u322, u323, u324, u325, u326, u327, u328, u329, u330, u331, u332, u333, u334, u335, u336, u337, u338, u339, u340, u341, u342, u343, u344, u345, u346, u347], []⟩ w := by
  rw [step4_15]
  refine wp_seq_k fun KK hK => ?_
  have HK := Lib.hid hK
  have HR := Lib.hid R
  have hm6 : ∀ W, (Instr.makeSlice 43 (.int .i64 600) (.int .i64 600)).run Try.prog W = .ok (.slice (some ⟨W.heap.size, 0, none⟩) 600 600) (W.alloc (.cells (bc 600) 4)) := make_bc 600 (by omega)
  have hm9 : ∀ W, (Instr.makeSlice 43 (.int .i64 900) (.int .i64 900)).run Try.prog W = .ok (.slice (some ⟨W.heap.size, 0, none⟩) 900 900) (W.alloc (.cells (bc 900) 4)) := make_bc 900 (by omega)
  clear hK R
  conv => arg 2; whnf
  go_wp2
  go_region
  all_goals go_wp2
  all_goals clear hm6 hm9
  all_goals first | ((refine HK.out _ _ (fin15 w0 w _ p mb N M SB (w.heap.size) (w.heap.size + 1) (w.heap.size + 1 + 1) f s s' K st hN HR.out ?_ (by omega) (by omega) (by omega) (by omega) (by omega) (by omega) ?_ ?_ ?_)); exact ((((Below.refl _ w).alloc (Nat.le_refl _) _).alloc (by simp) _).alloc (by simp; omega) _).drew; exact ⟨44, (heap3 w _ _ _).1⟩; exact ⟨4, (heap3 w _ _ _).2.1⟩; exact ⟨4, (heap3 w _ _ _).2.2⟩) | ((refine HK.out _ _ (fin15 w0 w _ p mb N M SB (w.heap.size) (w.heap.size + 1 + 1) (w.heap.size + 1) f s s' K st hN HR.out ?_ (by omega) (by omega) (by omega) (by omega) (by omega) (by omega) ?_ ?_ ?_)); exact ((((Below.refl _ w).alloc (Nat.le_refl _) _).alloc (by simp) _).alloc (by simp; omega) _).drew; exact ⟨44, (heap3 w _ _ _).1⟩; exact ⟨4, (heap3 w _ _ _).2.2⟩; exact ⟨4, (heap3 w _ _ _).2.1⟩) | ((refine HK.out _ _ (fin15 w0 w _ p mb N M SB (w.heap.size + 1) (w.heap.size) (w.heap.size + 1 + 1) f s s' K st hN HR.out ?_ (by omega) (by omega) (by omega) (by omega) (by omega) (by omega) ?_ ?_ ?_)); exact ((((Below.refl _ w).alloc (Nat.le_refl _) _).alloc (by simp) _).alloc (by simp; omega) _).drew; exact ⟨44, (heap3 w _ _ _).2.1⟩; exact ⟨4, (heap3 w _ _ _).1⟩; exact ⟨4, (heap3 w _ _ _).2.2⟩) | ((refine HK.out _ _ (fin15 w0 w _ p mb N M SB (w.heap.size + 1) (w.heap.size + 1 + 1) (w.heap.size) f s s' K st hN HR.out ?_ (by omega) (by omega) (by omega) (by omega) (by omega) (by omega) ?_ ?_ ?_)); exact ((((Below.refl _ w).alloc (Nat.le_refl _) _).alloc (by simp) _).alloc (by simp; omega) _).drew; exact ⟨44, (heap3 w _ _ _).2.1⟩; exact ⟨4, (heap3 w _ _ _).2.2⟩; exact ⟨4, (heap3 w _ _ _).1⟩) | ((refine HK.out _ _ (fin15 w0 w _ p mb N M SB (w.heap.size + 1 + 1) (w.heap.size) (w.heap.size + 1) f s s' K st hN HR.out ?_ (by omega) (by omega) (by omega) (by omega) (by omega) (by omega) ?_ ?_ ?_)); exact ((((Below.refl _ w).alloc (Nat.le_refl _) _).alloc (by simp) _).alloc (by simp; omega) _).drew; exact ⟨44, (heap3 w _ _ _).2.2⟩; exact ⟨4, (heap3 w _ _ _).1⟩; exact ⟨4, (heap3 w _ _ _).2.1⟩) | ((refine HK.out _ _ (fin15 w0 w _ p mb N M SB (w.heap.size + 1 + 1) (w.heap.size + 1) (w.heap.size) f s s' K st hN HR.out ?_ (by omega) (by omega) (by omega) (by omega) (by omega) (by omega) ?_ ?_ ?_)); exact ((((Below.refl _ w).alloc (Nat.le_refl _) _).alloc (by simp) _).alloc (by simp; omega) _).drew; exact ⟨44, (heap3 w _ _ _).2.2⟩; exact ⟨4, (heap3 w _ _ _).2.1⟩; exact ⟨4, (heap3 w _ _ _).1⟩)
theorem kept_has {K : List Int} {r : Rec} : ∀ (a : Int) (l : List Rec), r ∈ l → r.x ∈ K → ∃ q ∈ kept K a l, q.x = r.x ∧ q.words = r.words
  | a, [], h, _ => by simp at h
  | a, q :: l, h, hk => by
    simp only [kept]
    rcases List.mem_cons.1 h with rfl | h
    · rw [if_pos hk]
      split
      · exact ⟨_, List.mem_cons_self .., rfl, rfl⟩
      · exact ⟨_, List.mem_cons_self .., rfl, rfl⟩
    · split
      · split
        · obtain ⟨q', h1, h2⟩ := kept_has (a + q.words.length) l h hk
          exact ⟨q', List.mem_cons_of_mem _ h1, h2⟩
        · obtain ⟨q', h1, h2⟩ := kept_has a l h hk
          exact ⟨q', List.mem_cons_of_mem _ h1, h2⟩
      · exact kept_has a l h hk
set_option maxRecDepth 100000 in
theorem tail4_14 (w0 w : World) {u0 u1 u2 u3 u4 u5 u6 u10 u11 u12 u14 u15 u16 u17 u18 u19 u20 u22 u23 u24 u25 u26 u27 u28 u29 u30 u31 u32 u33 u34 u35 u36 u37 u38 u39 u40 u41 u42 u43 u44 u45 u46 u47 u48 u49 u50 u51 u52 u53 u54 u55 u56 u57 u58 u59 u60 u61 u62 u63 u64 u65 u66 u67 u68 u69 u70 u71 u72 u73 u74 u75 u76 u77 u78 u79 u80 u81 u82 u83 u84 u85 u86 u87 u88 u89 u90 u91 u92 u93 u94 u95 u96 u97 u98 u99 u100 u101 u102 u103 u104 u105 u106 u107 u108 u109 u110 u111 u112 u113 u114 u115 u116 u117 u118 u119 u120 u121 u122 u123 u124 u125 u126 u127 u128 u129 u130 u131 u132 u133 u134 u135 u136 u137 u138 u139 u140 u141 u142 u143 u144 u145 u146 u147 u148 u149 u150 u151 u152 u153 u154 u155 u156 u157 u158 u159 u160 u161 u162 u163 u164 u165 u166 u167 u168 u169 u170 u171 u172 u173 u174 u175 u176 u177 u178 u179 u180 u181 u182 u183 u184 u185 u186 u187 u188 u189 u190 u191 u192 u193 u194 u195 u196 u197 u198 u199 u200 u201 u202 u203 u204 u205 u206 u207 u208 u209 u210 u211 u212 u213 u214 u215 u216 u217 u218 u219 u220 u221 u222 u223 u224 u225 u226 u227 u228 u229 u230 u231 u232 u233 u234 u235 u236 u237 u238 u239 u240 u241 u242 u243 u244 u245 u246 u247 u248 u249 u250 u251 u252 u253 u254 u255 u256 u257 u258 u259 u260 u261 u262 u263 u264 u265 u266 u267 u268 u269 u270 u271 u272 u273 u274 u275 u276 u277 u278 u279 u280 u281 u282 u283 u284 u285 u286 u287 u288 u289 u290 u291 u292 u293 u294 u295 u296 u297 u298 u299 u300 u301 u302 u303 u304 u305 u306 u307 u308 u309 u310 u311 u312 u313 u314 u315 u316 u317 u318 u319 u320 u321 u322 u323 u324 u325 u326 u327 u328 u329 u330 u331 u332 u333 u334 u335 u336 u337 u338 u339 u340 u341 u342 u343 u344 u345 u346 u347 : Value} (p mb N M SB : Nat) (f : Nat → Nat) (s s' : St) (K : List Int) (st : List Bool) (hN : N ≤ 40) (R : Ready w0 w p mb N M SB f s s' K st) :
    Code.wp Try.prog (tail4 14) (bodyPost Try.prog Try.f4 (KPost w0)) ⟨#[u0, u1, u2, u3, u4, u5, u6, .pointer (some ⟨p, 0, none⟩), .int .i64 0, .int .i64 N, u10, u11, u12, .slice (some ⟨M, 0, none⟩) (N + 1) (N + 1), u14, u15, u16, u17, u18, u19, u20, .slice (some ⟨SB, 0, none⟩) (N + 1) (N + 1), u22, u23, u24, u25, u26, u27, u28, u29, u30, u31, u32, u33, u34, u35, u36, u37, u38, u39, u40, u41, u42, u43, u44, u45, u46, u47, u48, u49, u50, u51, u52, u53, u54, u55, u56, u57, u58, u59, u60, u61, u62, u63, u64, u65, u66, u67, u68, u69, u70, u71, u72, u73, u74, u75, u76, u77, u78, u79, u80, u81, u82, u83, u84, u85, u86, u87, u88, u89, u90, u91, u92, u93, u94, u95, u96, u97, u98, u99, u100, u101, u102, u103, u104, u105, u106, u107, u108, u109, u110, u111, u112, u113, u114, u115, u116, u117, u118, u119, u120, u121, u122, u123, u124, u125, u126, u127, u128, u129, u130, u131, u132, u133, u134, u135, u136, u137, u138, u139, u140, u141, u142, u143, u144, u145, u146, u147, u148, u149, u150, u151, u152, u153, u154, u155, u156, u157, u158, u159, u160, u161, u162, u163, u164, u165, u166, u167, u168, u169, u170, u171, u172, u173, u174, u175, u176, u177, u178, u179, u180, u181, u182, u183, u184, u185, u186, u187, u188, u189, u190, u191, u192, u193, u194, u195, u196, u197, u198, u199, u200, u201, u202, u203, u204, u205, u206, u207, u208, u209, u210, u211, u212, u213, u214, u215, u216, u217, u218, u219, u220, u221, u222, u223, u224, u225, u226, u227, u228, u229, u230, u231, u232, u233, u234, u235, u236, u237, u238, u239, u240, u241, u242, u243, u244, u245, u246, u247, u248, u249, u250, u251, u252, u253, u254, u255, u256, u257, u258, u259, u260, u261, u262, u263, u264, u265, u266, u267, u268, u269, u270, u271, u272, u273, u274, u275, u276, u277, u278, u279, u280, u281, u282, u283, u284, u285, u286, u287, u288, u289, u290, u291, u292, u293, u294, u295, u296, u297, u298, u299, u300, u301, u302, u303, u304, u305, u306, u307, u308, u309, u310, u311, u312, u313, u314, u315, u316, u317, u318, u319, u320, u321, u322, u323, u324, u325, u326, u327, u328, u329, u330, u331, u332, u333, u334, u335, u336, u337, u338, u339, u340, u341, u342, u343, u344, u345, u346, u347], []⟩ w := by
  rw [step4_14]
  refine wp_seq_k fun KK hK => ?_
  have HK := Lib.hid hK
  have HR := Lib.hid R
  clear hK R
  conv => arg 2; whnf
  go_wp2
  exact HK.out _ _ (tail4_15 w0 w p mb N M SB f s s' K st hN HR.out)
/-- all that stands ahead of the collection -/
structure Before (w0 w : World) (p mb N M SB : Nat) (f : Nat → Nat) (s : St) (zs : List Int) (st : List Bool) : Prop where
  bel : Below w0.heap.size w0 w
  heap : HeapAt w w0.heap.size p mb s
  fits : Fits s
  lay : Lay s
  area : s.small = 600 ∧ s.big = 900
  shelved : Shelved N s
  copy : Copy w M f s
  own : Owned M f N (p :: mb :: blks s.recs)
  row : BRow w SB st
  rowl : st.length = N + 1
  sbo : SB ∉ p :: mb :: blks s.recs
  rowk : ∀ i, i < N → ∃ v, st[i + 1]? = some v ∧ (v = true ↔ Reach s.recs zs ((i : Int) + 1))
  good : ∀ x ∈ zs, ¬ badRoot s.recs x
set_option maxRecDepth 100000 in
set_option maxHeartbeats 1000000 in
theorem tail4_13 (w0 w : World) {u0 u1 u2 u3 u4 u5 u6 u8 u10 u11 u12 u14 u15 u16 u17 u18 u19 u20 u23 u24 u25 u26 u27 u28 u29 u30 u31 u32 u33 u34 u35 u36 u37 u38 u39 u40 u41 u42 u43 u44 u45 u46 u47 u48 u49 u50 u51 u52 u53 u54 u55 u56 u57 u58 u59 u60 u61 u62 u63 u64 u65 u66 u67 u68 u69 u70 u71 u72 u73 u74 u75 u76 u77 u78 u79 u80 u81 u82 u83 u84 u85 u86 u87 u88 u89 u90 u91 u92 u93 u94 u95 u96 u97 u98 u99 u100 u101 u102 u103 u104 u105 u106 u107 u108 u109 u110 u111 u112 u113 u114 u115 u116 u117 u118 u119 u120 u121 u122 u123 u124 u125 u126 u127 u128 u129 u130 u131 u132 u133 u134 u135 u136 u137 u138 u139 u140 u141 u142 u143 u144 u145 u146 u147 u148 u149 u150 u151 u152 u153 u154 u155 u156 u157 u158 u159 u160 u161 u162 u163 u164 u165 u166 u167 u168 u169 u170 u171 u172 u173 u174 u175 u176 u177 u178 u179 u180 u181 u182 u183 u184 u185 u186 u187 u188 u189 u190 u191 u192 u193 u194 u195 u196 u197 u198 u199 u200 u201 u202 u203 u204 u205 u206 u207 u208 u209 u210 u211 u212 u213 u214 u215 u216 u217 u218 u219 u220 u221 u222 u223 u224 u225 u226 u227 u228 u229 u230 u231 u232 u233 u234 u235 u236 u237 u238 u239 u240 u241 u242 u243 u244 u245 u246 u247 u248 u249 u250 u251 u252 u253 u254 u255 u256 u257 u258 u259 u260 u261 u262 u263 u264 u265 u266 u267 u268 u269 u270 u271 u272 u273 u274 u275 u276 u277 u278 u279 u280 u281 u282 u283 u284 u285 u286 u287 u288 u289 u290 u291 u292 u293 u294 u295 u296 u297 u298 u299 u300 u301 u302 u303 u304 u305 u306 u307 u308 u309 u310 u311 u312 u313 u314 u315 u316 u317 u318 u319 u320 u321 u322 u323 u324 u325 u326 u327 u328 u329 u330 u331 u332 u333 u334 u335 u336 u337 u338 u339 u340 u341 u342 u343 u344 u345 u346 u347 : Value} (p mb N M SB : Nat) (f : Nat → Nat) (s : St) (LA : Option Addr) (zs : List Int) (lc : Nat) (st : List Bool) (hN : N ≤ 40) (B : Before w0 w p mb N M SB f s zs st) (hz : LA = none → zs = []) (hR : RdI w LA zs) (hzl : zs.length ≤ 5) :
    Code.wp Try.prog (tail4 13) (bodyPost Try.prog Try.f4 (KPost w0)) ⟨#[u0, u1, u2, u3, u4, u5, u6, .pointer (some ⟨p, 0, none⟩), u8, .int .i64 N, u10, u11, u12, .slice (some ⟨M, 0, none⟩) (N + 1) (N + 1), u14, u15, u16, u17, u18, u19, u20, .slice (some ⟨SB, 0, none⟩) (N + 1) (N + 1), .slice LA zs.length lc, u23, u24, u25, u26, u27, u28, u29, u30, u31, u32, u33, u34, u35, u36, u37, u38, u39, u40, u41, u42, u43, u44, u45, u46, u47, u48, u49, u50, u51, u52, u53, u54, u55, u56, u57, u58, u59, u60, u61, u62, u63, u64, u65, u66, u67, u68, u69, u70, u71, u72, u73, u74, u75, u76, u77, u78, u79, u80, u81, u82, u83, u84, u85, u86, u87, u88, u89, u90, u91, u92, u93, u94, u95, u96, u97, u98, u99, u100, u101, u102, u103, u104, u105, u106, u107, u108, u109, u110, u111, u112, u113, u114, u115, u116, u117, u118, u119, u120, u121, u122, u123, u124, u125, u126, u127, u128, u129, u130, u131, u132, u133, u134, u135, u136, u137, u138, u139, u140, u141, u142, u143, u144, u145, u146, u147, u148, u149, u150, u151, u152, u153, u154, u155, u156, u157, u158, u159, u160, u161, u162, u163, u164, u165, u166, u167, u168, u169, u170, u171, u172, u173, u174, u175, u176, u177, u178, u179, u180, u181, u182, u183, u184, u185, u186, u187, u188, u189, u190, u191, u192, u193, u194, u195, u196, u197, u198, u199, u200, u201, u202, u203, u204, u205, u206, u207, u208, u209, u210, u211, u212, u213, u214, u215, u216, u217, u218, u219, u220, u221, u222, u223, u224, u225, u226, u227, u228, u229, u230, u231, u232, u233, u234, u235, u236, u237, u238, u239, u240, u241, u242, u243, u244, u245, u246, u247, u248, u249, u250, u251, u252, u253, u254, u255, u256, u257, u258, u259, u260, u261, u262, u263, u264, u265, u266, u267, u268, u269, u270, u271, u272, u273, u274, u275, u276, u277, u278, u279, u280, u281, u282, u283, u284, u285, u286, u287, u288, u289, u290, u291, u292, u293, u294, u295, u296, u297, u298, u299, u300, u301, u302, u303, u304, u305, u306, u307, u308, u309, u310, u311, u312, u313, u314, u315, u316, u317, u318, u319, u320, u321, u322, u323, u324, u325, u326, u327, u328, u329, u330, u331, u332, u333, u334, u335, u336, u337, u338, u339, u340, u341, u342, u343, u344, u345, u346, u347], []⟩ w := by
  rw [step4_13]
  refine wp_seq_k fun KK hK => ?_
  have HK := Lib.hid hK
  have HB := Lib.hid B
  have hc := Collect_any LA lc zs w hz hR (by omega) B.heap B.fits
  have HC := Lib.hid hc
  clear hK B hz hR hc
  conv => arg 2; whnf
  go_wp2_with fail
  refine HC.out.mono ?_
  rintro e w1 (⟨⟨x, hx, hbad⟩, _, _⟩ | ⟨_, K, hKR, rfl, hH1, hB1⟩)
  · exact absurd hbad (HB.out.good x hx)
  · have hRdy : Ready w0 w1 p mb N M SB f s { s with top := keptTop K s.recs, recs := kept K 0 s.recs } K st := by
      have B := HB.out
      have F' := B.fits.swept K
      have hbB := B.bel.trans (hB1.below (foot_low B.heap) B.bel.size)
      refine ⟨hbB, hH1, F', B.lay.swept K, B.area, B.shelved, B.copy.kept hB1 B.own.m (fun i hi => (B.own.out i (by rw [B.shelved.cnt] at hi; exact hi)).1), ?_, ?_, Blk.kept B.row hB1 B.sbo, B.rowl, ?_⟩
      · intro i r hr hk
        have hx := B.shelved.key i r hr
        obtain ⟨q, h1, h2, h3⟩ := kept_has 0 s.recs (List.mem_of_getElem? hr) (by rw [hx]; exact hk)
        exact ⟨q, by have := find_of_mem F'.ne h1; rwa [h2, hx] at this, h3, by rw [h2, hx]⟩
      · intro i hi hk
        rcases hf : find (kept K 0 s.recs) ((i : Int) + 1) with _ | q
        · rfl
        · obtain ⟨h1, h2⟩ := find_mem hf
          obtain ⟨r0, _, e, _, _, _, hr0⟩ := kept_mem h1
          exact absurd (by rw [← h2, e]; exact hr0) hk
      · intro i hi
        obtain ⟨v, h1, h2⟩ := B.rowk i hi
        rw [h1]
        congr 1
        exact Bool.eq_iff_iff.2 (by rw [decide_eq_true_iff]; exact h2.trans (hKR _).symm)
    have HRD := Lib.hid hRdy
    clear hRdy hH1 hB1 hKR HC HB
    go_wp2
    exact HK.out _ _ (tail4_14 w0 w1 p mb N M SB f s _ K st hN HRD.out)
end Go.Proofs.Ytmamcpaejhjceaa.HP
