/- HeapKeeps: the copy is laid. -/
import Derived.Test.YtmamcpaejhjceaaKeeps7
namespace Go.Proofs.Ytmamcpaejhjceaa.HP
open Go.MapKept Go.ChangeMaps Go.RowKit
theorem step4_7 : tail4 7 = (headSeq (tail4 7)).seq (tail4 8) := by kernel_rfl
theorem step4_6 : tail4 6 = (headSeq (tail4 6)).seq (tail4 7) := by kernel_rfl
theorem step4_5 : tail4 5 = (headSeq (tail4 5)).seq (tail4 6) := by kernel_rfl
/-- a heap whose objects have the handles 1 .. N and no word set -/
structure Ground0 (w0 w : World) (p mb N : Nat) (s : St) : Prop where
  bel : Below w0.heap.size w0 w
  heap : HeapAt w w0.heap.size p mb s
  fits : Fits s
  lay : Lay s
  area : s.small = 600 ∧ s.big = 900
  shelved : Shelved N s
  last : s.last = N
  zero : ∀ r ∈ s.recs, ∃ l, r.words = List.replicate l (0, false)
theorem Ground0.below {w0 w W : World} {p mb N : Nat} {s : St} (h : Ground0 w0 w p mb N s) (hB : Below w.heap.size w W) : Ground0 w0 W p mb N s :=
  ⟨h.bel.trans (hB.mono h.bel.size), h.heap.below hB, h.fits, h.lay, h.area, h.shelved, h.last, h.zero⟩
/-- the copy of the first n objects -/
structure Half (w1 w : World) (M N : Nat) (f : Nat → Nat) (s : St) (n : Nat) : Prop where
  but : But (fun k => k = M) w1 w
  row : ∃ c : Array Value, Blk w M c ∧ c.size = N + 1 ∧ ∀ i r, i < n → s.recs[i]? = some r → c[i + 1]? = some (.slice (some ⟨f i, 0, none⟩) r.words.length r.words.length)
  blk : ∀ i r, i < n → s.recs[i]? = some r → Blk w (f i) (cellsOf r.words).toArray
  low : ∀ i, i < n → w1.heap.size ≤ f i ∧ f i < w.heap.size
  inj : ∀ i j, i < n → j < n → f i = f j → i = j
theorem Half.next {w1 w : World} {M N : Nat} {f : Nat → Nat} {s : St} {n : Nat} {r : Rec} (h : Half w1 w M N f s n) (hM : M < w1.heap.size) (hr : s.recs[n]? = some r) (hn : n < N) (hz : ∃ l, r.words = List.replicate l (0, false)) :
    Half w1 ((w.setCell ⟨M, n + 1, none⟩ (.slice (some ⟨w.heap.size, 0, none⟩) r.words.length r.words.length)).alloc (.cells (zc r.words.length) 41)) M N (fun i => if i = n then w.heap.size else f i) s (n + 1) := by
  obtain ⟨c, hc, hcs, hcc⟩ := h.row
  have hs := h.but.size
  refine ⟨(h.but.setCell _ _ (Or.inl rfl)).alloc _, ⟨_, (hc.put (n + 1) _).alloc _, by simpa using hcs, ?_⟩, ?_, ?_, ?_⟩
  · intro i q hi hq
    by_cases e : i = n
    · subst e
      obtain rfl := Option.some.inj (hr.symm.trans hq)
      rw [if_pos rfl, Array.getElem?_setIfInBounds_self_of_lt (by omega)]
    · rw [if_neg e, Array.getElem?_setIfInBounds_ne (by omega)]
      exact hcc i q (by omega) hq
  · intro i q hi hq
    by_cases e : i = n
    · subst e
      obtain rfl := Option.some.inj (hr.symm.trans hq)
      rw [if_pos rfl]
      obtain ⟨l, hl⟩ := hz
      have e1 : zc r.words.length = (cellsOf r.words).toArray := by unfold zc; rw [hl]; simp
      rw [← e1]
      have := Blk.made (w.setCell ⟨M, i + 1, none⟩ (.slice (some ⟨w.heap.size, 0, none⟩) r.words.length r.words.length)) (zc r.words.length) 41
      simpa using this
    · rw [if_neg e]
      have := h.low i (by omega)
      exact ((h.blk i q (by omega) hq).other (by show f i ≠ M; omega) _).alloc _
  · intro i hi
    by_cases e : i = n
    · subst e; rw [if_pos rfl]; simp; omega
    · rw [if_neg e]; have := h.low i (by omega); simp; omega
  · intro i j hi hj
    by_cases e : i = n
    · by_cases e' : j = n
      · intro _; omega
      · rw [if_pos e, if_neg e']; have := h.low j (by omega); omega
    · by_cases e' : j = n
      · rw [if_neg e, if_pos e']; have := h.low i (by omega); omega
      · rw [if_neg e, if_neg e']; exact h.inj i j (by omega) (by omega)
theorem Half.stage {w0 w1 w : World} {p mb M N : Nat} {f : Nat → Nat} {s : St} (h : Half w1 w M N f s N) (G : Ground0 w0 w1 p mb N s) (hM : w0.heap.size ≤ M) (hM1 : M < w1.heap.size) (hMf : M ∉ p :: mb :: blks s.recs) : Stage w0 w p mb N M f s := by
  have hb := G.bel.trans (h.but.below (fun i hi => by rw [hi]; exact hM) G.bel.size)
  obtain ⟨c, hc, hcs, hcc⟩ := h.row
  have hlt : ∀ i r, s.recs[i]? = some r → i < N := fun i r hr => by rw [← G.shelved.cnt]; exact (List.getElem?_eq_some_iff.1 hr).1
  refine ⟨hb, G.heap.kept h.but (fun i hi e => by subst e; exact hMf hi), G.fits, G.lay, G.area, G.shelved, ⟨fun i r hr => hc.cell _ (hcc i r (hlt i r hr) hr), fun i r hr => h.blk i r (hlt i r hr) hr, hc.lt⟩,
    ⟨h.inj, fun i hi => ⟨fun hm => by have := h.low i hi; have := G.heap.lt _ hm; omega, fun e => by have := h.low i hi; omega⟩, hMf⟩, ⟨hM, fun i hi => by have := h.low i hi; have := G.bel.size; omega⟩, ?_⟩
  intro r hr d hd hb
  obtain ⟨l, hl⟩ := G.zero r hr
  rw [hl] at hd
  obtain ⟨_, rfl⟩ := List.mem_replicate.1 hd
  cases hb
set_option maxRecDepth 100000 in
set_option maxHeartbeats 2000000 in
theorem tail4_7 (w0 w : World) {u0 u3 u4 u5 u6 u8 u10 u11 u12 u14 u15 u16 u17 u18 u19 u20 u21 u22 u23 u24 u25 u26 u27 u28 u29 u30 u31 u32 u33 u34 u35 u36 u37 u38 u39 u40 u41 u42 u43 u44 u45 u46 u47 u48 u49 u50 u51 u52 u53 u54 u55 u56 u57 u58 u59 u60 u61 u62 u63 u64 u65 u66 u67 u68 u69 u70 u71 u72 u73 u74 u75 u76 u77 u78 u79 u80 u81 u82 u83 u84 u85 u86 u87 u88 u89 u90 u91 u92 u93 u94 u95 u96 u97 u98 u99 u100 u101 u102 u103 u104 u105 u106 u107 u108 u109 u110 u111 u112 u113 u114 u115 u116 u117 u118 u119 u120 u121 u122 u123 u124 u125 u126 u127 u128 u129 u130 u131 u132 u133 u134 u135 u136 u137 u138 u139 u140 u141 u142 u143 u144 u145 u146 u147 u148 u149 u150 u151 u152 u153 u154 u155 u156 u157 u158 u159 u160 u161 u162 u163 u164 u165 u166 u167 u168 u169 u170 u171 u172 u173 u174 u175 u176 u177 u178 u179 u180 u181 u182 u183 u184 u185 u186 u187 u188 u189 u190 u191 u192 u193 u194 u195 u196 u197 u198 u199 u200 u201 u202 u203 u204 u205 u206 u207 u208 u209 u210 u211 u212 u213 u214 u215 u216 u217 u218 u219 u220 u221 u222 u223 u224 u225 u226 u227 u228 u229 u230 u231 u232 u233 u234 u235 u236 u237 u238 u239 u240 u241 u242 u243 u244 u245 u246 u247 u248 u249 u250 u251 u252 u253 u254 u255 u256 u257 u258 u259 u260 u261 u262 u263 u264 u265 u266 u267 u268 u269 u270 u271 u272 u273 u274 u275 u276 u277 u278 u279 u280 u281 u282 u283 u284 u285 u286 u287 u288 u289 u290 u291 u292 u293 u294 u295 u296 u297 u298 u299 u300 u301 u302 u303 u304 u305 u306 u307 u308 u309 u310 u311 u312 u313 u314 u315 u316 u317 u318 u319 u320 u321 u322 u323 u324 u325 u326 u327 u328 u329 u330 u331 u332 u333 u334 u335 u336 u337 u338 u339 u340 u341 u342 u343 u344 u345 u346 u347 : Value} (p mb N M : Nat) (s : St) (KA : Option Addr) (kn kc : Nat) (kz : List Int) (RA : Option Addr) (rn rc : Nat) (rz : List Int) (hN : N ≤ 40) (hN1 : 1 ≤ N)
    (G : Ground0 w0 w p mb N s) (hM : w0.heap.size ≤ M) (hMb : ∃ c : Array Value, Blk w M c ∧ c.size = N + 1) (hMf : M ∉ p :: mb :: blks s.recs)
    (hkn : kn ≤ 9223372036854775807) (hKR : RdK .u16 w0 KA kn kz) (hkz : ∀ j, 0 ≤ kz.getD j 0 ∧ kz.getD j 0 ≤ 65535)
    (hrn : rn ≤ 9223372036854775807) (hR : RdK .u8 w0 RA rn rz) (hz : ∀ j, 0 ≤ rz.getD j 0 ∧ rz.getD j 0 ≤ 255) :
    Code.wp Try.prog (tail4 7) (bodyPost Try.prog Try.f4 (KPost w0)) ⟨#[u0, .slice KA kn kc, .slice RA rn rc, u3, u4, u5, u6, .pointer (some ⟨p, 0, none⟩), u8, .int .i64 N, u10, u11, u12, .slice (some ⟨M, 0, none⟩) (N + 1) (N + 1), u14, u15, u16, u17, u18, u19, u20, u21, u22, u23, u24, u25, u26, u27, u28, u29, u30, u31, u32, u33, u34, u35, u36, u37, u38, u39, u40, u41, u42, u43, u44, u45, u46, u47, u48, u49, u50, u51, u52, u53, u54, u55, u56, u57, u58, u59, u60, u61, u62, u63, u64, u65, u66, u67, u68, u69, u70, u71, u72, u73, u74, u75, u76, u77, u78, u79, u80, u81, u82, u83, u84, u85, u86, u87, u88, u89, u90, u91, u92, u93, u94, u95, u96, u97, u98, u99, u100, u101, u102, u103, u104, u105, u106, u107, u108, u109, u110, u111, u112, u113, u114, u115, u116, u117, u118, u119, u120, u121, u122, u123, u124, u125, u126, u127, u128, u129, u130, u131, u132, u133, u134, u135, u136, u137, u138, u139, u140, u141, u142, u143, u144, u145, u146, u147, u148, u149, u150, u151, u152, u153, u154, u155, u156, u157, u158, u159, u160, u161, u162, u163, u164, u165, u166, u167, u168, u169, u170, u171, u172, u173, u174, u175, u176, u177, u178, u179, u180, u181, u182, u183, u184, u185, u186, u187, u188, u189, u190, u191, u192, u193, u194, u195, u196, u197, u198, u199, u200, u201, u202, u203, u204, u205, u206, u207, u208, u209, u210, u211, u212, u213, u214, u215, u216, u217, u218, u219, u220, u221, u222, u223, u224, u225, u226, u227, u228, u229, u230, u231, u232, u233, u234, u235, u236, u237, u238, u239, u240, u241, u242, u243, u244, u245, u246, u247, u248, u249, u250, u251, u252, u253, u254, u255, u256, u257, u258, u259, u260, u261, u262, u263, u264, u265, u266, u267, u268, u269, u270, u271, u272, u273, u274, u275, u276, u277, u278, u279, u280, u281, u282, u283, u284, u285, u286, u287, u288, u289, u290, u291, u292, u293, u294, u295, u296, u297, u298, u299, u300, u301, u302, u303, u304, u305, u306, u307, u308, u309, u310, u311, u312, u313, u314, u315, u316, u317, u318, u319, u320, u321, u322, u323, u324, u325, u326, u327, u328, u329, u330, u331, u332, u333, u334, u335, u336, u337, u338, u339, u340, u341, u342, u343, u344, u345, u346, u347], []⟩ w := by
  rw [step4_7]
  refine wp_seq_k fun KK hK => ?_
  have HK := Lib.hid hK
  have HG := Lib.hid G
  have HR := Lib.hid (And.intro (And.intro hkn (And.intro hKR hkz)) (And.intro hrn (And.intro hR hz)))
  have hM1 : M < w.heap.size := by obtain ⟨c, hc, _⟩ := hMb; exact hc.lt
  have HH := Lib.hid (show Half w w M N (fun _ => 0) s 0 by obtain ⟨c, hc, h⟩ := hMb; exact ⟨But.refl _ _, ⟨c, hc, h, fun i r h => by omega⟩, fun i r h => by omega, fun i h => by omega, fun i j h => by omega⟩)
  clear hK G hkn hKR hkz hrn hR hz hMb
  conv => arg 2; whnf
  go_wp2
  go_loopw [14] (fun i wx => ∃ (x : Nat) (f : Nat → Nat), i = .int .i64 x ∧ 1 ≤ x ∧ x ≤ N + 1 ∧ Hid (Half w wx M N f s (x - 1))) (fun i _ => N + 1 - (intOf i).toNat)
  case atStart => exact ⟨1, fun _ => 0, rfl, Nat.le_refl _, by omega, HH⟩
  case round =>
    obtain ⟨x, f, rfl, hx1, hxn, hH⟩ := hrel
    clear HH
    by_cases hxl : x ≤ N
    · obtain ⟨i, rfl⟩ : ∃ i, x = i + 1 := ⟨x - 1, by omega⟩
      have hiN : i < N := by omega
      obtain ⟨r, hr⟩ := HG.out.shelved.at hiN
      have hrl : r.words.length ≤ 40 := HG.out.shelved.len r (List.mem_of_getElem? hr)
      have hrl1 : 1 ≤ r.words.length := (HG.out.fits.recs r (List.mem_of_getElem? hr)).1
      have HF := Lib.hid (HG.out.shelved.find HG.out.fits.ne hr)
      have hHp : HeapAt wr w0.heap.size p mb s := HG.out.heap.kept hH.out.but (fun i hi e => by subst e; exact hMf hi)
      have hmk := make_zc r.words.length (by omega)
      have hcel : ∃ v, wr.cell? ⟨M, i + 1, none⟩ = some v ∧ wr.frozen? ⟨M, i + 1, none⟩ = false := by
        obtain ⟨c, hc, hcs, _⟩ := hH.out.row
        exact ⟨_, hc.cell (i + 1) (Array.getElem?_eq_getElem (by omega)), hc.free _⟩
      obtain ⟨v, hcv, hcf⟩ := hcel
      have hMw : M < wr.heap.size := Nat.lt_of_lt_of_le hM1 hH.out.but.size
      have HRR := Lib.hid hr
      clear hr
      go_wp2_with (first
        | (go_at_call 12; refine (Size_some _ r _ hHp (by first | exact HF.out | (push_cast; exact HF.out))).mono ?_; rintro e w' ⟨rfl, rfl⟩))
      go_roundw
      case rel => exact ⟨i + 2, _, by go_num, by omega, by omega, Lib.hid (hH.out.next hM1 HRR.out hiN (HG.out.zero r (List.mem_of_getElem? HRR.out)))⟩
      case measure => simp [intOf]; omega
    · obtain rfl : x = N + 1 := by omega
      go_wp2
      exact HK.out _ _ (tail4_8 w0 _ p mb N M f s KA kn kc kz RA rn rc rz hN hN1 (hH.out.stage HG.out hM hM1 hMf) HR.out.1.1 HR.out.1.2.1 HR.out.1.2.2 HR.out.2.1 HR.out.2.2.1 HR.out.2.2.2)
theorem info38 : (Try.prog.info? 38).map (fun i => (i.zero, i.size, i.bytes)) = some (some (.slice none 0 0), 1, 24) := by kernel_rfl
theorem make_rows (n : Nat) (hn : n ≤ 65536) (w : World) : ∃ c : Array Value, c.size = n ∧ (Instr.makeSlice 37 (.int .i64 (n : Int)) (.int .i64 (n : Int))).run Try.prog w = .ok (.slice (some ⟨w.heap.size, 0, none⟩) n n) (w.alloc (.cells c 38)) := by
  obtain ⟨i, hi, hz0, hz1, hz2⟩ := info_parts info38
  have := run_make (P := Try.prog) w 37 38 i _ Try.underlying37 hi hz0 .i64 .i64 n n (by omega) (Int.le_refl _) (by rw [hz2]; omega) (by omega)
  rw [Int.toNat_natCast, hz1, Nat.mul_one] at this
  refine ⟨_, ?_, this⟩
  have e : Value.cells (.slice none 0 0) = #[.slice none 0 0] := rfl
  rw [e]
  have := toList_madeCells_one (.slice none 0 0) n
  rw [← Array.length_toList, this]
  simp
set_option maxRecDepth 100000 in
set_option maxHeartbeats 1000000 in
theorem tail4_6 (w0 w : World) {u0 u3 u4 u5 u6 u8 u10 u11 u12 u13 u14 u15 u16 u17 u18 u19 u20 u21 u22 u23 u24 u25 u26 u27 u28 u29 u30 u31 u32 u33 u34 u35 u36 u37 u38 u39 u40 u41 u42 u43 u44 u45 u46 u47 u48 u49 u50 u51 u52 u53 u54 u55 u56 u57 u58 u59 u60 u61 u62 u63 u64 u65 u66 u67 u68 u69 u70 u71 u72 u73 u74 u75 u76 u77 u78 u79 u80 u81 u82 u83 u84 u85 u86 u87 u88 u89 u90 u91 u92 u93 u94 u95 u96 u97 u98 u99 u100 u101 u102 u103 u104 u105 u106 u107 u108 u109 u110 u111 u112 u113 u114 u115 u116 u117 u118 u119 u120 u121 u122 u123 u124 u125 u126 u127 u128 u129 u130 u131 u132 u133 u134 u135 u136 u137 u138 u139 u140 u141 u142 u143 u144 u145 u146 u147 u148 u149 u150 u151 u152 u153 u154 u155 u156 u157 u158 u159 u160 u161 u162 u163 u164 u165 u166 u167 u168 u169 u170 u171 u172 u173 u174 u175 u176 u177 u178 u179 u180 u181 u182 u183 u184 u185 u186 u187 u188 u189 u190 u191 u192 u193 u194 u195 u196 u197 u198 u199 u200 u201 u202 u203 u204 u205 u206 u207 u208 u209 u210 u211 u212 u213 u214 u215 u216 u217 u218 u219 u220 u221 u222 u223 u224 u225 u226 u227 u228 u229 u230 u231 u232 u233 u234 u235 u236 u237 u238 u239 u240 u241 u242 u243 u244 u245 u246 u247 u248 u249 u250 u251 u252 u253 u254 u255 u256 u257 u258 u259 u260 u261 u262 u263 u264 u265 u266 u267 u268 u269 u270 u271 u272 u273 u274 u275 u276 u277 u278 u279 u280 u281 u282 u283 u284 u285 u286 u287 u288 u289 u290 u291 u292 u293 u294 u295 u296 u297 u298 u299 u300 u301 u302 u303 u304 u305 u306 u307 u308 u309 u310 u311 u312 u313 u314 u315 u316 u317 u318 u319 u320 u321 u322 u323 u324 u325 u326 u327 u328 u329 u330 u331 u332 u333 u334 u335 u336 u337 u338 u339 u340 u341 u342 u343 u344 u345 u346 u347 : Value} (p mb N : Nat) (s : St) (KA : Option Addr) (kn kc : Nat) (kz : List Int) (RA : Option Addr) (rn rc : Nat) (rz : List Int) (hN : N ≤ 40) (hN1 : 1 ≤ N)
    (G : Ground0 w0 w p mb N s)
    (hkn : kn ≤ 9223372036854775807) (hKR : RdK .u16 w0 KA kn kz) (hkz : ∀ j, 0 ≤ kz.getD j 0 ∧ kz.getD j 0 ≤ 65535)
    (hrn : rn ≤ 9223372036854775807) (hR : RdK .u8 w0 RA rn rz) (hz : ∀ j, 0 ≤ rz.getD j 0 ∧ rz.getD j 0 ≤ 255) :
    Code.wp Try.prog (tail4 6) (bodyPost Try.prog Try.f4 (KPost w0)) ⟨#[u0, .slice KA kn kc, .slice RA rn rc, u3, u4, u5, u6, .pointer (some ⟨p, 0, none⟩), u8, .int .i64 N, u10, u11, u12, u13, u14, u15, u16, u17, u18, u19, u20, u21, u22, u23, u24, u25, u26, u27, u28, u29, u30, u31, u32, u33, u34, u35, u36, u37, u38, u39, u40, u41, u42, u43, u44, u45, u46, u47, u48, u49, u50, u51, u52, u53, u54, u55, u56, u57, u58, u59, u60, u61, u62, u63, u64, u65, u66, u67, u68, u69, u70, u71, u72, u73, u74, u75, u76, u77, u78, u79, u80, u81, u82, u83, u84, u85, u86, u87, u88, u89, u90, u91, u92, u93, u94, u95, u96, u97, u98, u99, u100, u101, u102, u103, u104, u105, u106, u107, u108, u109, u110, u111, u112, u113, u114, u115, u116, u117, u118, u119, u120, u121, u122, u123, u124, u125, u126, u127, u128, u129, u130, u131, u132, u133, u134, u135, u136, u137, u138, u139, u140, u141, u142, u143, u144, u145, u146, u147, u148, u149, u150, u151, u152, u153, u154, u155, u156, u157, u158, u159, u160, u161, u162, u163, u164, u165, u166, u167, u168, u169, u170, u171, u172, u173, u174, u175, u176, u177, u178, u179, u180, u181, u182, u183, u184, u185, u186, u187, u188, u189, u190, u191, u192, u193, u194, u195, u196, u197, u198, u199, u200, u201, u202, u203, u204, u205, u206, u207, u208, u209, u210, u211, u212, u213, u214, u215, u216, u217, u218, u219, u220, u221, u222, u223, u224, u225, u226, u227, u228, u229, u230, u231, u232, u233, u234, u235, u236, u237, u238, u239, u240, u241, u242, u243, u244, u245, u246, u247, u248, u249, u250, u251, u252, u253, u254, u255, u256, u257, u258, u259, u260, u261, u262, u263, u264, u265, u266, u267, u268, u269, u270, u271, u272, u273, u274, u275, u276, u277, u278, u279, u280, u281, u282, u283, u284, u285, u286, u287, u288, u289, u290, u291, u292, u293, u294, u295, u296, u297, u298, u299, u300, u301, u302, u303, u304, u305, u306, u307, u308, u309, u310, u311, u312, u313, u314, u315, u316, u317, u318, u319, u320, u321, u322, u323, u324, u325, u326, u327, u328, u329, u330, u331, u332, u333, u334, u335, u336, u337, u338, u339, u340, u341, u342, u343, u344, u345, u346, u347], []⟩ w := by
  rw [step4_6]
  refine wp_seq_k fun KK hK => ?_
  have HK := Lib.hid hK
  have HG := Lib.hid G
  have HR := Lib.hid (And.intro (And.intro hkn (And.intro hKR hkz)) (And.intro hrn (And.intro hR hz)))
  obtain ⟨c, hcs, hmk⟩ := make_rows (N + 1) (by omega) w
  have hmk' : (Instr.makeSlice 37 (.int .i64 ((N : Int) + 1)) (.int .i64 ((N : Int) + 1))).run Try.prog w = .ok (.slice (some ⟨w.heap.size, 0, none⟩) (N + 1) (N + 1)) (w.alloc (.cells c 38)) := hmk
  clear hK G hkn hKR hkz hrn hR hz hmk
  conv => arg 2; whnf
  go_wp2
  have hB := (Below.refl w.heap.size w).alloc (Nat.le_refl _) (.cells c 38)
  exact HK.out _ _ (tail4_7 w0 _ p mb N w.heap.size s KA kn kc kz RA rn rc rz hN hN1 (HG.out.below hB) HG.out.bel.size ⟨c, Blk.made w c 38, hcs⟩ (fun hm => by have := HG.out.heap.lt _ hm; omega) HR.out.1.1 HR.out.1.2.1 HR.out.1.2.2 HR.out.2.1 HR.out.2.2.1 HR.out.2.2.2)
set_option maxRecDepth 100000 in
set_option maxHeartbeats 1000000 in
theorem tail4_5 (w0 w : World) {u0 u3 u4 u5 u6 u8 u10 u11 u12 u13 u14 u15 u16 u17 u18 u19 u20 u21 u22 u23 u24 u25 u26 u27 u28 u29 u30 u31 u32 u33 u34 u35 u36 u37 u38 u39 u40 u41 u42 u43 u44 u45 u46 u47 u48 u49 u50 u51 u52 u53 u54 u55 u56 u57 u58 u59 u60 u61 u62 u63 u64 u65 u66 u67 u68 u69 u70 u71 u72 u73 u74 u75 u76 u77 u78 u79 u80 u81 u82 u83 u84 u85 u86 u87 u88 u89 u90 u91 u92 u93 u94 u95 u96 u97 u98 u99 u100 u101 u102 u103 u104 u105 u106 u107 u108 u109 u110 u111 u112 u113 u114 u115 u116 u117 u118 u119 u120 u121 u122 u123 u124 u125 u126 u127 u128 u129 u130 u131 u132 u133 u134 u135 u136 u137 u138 u139 u140 u141 u142 u143 u144 u145 u146 u147 u148 u149 u150 u151 u152 u153 u154 u155 u156 u157 u158 u159 u160 u161 u162 u163 u164 u165 u166 u167 u168 u169 u170 u171 u172 u173 u174 u175 u176 u177 u178 u179 u180 u181 u182 u183 u184 u185 u186 u187 u188 u189 u190 u191 u192 u193 u194 u195 u196 u197 u198 u199 u200 u201 u202 u203 u204 u205 u206 u207 u208 u209 u210 u211 u212 u213 u214 u215 u216 u217 u218 u219 u220 u221 u222 u223 u224 u225 u226 u227 u228 u229 u230 u231 u232 u233 u234 u235 u236 u237 u238 u239 u240 u241 u242 u243 u244 u245 u246 u247 u248 u249 u250 u251 u252 u253 u254 u255 u256 u257 u258 u259 u260 u261 u262 u263 u264 u265 u266 u267 u268 u269 u270 u271 u272 u273 u274 u275 u276 u277 u278 u279 u280 u281 u282 u283 u284 u285 u286 u287 u288 u289 u290 u291 u292 u293 u294 u295 u296 u297 u298 u299 u300 u301 u302 u303 u304 u305 u306 u307 u308 u309 u310 u311 u312 u313 u314 u315 u316 u317 u318 u319 u320 u321 u322 u323 u324 u325 u326 u327 u328 u329 u330 u331 u332 u333 u334 u335 u336 u337 u338 u339 u340 u341 u342 u343 u344 u345 u346 u347 : Value} (p mb N : Nat) (s : St) (KA : Option Addr) (kn kc : Nat) (kz : List Int) (RA : Option Addr) (rn rc : Nat) (rz : List Int) (hN : N ≤ 40)
    (G : Ground0 w0 w p mb N s)
    (hkn : kn ≤ 9223372036854775807) (hKR : RdK .u16 w0 KA kn kz) (hkz : ∀ j, 0 ≤ kz.getD j 0 ∧ kz.getD j 0 ≤ 65535)
    (hrn : rn ≤ 9223372036854775807) (hR : RdK .u8 w0 RA rn rz) (hz : ∀ j, 0 ≤ rz.getD j 0 ∧ rz.getD j 0 ≤ 255) :
    Code.wp Try.prog (tail4 5) (bodyPost Try.prog Try.f4 (KPost w0)) ⟨#[u0, .slice KA kn kc, .slice RA rn rc, u3, u4, u5, u6, .pointer (some ⟨p, 0, none⟩), u8, .int .i64 N, u10, u11, u12, u13, u14, u15, u16, u17, u18, u19, u20, u21, u22, u23, u24, u25, u26, u27, u28, u29, u30, u31, u32, u33, u34, u35, u36, u37, u38, u39, u40, u41, u42, u43, u44, u45, u46, u47, u48, u49, u50, u51, u52, u53, u54, u55, u56, u57, u58, u59, u60, u61, u62, u63, u64, u65, u66, u67, u68, u69, u70, u71, u72, u73, u74, u75, u76, u77, u78, u79, u80, u81, u82, u83, u84, u85, u86, u87, u88, u89, u90, u91, u92, u93, u94, u95, u96, u97, u98, u99, u100, u101, u102, u103, u104, u105, u106, u107, u108, u109, u110, u111, u112, u113, u114, u115, u116, u117, u118, u119, u120, u121, u122, u123, u124, u125, u126, u127, u128, u129, u130, u131, u132, u133, u134, u135, u136, u137, u138, u139, u140, u141, u142, u143, u144, u145, u146, u147, u148, u149, u150, u151, u152, u153, u154, u155, u156, u157, u158, u159, u160, u161, u162, u163, u164, u165, u166, u167, u168, u169, u170, u171, u172, u173, u174, u175, u176, u177, u178, u179, u180, u181, u182, u183, u184, u185, u186, u187, u188, u189, u190, u191, u192, u193, u194, u195, u196, u197, u198, u199, u200, u201, u202, u203, u204, u205, u206, u207, u208, u209, u210, u211, u212, u213, u214, u215, u216, u217, u218, u219, u220, u221, u222, u223, u224, u225, u226, u227, u228, u229, u230, u231, u232, u233, u234, u235, u236, u237, u238, u239, u240, u241, u242, u243, u244, u245, u246, u247, u248, u249, u250, u251, u252, u253, u254, u255, u256, u257, u258, u259, u260, u261, u262, u263, u264, u265, u266, u267, u268, u269, u270, u271, u272, u273, u274, u275, u276, u277, u278, u279, u280, u281, u282, u283, u284, u285, u286, u287, u288, u289, u290, u291, u292, u293, u294, u295, u296, u297, u298, u299, u300, u301, u302, u303, u304, u305, u306, u307, u308, u309, u310, u311, u312, u313, u314, u315, u316, u317, u318, u319, u320, u321, u322, u323, u324, u325, u326, u327, u328, u329, u330, u331, u332, u333, u334, u335, u336, u337, u338, u339, u340, u341, u342, u343, u344, u345, u346, u347], []⟩ w := by
  rw [step4_5]
  refine wp_seq_k fun KK hK => ?_
  have HK := Lib.hid hK
  have HG := Lib.hid G
  have HR := Lib.hid (And.intro (And.intro hkn (And.intro hKR hkz)) (And.intro hrn (And.intro hR hz)))
  clear hK G hkn hKR hkz hrn hR hz
  conv => arg 2; whnf
  by_cases h0 : N = 0
  · subst h0
    go_wp2
    go_ret
    exact ⟨rfl, HG.out.bel⟩
  · go_wp2
    exact HK.out _ _ (tail4_6 w0 _ p mb N s KA kn kc kz RA rn rc rz hN (by omega) HG.out HR.out.1.1 HR.out.1.2.1 HR.out.1.2.2 HR.out.2.1 HR.out.2.2.1 HR.out.2.2.2)
end Go.Proofs.Ytmamcpaejhjceaa.HP
