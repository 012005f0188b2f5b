/- HeapKeeps: the objects are made; the whole walk. -/
import Derived.Test.YtmamcpaejhjceaaKeeps8
namespace Go.Proofs.Ytmamcpaejhjceaa.HP
open Go.MapKept Go.ChangeMaps Go.RowKit
theorem step4_4 : tail4 4 = (headSeq (tail4 4)).seq (tail4 5) := by kernel_rfl
theorem step4_3 : tail4 3 = (headSeq (tail4 3)).seq (tail4 4) := by kernel_rfl
theorem step4_2 : tail4 2 = (headSeq (tail4 2)).seq (tail4 3) := by kernel_rfl
theorem step4_1 : tail4 1 = (headSeq (tail4 1)).seq (tail4 2) := by kernel_rfl
theorem Shelved.push {N : Nat} {s : St} (h : Shelved N s) (hl : s.last = N) (n : Nat) (hn : n ≤ 40) (pl : Int) (ob wb : Nat) : Shelved (N + 1) (grown s n pl ob wb) := by
  have e : (grown s n pl ob wb).recs = s.recs ++ [newRec s n pl ob wb] := rfl
  refine ⟨by rw [e]; simp [h.cnt], ?_, ?_⟩
  · intro i r hr
    rw [e] at hr
    by_cases hi : i < s.recs.length
    · rw [List.getElem?_append_left hi] at hr
      exact h.key i r hr
    · rw [List.getElem?_append_right (by omega)] at hr
      have h0 : i - s.recs.length = 0 := by
        rcases hj : i - s.recs.length with _ | j
        · rfl
        · rw [hj] at hr; simp at hr
      rw [h0] at hr
      obtain rfl := Option.some.inj hr
      show s.last + 1 = _
      have := h.cnt
      omega
  · intro r hr
    rw [e] at hr
    rcases List.mem_append.1 hr with h1 | h1
    · exact h.len r h1
    · obtain rfl := List.mem_singleton.1 h1
      simpa [newRec] using hn
theorem zero_push {s : St} (h : ∀ r ∈ s.recs, ∃ l, r.words = List.replicate l ((0, false) : Cel)) (n : Nat) (pl : Int) (ob wb : Nat) : ∀ r ∈ (grown s n pl ob wb).recs, ∃ l, r.words = List.replicate l ((0, false) : Cel) := by
  intro r hr
  rcases List.mem_append.1 (show r ∈ s.recs ++ [newRec s n pl ob wb] from hr) with h1 | h1
  · exact h r h1
  · obtain rfl := List.mem_singleton.1 h1
    exact ⟨n, rfl⟩
theorem Shelved.top {N : Nat} {s : St} (h : Shelved N s) (t : Int) : Shelved N { s with top := t } := ⟨h.cnt, h.key, h.len⟩
/-- what Alloc does of an object -/
theorem Alloc_ground (w0 w : World) (p mb N : Nat) (s : St) (m : Nat) (h1 : 1 ≤ m) (h2 : m ≤ 40) (hN : N ≤ 40) (G : Ground0 w0 w p mb N s) :
    Calls Try.prog 8 #[.pointer (some ⟨p, 0, none⟩), .int .i64 (m : Int)] w fun e w' => ∃ (v c : Int) (N' : Nat) (s' : St), e = .returned (.tuple #[.int .i64 v, .int .i64 c]) ∧ ((c = 0 ∧ N' = N + 1) ∨ (c = 9 ∧ N' = N)) ∧ Ground0 w0 w' p mb N' s' := by
  have hl := G.last
  by_cases hs : m ≤ 16
  · by_cases hf : (m : Int) ≤ s.small - s.top
    · refine (Alloc_small m w G.heap G.fits (by omega) h1 hs hf).mono ?_
      rintro e w' ⟨rfl, ob, wb, _, _, hH, hB⟩
      exact ⟨_, 0, N + 1, _, rfl, .inl ⟨rfl, rfl⟩, G.bel.trans (hB.below (foot_low G.heap) G.bel.size), hH, G.fits.push m ob wb h1 hs hf, G.lay.push_small G.fits m ob wb hs, G.area, (G.shelved.push hl m h2 s.top ob wb).top _, by show s.last + 1 = _; omega, zero_push G.zero m s.top ob wb⟩
    · refine (Alloc_full m w G.heap G.fits (by omega) (by omega) (by omega)).mono ?_
      rintro e w' ⟨rfl, k, rfl⟩
      exact ⟨_, 9, N, s, rfl, .inr ⟨rfl, rfl⟩, G.below (below_drewN (Below.refl _ w) k)⟩
  · refine (Alloc_large m w G.heap G.fits G.lay (by omega) (by omega) (by omega)).mono ?_
    rintro e w' ⟨D, hp, hD, ⟨_, rfl, hB⟩ | ⟨hok, rfl, ob, wb, _, _, hH, hB⟩⟩
    · exact ⟨_, 9, N, s, rfl, .inr ⟨rfl, rfl⟩, G.below hB⟩
    · obtain ⟨F, L, _⟩ := Alloc_large_fits G.fits G.lay hp hD (by omega) hok ob wb
      exact ⟨_, 0, N + 1, _, rfl, .inl ⟨rfl, rfl⟩, G.bel.trans (hB.below (foot_low G.heap) G.bel.size), hH, F, L, G.area, G.shelved.push hl m h2 _ ob wb, by show s.last + 1 = _; omega, zero_push G.zero m _ ob wb⟩
set_option maxRecDepth 100000 in
set_option maxHeartbeats 1000000 in
theorem tail4_4 (w0 w : World) {u3 u4 u5 u6 u8 u10 u11 u12 u13 u14 u15 u16 u17 u18 u19 u20 u21 u22 u23 u24 u25 u26 u27 u28 u29 u30 u31 u32 u33 u34 u35 u36 u37 u38 u39 u40 u41 u42 u43 u44 u45 u46 u47 u48 u49 u50 u51 u52 u53 u54 u55 u56 u57 u58 u59 u60 u61 u62 u63 u64 u65 u66 u67 u68 u69 u70 u71 u72 u73 u74 u75 u76 u77 u78 u79 u80 u81 u82 u83 u84 u85 u86 u87 u88 u89 u90 u91 u92 u93 u94 u95 u96 u97 u98 u99 u100 u101 u102 u103 u104 u105 u106 u107 u108 u109 u110 u111 u112 u113 u114 u115 u116 u117 u118 u119 u120 u121 u122 u123 u124 u125 u126 u127 u128 u129 u130 u131 u132 u133 u134 u135 u136 u137 u138 u139 u140 u141 u142 u143 u144 u145 u146 u147 u148 u149 u150 u151 u152 u153 u154 u155 u156 u157 u158 u159 u160 u161 u162 u163 u164 u165 u166 u167 u168 u169 u170 u171 u172 u173 u174 u175 u176 u177 u178 u179 u180 u181 u182 u183 u184 u185 u186 u187 u188 u189 u190 u191 u192 u193 u194 u195 u196 u197 u198 u199 u200 u201 u202 u203 u204 u205 u206 u207 u208 u209 u210 u211 u212 u213 u214 u215 u216 u217 u218 u219 u220 u221 u222 u223 u224 u225 u226 u227 u228 u229 u230 u231 u232 u233 u234 u235 u236 u237 u238 u239 u240 u241 u242 u243 u244 u245 u246 u247 u248 u249 u250 u251 u252 u253 u254 u255 u256 u257 u258 u259 u260 u261 u262 u263 u264 u265 u266 u267 u268 u269 u270 u271 u272 u273 u274 u275 u276 u277 u278 u279 u280 u281 u282 u283 u284 u285 u286 u287 u288 u289 u290 u291 u292 u293 u294 u295 u296 u297 u298 u299 u300 u301 u302 u303 u304 u305 u306 u307 u308 u309 u310 u311 u312 u313 u314 u315 u316 u317 u318 u319 u320 u321 u322 u323 u324 u325 u326 u327 u328 u329 u330 u331 u332 u333 u334 u335 u336 u337 u338 u339 u340 u341 u342 u343 u344 u345 u346 u347 : Value} (p mb : Nat) (s : St) (SA : Option Addr) (sn sc : Nat) (sz : List Int) (KA : Option Addr) (kn kc : Nat) (kz : List Int) (RA : Option Addr) (rn rc : Nat) (rz : List Int)
    (G : Ground0 w0 w p mb 0 s)
    (hsn : sn ≤ 9223372036854775807) (hSR : RdK .u8 w0 SA sn sz) (hsz : ∀ j, 0 ≤ sz.getD j 0 ∧ sz.getD j 0 ≤ 255)
    (hkn : kn ≤ 9223372036854775807) (hKR : RdK .u16 w0 KA kn kz) (hkz : ∀ j, 0 ≤ kz.getD j 0 ∧ kz.getD j 0 ≤ 65535)
    (hrn : rn ≤ 9223372036854775807) (hR : RdK .u8 w0 RA rn rz) (hz : ∀ j, 0 ≤ rz.getD j 0 ∧ rz.getD j 0 ≤ 255) :
    Code.wp Try.prog (tail4 4) (bodyPost Try.prog Try.f4 (KPost w0)) ⟨#[.slice SA sn sc, .slice KA kn kc, .slice RA rn rc, u3, u4, u5, u6, .pointer (some ⟨p, 0, none⟩), u8, .int .i64 0, u10, u11, u12, u13, u14, u15, u16, u17, u18, u19, u20, u21, u22, u23, u24, u25, u26, u27, u28, u29, u30, u31, u32, u33, u34, u35, u36, u37, u38, u39, u40, u41, u42, u43, u44, u45, u46, u47, u48, u49, u50, u51, u52, u53, u54, u55, u56, u57, u58, u59, u60, u61, u62, u63, u64, u65, u66, u67, u68, u69, u70, u71, u72, u73, u74, u75, u76, u77, u78, u79, u80, u81, u82, u83, u84, u85, u86, u87, u88, u89, u90, u91, u92, u93, u94, u95, u96, u97, u98, u99, u100, u101, u102, u103, u104, u105, u106, u107, u108, u109, u110, u111, u112, u113, u114, u115, u116, u117, u118, u119, u120, u121, u122, u123, u124, u125, u126, u127, u128, u129, u130, u131, u132, u133, u134, u135, u136, u137, u138, u139, u140, u141, u142, u143, u144, u145, u146, u147, u148, u149, u150, u151, u152, u153, u154, u155, u156, u157, u158, u159, u160, u161, u162, u163, u164, u165, u166, u167, u168, u169, u170, u171, u172, u173, u174, u175, u176, u177, u178, u179, u180, u181, u182, u183, u184, u185, u186, u187, u188, u189, u190, u191, u192, u193, u194, u195, u196, u197, u198, u199, u200, u201, u202, u203, u204, u205, u206, u207, u208, u209, u210, u211, u212, u213, u214, u215, u216, u217, u218, u219, u220, u221, u222, u223, u224, u225, u226, u227, u228, u229, u230, u231, u232, u233, u234, u235, u236, u237, u238, u239, u240, u241, u242, u243, u244, u245, u246, u247, u248, u249, u250, u251, u252, u253, u254, u255, u256, u257, u258, u259, u260, u261, u262, u263, u264, u265, u266, u267, u268, u269, u270, u271, u272, u273, u274, u275, u276, u277, u278, u279, u280, u281, u282, u283, u284, u285, u286, u287, u288, u289, u290, u291, u292, u293, u294, u295, u296, u297, u298, u299, u300, u301, u302, u303, u304, u305, u306, u307, u308, u309, u310, u311, u312, u313, u314, u315, u316, u317, u318, u319, u320, u321, u322, u323, u324, u325, u326, u327, u328, u329, u330, u331, u332, u333, u334, u335, u336, u337, u338, u339, u340, u341, u342, u343, u344, u345, u346, u347], []⟩ w := by
  rw [step4_4]
  refine wp_seq_k fun KK hK => ?_
  have HK := Lib.hid hK
  have HG := Lib.hid G
  have HR := Lib.hid (And.intro (And.intro hkn (And.intro hKR hkz)) (And.intro hrn (And.intro hR hz)))
  clear hK G hkn hKR hkz hrn hR hz
  conv => arg 2; whnf
  go_wp2
  go_loopw [9, 10] (fun n i wx => ∃ (k N : Nat) (s : St), i = .int .i64 k ∧ n = .int .i64 N ∧ k ≤ sn ∧ k ≤ 40 ∧ N ≤ k ∧ Hid (Ground0 w0 wx p mb N s)) (fun _ i _ => 40 - (intOf i).toNat)
  case atStart => exact ⟨0, 0, s, rfl, rfl, Nat.zero_le _, Nat.zero_le _, Nat.le_refl _, HG⟩
  case round =>
    obtain ⟨k, N, s, rfl, rfl, hk, hk5, hNk, hG⟩ := hrel
    clear HG
    by_cases hlt : k < sn
    · by_cases hl5 : k < 40
      · obtain ⟨bb, off, eA, hb, hc⟩ := hSR k hlt
        have hck : wr.cell? ⟨bb, off + k, none⟩ = some (.int .u8 (sz.getD k 0)) := by
          rw [hG.out.bel.cell (p := ⟨bb, off + k, none⟩) hb]; exact hc k hlt
        clear hc
        subst eA
        obtain ⟨z0, z1⟩ := hsz k
        generalize sz.getD k 0 = z at hck z0 z1
        obtain ⟨m, hm⟩ : ∃ m : Nat, z % 40 + 1 = m := ⟨(z % 40 + 1).toNat, by omega⟩
        have hm1 : 1 ≤ m ∧ m ≤ 40 := by omega
        have hal := Alloc_ground w0 wr p mb N s m hm1.1 hm1.2 (by omega) hG.out
        have HAL := Lib.hid hal
        clear hal
        go_wp2_with (first
          | (go_at_call 8; refine HAL.out.mono ?_; rintro e w3 ⟨v, c, N', s', rfl, (⟨rfl, rfl⟩ | ⟨rfl, rfl⟩), hG'⟩))
        · have HG' := Lib.hid hG'
          clear hG' HAL hG
          go_roundw
          case rel => exact ⟨k + 1, N + 1, s', by go_num, by go_num, by omega, by omega, by omega, HG'⟩
          case measure => simp [intOf]; omega
        · have HG' := Lib.hid hG'
          clear hG' HAL hG
          go_roundw
          case rel => exact ⟨k + 1, N', s', by go_num, rfl, by omega, by omega, by omega, HG'⟩
          case measure => simp [intOf]; omega
      · have hk5' : k = 40 := by omega
        have hd : decide ((k : Int) < 40) = false := by simp; omega
        go_wp2
        exact HK.out _ _ (tail4_5 w0 _ p mb N s KA kn kc kz RA rn rc rz (by omega) hG.out HR.out.1.1 HR.out.1.2.1 HR.out.1.2.2 HR.out.2.1 HR.out.2.2.1 HR.out.2.2.2)
    · go_wp2
      exact HK.out _ _ (tail4_5 w0 _ p mb N s KA kn kc kz RA rn rc rz (by omega) hG.out HR.out.1.1 HR.out.1.2.1 HR.out.1.2.2 HR.out.2.1 HR.out.2.2.1 HR.out.2.2.2)
theorem Ground0.fresh {w0 w : World} {p mb : Nat} (hb : Below w0.heap.size w0 w) (hH : HeapAt w w0.heap.size p mb ⟨600, 900, 0, 0, []⟩) : Ground0 w0 w p mb 0 ⟨600, 900, 0, 0, []⟩ :=
  ⟨hb, hH, Fits.fresh (by omega) (by omega) (by omega) (by omega), Lay.fresh _ _, ⟨rfl, rfl⟩, ⟨rfl, fun i r hr => by simp at hr, fun r hr => by simp at hr⟩, rfl, fun r hr => by simp at hr⟩
set_option maxRecDepth 100000 in
set_option maxHeartbeats 1000000 in
theorem tail4_2 (w0 w : World) {u3 u4 u5 u6 u9 u10 u11 u12 u13 u14 u15 u16 u17 u18 u19 u20 u21 u22 u23 u24 u25 u26 u27 u28 u29 u30 u31 u32 u33 u34 u35 u36 u37 u38 u39 u40 u41 u42 u43 u44 u45 u46 u47 u48 u49 u50 u51 u52 u53 u54 u55 u56 u57 u58 u59 u60 u61 u62 u63 u64 u65 u66 u67 u68 u69 u70 u71 u72 u73 u74 u75 u76 u77 u78 u79 u80 u81 u82 u83 u84 u85 u86 u87 u88 u89 u90 u91 u92 u93 u94 u95 u96 u97 u98 u99 u100 u101 u102 u103 u104 u105 u106 u107 u108 u109 u110 u111 u112 u113 u114 u115 u116 u117 u118 u119 u120 u121 u122 u123 u124 u125 u126 u127 u128 u129 u130 u131 u132 u133 u134 u135 u136 u137 u138 u139 u140 u141 u142 u143 u144 u145 u146 u147 u148 u149 u150 u151 u152 u153 u154 u155 u156 u157 u158 u159 u160 u161 u162 u163 u164 u165 u166 u167 u168 u169 u170 u171 u172 u173 u174 u175 u176 u177 u178 u179 u180 u181 u182 u183 u184 u185 u186 u187 u188 u189 u190 u191 u192 u193 u194 u195 u196 u197 u198 u199 u200 u201 u202 u203 u204 u205 u206 u207 u208 u209 u210 u211 u212 u213 u214 u215 u216 u217 u218 u219 u220 u221 u222 u223 u224 u225 u226 u227 u228 u229 u230 u231 u232 u233 u234 u235 u236 u237 u238 u239 u240 u241 u242 u243 u244 u245 u246 u247 u248 u249 u250 u251 u252 u253 u254 u255 u256 u257 u258 u259 u260 u261 u262 u263 u264 u265 u266 u267 u268 u269 u270 u271 u272 u273 u274 u275 u276 u277 u278 u279 u280 u281 u282 u283 u284 u285 u286 u287 u288 u289 u290 u291 u292 u293 u294 u295 u296 u297 u298 u299 u300 u301 u302 u303 u304 u305 u306 u307 u308 u309 u310 u311 u312 u313 u314 u315 u316 u317 u318 u319 u320 u321 u322 u323 u324 u325 u326 u327 u328 u329 u330 u331 u332 u333 u334 u335 u336 u337 u338 u339 u340 u341 u342 u343 u344 u345 u346 u347 : Value} (p mb : Nat) (SA : Option Addr) (sn sc : Nat) (sz : List Int) (KA : Option Addr) (kn kc : Nat) (kz : List Int) (RA : Option Addr) (rn rc : Nat) (rz : List Int)
    (hb : Below w0.heap.size w0 w) (hH : HeapAt w w0.heap.size p mb ⟨600, 900, 0, 0, []⟩)
    (hsn : sn ≤ 9223372036854775807) (hSR : RdK .u8 w0 SA sn sz) (hsz : ∀ j, 0 ≤ sz.getD j 0 ∧ sz.getD j 0 ≤ 255)
    (hkn : kn ≤ 9223372036854775807) (hKR : RdK .u16 w0 KA kn kz) (hkz : ∀ j, 0 ≤ kz.getD j 0 ∧ kz.getD j 0 ≤ 65535)
    (hrn : rn ≤ 9223372036854775807) (hR : RdK .u8 w0 RA rn rz) (hz : ∀ j, 0 ≤ rz.getD j 0 ∧ rz.getD j 0 ≤ 255) :
    Code.wp Try.prog (tail4 2) (bodyPost Try.prog Try.f4 (KPost w0)) ⟨#[.slice SA sn sc, .slice KA kn kc, .slice RA rn rc, u3, u4, u5, u6, .pointer (some ⟨p, 0, none⟩), .int .i64 0, u9, u10, u11, u12, u13, u14, u15, u16, u17, u18, u19, u20, u21, u22, u23, u24, u25, u26, u27, u28, u29, u30, u31, u32, u33, u34, u35, u36, u37, u38, u39, u40, u41, u42, u43, u44, u45, u46, u47, u48, u49, u50, u51, u52, u53, u54, u55, u56, u57, u58, u59, u60, u61, u62, u63, u64, u65, u66, u67, u68, u69, u70, u71, u72, u73, u74, u75, u76, u77, u78, u79, u80, u81, u82, u83, u84, u85, u86, u87, u88, u89, u90, u91, u92, u93, u94, u95, u96, u97, u98, u99, u100, u101, u102, u103, u104, u105, u106, u107, u108, u109, u110, u111, u112, u113, u114, u115, u116, u117, u118, u119, u120, u121, u122, u123, u124, u125, u126, u127, u128, u129, u130, u131, u132, u133, u134, u135, u136, u137, u138, u139, u140, u141, u142, u143, u144, u145, u146, u147, u148, u149, u150, u151, u152, u153, u154, u155, u156, u157, u158, u159, u160, u161, u162, u163, u164, u165, u166, u167, u168, u169, u170, u171, u172, u173, u174, u175, u176, u177, u178, u179, u180, u181, u182, u183, u184, u185, u186, u187, u188, u189, u190, u191, u192, u193, u194, u195, u196, u197, u198, u199, u200, u201, u202, u203, u204, u205, u206, u207, u208, u209, u210, u211, u212, u213, u214, u215, u216, u217, u218, u219, u220, u221, u222, u223, u224, u225, u226, u227, u228, u229, u230, u231, u232, u233, u234, u235, u236, u237, u238, u239, u240, u241, u242, u243, u244, u245, u246, u247, u248, u249, u250, u251, u252, u253, u254, u255, u256, u257, u258, u259, u260, u261, u262, u263, u264, u265, u266, u267, u268, u269, u270, u271, u272, u273, u274, u275, u276, u277, u278, u279, u280, u281, u282, u283, u284, u285, u286, u287, u288, u289, u290, u291, u292, u293, u294, u295, u296, u297, u298, u299, u300, u301, u302, u303, u304, u305, u306, u307, u308, u309, u310, u311, u312, u313, u314, u315, u316, u317, u318, u319, u320, u321, u322, u323, u324, u325, u326, u327, u328, u329, u330, u331, u332, u333, u334, u335, u336, u337, u338, u339, u340, u341, u342, u343, u344, u345, u346, u347], []⟩ w := by
  rw [step4_2]
  refine wp_seq_k fun KK hK => ?_
  have HK := Lib.hid hK
  have HR := Lib.hid (And.intro (And.intro hsn (And.intro hSR hsz)) (And.intro (And.intro hkn (And.intro hKR hkz)) (And.intro hrn (And.intro hR hz))))
  have HH := Lib.hid (And.intro hb hH)
  clear hK hsn hSR hsz hkn hKR hkz hrn hR hz hb hH
  conv => arg 2; whnf
  go_wp2_with (first
    | (go_at_call 7; refine (awake_any _).mono ?_; rintro e w2 ⟨rfl, hB2⟩))
  have HB2 := Lib.hid hB2
  clear hB2
  refine HK.out _ _ ?_
  clear HK KK
  rw [step4_3]
  refine wp_seq_k fun KK hK => ?_
  have HK := Lib.hid hK
  clear hK
  conv => arg 2; whnf
  go_wp2
  have hG := Ground0.fresh HH.out.1 HH.out.2
  exact HK.out _ _ (tail4_4 w0 _ p mb ⟨600, 900, 0, 0, []⟩ SA sn sc sz KA kn kc kz RA rn rc rz (hG.below HB2.out) HR.out.1.1 HR.out.1.2.1 HR.out.1.2.2 HR.out.2.1.1 HR.out.2.1.2.1 HR.out.2.1.2.2 HR.out.2.2.1 HR.out.2.2.2.1 HR.out.2.2.2.2)
theorem step4_0 : tail4 0 = (headSeq (tail4 0)).seq (tail4 1) := by kernel_rfl
theorem wp_code' {P : Program} {c c' : Code} {Q : Exit → Act → World → Prop} {a : Act} {w : World} (h : c' = c) : Code.wp P c Q a w → Code.wp P c' Q a w := by subst h; exact id
set_option maxRecDepth 100000 in
set_option maxHeartbeats 1000000 in
theorem Keeps_any (SA : Option Addr) (sn sc : Nat) (sz : List Int) (KA : Option Addr) (kn kc : Nat) (kz : List Int) (RA : Option Addr) (rn rc : Nat) (rz : List Int) (w : World)
    (hsn : sn ≤ 9223372036854775807) (hSR : RdK .u8 w SA sn sz) (hsz : ∀ j, 0 ≤ sz.getD j 0 ∧ sz.getD j 0 ≤ 255)
    (hkn : kn ≤ 9223372036854775807) (hKR : RdK .u16 w KA kn kz) (hkz : ∀ j, 0 ≤ kz.getD j 0 ∧ kz.getD j 0 ≤ 65535)
    (hrn : rn ≤ 9223372036854775807) (hR : RdK .u8 w RA rn rz) (hz : ∀ j, 0 ≤ rz.getD j 0 ∧ rz.getD j 0 ≤ 255) :
    Calls Try.prog 4 #[.slice SA sn sc, .slice KA kn kc, .slice RA rn rc] w fun e w' => e = .returned (.bool true) ∧ Below w.heap.size w w' := by
  have HR := Lib.hid (And.intro (And.intro hsn (And.intro hSR hsz)) (And.intro (And.intro hkn (And.intro hKR hkz)) (And.intro hrn (And.intro hR hz))))
  clear hsn hSR hsz hkn hKR hkz hrn hR hz
  go_enter Try.func4, Try.ntmps4
  refine wp_code' (c := tail4 0) (by kernel_rfl) ?_
  rw [step4_0]
  refine wp_seq_k fun KK hK => ?_
  have HK := Lib.hid hK
  clear hK
  conv => arg 2; whnf
  go_wp2
  refine HK.out _ _ ?_
  clear HK KK
  rw [step4_1]
  refine wp_seq_k fun KK hK => ?_
  have HK := Lib.hid hK
  clear hK
  conv => arg 2; whnf
  go_wp2_with (first
    | (go_at_call 6; refine (New_in 600 900 w (by omega) (by omega) (by omega) (by omega)).mono ?_; rintro e w1 ⟨p, mb, rfl, hH, hB⟩))
  refine HK.out _ _ (tail4_2 w w1 p mb SA sn sc sz KA kn kc kz RA rn rc rz hB hH HR.out.1.1 HR.out.1.2.1 HR.out.1.2.2 HR.out.2.1.1 HR.out.2.1.2.1 HR.out.2.1.2.2 HR.out.2.2.1 HR.out.2.2.2.1 HR.out.2.2.2.2)
end Go.Proofs.Ytmamcpaejhjceaa.HP
