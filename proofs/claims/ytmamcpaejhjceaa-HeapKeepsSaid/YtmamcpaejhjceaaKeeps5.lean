/- HeapKeeps: the list of roots. -/
import Derived.Test.YtmamcpaejhjceaaKeeps4
namespace Go.Proofs.Ytmamcpaejhjceaa.HP
open Go.MapKept Go.ChangeMaps Go.RowKit
theorem step4_11 : tail4 11 = (headSeq (tail4 11)).seq (tail4 12) := by kernel_rfl
theorem step4_10 : tail4 10 = (headSeq (tail4 10)).seq (tail4 11) := by kernel_rfl
theorem step4_9 : tail4 9 = (headSeq (tail4 9)).seq (tail4 10) := by kernel_rfl
theorem sound_set {N : Nat} {s : St} {zs : List Int} {b : List Bool} {x : Nat} (Sh : Shelved N s) (hk : s.recs.Pairwise (fun a b => a.x ≠ b.x)) (h : Sound N s zs b) : Sound N s (zs ++ [(x : Int)]) (b.set x true) := by
  have mono : ∀ y, Reach s.recs zs y → Reach s.recs (zs ++ [(x : Int)]) y := by
    intro y hy
    induction hy with
    | root h1 h2 => exact .root (List.mem_append_left _ h1) h2
    | step h1 h2 h3 h4 ih => exact .step ih h2 h3 h4
  intro i hi hs
  by_cases e : x = i + 1
  · obtain ⟨r, hr⟩ := Sh.at hi
    have := Sh.find hk hr
    exact .root (List.mem_append_right _ (by rw [e]; simp)) this
  · rw [List.getElem?_set_ne e] at hs
    exact mono _ (h i hi hs)
theorem base_set {N : Nat} {zs : List Int} {b : List Bool} {x : Nat} (hl : b.length = N + 1) (h : Base N zs b) : Base N (zs ++ [(x : Int)]) (b.set x true) := by
  intro i hi hm
  by_cases e : x = i + 1
  · rw [e, List.getElem?_set_self (by omega)]
  · rw [List.getElem?_set_ne e]
    refine h i hi ?_
    rcases List.mem_append.1 hm with h1 | h1
    · exact h1
    · simp at h1; omega
theorem good_set {N : Nat} {s : St} {zs : List Int} {x : Nat} (Sh : Shelved N s) (hk : s.recs.Pairwise (fun a b => a.x ≠ b.x)) (hx : x ≤ N) (h : ∀ x ∈ zs, ¬ badRoot s.recs x) : ∀ y ∈ zs ++ [(x : Int)], ¬ badRoot s.recs y := by
  intro y hy
  rcases List.mem_append.1 hy with h1 | h1
  · exact h y h1
  · simp at h1
    subst h1
    rintro ⟨h2, h3⟩
    obtain ⟨i, rfl⟩ : ∃ i, x = i + 1 := ⟨x - 1, by omega⟩
    obtain ⟨r, hr⟩ := Sh.at (show i < N by omega)
    have := Sh.find hk hr
    rw [show ((i + 1 : Nat) : Int) = (i : Int) + 1 by omega, this] at h3
    cases h3
theorem own_same {w w' : World} {base : Nat} {e : TypeId} {size : Nat} {v : Value} {n : Nat} {xs : List Value} (h : w.ownsRow base e size v n xs) (hb : ∀ g, base ≤ g → g < w.heap.size → w'.heap[g]? = w.heap[g]?) : w'.ownsRow base e size v n xs := by
  refine ⟨h.1, h.2.imp id ?_⟩
  rintro ⟨g, cap, cur, h1, h2, h3, r⟩
  exact ⟨g, cap, cur, h1, h2, by rw [hb g h2 (Array.getElem?_eq_some_iff.1 h3).1]; exact h3, r⟩
theorem own_rdI {w : World} {base g : Nat} {n cap : Nat} {zs : List Int} (h : w.ownsRow base 3 1 (.slice (some ⟨g, 0, none⟩) n cap) n (zs.map (Value.int .i64))) : RdI w (some ⟨g, 0, none⟩) zs := by
  rcases h.2 with ⟨h1, _⟩ | ⟨g', cap', cur, h1, h2, h3, h4, h5, h6, h7⟩
  · cases h1
  · cases h1
    have hl := h.1
    simp at hl
    have := holds_of_blockI (ss := zs) h3 (by rw [hl]; simpa using h7)
    intro k hk
    refine ⟨g, 0, rfl, fun j hj => ?_⟩
    have h8 := (this j (by simpa using hj)).1
    simpa [List.getD_eq_getElem?_getD, hj] using h8
/-- the same with a list of roots -/
theorem Mid.list {w0 w W : World} {p mb N M SB : Nat} {f : Nat → Nat} {s : St} {zs ys : List Int} {st b : List Bool} (h : Mid w0 w p mb N M SB f s zs st) (hB : But (fun k => k = SB) w W) (hr : BRow W SB b) (hl : b.length = N + 1) (hs : Sound N s ys b) (hb : Base N ys b) (hg : ∀ x ∈ ys, ¬ badRoot s.recs x) : Mid w0 W p mb N M SB f s ys b :=
  ⟨h.bel.trans (hB.below (fun i hi => by rw [hi]; exact h.sbm.2.1) h.bel.size), h.heap.kept hB (fun i hi e => by subst e; exact h.sbo hi), h.fits, h.lay, h.area, h.shelved, h.copy.kept hB (fun e => h.sbm.1 e.symm) (fun i hi e => h.sbm.2.2 i (by rw [h.shelved.cnt] at hi; exact hi) e), h.own, hr, hl, h.sbo, h.sbm, hs, hb, h.wired, hg⟩
set_option maxRecDepth 100000 in
set_option maxHeartbeats 1000000 in
theorem tail4_11 (w0 wA w : World) {u0 u1 u3 u4 u5 u6 u8 u10 u11 u12 u14 u15 u16 u17 u18 u19 u20 u23 u24 u25 u26 u27 u28 u29 u30 u31 u32 u33 u34 u35 u36 u37 u38 u39 u40 u41 u42 u43 u44 u45 u46 u47 u48 u49 u50 u51 u52 u53 u54 u55 u56 u57 u58 u59 u60 u61 u62 u63 u64 u65 u66 u67 u68 u69 u70 u71 u72 u73 u74 u75 u76 u77 u78 u79 u80 u81 u82 u83 u84 u85 u86 u87 u88 u89 u90 u91 u92 u93 u94 u95 u96 u97 u98 u99 u100 u101 u102 u103 u104 u105 u106 u107 u108 u109 u110 u111 u112 u113 u114 u115 u116 u117 u118 u119 u120 u121 u122 u123 u124 u125 u126 u127 u128 u129 u130 u131 u132 u133 u134 u135 u136 u137 u138 u139 u140 u141 u142 u143 u144 u145 u146 u147 u148 u149 u150 u151 u152 u153 u154 u155 u156 u157 u158 u159 u160 u161 u162 u163 u164 u165 u166 u167 u168 u169 u170 u171 u172 u173 u174 u175 u176 u177 u178 u179 u180 u181 u182 u183 u184 u185 u186 u187 u188 u189 u190 u191 u192 u193 u194 u195 u196 u197 u198 u199 u200 u201 u202 u203 u204 u205 u206 u207 u208 u209 u210 u211 u212 u213 u214 u215 u216 u217 u218 u219 u220 u221 u222 u223 u224 u225 u226 u227 u228 u229 u230 u231 u232 u233 u234 u235 u236 u237 u238 u239 u240 u241 u242 u243 u244 u245 u246 u247 u248 u249 u250 u251 u252 u253 u254 u255 u256 u257 u258 u259 u260 u261 u262 u263 u264 u265 u266 u267 u268 u269 u270 u271 u272 u273 u274 u275 u276 u277 u278 u279 u280 u281 u282 u283 u284 u285 u286 u287 u288 u289 u290 u291 u292 u293 u294 u295 u296 u297 u298 u299 u300 u301 u302 u303 u304 u305 u306 u307 u308 u309 u310 u311 u312 u313 u314 u315 u316 u317 u318 u319 u320 u321 u322 u323 u324 u325 u326 u327 u328 u329 u330 u331 u332 u333 u334 u335 u336 u337 u338 u339 u340 u341 u342 u343 u344 u345 u346 u347 v22 : Value} (p mb N M SB : Nat) (f : Nat → Nat) (s : St) (st : List Bool) (RA : Option Addr) (rn rc : Nat) (rz : List Int) (hN : N ≤ 40) (B : Mid w0 wA p mb N M SB f s [] st) (hB : But (fun k => k = SB) wA w) (hBst : BRow w SB st) (hown : w.ownsRow wA.heap.size 3 1 v22 0 [])
    (hrn : rn ≤ 9223372036854775807) (hR : RdK .u8 w0 RA rn rz) (hz : ∀ j, 0 ≤ rz.getD j 0 ∧ rz.getD j 0 ≤ 255) :
    Code.wp Try.prog (tail4 11) (bodyPost Try.prog Try.f4 (KPost w0)) ⟨#[u0, u1, .slice RA rn rc, u3, u4, u5, u6, .pointer (some ⟨p, 0, none⟩), u8, .int .i64 N, u10, u11, u12, .slice (some ⟨M, 0, none⟩) (N + 1) (N + 1), u14, u15, u16, u17, u18, u19, u20, .slice (some ⟨SB, 0, none⟩) (N + 1) (N + 1), v22, u23, u24, u25, u26, u27, u28, u29, u30, u31, u32, u33, u34, u35, u36, u37, u38, u39, u40, u41, u42, u43, u44, u45, u46, u47, u48, u49, u50, u51, u52, u53, u54, u55, u56, u57, u58, u59, u60, u61, u62, u63, u64, u65, u66, u67, u68, u69, u70, u71, u72, u73, u74, u75, u76, u77, u78, u79, u80, u81, u82, u83, u84, u85, u86, u87, u88, u89, u90, u91, u92, u93, u94, u95, u96, u97, u98, u99, u100, u101, u102, u103, u104, u105, u106, u107, u108, u109, u110, u111, u112, u113, u114, u115, u116, u117, u118, u119, u120, u121, u122, u123, u124, u125, u126, u127, u128, u129, u130, u131, u132, u133, u134, u135, u136, u137, u138, u139, u140, u141, u142, u143, u144, u145, u146, u147, u148, u149, u150, u151, u152, u153, u154, u155, u156, u157, u158, u159, u160, u161, u162, u163, u164, u165, u166, u167, u168, u169, u170, u171, u172, u173, u174, u175, u176, u177, u178, u179, u180, u181, u182, u183, u184, u185, u186, u187, u188, u189, u190, u191, u192, u193, u194, u195, u196, u197, u198, u199, u200, u201, u202, u203, u204, u205, u206, u207, u208, u209, u210, u211, u212, u213, u214, u215, u216, u217, u218, u219, u220, u221, u222, u223, u224, u225, u226, u227, u228, u229, u230, u231, u232, u233, u234, u235, u236, u237, u238, u239, u240, u241, u242, u243, u244, u245, u246, u247, u248, u249, u250, u251, u252, u253, u254, u255, u256, u257, u258, u259, u260, u261, u262, u263, u264, u265, u266, u267, u268, u269, u270, u271, u272, u273, u274, u275, u276, u277, u278, u279, u280, u281, u282, u283, u284, u285, u286, u287, u288, u289, u290, u291, u292, u293, u294, u295, u296, u297, u298, u299, u300, u301, u302, u303, u304, u305, u306, u307, u308, u309, u310, u311, u312, u313, u314, u315, u316, u317, u318, u319, u320, u321, u322, u323, u324, u325, u326, u327, u328, u329, u330, u331, u332, u333, u334, u335, u336, u337, u338, u339, u340, u341, u342, u343, u344, u345, u346, u347], []⟩ w := by
  rw [step4_11]
  refine wp_seq_k fun KK hK => ?_
  have HK := Lib.hid hK
  have HB := Lib.hid B
  have hst : BRow w SB st := hBst
  have HST := Lib.hid hst
  obtain ⟨i0, hi, hz0, hz1, hz2⟩ := info_parts info3
  have hsbA : SB < wA.heap.size := Blk.lt B.row
  clear hK B hst hBst
  conv => arg 2; whnf
  go_wp2
  go_loopw [22, 23] (fun l i wx => ∃ (k : Nat) (zs : List Int) (b : List Bool), i = .int .i64 k ∧ k ≤ rn ∧ k ≤ 5 ∧ zs.length = k ∧ Hid (Mid w0 wx p mb N M SB f s zs b) ∧ wx.ownsRow wA.heap.size 3 1 l k (zs.map (.int .i64)) ∧ But (fun k => k = SB) wA wx) (fun _ i _ => 5 - (intOf i).toNat)
  case atStart => exact ⟨0, [], st, rfl, Nat.zero_le _, Nat.zero_le _, rfl, Lib.hid (HB.out.turn hB HST.out HB.out.rowl HB.out.sound HB.out.base), hown, hB⟩
  case round =>
    obtain ⟨k, zs, b, rfl, hk, hk5, hzl, hMid, hown2, hBw⟩ := hrel
    clear HST hown hB
    by_cases hlt : k < rn
    · by_cases hl5 : k < 5
      · have hlow := hBw.size
        obtain ⟨bb, off, eA, hb, hc⟩ := hR k hlt
        have hck : wr.cell? ⟨bb, off + k, none⟩ = some (.int .u8 (rz.getD k 0)) := by
          rw [hMid.out.bel.cell (p := ⟨bb, off + k, none⟩) hb]; exact hc k hlt
        clear hc
        subst eA
        obtain ⟨z0, z1⟩ := hz k
        generalize rz.getD k 0 = z at hck z0 z1
        obtain ⟨x, hx⟩ : ∃ x : Nat, z % ((N : Int) + 1) = x := ⟨(z % ((N : Int) + 1)).toNat, by have := Int.emod_nonneg z (show (N : Int) + 1 ≠ 0 by omega); omega⟩
        have hxN : x ≤ N := by have := Int.emod_lt_of_pos z (show (0 : Int) < (N : Int) + 1 by omega); omega
        have hnews := hown2.alloc (.cells #[.int .i64 x] 3)
        go_wp2_with (first
          | (at_builtin; refine wpList_append_own _ rfl _ _ 31 rfl wA.heap.size 3 i0 (.int .i64 0) 1 8 Try.underlying31 hi hz0 hz1 hz2 rfl (by decide) _ _ _ rfl hnews ⟨wr.heap.size, 0, none⟩ 1 1 [.int .i64 x] rfl rfl ?c1 ?c2 ?c3 ?c4 ?c5 ?_))
        case c1 =>
          intro j u hj
          match j, hj with
          | 0, hj => simp at hj; subst hj; simp [Addr.add]
        case c2 => intro u hu; simp at hu; subst hu; rfl
        case c3 => unfold maxLen; omega
        case c4 => omega
        case c5 => simp; omega
        intro v' w2 hown3 hgrow _
        have hB1 : But (fun k => u22.ownBlock = some k) wr w2 := ((But.refl _ _).alloc (.cells #[.int .i64 x] 3)).trans (But.of_grown (S := fun k => u22.ownBlock = some k) hgrow (fun k hk => .inl hk)) (fun i hi => .inl hi)
        have hB2 : But (fun k => k = SB) wA w2 := hBw.trans hB1 (fun i hi => by have := (hown2.lt _ hi).1; right; omega)
        have hrow : BRow w2 SB b := Blk.kept hMid.out.row hB1 (fun e => by have := (hown2.lt _ e).1; omega)
        have hown4 : w2.ownsRow wA.heap.size 3 1 v' (k + 1) ((zs ++ [(x : Int)]).map (Value.int .i64)) := by simpa using hown3
        obtain ⟨vb, hvb⟩ : ∃ v, b[x]? = some v := ⟨_, List.getElem?_eq_getElem (by rw [hMid.out.rowl]; omega)⟩
        have hcx := hrow.cell x hvb
        have hfx := Blk.free hrow x
        have HN := Lib.hid hown4
        have HRow := Lib.hid hrow
        clear hvb hown3 hown4 hown2 hnews hgrow hrow hB1
        go_wp2
        go_roundw
        case rel =>
          have hM := hMid.out
          have hB3 := hB2.setCell (⟨SB, x, none⟩ : Addr) (.bool true) (Or.inl rfl)
          refine ⟨k + 1, zs ++ [(x : Int)], b.set x true, by go_num, by omega, by omega, by simp; omega, Lib.hid (HB.out.list hB3 (HRow.out.put x true) (by simp [hM.rowl]) (sound_set hM.shelved hM.fits.ne hM.sound) (base_set hM.rowl hM.base) (good_set hM.shelved hM.fits.ne hxN hM.good)), own_same HN.out (fun g h1 h2 => Below.heap_setCell _ _ _ _ (fun e => by have e' : g = SB := e; omega)), hB3⟩
        case measure => simp [intOf]; omega
      · have hk5' : k = 5 := by omega
        have hd : decide ((k : Int) < 5) = false := by simp; omega
        go_wp2
        rcases hown2.2 with ⟨rfl, h0⟩ | ⟨g, cap, cur, rfl, hg, _⟩
        · obtain rfl : zs = [] := List.eq_nil_of_length_eq_zero (by omega)
          exact HK.out _ _ (tail4_12 w0 _ p mb N M SB f s none [] 0 b hN hMid.out (fun _ => rfl) (fun W hW k hk => by simp at hk) (by simp))
        · subst hzl
          exact HK.out _ _ (tail4_12 w0 _ p mb N M SB f s (some ⟨g, 0, none⟩) zs cap b hN hMid.out (fun h => by cases h) (fun W hW => own_rdI (own_same hown2 (fun g' h1 h2 => hW.block g' h2 (fun e => by have e' : g' = SB := e; omega)))) (by omega))
    · go_wp2
      rcases hown2.2 with ⟨rfl, h0⟩ | ⟨g, cap, cur, rfl, hg, _⟩
      · obtain rfl : zs = [] := List.eq_nil_of_length_eq_zero (by omega)
        exact HK.out _ _ (tail4_12 w0 _ p mb N M SB f s none [] 0 b hN hMid.out (fun _ => rfl) (fun W hW k hk => by simp at hk) (by simp))
      · subst hzl
        exact HK.out _ _ (tail4_12 w0 _ p mb N M SB f s (some ⟨g, 0, none⟩) zs cap b hN hMid.out (fun h => by cases h) (fun W hW => own_rdI (own_same hown2 (fun g' h1 h2 => hW.block g' h2 (fun e => by have e' : g' = SB := e; omega)))) (by omega))
set_option maxRecDepth 100000 in
set_option maxHeartbeats 1000000 in
theorem tail4_9 (w0 w : World) {u0 u1 u3 u4 u5 u6 u8 u10 u11 u12 u14 u15 u16 u17 u18 u19 u20 u21 u22 u23 u24 u25 u26 u27 u28 u29 u30 u31 u32 u33 u34 u35 u36 u37 u38 u39 u40 u41 u42 u43 u44 u45 u46 u47 u48 u49 u50 u51 u52 u53 u54 u55 u56 u57 u58 u59 u60 u61 u62 u63 u64 u65 u66 u67 u68 u69 u70 u71 u72 u73 u74 u75 u76 u77 u78 u79 u80 u81 u82 u83 u84 u85 u86 u87 u88 u89 u90 u91 u92 u93 u94 u95 u96 u97 u98 u99 u100 u101 u102 u103 u104 u105 u106 u107 u108 u109 u110 u111 u112 u113 u114 u115 u116 u117 u118 u119 u120 u121 u122 u123 u124 u125 u126 u127 u128 u129 u130 u131 u132 u133 u134 u135 u136 u137 u138 u139 u140 u141 u142 u143 u144 u145 u146 u147 u148 u149 u150 u151 u152 u153 u154 u155 u156 u157 u158 u159 u160 u161 u162 u163 u164 u165 u166 u167 u168 u169 u170 u171 u172 u173 u174 u175 u176 u177 u178 u179 u180 u181 u182 u183 u184 u185 u186 u187 u188 u189 u190 u191 u192 u193 u194 u195 u196 u197 u198 u199 u200 u201 u202 u203 u204 u205 u206 u207 u208 u209 u210 u211 u212 u213 u214 u215 u216 u217 u218 u219 u220 u221 u222 u223 u224 u225 u226 u227 u228 u229 u230 u231 u232 u233 u234 u235 u236 u237 u238 u239 u240 u241 u242 u243 u244 u245 u246 u247 u248 u249 u250 u251 u252 u253 u254 u255 u256 u257 u258 u259 u260 u261 u262 u263 u264 u265 u266 u267 u268 u269 u270 u271 u272 u273 u274 u275 u276 u277 u278 u279 u280 u281 u282 u283 u284 u285 u286 u287 u288 u289 u290 u291 u292 u293 u294 u295 u296 u297 u298 u299 u300 u301 u302 u303 u304 u305 u306 u307 u308 u309 u310 u311 u312 u313 u314 u315 u316 u317 u318 u319 u320 u321 u322 u323 u324 u325 u326 u327 u328 u329 u330 u331 u332 u333 u334 u335 u336 u337 u338 u339 u340 u341 u342 u343 u344 u345 u346 u347 : Value} (p mb N M : Nat) (f : Nat → Nat) (s : St) (RA : Option Addr) (rn rc : Nat) (rz : List Int) (hN : N ≤ 40)
    (B : ∀ W SB, Below w.heap.size w W → SB = w.heap.size → BRow W SB (List.replicate (N + 1) false) → Mid w0 W p mb N M SB f s [] (List.replicate (N + 1) false))
    (hrn : rn ≤ 9223372036854775807) (hR : RdK .u8 w0 RA rn rz) (hz : ∀ j, 0 ≤ rz.getD j 0 ∧ rz.getD j 0 ≤ 255) :
    Code.wp Try.prog (tail4 9) (bodyPost Try.prog Try.f4 (KPost w0)) ⟨#[u0, u1, .slice RA rn rc, u3, u4, u5, u6, .pointer (some ⟨p, 0, none⟩), u8, .int .i64 N, u10, u11, u12, .slice (some ⟨M, 0, none⟩) (N + 1) (N + 1), u14, u15, u16, u17, u18, u19, u20, u21, u22, u23, u24, u25, u26, u27, u28, u29, u30, u31, u32, u33, u34, u35, u36, u37, u38, u39, u40, u41, u42, u43, u44, u45, u46, u47, u48, u49, u50, u51, u52, u53, u54, u55, u56, u57, u58, u59, u60, u61, u62, u63, u64, u65, u66, u67, u68, u69, u70, u71, u72, u73, u74, u75, u76, u77, u78, u79, u80, u81, u82, u83, u84, u85, u86, u87, u88, u89, u90, u91, u92, u93, u94, u95, u96, u97, u98, u99, u100, u101, u102, u103, u104, u105, u106, u107, u108, u109, u110, u111, u112, u113, u114, u115, u116, u117, u118, u119, u120, u121, u122, u123, u124, u125, u126, u127, u128, u129, u130, u131, u132, u133, u134, u135, u136, u137, u138, u139, u140, u141, u142, u143, u144, u145, u146, u147, u148, u149, u150, u151, u152, u153, u154, u155, u156, u157, u158, u159, u160, u161, u162, u163, u164, u165, u166, u167, u168, u169, u170, u171, u172, u173, u174, u175, u176, u177, u178, u179, u180, u181, u182, u183, u184, u185, u186, u187, u188, u189, u190, u191, u192, u193, u194, u195, u196, u197, u198, u199, u200, u201, u202, u203, u204, u205, u206, u207, u208, u209, u210, u211, u212, u213, u214, u215, u216, u217, u218, u219, u220, u221, u222, u223, u224, u225, u226, u227, u228, u229, u230, u231, u232, u233, u234, u235, u236, u237, u238, u239, u240, u241, u242, u243, u244, u245, u246, u247, u248, u249, u250, u251, u252, u253, u254, u255, u256, u257, u258, u259, u260, u261, u262, u263, u264, u265, u266, u267, u268, u269, u270, u271, u272, u273, u274, u275, u276, u277, u278, u279, u280, u281, u282, u283, u284, u285, u286, u287, u288, u289, u290, u291, u292, u293, u294, u295, u296, u297, u298, u299, u300, u301, u302, u303, u304, u305, u306, u307, u308, u309, u310, u311, u312, u313, u314, u315, u316, u317, u318, u319, u320, u321, u322, u323, u324, u325, u326, u327, u328, u329, u330, u331, u332, u333, u334, u335, u336, u337, u338, u339, u340, u341, u342, u343, u344, u345, u346, u347], []⟩ w := by
  rw [step4_9]
  refine wp_seq_k fun KK hK => ?_
  have HK := Lib.hid hK
  have HB := Lib.hid B
  have hm : ∀ W, (Instr.makeSlice 43 (.int .i64 ((N : Int) + 1)) (.int .i64 ((N : Int) + 1))).run Try.prog W = .ok (.slice (some ⟨W.heap.size, 0, none⟩) (N + 1) (N + 1)) (W.alloc (.cells (bc (N + 1)) 4)) := make_bc (N + 1) (by omega)
  clear hK B
  conv => arg 2; whnf
  go_wp2
  refine HK.out _ _ ?_
  clear HK KK
  rw [step4_10]
  refine wp_seq_k fun KK hK => ?_
  have HK := Lib.hid hK
  clear hK
  conv => arg 2; whnf
  go_wp2
  have hMid := HB.out (w.alloc (.cells (bc (N + 1)) 4)) w.heap.size ((Below.refl _ w).alloc (Nat.le_refl _) _) rfl (BRow.made w (N + 1))
  refine HK.out _ _ (tail4_11 w0 (w.alloc (.cells (bc (N + 1)) 4)) _ p mb N M w.heap.size f s (List.replicate (N + 1) false) RA rn rc rz hN hMid ((But.refl _ _).alloc _) (Blk.of_block (BRow.made w (N + 1)) (((Below.refl _ _).alloc (Nat.le_refl _) _).block _ (by simp))) ?_ hrn hR hz)
  refine ⟨rfl, .inr ⟨w.heap.size + 1, 0, #[], rfl, by simp, ?_, Nat.le_refl _, Nat.zero_le _, rfl, rfl⟩⟩
  show ((w.heap.push _).push _)[_]? = _
  rw [Array.getElem?_push, if_pos (by simp)]
end Go.Proofs.Ytmamcpaejhjceaa.HP
