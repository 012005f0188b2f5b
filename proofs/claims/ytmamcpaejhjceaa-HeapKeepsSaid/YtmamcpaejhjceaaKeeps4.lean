/- HeapKeeps: the rounds of marks. -/
import Derived.Test.YtmamcpaejhjceaaKeeps3
namespace Go.Proofs.Ytmamcpaejhjceaa.HP
open Go.MapKept Go.ChangeMaps Go.RowKit
set_option maxRecDepth 100000 in
set_option maxHeartbeats 1000000 in
theorem tail4_12 (w0 w : World) {u0 u1 u2 u3 u4 u5 u6 u8 u10 u11 u12 u14 u15 u16 u17 u18 u19 u20 u23 u24 u25 u26 u27 u28 u29 u30 u31 u32 u33 u34 u35 u36 u37 u38 u39 u40 u41 u42 u43 u44 u45 u46 u47 u48 u49 u50 u51 u52 u53 u54 u55 u56 u57 u58 u59 u60 u61 u62 u63 u64 u65 u66 u67 u68 u69 u70 u71 u72 u73 u74 u75 u76 u77 u78 u79 u80 u81 u82 u83 u84 u85 u86 u87 u88 u89 u90 u91 u92 u93 u94 u95 u96 u97 u98 u99 u100 u101 u102 u103 u104 u105 u106 u107 u108 u109 u110 u111 u112 u113 u114 u115 u116 u117 u118 u119 u120 u121 u122 u123 u124 u125 u126 u127 u128 u129 u130 u131 u132 u133 u134 u135 u136 u137 u138 u139 u140 u141 u142 u143 u144 u145 u146 u147 u148 u149 u150 u151 u152 u153 u154 u155 u156 u157 u158 u159 u160 u161 u162 u163 u164 u165 u166 u167 u168 u169 u170 u171 u172 u173 u174 u175 u176 u177 u178 u179 u180 u181 u182 u183 u184 u185 u186 u187 u188 u189 u190 u191 u192 u193 u194 u195 u196 u197 u198 u199 u200 u201 u202 u203 u204 u205 u206 u207 u208 u209 u210 u211 u212 u213 u214 u215 u216 u217 u218 u219 u220 u221 u222 u223 u224 u225 u226 u227 u228 u229 u230 u231 u232 u233 u234 u235 u236 u237 u238 u239 u240 u241 u242 u243 u244 u245 u246 u247 u248 u249 u250 u251 u252 u253 u254 u255 u256 u257 u258 u259 u260 u261 u262 u263 u264 u265 u266 u267 u268 u269 u270 u271 u272 u273 u274 u275 u276 u277 u278 u279 u280 u281 u282 u283 u284 u285 u286 u287 u288 u289 u290 u291 u292 u293 u294 u295 u296 u297 u298 u299 u300 u301 u302 u303 u304 u305 u306 u307 u308 u309 u310 u311 u312 u313 u314 u315 u316 u317 u318 u319 u320 u321 u322 u323 u324 u325 u326 u327 u328 u329 u330 u331 u332 u333 u334 u335 u336 u337 u338 u339 u340 u341 u342 u343 u344 u345 u346 u347 : Value} (p mb N M SB : Nat) (f : Nat → Nat) (s : St) (LA : Option Addr) (zs : List Int) (lc : Nat) (st : List Bool) (hN : N ≤ 40) (B : Mid w0 w p mb N M SB f s zs st) (hz : LA = none → zs = []) (hR : ∀ W, But (fun k => k = SB) w W → RdI W LA zs) (hzl : zs.length ≤ 5) :
    Code.wp Try.prog (tail4 12) (bodyPost Try.prog Try.f4 (KPost w0)) ⟨#[u0, u1, u2, u3, u4, u5, u6, .pointer (some ⟨p, 0, none⟩), u8, .int .i64 N, u10, u11, u12, .slice (some ⟨M, 0, none⟩) (N + 1) (N + 1), u14, u15, u16, u17, u18, u19, u20, .slice (some ⟨SB, 0, none⟩) (N + 1) (N + 1), .slice LA zs.length lc, u23, u24, u25, u26, u27, u28, u29, u30, u31, u32, u33, u34, u35, u36, u37, u38, u39, u40, u41, u42, u43, u44, u45, u46, u47, u48, u49, u50, u51, u52, u53, u54, u55, u56, u57, u58, u59, u60, u61, u62, u63, u64, u65, u66, u67, u68, u69, u70, u71, u72, u73, u74, u75, u76, u77, u78, u79, u80, u81, u82, u83, u84, u85, u86, u87, u88, u89, u90, u91, u92, u93, u94, u95, u96, u97, u98, u99, u100, u101, u102, u103, u104, u105, u106, u107, u108, u109, u110, u111, u112, u113, u114, u115, u116, u117, u118, u119, u120, u121, u122, u123, u124, u125, u126, u127, u128, u129, u130, u131, u132, u133, u134, u135, u136, u137, u138, u139, u140, u141, u142, u143, u144, u145, u146, u147, u148, u149, u150, u151, u152, u153, u154, u155, u156, u157, u158, u159, u160, u161, u162, u163, u164, u165, u166, u167, u168, u169, u170, u171, u172, u173, u174, u175, u176, u177, u178, u179, u180, u181, u182, u183, u184, u185, u186, u187, u188, u189, u190, u191, u192, u193, u194, u195, u196, u197, u198, u199, u200, u201, u202, u203, u204, u205, u206, u207, u208, u209, u210, u211, u212, u213, u214, u215, u216, u217, u218, u219, u220, u221, u222, u223, u224, u225, u226, u227, u228, u229, u230, u231, u232, u233, u234, u235, u236, u237, u238, u239, u240, u241, u242, u243, u244, u245, u246, u247, u248, u249, u250, u251, u252, u253, u254, u255, u256, u257, u258, u259, u260, u261, u262, u263, u264, u265, u266, u267, u268, u269, u270, u271, u272, u273, u274, u275, u276, u277, u278, u279, u280, u281, u282, u283, u284, u285, u286, u287, u288, u289, u290, u291, u292, u293, u294, u295, u296, u297, u298, u299, u300, u301, u302, u303, u304, u305, u306, u307, u308, u309, u310, u311, u312, u313, u314, u315, u316, u317, u318, u319, u320, u321, u322, u323, u324, u325, u326, u327, u328, u329, u330, u331, u332, u333, u334, u335, u336, u337, u338, u339, u340, u341, u342, u343, u344, u345, u346, u347], []⟩ w := by
  rw [step4_12]
  refine wp_seq_k fun KK hK => ?_
  have HK := Lib.hid hK
  have HB := Lib.hid B
  have HZ := Lib.hid hz
  have HR := Lib.hid hR
  clear hK B hz hR
  conv => arg 2; whnf
  go_wp2
  go_loopw [25] (fun i wx => ∃ (t : Nat) (a : List Bool), i = .int .i64 t ∧ t ≤ N ∧ Mid w0 wx p mb N M SB f s zs a ∧ Hid (Closed N s a ∨ t < a.count true) ∧ But (fun k => k = SB) w wx) (fun i _ => N - (intOf i).toNat)
  case atStart =>
    refine ⟨0, st, rfl, Nat.zero_le _, HB.out, Lib.hid ?_, But.refl _ _⟩
    by_cases e : st.count true = 0
    · exact .inl (closed_none e)
    · exact .inr (by omega)
  case round =>
    obtain ⟨t, a, rfl, htn, hMid, hJ, hBw⟩ := hrel
    have HM := Lib.hid hMid
    clear HB hMid
    by_cases hlt : t < N
    · go_wp2
      go_loopw [26] (fun i wx => ∃ (x : Nat) (b : List Bool), i = .int .i64 x ∧ 1 ≤ x ∧ x ≤ N + 1 ∧ Mid w0 wx p mb N M SB f s zs b ∧ Hid (Rnd N s zs a b x) ∧ But (fun k => k = SB) w wx) (fun i _ => N + 1 - (intOf i).toNat)
      case atStart => exact ⟨1, a, rfl, Nat.le_refl _, by omega, HM.out, Lib.hid ⟨HM.out.rowl, More.refl a, HM.out.sound, fun _ => rfl, fun i r h => by omega⟩, hBw⟩
      case round =>
        obtain ⟨x, b, rfl, hx1, hxn, hMid, hRn, hBw⟩ := hrel
        have HM2 := Lib.hid hMid
        clear hMid
        by_cases hxl : x ≤ N
        · obtain ⟨i, rfl⟩ : ∃ i, x = i + 1 := ⟨x - 1, by omega⟩
          have hiN : i < N := by omega
          obtain ⟨r, hr⟩ := HM2.out.shelved.at hiN
          have hrl : r.words.length ≤ 40 := HM2.out.shelved.len r (List.mem_of_getElem? hr)
          have HRR := Lib.hid hr
          clear hr
          go_wp2
          go_loopw [27] (fun kk wx => ∃ (k : Nat) (b : List Bool), kk = .int .i64 k ∧ k ≤ r.words.length ∧ Mid w0 wx p mb N M SB f s zs b ∧ Hid (Rnd N s zs a b (i + 1)) ∧ Hid (a[i + 1]? = some true → Done b r k) ∧ But (fun k => k = SB) w wx) (fun kk _ => r.words.length - (intOf kk).toNat)
          case atStart => exact ⟨0, b, rfl, Nat.zero_le _, HM2.out, hRn, Lib.hid (fun _ j y hj _ => by omega), hBw⟩
          case round =>
            obtain ⟨k, b, rfl, hk, hMid, hRn, hD, hBw⟩ := hrel
            clear HM2
            obtain ⟨v, hv⟩ : ∃ v, b[i + 1]? = some v := ⟨_, List.getElem?_eq_getElem (by rw [hMid.rowl]; omega)⟩
            have hck := hMid.row.cell (i + 1) hv
            have hcel := hMid.copy.cells i r HRR.out
            have HV := Lib.hid hv
            by_cases hgo : v = true ∧ k < r.words.length
            · obtain ⟨rfl, hlk⟩ := hgo
              obtain ⟨c, hc⟩ : ∃ c, r.words[k]? = some c := ⟨_, List.getElem?_eq_getElem hlk⟩
              have hg := cellsOf_get r.words k c hc
              have hbk := hMid.copy.blk i r HRR.out
              have m0 : wr.cell? ⟨f i, k * 2, none⟩ = some (.int .i64 c.1) := hbk.cell _ (by rw [Nat.mul_comm]; simpa using hg.1)
              have m1 : wr.cell? ⟨f i, k * 2 + 1, none⟩ = some (.bool c.2) := hbk.cell _ (by rw [Nat.mul_comm]; simpa using hg.2)
              have HM3 := Lib.hid hMid
              have HC := Lib.hid hc
              clear hv hc hg hbk hMid
              rcases c with ⟨y, ref⟩
              cases ref
              · go_wp2
                go_roundw
                case rel =>
                  refine ⟨k + 1, b, by go_num, by omega, HM3.out, hRn, Lib.hid ?_, hBw⟩
                  intro ha j y' hj hy
                  by_cases e : j = k
                  · subst e
                    have := HC.out
                    rw [this] at hy
                    simp at hy
                  · exact hD.out ha j y' (by omega) hy
                case measure => simp [intOf]; omega
              · obtain ⟨hy1, hyN⟩ := HM3.out.wired r (List.mem_of_getElem? HRR.out) _ (List.mem_of_getElem? HC.out) rfl
                simp only at hy1 hyN m0 m1
                obtain ⟨y, rfl⟩ := Int.eq_ofNat_of_zero_le (show (0 : Int) ≤ y by omega)
                have hy1' : 1 ≤ y := by omega
                have hyN' : y ≤ N := by omega
                obtain ⟨vy, hvy⟩ : ∃ v, b[y]? = some v := ⟨_, List.getElem?_eq_getElem (by rw [HM3.out.rowl]; omega)⟩
                have hcy := HM3.out.row.cell y hvy
                have hfy := Blk.free HM3.out.row y
                clear hvy
                go_wp2
                have hRm := hRn.out.mark HM3.out.shelved HM3.out.fits.ne hiN HRR.out HV.out HC.out hy1' hyN'
                go_roundw
                case rel =>
                  refine ⟨k + 1, b.set y true, by go_num, by omega, HM3.out.turn ((But.refl _ _).setCell _ _ (Or.inl rfl)) (HM3.out.row.put y true) hRm.len hRm.sound (fun i hi hz => by have := (More.refl b).set y _ (HM3.out.base i hi hz); exact this), Lib.hid hRm, Lib.hid ?_, hBw.setCell _ _ (Or.inl rfl)⟩
                  intro ha j y' hj hy
                  by_cases e : j = k
                  · subst e
                    have := HC.out
                    rw [this] at hy
                    obtain rfl : (y : Int) = y' := by simpa using hy
                    rw [Int.toNat_natCast, List.getElem?_set_self (by rw [HM3.out.rowl]; omega)]
                  · exact ((hD.out ha).more ((More.refl b).set y)) j y' (by omega) hy
                case measure => simp [intOf]; omega
            · have hD2 : Done b r r.words.length ∨ ¬ a[i + 1]? = some true := by
                by_cases hva : a[i + 1]? = some true
                · have := hRn.out.more _ hva
                  rw [HV.out] at this
                  obtain rfl := Option.some.inj this
                  obtain rfl : k = r.words.length := by
                    have : ¬ k < r.words.length := fun h => hgo ⟨rfl, h⟩
                    omega
                  exact .inl (hD.out hva)
                · exact .inr hva
              have hRn2 : Rnd N s zs a b (i + 2) := by
                have h := hRn.out
                refine ⟨h.len, h.more, h.sound, h.still, ?_⟩
                intro i' r' h1 h2 h3
                by_cases e : i' = i
                · subst e
                  obtain rfl := Option.some.inj (HRR.out.symm.trans h2)
                  rcases hD2 with h4 | h4
                  · exact h4
                  · exact absurd h3 h4
                · exact h.done i' r' (by omega) h2 h3
              have HRn2 := Lib.hid hRn2
              have HM3 := Lib.hid hMid
              clear hv hRn hD hD2 hRn2 hMid
              cases v
              · clear hgo
                go_wp2
                go_roundw
                case rel => exact ⟨i + 2, b, by go_num, by omega, by omega, HM3.out, HRn2, hBw⟩
                case measure => simp [intOf]; omega
              · have hkl : ¬ k < r.words.length := fun h => hgo ⟨rfl, h⟩
                clear hgo
                go_wp2
                go_roundw
                case rel => exact ⟨i + 2, b, by go_num, by omega, by omega, HM3.out, HRn2, hBw⟩
                case measure => simp [intOf]; omega
        · obtain rfl : x = N + 1 := by omega
          go_wp2
          have hn := hRn.out.next HM.out.rowl hJ.out
          go_roundw
          case rel => exact ⟨t + 1, b, by go_num, by omega, HM2.out, Lib.hid hn, hBw⟩
          case measure => simp [intOf]; omega
    · obtain rfl : t = N := by omega
      go_wp2
      have hcl : Closed t s a := hJ.out.elim id (fun h => closed_all HM.out.wired HM.out.rowl h)
      exact HK.out _ _ (tail4_13 w0 _ p mb t M SB f s LA zs lc a hN (HM.out.before hcl) HZ.out (HR.out _ hBw) hzl)
end Go.Proofs.Ytmamcpaejhjceaa.HP
