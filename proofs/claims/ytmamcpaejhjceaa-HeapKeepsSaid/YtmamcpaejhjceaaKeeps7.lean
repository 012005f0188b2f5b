/- HeapKeeps: the loop over the links. -/
import Derived.Test.YtmamcpaejhjceaaKeeps6
namespace Go.Proofs.Ytmamcpaejhjceaa.HP
open Go.MapKept Go.ChangeMaps Go.RowKit
theorem reg26_end (w : World) (n y : Nat) (b : Bool) : Below w.heap.size w ((((w.drewN n).alloc (.cells #[.int .i64 0, .bool false] 41)).setCell ⟨w.heap.size, 0, none⟩ (.int .i64 ((y : Int) + 1))).setCell ⟨w.heap.size, 1, none⟩ (.bool b)) ∧
    Blk ((((w.drewN n).alloc (.cells #[.int .i64 0, .bool false] 41)).setCell ⟨w.heap.size, 0, none⟩ (.int .i64 ((y : Int) + 1))).setCell ⟨w.heap.size, 1, none⟩ (.bool b)) w.heap.size #[.int .i64 ((y : Int) + 1), .bool b] :=
  ⟨(((below_drewN (Below.refl w.heap.size w) n).alloc (Nat.le_refl _) _).setCell (p := ⟨w.heap.size, 0, none⟩) (Nat.le_refl _) _).setCell (p := ⟨w.heap.size, 1, none⟩) (Nat.le_refl _) _,
   ((Blk.made (w.drewN n) #[.int .i64 0, .bool false] 41).put 0 _).put 1 _⟩
theorem Stage.link {w0 wr W w3 : World} {p mb N M : Nat} {f : Nat → Nat} {s : St} {i y : Nat} (h : Stage w0 wr p mb N M f s) (hBW : Below wr.heap.size wr W) (m : Nat) (b : Bool)
    (hH3 : HeapAt w3 w0.heap.size p mb { s with recs := setW s.recs ((i : Int) + 1) m ((y : Int) + 1, b) }) (hB3 : But (fun k => k ∈ p :: mb :: blks s.recs) W w3) (hC3 : Copy w3 M f s) (hi : i < N) (hy : y < N) :
    Stage w0 ((w3.setCell ⟨f i, m * 2, none⟩ (.int .i64 ((y : Int) + 1))).setCell ⟨f i, m * 2 + 1, none⟩ (.bool b)).drew p mb N M f { s with recs := setW s.recs ((i : Int) + 1) m ((y : Int) + 1, b) } := by
  have hb1 := h.bel.trans (hBW.mono h.bel.size)
  have hb2 := hb1.trans (hB3.below (foot_low h.heap) hb1.size)
  have hfi := h.new.2 i hi
  have hbu : But (fun k => k = f i) w3 ((w3.setCell ⟨f i, m * 2, none⟩ (.int .i64 ((y : Int) + 1))).setCell ⟨f i, m * 2 + 1, none⟩ (.bool b)).drew := (((But.refl (fun k => k = f i) w3).setCell ⟨f i, m * 2, none⟩ _ (Or.inl rfl)).setCell ⟨f i, m * 2 + 1, none⟩ _ (Or.inl rfl)).drew
  have hfo := (h.own.out i hi).1
  refine ⟨hb2.trans (hbu.below (fun k hk => by rw [hk]; exact hfi) hb2.size), hH3.kept hbu (fun k hk e => ?_), h.fits.setW _ _ _, h.lay.setW _ _ _, h.area, h.shelved.setW _ _ _, ?_, ?_, h.new, h.wired.setW _ _ _ (fun _ => ⟨by show (1 : Int) ≤ (y : Int) + 1; omega, by show (y : Int) + 1 ≤ N; omega⟩)⟩
  · subst e
    have hk' : f i ∈ p :: mb :: blks (setW s.recs ((i : Int) + 1) m ((y : Int) + 1, b)) := hk
    rw [setW_blks] at hk'
    exact hfo hk'
  · have := hC3.setW h.own h.shelved hi m ((y : Int) + 1, b)
    exact this.kept (S := fun _ => False) ((But.refl _ _).drew) (fun h => h) (fun _ _ h => h)
  · show Owned M f N (p :: mb :: blks (setW s.recs ((i : Int) + 1) m ((y : Int) + 1, b)))
    rw [setW_blks]
    exact h.own
set_option maxRecDepth 100000 in
set_option maxHeartbeats 2000000 in
theorem tail4_8 (w0 w : World) {u0 u3 u4 u5 u6 u8 u10 u11 u12 u14 u15 u16 u17 u18 u19 u20 u21 u22 u23 u24 u25 u26 u27 u28 u29 u30 u31 u32 u33 u34 u35 u36 u37 u38 u39 u40 u41 u42 u43 u44 u45 u46 u47 u48 u49 u50 u51 u52 u53 u54 u55 u56 u57 u58 u59 u60 u61 u62 u63 u64 u65 u66 u67 u68 u69 u70 u71 u72 u73 u74 u75 u76 u77 u78 u79 u80 u81 u82 u83 u84 u85 u86 u87 u88 u89 u90 u91 u92 u93 u94 u95 u96 u97 u98 u99 u100 u101 u102 u103 u104 u105 u106 u107 u108 u109 u110 u111 u112 u113 u114 u115 u116 u117 u118 u119 u120 u121 u122 u123 u124 u125 u126 u127 u128 u129 u130 u131 u132 u133 u134 u135 u136 u137 u138 u139 u140 u141 u142 u143 u144 u145 u146 u147 u148 u149 u150 u151 u152 u153 u154 u155 u156 u157 u158 u159 u160 u161 u162 u163 u164 u165 u166 u167 u168 u169 u170 u171 u172 u173 u174 u175 u176 u177 u178 u179 u180 u181 u182 u183 u184 u185 u186 u187 u188 u189 u190 u191 u192 u193 u194 u195 u196 u197 u198 u199 u200 u201 u202 u203 u204 u205 u206 u207 u208 u209 u210 u211 u212 u213 u214 u215 u216 u217 u218 u219 u220 u221 u222 u223 u224 u225 u226 u227 u228 u229 u230 u231 u232 u233 u234 u235 u236 u237 u238 u239 u240 u241 u242 u243 u244 u245 u246 u247 u248 u249 u250 u251 u252 u253 u254 u255 u256 u257 u258 u259 u260 u261 u262 u263 u264 u265 u266 u267 u268 u269 u270 u271 u272 u273 u274 u275 u276 u277 u278 u279 u280 u281 u282 u283 u284 u285 u286 u287 u288 u289 u290 u291 u292 u293 u294 u295 u296 u297 u298 u299 u300 u301 u302 u303 u304 u305 u306 u307 u308 u309 u310 u311 u312 u313 u314 u315 u316 u317 u318 u319 u320 u321 u322 u323 u324 u325 u326 u327 u328 u329 u330 u331 u332 u333 u334 u335 u336 u337 u338 u339 u340 u341 u342 u343 u344 u345 u346 u347 : Value} (p mb N M : Nat) (f : Nat → Nat) (s : St) (KA : Option Addr) (kn kc : Nat) (kz : List Int) (RA : Option Addr) (rn rc : Nat) (rz : List Int) (hN : N ≤ 40) (hN1 : 1 ≤ N)
    (B : Stage w0 w p mb N M f s)
    (hkn : kn ≤ 9223372036854775807) (hKR : RdK .u16 w0 KA kn kz) (hkz : ∀ j, 0 ≤ kz.getD j 0 ∧ kz.getD j 0 ≤ 65535)
    (hrn : rn ≤ 9223372036854775807) (hR : RdK .u8 w0 RA rn rz) (hz : ∀ j, 0 ≤ rz.getD j 0 ∧ rz.getD j 0 ≤ 255) :
    Code.wp Try.prog (tail4 8) (bodyPost Try.prog Try.f4 (KPost w0)) ⟨#[u0, .slice KA kn kc, .slice RA rn rc, u3, u4, u5, u6, .pointer (some ⟨p, 0, none⟩), u8, .int .i64 N, u10, u11, u12, .slice (some ⟨M, 0, none⟩) (N + 1) (N + 1), u14, u15, u16, u17, u18, u19, u20, u21, u22, u23, u24, u25, u26, u27, u28, u29, u30, u31, u32, u33, u34, u35, u36, u37, u38, u39, u40, u41, u42, u43, u44, u45, u46, u47, u48, u49, u50, u51, u52, u53, u54, u55, u56, u57, u58, u59, u60, u61, u62, u63, u64, u65, u66, u67, u68, u69, u70, u71, u72, u73, u74, u75, u76, u77, u78, u79, u80, u81, u82, u83, u84, u85, u86, u87, u88, u89, u90, u91, u92, u93, u94, u95, u96, u97, u98, u99, u100, u101, u102, u103, u104, u105, u106, u107, u108, u109, u110, u111, u112, u113, u114, u115, u116, u117, u118, u119, u120, u121, u122, u123, u124, u125, u126, u127, u128, u129, u130, u131, u132, u133, u134, u135, u136, u137, u138, u139, u140, u141, u142, u143, u144, u145, u146, u147, u148, u149, u150, u151, u152, u153, u154, u155, u156, u157, u158, u159, u160, u161, u162, u163, u164, u165, u166, u167, u168, u169, u170, u171, u172, u173, u174, u175, u176, u177, u178, u179, u180, u181, u182, u183, u184, u185, u186, u187, u188, u189, u190, u191, u192, u193, u194, u195, u196, u197, u198, u199, u200, u201, u202, u203, u204, u205, u206, u207, u208, u209, u210, u211, u212, u213, u214, u215, u216, u217, u218, u219, u220, u221, u222, u223, u224, u225, u226, u227, u228, u229, u230, u231, u232, u233, u234, u235, u236, u237, u238, u239, u240, u241, u242, u243, u244, u245, u246, u247, u248, u249, u250, u251, u252, u253, u254, u255, u256, u257, u258, u259, u260, u261, u262, u263, u264, u265, u266, u267, u268, u269, u270, u271, u272, u273, u274, u275, u276, u277, u278, u279, u280, u281, u282, u283, u284, u285, u286, u287, u288, u289, u290, u291, u292, u293, u294, u295, u296, u297, u298, u299, u300, u301, u302, u303, u304, u305, u306, u307, u308, u309, u310, u311, u312, u313, u314, u315, u316, u317, u318, u319, u320, u321, u322, u323, u324, u325, u326, u327, u328, u329, u330, u331, u332, u333, u334, u335, u336, u337, u338, u339, u340, u341, u342, u343, u344, u345, u346, u347], []⟩ w := by
  rw [step4_8]
  refine wp_seq_k fun KK hK => ?_
  have HK := Lib.hid hK
  have HB := Lib.hid B
  have HR := Lib.hid (And.intro hrn (And.intro hR hz))
  clear hK B hrn hR hz
  conv => arg 2; whnf
  go_wp2
  go_loopw [17] (fun i wx => ∃ (k : Nat) (s : St), i = .int .i64 k ∧ k ≤ kn ∧ k ≤ 200 ∧ Hid (Stage w0 wx p mb N M f s)) (fun i _ => 200 - (intOf i).toNat)
  case atStart => exact ⟨0, s, rfl, Nat.zero_le _, Nat.zero_le _, HB⟩
  case round =>
    obtain ⟨k, s, rfl, hk, hk5, hSt⟩ := hrel
    clear HB
    by_cases hlt : k < kn
    · by_cases hl5 : k < 200
      · obtain ⟨bb, off, eA, hb, hc⟩ := hKR k hlt
        have hck : wr.cell? ⟨bb, off + k, none⟩ = some (.int .u16 (kz.getD k 0)) := by
          rw [hSt.out.bel.cell (p := ⟨bb, off + k, none⟩) hb]; exact hc k hlt
        clear hc
        subst eA
        obtain ⟨z0, z1⟩ := hkz k
        generalize kz.getD k 0 = z at hck z0 z1
        obtain ⟨i, hi⟩ : ∃ i : Nat, z % (N : Int) = i := ⟨(z % (N : Int)).toNat, by have := Int.emod_nonneg z (show (N : Int) ≠ 0 by omega); omega⟩
        have hiN : i < N := by have := Int.emod_lt_of_pos z (show (0 : Int) < (N : Int) by omega); omega
        obtain ⟨r, hr⟩ := hSt.out.shelved.at hiN
        have hrl : r.words.length ≤ 40 := hSt.out.shelved.len r (List.mem_of_getElem? hr)
        have hrl1 : 1 ≤ r.words.length := (hSt.out.fits.recs r (List.mem_of_getElem? hr)).1
        obtain ⟨m, hm⟩ : ∃ m : Nat, z / 64 % (r.words.length : Int) = m := ⟨(z / 64 % (r.words.length : Int)).toNat, by have := Int.emod_nonneg (z / 64) (show (r.words.length : Int) ≠ 0 by omega); omega⟩
        have hml : m < r.words.length := by have := Int.emod_lt_of_pos (z / 64) (show (0 : Int) < (r.words.length : Int) by omega); omega
        obtain ⟨y, hy⟩ : ∃ y : Nat, z / 8 % (N : Int) = y := ⟨(z / 8 % (N : Int)).toNat, by have := Int.emod_nonneg (z / 8) (show (N : Int) ≠ 0 by omega); omega⟩
        have hyN : y < N := by have := Int.emod_lt_of_pos (z / 8) (show (0 : Int) < (N : Int) by omega); omega
        have hcel := hSt.out.copy.cells i r hr
        obtain ⟨b, hb4⟩ : ∃ b : Bool, (z % 4 != 0) = b := ⟨_, rfl⟩
        have hbw : bb < wr.heap.size := Nat.lt_of_lt_of_le hb hSt.out.bel.size
        have hp0 : IntKind.u16.wrap (z.tdiv 64) = z / 64 := by rw [Int.tdiv_eq_ediv_of_nonneg z0]; exact IntWalk.u16_in _ (by omega)
        have hp1 : wrap64 (z / 64) = z / 64 := IntWalk.wrap64_in _ (by omega)
        have hp2 : (z / 64).tmod (r.words.length : Int) = m := by rw [Int.tmod_eq_emod_of_nonneg (by omega)]; exact hm
        have hp4 : (wrap64 (IntKind.u16.wrap (z.tdiv 64))).tmod (r.words.length : Int) = m := by rw [hp0, hp1, hp2]
        have HRR := Lib.hid hr
        clear hp0 hp1 hp2 hr
        go_wp2
        go_quiet (fail)
        go_wp2
        have hcw : ∀ n ob, ((wr.drewN n).alloc ob).cell? ⟨bb, off + k, none⟩ = some (.int .u16 z) := fun n ob => (World.cell?_of_block (((Below.refl wr.heap.size wr).alloc (Nat.le_refl _) ob).block _ hbw)).trans hck
        have hN0 : ((N : Int) = 0) = False := by simp; omega
        have hq0 : IntKind.u16.wrap (z.tdiv 8) = z / 8 := by rw [Int.tdiv_eq_ediv_of_nonneg z0]; exact IntWalk.u16_in _ (by omega)
        have hq1 : wrap64 (z / 8) = z / 8 := IntWalk.wrap64_in _ (by omega)
        have hq2 : (z / 8).tmod (N : Int) = y := by rw [Int.tmod_eq_emod_of_nonneg (by omega)]; exact hy
        have hq3 : wrap64 ((y : Int) + 1) = (y : Int) + 1 := IntWalk.wrap64_in _ (by omega)
        have hq4 : wrap64 ((wrap64 (IntKind.u16.wrap (z.tdiv 8))).tmod (N : Int) + 1) = (y : Int) + 1 := by rw [hq0, hq1, hq2, hq3]
        have hn0 : ∀ n, ((wr.drewN n).alloc (.cells #[.int .i64 0, .bool false] 41)).cell? ⟨wr.heap.size, 0, none⟩ = some (.int .i64 0) := fun n => Blk.cell (Blk.made (wr.drewN n) _ 41) 0 rfl
        have hn1 : ∀ n, ((wr.drewN n).alloc (.cells #[.int .i64 0, .bool false] 41)).cell? ⟨wr.heap.size, 1, none⟩ = some (.bool false) := fun n => Blk.cell (Blk.made (wr.drewN n) _ 41) 1 rfl
        have hf0 : ∀ n, ((wr.drewN n).alloc (.cells #[.int .i64 0, .bool false] 41)).frozen? ⟨wr.heap.size, 0, none⟩ = false := fun n => Blk.free (Blk.made (wr.drewN n) _ 41) 0
        have hf1 : ∀ n, ((wr.drewN n).alloc (.cells #[.int .i64 0, .bool false] 41)).frozen? ⟨wr.heap.size, 1, none⟩ = false := fun n => Blk.free (Blk.made (wr.drewN n) _ 41) 1
        clear hq0 hq1 hq2 hq3
        go_region
        obtain ⟨hBW, hBlk⟩ := reg26_end wr (nq + 1) y b
        generalize (((wr.drewN (nq + 1)).alloc (.cells #[.int .i64 0, .bool false] 41)).setCell ⟨wr.heap.size, 0, none⟩ (.int .i64 ((y : Int) + 1))).setCell ⟨wr.heap.size, 1, none⟩ (.bool b) = W at hBW hBlk ⊢
        clear hcw hN0 hq4 hn0 hn1 hf0 hf1
        have hc0 : W.cell? ⟨wr.heap.size, 0, none⟩ = some (.int .i64 ((y : Int) + 1)) := hBlk.cell 0 rfl
        have hc1 : W.cell? ⟨wr.heap.size, 1, none⟩ = some (.bool b) := hBlk.cell 1 rfl
        have hHW := hSt.out.heap.below hBW
        have hfd := hSt.out.shelved.find hSt.out.fits.ne HRR.out
        have hset := Set_ok ((i : Int) + 1) ((y : Int) + 1) b m r W hHW hfd hml (by omega) (fun _ _ => by
          obtain ⟨q, hq⟩ := hSt.out.shelved.at hyN
          exact ⟨q, hSt.out.shelved.find hSt.out.fits.ne hq⟩)
        have HSET := Lib.hid hset
        have HBL := Lib.hid hBlk
        have HBW := Lib.hid hBW
        clear hset hfd hHW hBlk hck hcel hBW
        go_wp2_with (first
          | (go_at_call 13; refine HSET.out.mono ?_; rintro e w3 ⟨rfl, hH3, hB3⟩))
        have hfoot : ∀ {x : Nat}, w.heap.size ≤ w.heap.size → wr.heap.size ≤ x → ¬ x ∈ p :: mb :: blks s.recs := fun {x} _ hx hm => by have := hSt.out.heap.lt _ hm; omega
        have hbox : Blk w3 wr.heap.size #[.int .i64 ((y : Int) + 1), .bool b] := Blk.kept HBL.out hB3 (hfoot (Nat.le_refl _) (Nat.le_refl _))
        have d0 : w3.cell? ⟨wr.heap.size, 0, none⟩ = some (.int .i64 ((y : Int) + 1)) := hbox.cell 0 rfl
        have d1 : w3.cell? ⟨wr.heap.size, 1, none⟩ = some (.bool b) := hbox.cell 1 rfl
        have hC3 : Copy w3 M f s := by
          have h := hSt.out
          refine (h.copy.kept (S := fun _ => False) (But.of_below HBW.out) (fun h => h) (fun _ _ h => h)).kept hB3 h.own.m (fun j hj => (h.own.out j (by rw [h.shelved.cnt] at hj; exact hj)).1)
        have hcel := hC3.cells i r HRR.out
        have hbk := hC3.blk i r HRR.out
        obtain ⟨c, hc⟩ : ∃ c, r.words[m]? = some c := ⟨_, List.getElem?_eq_getElem hml⟩
        have hg := cellsOf_get r.words m c hc
        have m0 : w3.cell? ⟨f i, m * 2, none⟩ = some (.int .i64 c.1) := hbk.cell _ (by rw [Nat.mul_comm]; simpa using hg.1)
        have m1 : w3.cell? ⟨f i, m * 2 + 1, none⟩ = some (.bool c.2) := hbk.cell _ (by rw [Nat.mul_comm]; simpa using hg.2)
        have f0 := hbk.free (m * 2)
        have f1 := hbk.free (m * 2 + 1)
        have HS3 := Lib.hid (And.intro hH3 (And.intro hB3 hC3))
        clear hc hg hbk hbox hC3 hB3 hH3 HSET hc0 hc1
        have hI0 : (0 : Int) ≤ (i : Int) + 1 := by omega
        have hI1 : (i : Int) + 1 < (N : Int) + 1 := by omega
        have hI2 : ((i : Int) + 1).toNat = i + 1 := by omega
        have hI3 : ¬ ((i : Int) + 1 < 0) := by omega
        go_still_tail 7, (by kernel_rfl)
        change wpList _ _ _ _ _ w3.drew
        go_wp2
        go_roundw
        case rel => exact ⟨k + 1, _, by go_num, by omega, by omega, Lib.hid (hSt.out.link HBW.out m b HS3.out.1 HS3.out.2.1 HS3.out.2.2 hiN hyN)⟩
        case measure => simp [intOf]; omega
      · have hk5' : k = 200 := by omega
        have hd : decide ((k : Int) < 200) = false := by simp; omega
        go_wp2
        exact HK.out _ _ (tail4_9 w0 _ p mb N M f s RA rn rc rz hN (fun W SB h1 h2 h3 => hSt.out.mid W SB h1 h2 h3) HR.out.1 HR.out.2.1 HR.out.2.2)
    · go_wp2
      exact HK.out _ _ (tail4_9 w0 _ p mb N M f s RA rn rc rz hN (fun W SB h1 h2 h3 => hSt.out.mid W SB h1 h2 h3) HR.out.1 HR.out.2.1 HR.out.2.2)
end Go.Proofs.Ytmamcpaejhjceaa.HP
