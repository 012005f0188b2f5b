/- The heap's Alloc of large objects. -/
import Derived.Test.YtmamcpaejhjceaaPack
namespace Go.Proofs.Ytmamcpaejhjceaa.HP
open Go.MapKept Go.ChangeMaps Go.RowKit
section
variable {base p mb : Nat} {s : St}
theorem run_no (n : Int) (D : List Rec) (w : World) (h : HeapAt w base p mb s) (F : Fits s) (n0 : 0 ≤ n) (n1 : n ≤ 9223372036854775807) :
    Calls Try.prog 25 #[.pointer (some ⟨p, 0, none⟩), .int .i64 n] w fun e w' => ∃ D : List Rec, (D.Perm (larges s.recs) ∧ D.Pairwise (fun a b => a.place ≤ b.place)) ∧ ∃ a ok, e = .returned (.tuple #[.int .i64 a, .bool ok]) ∧ Hid (goL n s.big 0 D = (a, ok)) ∧ Below w.heap.size w w' :=
  (run_any n w h F n0 n1).mono fun _ _ ⟨D, h1, h2, h3, h4⟩ => ⟨D, ⟨h1, h2⟩, _, _, h3, rfl, h4⟩
/-- what Alloc leaves of a large object -/
def AllocPost (base p mb : Nat) (s : St) (n : Int) (w : World) (e : Ending) (w' : World) : Prop :=
  ∃ D : List Rec, D.Perm (larges s.recs) ∧ D.Pairwise (fun a b => a.place ≤ b.place) ∧
    (((goL n s.big 0 D).2 = false ∧ e = .returned (.tuple #[.int .i64 0, .int .i64 9]) ∧ Below w.heap.size w w') ∨
     ((goL n s.big 0 D).2 = true ∧ e = .returned (.tuple #[.int .i64 (s.last + 1), .int .i64 0]) ∧ ∃ ob wb, w.heap.size ≤ ob ∧ w.heap.size ≤ wb ∧ HeapAt w' base p mb (grown s n.toNat (goL n s.big 0 D).1 ob wb) ∧ But (fun k => k ∈ p :: mb :: blks s.recs) w w'))
set_option maxRecDepth 100000 in
theorem Alloc_large (n : Int) (w : World) (h : HeapAt w base p mb s) (F : Fits s) (L : Lay s) (a8 : s.last ≤ 9223372036854775806) (h1 : 16 < n) (h2 : n ≤ 9223372036854775807) :
    Calls Try.prog 8 #[.pointer (some ⟨p, 0, none⟩), .int .i64 n] w (AllocPost base p mb s n w) := by
  have c0 : w.cell? ⟨p, 0, none⟩ = some (.int .i64 s.small) := h.hd.cell 0 rfl
  have c2 : w.cell? ⟨p, 2, none⟩ = some (.int .i64 s.top) := h.hd.cell 2 rfl
  have hplt := h.hd.lt
  have a5 := F.top0
  have a9 := F.recs
  have a1 := F.small0; have a2 := F.small1; have a3 := F.big0; have a4 := F.big1; have a6 := F.top1; have a7 := F.last0
  have hnone : (keysOf s.recs).lookup (s.last + 1) = none := by
    rw [List.lookup_eq_none_iff]
    intro q hq
    obtain ⟨r, hr, rfl⟩ := List.mem_map.1 hq
    have := (a9 r hr).2.2.2.2
    simp; omega
  have HN := Lib.hid hnone
  clear hnone a9
  have hw : IntKind.i64.wrap (s.small - s.top) = s.small - s.top := IntWalk.i64_in _ (by omega)
  have hd : decide (n ≤ s.small - s.top) = decide (n ≤ s.small - s.top) := rfl
  have hmk := fun (m : Nat) (hm : m ≤ 65536) (W : World) => make_zc m hm W
  have HMK := Lib.hid hmk
  clear hmk hd
  go_enter Try.func8, Try.ntmps8
  go_wp2_with fail
  go_quiet (fail)
  clear hw c0 c2
  go_wp2_with fail
  refine (run_no n [] _ h.drewN F (by omega) h2).mono ?_
  rintro e w1 ⟨D, hD, at0, ok, rfl, HG, hB1⟩
  have hB2 : Below w.heap.size w w1 := (below_drewN (Below.refl _ w) nq).trans hB1
  have hH1 := h.below hB2
  have HD := Lib.hid hD
  clear hB1 hD h
  cases ok
  · go_wp2
    go_ret2
    exact ⟨D, HD.out.1, HD.out.2, .inl ⟨by rw [HG.out], rfl, hB2⟩⟩
  · have hy := goL_yes (n := n) (big := s.big) (by omega) 0 D (L.chain F HD.out.1 HD.out.2) (by rw [HG.out])
    rw [HG.out] at hy
    obtain ⟨y0, y1, y2, y3⟩ := hy
    have hlens : lens D = sumL s.recs := by rw [lens_perm HD.out.1, lens_larges]
    obtain ⟨m, rfl⟩ := Int.eq_ofNat_of_zero_le (show 0 ≤ n by omega)
    have hmk := HMK.out m (by omega)
    have d3 : w1.cell? ⟨p, 3, none⟩ = some (.int .i64 s.last) := hH1.hd.cell 3 rfl
    have f3 := hH1.hd.free 3
    have hp1 := hH1.hd.lt
    clear y3 hlens HMK
    go_wp2
    have hH := ((hH1.setLast (s.last + 1)).alloc (.cells (zc m) 41)).alloc (.cells #[.slice (some ⟨w1.heap.size, 0, none⟩) m m, .int .i64 at0] 72)
    have hB3 : But (fun k => k ∈ p :: mb :: blks s.recs) w ((((w1.setCell ⟨p, 3, none⟩ (.int .i64 (s.last + 1))).alloc (.cells (zc m) 41))).alloc (.cells #[.slice (some ⟨w1.heap.size, 0, none⟩) m m, .int .i64 at0] 72)) :=
      (((But.of_below (S := fun k => k ∈ p :: mb :: blks s.recs) hB2).setCell _ _ (Or.inl (by simp))).alloc _).alloc _
    have hwb : Blk ((((w1.setCell ⟨p, 3, none⟩ (.int .i64 (s.last + 1))).alloc (.cells (zc m) 41))).alloc (.cells #[.slice (some ⟨w1.heap.size, 0, none⟩) m m, .int .i64 at0] 72)) w1.heap.size (zc m) := by
      have := Blk.made (w1.setCell ⟨p, 3, none⟩ (.int .i64 (s.last + 1))) (zc m) 41
      simp only [World.size_setCell] at this
      exact this.alloc _
    have hob : Blk ((((w1.setCell ⟨p, 3, none⟩ (.int .i64 (s.last + 1))).alloc (.cells (zc m) 41))).alloc (.cells #[.slice (some ⟨w1.heap.size, 0, none⟩) m m, .int .i64 at0] 72)) (w1.heap.size + 1) #[.slice (some ⟨w1.heap.size, 0, none⟩) m m, .int .i64 at0] := by
      have := Blk.made ((w1.setCell ⟨p, 3, none⟩ (.int .i64 (s.last + 1))).alloc (.cells (zc m) 41)) #[.slice (some ⟨w1.heap.size, 0, none⟩) m m, .int .i64 at0] 72
      simpa using this
    have hn1 := fun i hi => hH1.lt i hi
    have HN1 := Lib.hid hn1
    have HLT := Lib.hid (show base ≤ w1.heap.size by have := hH1.low p (by simp); omega)
    have hws := hB2.size
    generalize (((w1.setCell ⟨p, 3, none⟩ (.int .i64 (s.last + 1))).alloc (.cells (zc m) 41))).alloc (.cells #[.slice (some ⟨w1.heap.size, 0, none⟩) m m, .int .i64 at0] 72) = W at hH hB3 hwb hob ⊢
    clear hn1 hmk d3 f3 hH1
    have d3 : W.cell? ⟨p, 3, none⟩ = some (.int .i64 (s.last + 1)) := hH.hd.cell 3 rfl
    have d4 : W.cell? ⟨p, 4, none⟩ = some (.map (some mb)) := hH.hd.cell 4 rfl
    go_still_tail 9, (by kernel_rfl)
    change wpList _ _ _ _ _ W.drew
    refine wpList_put (enc := encP) W.drew rfl _ _ _ 65 rfl 3 70 Try.underlying65 Try.underlying3 mb (keysOf s.recs) rfl (hH.mp.of_block (w' := W.drew) rfl) (s.last + 1) rfl (w1.heap.size + 1) rfl HN.out ?_
    intro w2 hm2 hB4 hs2
    have hne1 : w1.heap.size + 1 ∉ p :: mb :: blks s.recs := fun hm => by have := HN1.out _ hm; omega
    have hne2 : w1.heap.size ∉ p :: mb :: blks s.recs := fun hm => by have := HN1.out _ hm; omega
    have hG := hH.drew.push (newRec s m at0 (w1.heap.size + 1) w1.heap.size) (by simpa [objV, newRec] using hob.of_block (w' := W.drew) rfl) (hwb.of_block (w' := W.drew) rfl) (by simp [newRec]) hne1 hne2 (by have := HLT.out; simp [newRec]; omega) (by have := HLT.out; simp [newRec]; omega) hB4 (by simpa [newRec] using hm2)
    have hB5 : But (fun k => k ∈ p :: mb :: blks s.recs) w w2 := hB3.drew.trans hB4 (fun i hi => Or.inl (by subst hi; simp))
    clear hm2 hB4 hs2 hob hwb hB3 hH d3 d4
    have e3 : w2.cell? ⟨p, 3, none⟩ = some (.int .i64 (s.last + 1)) := hG.hd.cell 3 rfl
    have hpw := hG.hd.lt
    go_wp2_with (first | (go_at_call 26; refine (large_yes (newRec s m at0 (w1.heap.size + 1) w1.heap.size) _ hG (by simp) (by simp [newRec]; omega)).mono ?_; rintro e w' ⟨rfl, rfl⟩))
    go_ret2
    exact ⟨D, HD.out.1, HD.out.2, .inr ⟨by rw [HG.out], rfl, w1.heap.size + 1, w1.heap.size, by omega, by omega, by rw [HG.out]; exact hG, hB5⟩⟩
/-- what a large object's Alloc gives, all said -/
theorem Alloc_large_fits {n : Nat} {D : List Rec} (F : Fits s) (L : Lay s) (hp : D.Perm (larges s.recs)) (hs : D.Pairwise (fun a b => a.place ≤ b.place)) (h1 : 16 < n) (hok : (goL n s.big 0 D).2 = true) (ob wb : Nat) :
    Fits (grown s n (goL n s.big 0 D).1 ob wb) ∧ Lay (grown s n (goL n s.big 0 D).1 ob wb) ∧ n ≤ 65536 := by
  obtain ⟨y0, y1, y2, y3⟩ := goL_yes (n := n) (big := s.big) (by omega) 0 D (L.chain F hp hs) hok
  have hlens : lens D = sumL s.recs := by rw [lens_perm hp, lens_larges]
  have := F.big1
  exact ⟨F.push_large n ob wb _ h1 y0 y1 (by omega), L.push_large hp n ob wb _ h1 y0 y1 y3, by omega⟩
end
end Go.Proofs.Ytmamcpaejhjceaa.HP
