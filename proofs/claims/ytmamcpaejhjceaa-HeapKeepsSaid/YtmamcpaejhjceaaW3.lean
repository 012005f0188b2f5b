/- The heap's Live and Free. -/
import Derived.Test.YtmamcpaejhjceaaW2
import Derived.Test.YtmamcpaejhjceaaShelf
import Derived.Sort.OwnSortedInts
namespace Go.Proofs.Ytmamcpaejhjceaa.HP
open Go.MapKept Go.ChangeMaps Go.RowKit

def lenOf : Value → Nat | .slice _ n _ => n | _ => 0
theorem info3 : (Try.prog.info? 3).map (fun i => (i.zero, i.size, i.bytes)) = some (some (.int .i64 0), 1, 8) := by kernel_rfl
theorem rise_sorted {s : St} (hri : s.recs.Pairwise (fun a b => a.x < b.x)) {done : List (Int × Nat)} (h : done.Perm (keysOf s.recs)) : (done.map Prod.fst).mergeSort (fun x y => decide (x ≤ y)) = s.recs.map Rec.x := by
  have h1 : (done.map Prod.fst).Perm (s.recs.map Rec.x) := by
    have := h.map Prod.fst
    simpa [keysOf, Function.comp_def] using this
  have h2 : (s.recs.map Rec.x).Pairwise (fun a b => a < b) := by
    rw [List.pairwise_map]; exact hri
  have h3 := List.mergeSort_perm (done.map Prod.fst) (fun x y => decide (x ≤ y))
  have h4 : ((done.map Prod.fst).mergeSort (fun x y => decide (x ≤ y))).Pairwise (fun a b => decide (a ≤ b) = true) := List.pairwise_mergeSort (by intro a b c; simp; omega) (by intro a b; simp; omega) _
  refine List.Perm.eq_of_pairwise (le := fun a b : Int => a ≤ b) (fun a b _ _ h1 h2 => by omega) (h4.imp (by simp)) (h2.imp (by omega)) (h3.trans h1)

section
variable {base p mb : Nat} {s : St}
set_option maxRecDepth 100000 in
theorem Live_any (w : World) (h : HeapAt w base p mb s) (hcnt : s.recs.length ≤ 131072) (hri : s.recs.Pairwise (fun a b => a.x < b.x)) :
    Calls Try.prog 10 #[.pointer (some ⟨p, 0, none⟩)] w fun e w' => ∃ v, e = .returned v ∧ w'.ownsRow w.heap.size 3 1 v s.recs.length ((s.recs.map Rec.x).map (Value.int .i64)) ∧ (s.recs = [] → v = .slice none 0 0) ∧ Below w.heap.size w w' := by
  have c4 : w.cell? ⟨p, 4, none⟩ = some (.map (some mb)) := h.hd.cell 4 rfl
  have HRI := Lib.hid hri
  clear hri
  have hmlt := h.mp.lt
  have hkl : (keysOf s.recs).length = s.recs.length := by simp [keysOf]
  have HKL := Lib.hid hkl
  clear hkl
  obtain ⟨i0, hi, hz0, hz1, hz2⟩ := info_parts info3
  go_enter Try.func10, Try.ntmps10
  go_wp2_with (first
    | (at_range; refine wpList_rangeP _ rfl _ 65 rfl 3 70 Try.underlying65 mb (keysOf s.recs) rfl h.mp ?_; intro w0 hr0 hB0 hs0))
  go_frame
  go_loopw [3] (fun v wr => ∃ done, IRange wr mb w.heap.size (keysOf s.recs) done ∧ wr.ownsRow (w.heap.size + 1) 3 1 v done.length ((done.map Prod.fst).map (Value.int .i64)) ∧ (done = [] → v = .slice none 0 0) ∧ Below w.heap.size w wr ∧ w.heap.size + 1 ≤ wr.heap.size)
    (fun v _ => s.recs.length - lenOf v)
  case atStart => exact ⟨[], hr0, World.ownsRow_nil _ _ _ _, fun _ => rfl, But.below (S := fun _ => False) (hB0 _) (fun _ h => h.elim) (Nat.le_refl _), by omega⟩
  case round =>
    obtain ⟨done, hR, hown, hnil, hBel, hsz⟩ := hrel
    go_wp2_with (first
      | (at_next; refine wpList_nextP _ rfl _ rfl mb w.heap.size (keysOf s.recs) done rfl hR ?_ ?_))
    · intro hperm
      have HS := Lib.hid (rise_sorted HRI.out hperm)
      have hlen : done.length = s.recs.length := by have := hperm.length_eq; rw [HKL.out] at this; exact this
      rcases Nat.eq_zero_or_pos s.recs.length with h0 | hpos
      · have hd0 : done = [] := List.eq_nil_of_length_eq_zero (by omega)
        have hv := hnil hd0
        have hr0 : s.recs = [] := List.eq_nil_of_length_eq_zero h0
        have HR0 := Lib.hid hr0
        subst hv
        clear hr0 h0 hlen hd0 hown hperm hnil
        go_wp2_with (first | (go_at_call 28; refine (Try.slices_Sort_int_none none 0 _).mono ?_; rintro e w' ⟨rfl, rfl⟩))
        go_ret
        exact ⟨_, rfl, by rw [HR0.out]; exact World.ownsRow_nil _ _ _ _, fun _ => rfl, hBel⟩
      · have hlp : 0 < done.length := by omega
        rcases hown.2 with ⟨_, hn0⟩ | ⟨g, cap, cur, rfl, hg1, hg2, hg3, hg4, hg5, hg6⟩
        · omega
        have hH := holds_of_blockI (ss := done.map Prod.fst) hg2 (by simpa using hg6)
        have hc := Try.slices_Sort_int g 0 cap (done.map Prod.fst) wr hH (Array.getElem?_eq_some_iff.1 hg2).1 (by simp; omega)
        rw [HS.out] at hc
        have hl2 : (done.map Prod.fst).length = done.length := by simp
        have HL := Lib.hid hlen
        have HC := Lib.hid hc
        rw [hl2] at hc
        have hso := fun (nn : Nat) (os : Array Obj) => ownsRow_sortedI (n := nn) (os := os) (ss := done.map Prod.fst) (ts := s.recs.map Rec.x) (by simp [hlen]) hg1 hg2 (by simpa using hg3) hg4 hg5
        have HSO := Lib.hid hso
        clear hso hlen hl2 hperm hnil hown hg6 hH hg3 hg4 hg5
        go_wp2_with (first | (go_at_call 28; refine hc.mono ?_; rintro e w' ⟨rfl, nn, os, rfl⟩))
        go_ret
        have hso := HSO.out nn os
        rw [List.length_map, HL.out] at hso
        refine ⟨_, rfl, ?_, fun e => by rw [e] at hpos; simp at hpos, hBel.grown (grownBy_sortedI _) (by omega) (fun k hk => by cases hk; omega)⟩
        show World.ownsRow _ _ _ _ (.slice (some ⟨g, 0, none⟩) done.length cap) _ _
        rw [HL.out]
        exact ⟨hso.1, hso.2.imp (fun h => by cases h.1) (fun ⟨g', cap', cur', h1, h2, r⟩ => ⟨g', cap', cur', h1, by omega, r⟩)⟩
    · intro x o w1 hq hlt hR1 hB1 hs1 hen
      have hown1 : w1.ownsRow (w.heap.size + 1) 3 1 u3 done.length ((done.map Prod.fst).map (Value.int .i64)) := by
        refine hown.kept (row := some w.heap.size) ?_ ?_
        · exact ⟨hB1.os, hB1.tape, hB1.output, hB1.size, fun k hk hne => hB1.block k hk (fun e => hne (by rw [e]))⟩
        · rcases hv : u3.ownBlock with _ | k
          · exact .inl rfl
          · exact .inr (fun e => by have := (hown.lt k hv).1; simp only [Option.some.injEq] at e; omega)
      have hBel1 : Below w.heap.size w w1 := hBel.trans (hB1.below (fun i hi => by omega) (by omega))
      have hd1 : done.length + 1 ≤ 131072 := by rw [HKL.out] at hlt; omega
      have HLT := Lib.hid hlt
      have hsz1 : w.heap.size + 1 ≤ w1.heap.size := by omega
      clear hs1 hlt hown hB1 hnil hR hBel
      go_wp2_with (first
        | (at_builtin; refine wpList_append_own _ rfl _ _ 31 rfl (w.heap.size + 1) 3 i0 (.int .i64 0) 1 8 Try.underlying31 hi hz0 hz1 hz2 rfl (by decide) _ _ _ rfl (hown1.alloc _) ⟨w1.heap.size, 0, none⟩ 1 1 [.int .i64 x] rfl rfl ?c1 ?c2 ?c3 ?c4 ?c5 ?_))
      case c1 =>
        intro j u hj
        match j, hj with
        | 0, hj => simp at hj; subst hj; simp [Addr.add]
      case c2 => intro u hu; simp at hu; subst hu; rfl
      case c3 => unfold maxLen; omega
      case c4 => omega
      case c5 => simp; omega
      intro v' w2 hown2 hgrow _
      have hR2 : IRange w2 mb w.heap.size (keysOf s.recs) (done ++ [(x, o)]) := by
        refine (hR1.kept (S := fun _ => False) ((But.refl _ _).alloc (.cells #[.int .i64 x] 3)) (fun h => h) (fun h => h)).kept (S := fun k => u3.ownBlock = some k) (But.of_grown hgrow (fun k hk => Or.inl hk)) ?_ ?_
        · intro e; have := (hown1.lt _ e).1; omega
        · intro e; have := (hown1.lt _ e).1; omega
      have hBel2 : Below w.heap.size w w2 := (hBel1.alloc (by omega) (.cells #[.int .i64 x] 3)).grown hgrow (by simp; omega) (fun k hk => by have := (hown1.lt _ hk).1; omega)
      have hsz2 : w.heap.size + 1 ≤ w2.heap.size := by have := hgrow.size; simp at this; omega
      have hown3 : w2.ownsRow (w.heap.size + 1) 3 1 v' (done ++ [(x, o)]).length (((done ++ [(x, o)]).map Prod.fst).map (Value.int .i64)) := by simpa using hown2
      have hl3 : lenOf v' = done.length + 1 := by
        rcases hown2.2 with ⟨_, h0⟩ | ⟨g, cap, cur, rfl, _⟩
        · omega
        · rfl
      have hl0 : lenOf u3 = done.length := by
        rcases hown1.2 with ⟨rfl, h0⟩ | ⟨g, cap, cur, rfl, _⟩
        · rw [h0]; rfl
        · rfl
      have HL3 := Lib.hid hl3
      have HL0 := Lib.hid hl0
      have HH := Lib.hid (show done.length < s.recs.length by have := HLT.out; rw [HKL.out] at this; exact this)
      clear hl3 hl0 hown1 hown2 hgrow hR1 hBel1
      go_wp2
      go_roundw
      case rel => exact ⟨_, hR2, hown3, fun e => by simp at e, hBel2, hsz2⟩
      case measure =>
        have := HL3.out; have := HL0.out; have := HH.out
        show s.recs.length - lenOf v' < s.recs.length - lenOf u3
        omega
theorem Live_form (w : World) (h : HeapAt w base p mb s) (hcnt : s.recs.length ≤ 131072) (hri : s.recs.Pairwise (fun a b => a.x < b.x)) :
    Calls Try.prog 10 #[.pointer (some ⟨p, 0, none⟩)] w fun e w' => ∃ A c, e = .returned (.slice A s.recs.length c) ∧ w'.ownsRow w.heap.size 3 1 (.slice A s.recs.length c) s.recs.length ((s.recs.map Rec.x).map (Value.int .i64)) ∧ (0 < s.recs.length → ∃ g, A = some ⟨g, 0, none⟩) ∧ Below w.heap.size w w' :=
  (Live_any w h hcnt hri).mono fun e w' ⟨v, he, ho, hn, hb⟩ => by
    rcases ho.2 with ⟨e1, h0⟩ | ⟨g, cap, cur, e1, _⟩
    · exact ⟨none, 0, by rw [he, e1, h0], by rw [e1] at ho; rw [h0] at ho ⊢; exact ho, fun h => by omega, hb⟩
    · exact ⟨some ⟨g, 0, none⟩, cap, by rw [he, e1], by rw [e1] at ho; exact ho, fun _ => ⟨g, rfl⟩, hb⟩
end
theorem sumL_perm {a b : List Rec} (h : a.Perm b) : sumL a = sumL b := by
  induction h with
  | nil => rfl
  | cons x _ ih => simp only [sumL, ih]
  | swap x y l => simp only [sumL]; omega
  | trans _ _ h1 h2 => exact h1.trans h2
/-- the objects of entries -/
def recsOf (l : List Rec) (d : List (Int × Nat)) : List Rec := d.filterMap fun q => find l q.1
theorem recsOf_keys {l : List Rec} (hk : l.Pairwise (fun a b => a.x ≠ b.x)) : recsOf l (keysOf l) = l := by
  have : ∀ m : List Rec, (∀ r ∈ m, r ∈ l) → recsOf l (keysOf m) = m := by
    intro m
    induction m with
    | nil => intro _; rfl
    | cons a m ih =>
      intro h
      have h1 := find_of_mem hk (h a (by simp))
      have h2 := ih (fun r hr => h r (by simp [hr]))
      unfold recsOf keysOf at *
      simp [h1, h2]
  exact this l (fun _ h => h)
theorem recsOf_perm {l : List Rec} (hk : l.Pairwise (fun a b => a.x ≠ b.x)) {d : List (Int × Nat)} (h : d.Perm (keysOf l)) : (recsOf l d).Perm l := by
  have := h.filterMap (fun q => find l q.1)
  rw [show (keysOf l).filterMap (fun q => find l q.1) = l from recsOf_keys hk] at this
  exact this
theorem recsOf_snoc {l : List Rec} {d : List (Int × Nat)} {q : Int × Nat} {r : Rec} (h : find l q.1 = some r) : recsOf l (d ++ [q]) = recsOf l d ++ [r] := by
  unfold recsOf; simp [h]
theorem key_rec {l : List Rec} (hk : l.Pairwise (fun a b => a.x ≠ b.x)) {q : Int × Nat} (h : q ∈ keysOf l) : ∃ r, r ∈ l ∧ find l q.1 = some r ∧ q = (r.x, r.ob) := by
  obtain ⟨r, hr, rfl⟩ := List.mem_map.1 h
  exact ⟨r, hr, find_of_mem hk hr, rfl⟩
theorem sumL_le : ∀ l : List Rec, (∀ r ∈ l, r.words.length ≤ 65536) → sumL l ≤ 65536 * l.length
  | [], _ => by simp [sumL]
  | a :: l, h => by
    have h1 := sumL_le l (fun r hr => h r (by simp [hr]))
    have h2 := h a (by simp)
    simp only [sumL, List.length_cons]; split <;> omega
theorem recsOf_mem {l : List Rec} {d : List (Int × Nat)} {r : Rec} (h : r ∈ recsOf l d) : r ∈ l := by
  obtain ⟨q, _, hq⟩ := List.mem_filterMap.1 h
  exact (find_mem hq).1

section
variable {base p mb : Nat} {s : St}
set_option maxRecDepth 100000 in
theorem Free_any (w : World) (h : HeapAt w base p mb s) (F : Fits s) :
    Calls Try.prog 11 #[.pointer (some ⟨p, 0, none⟩)] w fun e w' => e = .returned (.tuple #[.int .i64 (s.small - s.top), .int .i64 (s.big - sumL s.recs)]) ∧ Below w.heap.size w w' := by
  have c0 : w.cell? ⟨p, 0, none⟩ = some (.int .i64 s.small) := h.hd.cell 0 rfl
  have c1 : w.cell? ⟨p, 1, none⟩ = some (.int .i64 s.big) := h.hd.cell 1 rfl
  have c2 : w.cell? ⟨p, 2, none⟩ = some (.int .i64 s.top) := h.hd.cell 2 rfl
  have c4 : w.cell? ⟨p, 4, none⟩ = some (.map (some mb)) := h.hd.cell 4 rfl
  have hcnt := F.cnt
  have hmlt := h.mp.lt
  have hplt := h.hd.lt
  have hkl : (keysOf s.recs).length = s.recs.length := by simp [keysOf]
  have HKL := Lib.hid hkl
  have a1 := F.small0; have a2 := F.small1; have a3 := F.big0; have a4 := F.big1; have a6 := F.top1; have a5 := F.top0
  clear hkl
  go_enter Try.func11, Try.ntmps11
  go_wp2_with (first
    | (at_range; refine wpList_rangeP _ rfl _ 65 rfl 3 70 Try.underlying65 mb (keysOf s.recs) rfl h.mp ?_; intro w0 hr0 hB0 hs0))
  go_frame
  go_loopw [3] (fun v wr => ∃ done, IRange wr mb w.heap.size (keysOf s.recs) done ∧ v = .int .i64 (s.big - sumL (recsOf s.recs done)) ∧ done.length ≤ s.recs.length ∧ Below w.heap.size w wr ∧ w.heap.size + 1 ≤ wr.heap.size)
    (fun _ wr => s.recs.length - (wr.iterSeen w.heap.size).size)
  case atStart => exact ⟨[], hr0, by simp [recsOf, sumL], by simp, But.below (S := fun _ => False) (hB0 _) (fun _ h => h.elim) (Nat.le_refl _), by omega⟩
  case round =>
    obtain ⟨done, hR, rfl, hdl, hBel, hsz⟩ := hrel
    have hlb : sumL (recsOf s.recs done) ≤ 65536 * done.length := Nat.le_trans (sumL_le _ (fun r hr => F.len (recsOf_mem hr))) (Nat.mul_le_mul_left _ (List.length_filterMap_le _ _))
    have hH := h.below hBel
    go_wp2_with (first
      | (at_next; refine wpList_nextP _ rfl _ rfl mb w.heap.size (keysOf s.recs) done rfl hR ?_ ?_))
    · intro hperm
      have hs := sumL_perm (recsOf_perm h.keys hperm)
      have HS := Lib.hid hs
      clear hs hperm hR
      have d0 : wr.cell? ⟨p, 0, none⟩ = some (.int .i64 s.small) := hH.hd.cell 0 rfl
      have d2 : wr.cell? ⟨p, 2, none⟩ = some (.int .i64 s.top) := hH.hd.cell 2 rfl
      have hw : IntKind.i64.wrap (s.small - s.top) = s.small - s.top := IntWalk.i64_in _ (by omega)
      clear hH
      go_wp2_with fail
      go_quiet (fail)
      clear hw
      go_wp2
      go_ret2
      exact ⟨by rw [HS.out]; rfl, below_drewN hBel _⟩
    · intro x o w1 hq hlt hR1 hB1 hs1 hen
      obtain ⟨r, hr, hf, hqe⟩ := key_rec h.keys hq
      obtain ⟨rfl, rfl⟩ : x = r.x ∧ o = r.ob := by simpa using hqe
      have hH1 := hH.kept hB1 (fun i hi e => by have := h.lt i hi; omega)
      have hBel1 : Below w.heap.size w w1 := hBel.trans (hB1.below (fun i hi => by omega) (by omega))
      have hsn := recsOf_snoc (d := done) (q := (r.x, r.ob)) hf
      have HSN := Lib.hid hsn
      have HSEEN := Lib.hid (And.intro hR.seen (And.intro hR1.seen (show done.length < s.recs.length by rw [HKL.out] at hlt; exact hlt)))
      have hlen := F.len hr
      have o0 : w1.cell? ⟨r.ob, 0, none⟩ = some (.slice (some ⟨r.wb, 0, none⟩) r.words.length r.words.length) := (hH1.obs r hr).cell 0 rfl
      have hdl1 : done.length + 1 ≤ s.recs.length := by rw [HKL.out] at hlt; omega
      have hsz1 : w.heap.size + 1 ≤ w1.heap.size := by omega
      clear hs1 hlt hqe hf hsn hB1 hR hH hBel
      by_cases hl : r.words.length ≤ 16
      · go_wp2_with (first | (go_at_call 26; refine (large_no r _ hH1 hr hl).mono ?_; rintro e w' ⟨rfl, rfl⟩))
        go_roundw
        case rel => exact ⟨_, hR1, by rw [HSN.out, sumL_append]; simp [sumL, hl], by simp; omega, hBel1, hsz1⟩
        case measure =>
          have := HSEEN.out
          rw [this.1, this.2.1]; simp; omega
      · have hl' : 16 < r.words.length := by omega
        clear hl
        go_wp2_with (first | (go_at_call 26; refine (large_yes r _ hH1 hr hl').mono ?_; rintro e w' ⟨rfl, rfl⟩))
        go_roundw
        case rel => exact ⟨_, hR1, by rw [HSN.out, sumL_append, sumL, if_neg (by omega), sumL]; congr 1; omega, by simp; omega, hBel1, hsz1⟩
        case measure =>
          have := HSEEN.out
          rw [this.1, this.2.1]; simp; omega
end
end Go.Proofs.Ytmamcpaejhjceaa.HP
