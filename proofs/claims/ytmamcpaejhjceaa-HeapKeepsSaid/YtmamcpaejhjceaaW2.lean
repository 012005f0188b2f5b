/- The heap's Alloc of small objects. -/
import Derived.Test.YtmamcpaejhjceaaW1
import Derived.StillTailTactics
import Derived.Laws.MakeOwn
namespace Go.Proofs.Ytmamcpaejhjceaa.HP
open Go.MapKept Go.ChangeMaps Go.RowKit

/-- the words of all small objects, of all large ones -/
def sumS : List Rec → Nat
  | [] => 0
  | r :: l => (if r.words.length ≤ 16 then r.words.length else 0) + sumS l
def sumL : List Rec → Nat
  | [] => 0
  | r :: l => (if r.words.length ≤ 16 then 0 else r.words.length) + sumL l
structure Fits (s : St) : Prop where
  small0 : 0 ≤ s.small
  small1 : s.small ≤ 65536
  big0 : 0 ≤ s.big
  big1 : s.big ≤ 65536
  topS : s.top = sumS s.recs
  top1 : s.top ≤ s.small
  last0 : 0 ≤ s.last
  bigs : (sumL s.recs : Int) ≤ s.big
  recs : ∀ r ∈ s.recs, 1 ≤ r.words.length ∧ 0 ≤ r.place ∧ r.place ≤ 65536 ∧ 1 ≤ r.x ∧ r.x ≤ s.last
  rise : s.recs.Pairwise (fun a b => a.x < b.x)
theorem len_le_sums : ∀ l : List Rec, (∀ r ∈ l, 1 ≤ r.words.length) → l.length ≤ sumS l + sumL l ∧ ∀ r ∈ l, r.words.length ≤ sumS l + sumL l
  | [], _ => ⟨by simp, by simp⟩
  | a :: l, h => by
    obtain ⟨h1, h2⟩ := len_le_sums l (fun r hr => h r (by simp [hr]))
    have := h a (by simp)
    refine ⟨?_, ?_⟩
    · simp only [List.length_cons, sumS, sumL]; split <;> omega
    · intro r hr
      rcases List.mem_cons.1 hr with rfl | hr
      · simp only [sumS, sumL]; split <;> omega
      · have := h2 r hr
        simp only [sumS, sumL]; split <;> omega
theorem Fits.cnt {s : St} (F : Fits s) : s.recs.length ≤ 131072 := by
  have := (len_le_sums s.recs (fun r hr => (F.recs r hr).1)).1
  have := F.topS; have := F.top1; have := F.small1; have := F.bigs; have := F.big1
  omega
theorem Fits.len {s : St} (F : Fits s) {r : Rec} (hr : r ∈ s.recs) : r.words.length ≤ 65536 := by
  have h0 : ∀ l : List Rec, r ∈ l → r.words.length ≤ sumS l ∨ r.words.length ≤ sumL l := by
    intro l
    induction l with
    | nil => simp
    | cons a l ih =>
      intro hr
      rcases List.mem_cons.1 hr with rfl | hr
      · simp only [sumS, sumL]; split <;> omega
      · rcases ih hr with h | h <;> (simp only [sumS, sumL]; split <;> omega)
  have := h0 s.recs hr
  have := F.topS; have := F.top1; have := F.small1; have := F.bigs; have := F.big1
  omega
theorem Fits.top0 {s : St} (F : Fits s) : 0 ≤ s.top := by have := F.topS; omega

def zc (n : Nat) : Array Value := (cellsOf (List.replicate n (0, false))).toArray
theorem made_zc (n : Nat) : madeCells #[.int .i64 0, .bool false] (n * 2) = zc n := by
  apply Array.ext_getElem?
  intro i
  unfold zc madeCells
  simp only [Array.getElem?_map, List.getElem?_toArray]
  by_cases hi : i < n * 2
  · obtain ⟨k, hk⟩ : ∃ k, i / 2 = k := ⟨_, rfl⟩
    have hkn : k < n := by omega
    have hg := cellsOf_get (List.replicate n ((0, false) : Cel)) k (0, false) (by simp [hkn])
    rw [Array.getElem?_range, if_pos hi]
    rcases Nat.mod_two_eq_zero_or_one i with h | h
    · have e : i = 2 * k := by omega
      rw [e, hg.1]; simp
    · have e : i = 2 * k + 1 := by omega
      rw [e, hg.2]; simp [Nat.add_mod]
  · rw [Array.getElem?_range, if_neg hi, List.getElem?_eq_none (by rw [cellsOf_length]; simp; omega)]; rfl
theorem info41 : (Try.prog.info? 41).map (fun i => (i.zero, i.size, i.bytes)) = some (some (.agg #[.int .i64 0, .bool false]), 2, 16) := by kernel_rfl
theorem make_zc (n : Nat) (hn : n ≤ 65536) (w : World) : (Instr.makeSlice 38 (.int .i64 (n : Int)) (.int .i64 (n : Int))).run Try.prog w = .ok (.slice (some ⟨w.heap.size, 0, none⟩) n n) (w.alloc (.cells (zc n) 41)) := by
  obtain ⟨i, hi, hz0, hz1, hz2⟩ := info_parts info41
  have := run_make (P := Try.prog) w 38 41 i _ Try.underlying38 hi hz0 .i64 .i64 n n (by omega) (Int.le_refl _) (by rw [hz2]; omega) (by omega)
  rw [Int.toNat_natCast, hz1] at this
  rw [this]
  have e : Value.cells (.agg #[.int .i64 0, .bool false]) = #[.int .i64 0, .bool false] := rfl
  rw [e, made_zc]

section
variable {base p mb : Nat} {s : St}
theorem Alloc_bad (n : Int) (w : World) (hn : n < 1) :
    Calls Try.prog 8 #[.pointer (some ⟨p, 0, none⟩), .int .i64 n] w fun e w' => e = .returned (.tuple #[.int .i64 0, .int .i64 1]) ∧ w = w' := by
  go_enter Try.func8, Try.ntmps8
  go_wp2
  go_ret2
  exact ⟨rfl, rfl⟩
theorem Alloc_full (n : Int) (w : World) (h : HeapAt w base p mb s) (F : Fits s) (h1 : 1 ≤ n) (h2 : n ≤ 16) (hn : s.small - s.top < n) :
    Calls Try.prog 8 #[.pointer (some ⟨p, 0, none⟩), .int .i64 n] w fun e w' => e = .returned (.tuple #[.int .i64 0, .int .i64 9]) ∧ ∃ k, w' = w.drewN k := by
  have c0 : w.cell? ⟨p, 0, none⟩ = some (.int .i64 s.small) := h.hd.cell 0 rfl
  have c2 : w.cell? ⟨p, 2, none⟩ = some (.int .i64 s.top) := h.hd.cell 2 rfl
  have a5 := F.top0
  have a1 := F.small0; have a2 := F.small1; have a3 := F.big0; have a4 := F.big1; have a6 := F.top1; have a7 := F.last0
  have hw : IntKind.i64.wrap (s.small - s.top) = s.small - s.top := IntWalk.i64_in _ (by omega)
  have hd : decide (n ≤ s.small - s.top) = false := by simp; omega
  go_enter Try.func8, Try.ntmps8
  go_wp2_with fail
  go_quiet (fail)
  go_wp2
  go_ret2
  exact ⟨rfl, _, rfl⟩
/-- a small object more still fits -/
theorem sumS_append : ∀ (a b : List Rec), sumS (a ++ b) = sumS a + sumS b
  | [], b => by simp [sumS]
  | r :: a, b => by simp only [List.cons_append, sumS, sumS_append a b]; omega
theorem sumL_append : ∀ (a b : List Rec), sumL (a ++ b) = sumL a + sumL b
  | [], b => by simp [sumL]
  | r :: a, b => by simp only [List.cons_append, sumL, sumL_append a b]; omega
/-- the object that Alloc lays -/
def newRec (s : St) (n : Nat) (place : Int) (ob wb : Nat) : Rec := ⟨s.last + 1, place, List.replicate n (0, false), ob, wb⟩
def grown (s : St) (n : Nat) (place : Int) (ob wb : Nat) : St := { s with last := s.last + 1, recs := s.recs ++ [newRec s n place ob wb] }
theorem Fits.push {s : St} (F : Fits s) (n : Nat) (ob wb : Nat) (h1 : 1 ≤ n) (h2 : n ≤ 16) (hn : (n : Int) ≤ s.small - s.top) : Fits { grown s n s.top ob wb with top := s.top + n } := by
  have t0 := F.top0
  have t1 := F.top1; have t2 := F.small1; have l0 := F.last0
  have e1 : sumS (s.recs ++ [newRec s n s.top ob wb]) = sumS s.recs + n := by rw [sumS_append]; simp [sumS, newRec, h2]
  have e2 : sumL (s.recs ++ [newRec s n s.top ob wb]) = sumL s.recs := by rw [sumL_append]; simp [sumL, newRec, h2]
  refine ⟨F.small0, F.small1, F.big0, F.big1, ?_, ?_, ?_, ?_, ?_, ?_⟩
  · show s.top + n = _
    have := F.topS
    show s.top + (n : Int) = (sumS (s.recs ++ [newRec s n s.top ob wb]) : Nat)
    rw [e1]; omega
  · show s.top + (n : Int) ≤ s.small; omega
  · show 0 ≤ s.last + 1; omega
  · show ((sumL (s.recs ++ [newRec s n s.top ob wb]) : Nat) : Int) ≤ s.big
    rw [e2]; exact F.bigs
  · intro r hr
    rcases List.mem_append.1 hr with hr | hr
    · have := F.recs r hr
      show _ ∧ _ ∧ _ ∧ _ ∧ r.x ≤ s.last + 1
      omega
    · rw [List.mem_singleton] at hr
      subst hr
      show 1 ≤ (List.replicate n ((0, false) : Cel)).length ∧ 0 ≤ s.top ∧ s.top ≤ 65536 ∧ 1 ≤ s.last + 1 ∧ s.last + 1 ≤ s.last + 1
      rw [List.length_replicate]
      omega
  · show (s.recs ++ [newRec s n s.top ob wb]).Pairwise _
    rw [List.pairwise_append]
    refine ⟨F.rise, by simp, ?_⟩
    intro a ha b hb
    rw [List.mem_singleton] at hb
    subst hb
    have := F.recs a ha
    show a.x < s.last + 1
    omega
set_option maxRecDepth 100000 in
theorem Alloc_small (n : Nat) (w : World) (h : HeapAt w base p mb s) (F : Fits s) (a8 : s.last ≤ 9223372036854775806) (h1 : 1 ≤ n) (h2 : n ≤ 16) (hn : (n : Int) ≤ s.small - s.top) :
    Calls Try.prog 8 #[.pointer (some ⟨p, 0, none⟩), .int .i64 n] w fun e w' => e = .returned (.tuple #[.int .i64 (s.last + 1), .int .i64 0]) ∧ ∃ ob wb, w.heap.size ≤ ob ∧ w.heap.size ≤ wb ∧ HeapAt w' base p mb { grown s n s.top ob wb with top := s.top + n } ∧ But (fun k => k ∈ p :: mb :: blks s.recs) w w' := by
  have c0 : w.cell? ⟨p, 0, none⟩ = some (.int .i64 s.small) := h.hd.cell 0 rfl
  have c2 : w.cell? ⟨p, 2, none⟩ = some (.int .i64 s.top) := h.hd.cell 2 rfl
  have c3 : w.cell? ⟨p, 3, none⟩ = some (.int .i64 s.last) := h.hd.cell 3 rfl
  have c4 : w.cell? ⟨p, 4, none⟩ = some (.map (some mb)) := h.hd.cell 4 rfl
  have f3 := h.hd.free 3
  have f2 := h.hd.free 2
  have hplt := h.hd.lt
  have a5 := F.top0
  have a9 := F.recs
  have a1 := F.small0; have a2 := F.small1; have a3 := F.big0; have a4 := F.big1; have a6 := F.top1; have a7 := F.last0
  have hnone : (keysOf s.recs).lookup (s.last + 1) = none := by
    rw [List.lookup_eq_none_iff]
    intro q hq
    obtain ⟨r, hr, rfl⟩ := List.mem_map.1 hq
    have := (a9 r hr).2.2.2.2
    simp; omega
  have HN := Lib.hid hnone
  have A9 := Lib.hid a9
  clear hnone a9
  have hw : IntKind.i64.wrap (s.small - s.top) = s.small - s.top := IntWalk.i64_in _ (by omega)
  have hd : decide (n ≤ s.small - s.top) = true := by simp; omega
  have hmk := make_zc n (by omega)
  go_enter Try.func8, Try.ntmps8
  go_wp2_with fail
  go_quiet (fail)
  clear hw
  go_wp2
  have hH := (((h.drewN (n := nq)).setLast (s.last + 1)).alloc (.cells (zc n) 41)).alloc (.cells #[.slice (some ⟨w.heap.size, 0, none⟩) n n, .int .i64 s.top] 72)
  have hB1 : But (fun k => k ∈ p :: mb :: blks s.recs) w (((((w.drewN nq).setCell ⟨p, 3, none⟩ (.int .i64 (s.last + 1))).alloc (.cells (zc n) 41))).alloc (.cells #[.slice (some ⟨w.heap.size, 0, none⟩) n n, .int .i64 s.top] 72)) :=
    ((((But.refl _ w).drewN nq).setCell _ _ (Or.inl (by simp))).alloc _).alloc _
  have hwb : Blk (((((w.drewN nq).setCell ⟨p, 3, none⟩ (.int .i64 (s.last + 1))).alloc (.cells (zc n) 41))).alloc (.cells #[.slice (some ⟨w.heap.size, 0, none⟩) n n, .int .i64 s.top] 72)) w.heap.size (zc n) := by
    have := Blk.made ((w.drewN nq).setCell ⟨p, 3, none⟩ (.int .i64 (s.last + 1))) (zc n) 41
    simp only [World.size_setCell, World.heap_drewN] at this
    exact this.alloc _
  have hob : Blk (((((w.drewN nq).setCell ⟨p, 3, none⟩ (.int .i64 (s.last + 1))).alloc (.cells (zc n) 41))).alloc (.cells #[.slice (some ⟨w.heap.size, 0, none⟩) n n, .int .i64 s.top] 72)) (w.heap.size + 1) #[.slice (some ⟨w.heap.size, 0, none⟩) n n, .int .i64 s.top] := by
    have := Blk.made (((w.drewN nq).setCell ⟨p, 3, none⟩ (.int .i64 (s.last + 1))).alloc (.cells (zc n) 41)) #[.slice (some ⟨w.heap.size, 0, none⟩) n n, .int .i64 s.top] 72
    simpa using this
  have hn1 := fun i hi => h.lt i hi
  have HN1 := Lib.hid hn1
  have HB0 := Lib.hid h.low
  have HLT := Lib.hid (show base ≤ w.heap.size by have := h.low p (by simp); omega)
  generalize ((((w.drewN nq).setCell ⟨p, 3, none⟩ (.int .i64 (s.last + 1))).alloc (.cells (zc n) 41))).alloc (.cells #[.slice (some ⟨w.heap.size, 0, none⟩) n n, .int .i64 s.top] 72) = W at hH hB1 hwb hob ⊢
  clear hn1 hmk c0 c2 c3 c4 f2 f3 h
  have d3 : W.cell? ⟨p, 3, none⟩ = some (.int .i64 (s.last + 1)) := hH.hd.cell 3 rfl
  have d4 : W.cell? ⟨p, 4, none⟩ = some (.map (some mb)) := hH.hd.cell 4 rfl
  go_still_tail 9, (by kernel_rfl)
  change wpList _ _ _ _ _ W.drew
  refine wpList_put (enc := encP) W.drew rfl _ _ _ 65 rfl 3 70 Try.underlying65 Try.underlying3 mb (keysOf s.recs) rfl (hH.mp.of_block (w' := W.drew) rfl) (s.last + 1) rfl (w.heap.size + 1) rfl HN.out ?_
  intro w2 hm2 hB2 hs2
  have hne1 : w.heap.size + 1 ∉ p :: mb :: blks s.recs := fun hm => by have := HN1.out _ hm; omega
  have hne2 : w.heap.size ∉ p :: mb :: blks s.recs := fun hm => by have := HN1.out _ hm; omega
  have hG := hH.drew.push (newRec s n s.top (w.heap.size + 1) w.heap.size) (by simpa [objV, newRec] using hob.of_block (w' := W.drew) rfl) (hwb.of_block (w' := W.drew) rfl) (by simp [newRec]) hne1 hne2 (by have := HLT.out; simp [newRec]; omega) (by have := HLT.out; simp [newRec]; omega) hB2 (by simpa [newRec] using hm2)
  have hB3 : But (fun k => k ∈ p :: mb :: blks s.recs) w w2 := hB1.drew.trans hB2 (fun i hi => Or.inl (by subst hi; simp))
  clear hm2 hB2 hs2 hob hwb hB1 hH d3 d4
  have e2 : w2.cell? ⟨p, 2, none⟩ = some (.int .i64 s.top) := hG.hd.cell 2 rfl
  have e3 : w2.cell? ⟨p, 3, none⟩ = some (.int .i64 (s.last + 1)) := hG.hd.cell 3 rfl
  have g2 := hG.hd.free 2
  have hpw := hG.hd.lt
  go_wp2_with (first | (go_at_call 26; refine (large_no (newRec s n s.top (w.heap.size + 1) w.heap.size) _ hG (by simp) (by simp [newRec]; omega)).mono ?_; rintro e w' ⟨rfl, rfl⟩))
  go_ret2
  exact ⟨rfl, w.heap.size + 1, w.heap.size, by omega, by omega, hG.setTop (s.top + n), hB3.setCell _ _ (Or.inl (by simp))⟩
end
end Go.Proofs.Ytmamcpaejhjceaa.HP
