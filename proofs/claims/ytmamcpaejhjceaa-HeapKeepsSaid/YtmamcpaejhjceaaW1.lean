/- The heap's small functions: New, find, word, Get, Size, Place, large. -/
import Derived.Test.YtmamcpaejhjceaaProg
import Derived.Test.YtmamcpaejhjceaaState
import Derived.Lib.Hide
import Derived.Deep.QuietTactic
import Derived.BigQuiet
namespace Go.Proofs.Ytmamcpaejhjceaa.HP
open Go.MapKept Go.ChangeMaps Go.RowKit

theorem zero70 (w : World) : (zeroValue 70).run Try.prog w = .ok (.pointer none) w := by kernel_rfl
theorem look_some {l : List Rec} {x : Int} {r : Rec} (h : find l x = some r) : (((keysOf l).lookup x).map encP).getD (.pointer none) = .pointer (some ⟨r.ob, 0, none⟩) := by rw [lookup_keys, h]; rfl
theorem look_none {l : List Rec} {x : Int} (h : find l x = none) : (((keysOf l).lookup x).map encP).getD (.pointer none) = .pointer none := by rw [lookup_keys, h]; rfl

theorem look_drewN {base p mb : Nat} {s : St} {w : World} (h : HeapAt w base p mb s) (n : Int) (v : Value) (hv : (((keysOf s.recs).lookup n).map encP).getD (.pointer none) = v) (nq : Nat) :
    (Instr.lookup 65 (.map (some mb)) (.int .i64 n) false).run Try.prog (w.drewN nq) = .ok v (w.drewN nq) := by
  have := (h.mp.of_block (w' := w.drewN nq) rfl).look Try.underlying65 Try.underlying3 (zero70 _) n false
  rwa [if_neg (by decide), hv] at this
section
variable {base p mb : Nat} {s : St}
theorem find_some_any (x : Int) (r : Rec) (w : World) (h : HeapAt w base p mb s) (hf : find s.recs x = some r) :
    Calls Try.prog 29 #[.pointer (some ⟨p, 0, none⟩), .int .i64 x] w fun e w' => e = .returned (.tuple #[.pointer (some ⟨r.ob, 0, none⟩), .int .i64 0]) ∧ w = w' := by
  have c4 : w.cell? ⟨p, 4, none⟩ = some (.map (some mb)) := h.hd.cell 4 rfl
  have HF := Lib.hid hf; clear hf
  go_enter Try.func29, Try.ntmps29
  go_wp2_with (first
    | (at_lookup; refine wpList_look _ rfl _ _ 65 rfl 3 70 Try.underlying65 Try.underlying3 (zero70 _) mb _ rfl h.mp x rfl _ (look_some HF.out) ?_))
  go_ret2
  exact ⟨rfl, rfl⟩
theorem find_none_any (x : Int) (w : World) (h : HeapAt w base p mb s) (hf : find s.recs x = none) :
    Calls Try.prog 29 #[.pointer (some ⟨p, 0, none⟩), .int .i64 x] w fun e w' => e = .returned (.tuple #[.pointer none, .int .i64 7]) ∧ w = w' := by
  have c4 : w.cell? ⟨p, 4, none⟩ = some (.map (some mb)) := h.hd.cell 4 rfl
  have HF := Lib.hid hf; clear hf
  go_enter Try.func29, Try.ntmps29
  go_wp2_with (first
    | (at_lookup; refine wpList_look _ rfl _ _ 65 rfl 3 70 Try.underlying65 Try.underlying3 (zero70 _) mb _ rfl h.mp x rfl _ (look_none HF.out) ?_))
  go_ret2
  exact ⟨rfl, rfl⟩

theorem Size_some (x : Int) (r : Rec) (w : World) (h : HeapAt w base p mb s) (hf : find s.recs x = some r) :
    Calls Try.prog 12 #[.pointer (some ⟨p, 0, none⟩), .int .i64 x] w fun e w' => e = .returned (.tuple #[.int .i64 r.words.length, .int .i64 0]) ∧ w = w' := by
  have o0 : w.cell? ⟨r.ob, 0, none⟩ = some (.slice (some ⟨r.wb, 0, none⟩) r.words.length r.words.length) := (h.obs r (find_mem hf).1).cell 0 rfl
  have HF := Lib.hid hf; clear hf
  go_enter Try.func12, Try.ntmps12
  go_wp2_with (first | (go_at_call 29; refine (find_some_any x r w h HF.out).mono ?_; rintro e w' ⟨rfl, rfl⟩))
  go_ret2
  exact ⟨rfl, rfl⟩
theorem Size_none (x : Int) (w : World) (h : HeapAt w base p mb s) (hf : find s.recs x = none) :
    Calls Try.prog 12 #[.pointer (some ⟨p, 0, none⟩), .int .i64 x] w fun e w' => e = .returned (.tuple #[.int .i64 0, .int .i64 7]) ∧ w = w' := by
  have HF := Lib.hid hf; clear hf
  go_enter Try.func12, Try.ntmps12
  go_wp2_with (first | (go_at_call 29; refine (find_none_any x w h HF.out).mono ?_; rintro e w' ⟨rfl, rfl⟩))
  go_ret2
  exact ⟨rfl, rfl⟩
theorem Place_some (x : Int) (r : Rec) (w : World) (h : HeapAt w base p mb s) (hf : find s.recs x = some r) :
    Calls Try.prog 14 #[.pointer (some ⟨p, 0, none⟩), .int .i64 x] w fun e w' => e = .returned (.tuple #[.int .i64 r.place, .int .i64 0]) ∧ w = w' := by
  have o1 : w.cell? ⟨r.ob, 1, none⟩ = some (.int .i64 r.place) := (h.obs r (find_mem hf).1).cell 1 rfl
  have HF := Lib.hid hf; clear hf
  go_enter Try.func14, Try.ntmps14
  go_wp2_with (first | (go_at_call 29; refine (find_some_any x r w h HF.out).mono ?_; rintro e w' ⟨rfl, rfl⟩))
  go_ret2
  exact ⟨rfl, rfl⟩
theorem Place_none (x : Int) (w : World) (h : HeapAt w base p mb s) (hf : find s.recs x = none) :
    Calls Try.prog 14 #[.pointer (some ⟨p, 0, none⟩), .int .i64 x] w fun e w' => e = .returned (.tuple #[.int .i64 0, .int .i64 7]) ∧ w = w' := by
  have HF := Lib.hid hf; clear hf
  go_enter Try.func14, Try.ntmps14
  go_wp2_with (first | (go_at_call 29; refine (find_none_any x w h HF.out).mono ?_; rintro e w' ⟨rfl, rfl⟩))
  go_ret2
  exact ⟨rfl, rfl⟩

/-- word: nothing there -/
theorem word_none (x i : Int) (w : World) (h : HeapAt w base p mb s) (hf : find s.recs x = none) :
    Calls Try.prog 30 #[.pointer (some ⟨p, 0, none⟩), .int .i64 x, .int .i64 i] w fun e w' => e = .returned (.tuple #[.pointer none, .int .i64 7]) ∧ w = w' := by
  have HF := Lib.hid hf; clear hf
  go_enter Try.func30, Try.ntmps30
  go_wp2_with (first | (go_at_call 29; refine (find_none_any x w h HF.out).mono ?_; rintro e w' ⟨rfl, rfl⟩))
  go_ret2
  exact ⟨rfl, rfl⟩
theorem word_out (x i : Int) (r : Rec) (w : World) (h : HeapAt w base p mb s) (hf : find s.recs x = some r) (hi : i < 0 ∨ r.words.length ≤ i) :
    Calls Try.prog 30 #[.pointer (some ⟨p, 0, none⟩), .int .i64 x, .int .i64 i] w fun e w' => e = .returned (.tuple #[.pointer none, .int .i64 1]) ∧ w = w' := by
  have o0 : w.cell? ⟨r.ob, 0, none⟩ = some (.slice (some ⟨r.wb, 0, none⟩) r.words.length r.words.length) := (h.obs r (find_mem hf).1).cell 0 rfl
  have HF := Lib.hid hf; clear hf
  rcases Int.lt_or_le i 0 with h0 | h0
  · clear hi
    go_enter Try.func30, Try.ntmps30
    go_wp2_with (first | (go_at_call 29; refine (find_some_any x r w h HF.out).mono ?_; rintro e w' ⟨rfl, rfl⟩))
    go_ret2
    exact ⟨rfl, rfl⟩
  · have h1 : r.words.length ≤ i := by omega
    clear hi
    go_enter Try.func30, Try.ntmps30
    go_wp2_with (first | (go_at_call 29; refine (find_some_any x r w h HF.out).mono ?_; rintro e w' ⟨rfl, rfl⟩))
    go_ret2
    exact ⟨rfl, rfl⟩
theorem word_some (x : Int) (i : Nat) (r : Rec) (w : World) (h : HeapAt w base p mb s) (hf : find s.recs x = some r) (hi : i < r.words.length) (hl : r.words.length ≤ 65536) :
    Calls Try.prog 30 #[.pointer (some ⟨p, 0, none⟩), .int .i64 x, .int .i64 i] w fun e w' => e = .returned (.tuple #[.pointer (some ⟨r.wb, i * 2, none⟩), .int .i64 0]) ∧ w = w' := by
  have o0 : w.cell? ⟨r.ob, 0, none⟩ = some (.slice (some ⟨r.wb, 0, none⟩) r.words.length r.words.length) := (h.obs r (find_mem hf).1).cell 0 rfl
  have HF := Lib.hid hf; clear hf
  go_enter Try.func30, Try.ntmps30
  go_wp2_with (first | (go_at_call 29; refine (find_some_any x r w h HF.out).mono ?_; rintro e w' ⟨rfl, rfl⟩))
  go_ret2
  exact ⟨rfl, rfl⟩

theorem large_yes (r : Rec) (w : World) (h : HeapAt w base p mb s) (hr : r ∈ s.recs) (hl : 16 < r.words.length) :
    Calls Try.prog 26 #[.pointer (some ⟨r.ob, 0, none⟩)] w fun e w' => e = .returned (.bool true) ∧ w = w' := by
  have o0 : w.cell? ⟨r.ob, 0, none⟩ = some (.slice (some ⟨r.wb, 0, none⟩) r.words.length r.words.length) := (h.obs r hr).cell 0 rfl
  have hd : decide (16 < (r.words.length : Int)) = true := by simp; omega
  go_enter Try.func26, Try.ntmps26
  go_wp2
  go_ret
  exact ⟨rfl, rfl⟩
theorem large_no (r : Rec) (w : World) (h : HeapAt w base p mb s) (hr : r ∈ s.recs) (hl : r.words.length ≤ 16) :
    Calls Try.prog 26 #[.pointer (some ⟨r.ob, 0, none⟩)] w fun e w' => e = .returned (.bool false) ∧ w = w' := by
  have o0 : w.cell? ⟨r.ob, 0, none⟩ = some (.slice (some ⟨r.wb, 0, none⟩) r.words.length r.words.length) := (h.obs r hr).cell 0 rfl
  have hd : decide (16 < (r.words.length : Int)) = false := by simp; omega
  go_enter Try.func26, Try.ntmps26
  go_wp2
  go_ret
  exact ⟨rfl, rfl⟩
theorem New_out (a b : Int) (w : World) (hi : a < 0 ∨ 65536 < a ∨ b < 0 ∨ 65536 < b) :
    Calls Try.prog 6 #[.int .i64 a, .int .i64 b] w fun e w' => e = .returned (.tuple #[.pointer none, .int .i64 1]) ∧ w = w' := by
  rcases Int.lt_or_le a 0 with h0 | h0
  · clear hi
    go_enter Try.func6, Try.ntmps6
    go_wp2
    go_ret2
    exact ⟨rfl, rfl⟩
  rcases Int.lt_or_le 65536 a with h1 | h1
  · clear hi
    go_enter Try.func6, Try.ntmps6
    go_wp2
    go_ret2
    exact ⟨rfl, rfl⟩
  rcases Int.lt_or_le b 0 with h2 | h2
  · clear hi
    go_enter Try.func6, Try.ntmps6
    go_wp2
    go_ret2
    exact ⟨rfl, rfl⟩
  · have h3 : 65536 < b := by omega
    clear hi
    go_enter Try.func6, Try.ntmps6
    go_wp2
    go_ret2
    exact ⟨rfl, rfl⟩
theorem New_in (a b : Int) (w : World) (h0 : 0 ≤ a) (h1 : a ≤ 65536) (h2 : 0 ≤ b) (h3 : b ≤ 65536) :
    Calls Try.prog 6 #[.int .i64 a, .int .i64 b] w fun e w' => ∃ p mb, e = .returned (.tuple #[.pointer (some ⟨p, 0, none⟩), .int .i64 0]) ∧ HeapAt w' w.heap.size p mb ⟨a, b, 0, 0, []⟩ ∧ Below w.heap.size w w' := by
  have hmm := @run_makeMap Try.prog
  go_enter Try.func6, Try.ntmps6
  go_wp2
  go_ret2
  refine ⟨w.heap.size + 1, w.heap.size, rfl, ⟨by simp [blks], ?_, ?_, ?_, by simp, by simp⟩, ((Below.refl _ _).alloc (Nat.le_refl _) _).alloc (by simp) _⟩
  · intro i hi
    simp [blks] at hi
    omega
  · have := Blk.made (w.alloc (.map #[] 0)) (headV ⟨a, b, 0, 0, []⟩ w.heap.size) 67
    simpa [headV] using this
  · exact (IMap.made encP w).of_block (Below.heap_alloc _ _ _ (by simp))

theorem Get_none (x i : Int) (w : World) (h : HeapAt w base p mb s) (hf : find s.recs x = none) :
    Calls Try.prog 15 #[.pointer (some ⟨p, 0, none⟩), .int .i64 x, .int .i64 i] w fun e w' => e = .returned (.tuple #[.agg #[.int .i64 0, .bool false], .int .i64 7]) ∧ Below w.heap.size w w' := by
  have HF := Lib.hid hf; clear hf
  go_enter Try.func15, Try.ntmps15
  go_wp2_with (first | (go_at_call 30; refine (word_none x i _ (h.alloc _) HF.out).mono ?_; rintro e w' ⟨rfl, rfl⟩))
  exact bodyPost_ret (v := .tuple #[.agg #[.int .i64 0, .bool false], .int .i64 7]) (by simp [results, Try.results15, go_sem]) rfl ⟨rfl, (((Below.refl _ _).alloc (Nat.le_refl _) _))⟩
theorem Get_out (x i : Int) (r : Rec) (w : World) (h : HeapAt w base p mb s) (hf : find s.recs x = some r) (hi : i < 0 ∨ r.words.length ≤ i) :
    Calls Try.prog 15 #[.pointer (some ⟨p, 0, none⟩), .int .i64 x, .int .i64 i] w fun e w' => e = .returned (.tuple #[.agg #[.int .i64 0, .bool false], .int .i64 1]) ∧ Below w.heap.size w w' := by
  have HF := Lib.hid hf; clear hf
  have HI := Lib.hid hi; clear hi
  go_enter Try.func15, Try.ntmps15
  go_wp2_with (first | (go_at_call 30; refine (word_out x i r _ (h.alloc _) HF.out HI.out).mono ?_; rintro e w' ⟨rfl, rfl⟩))
  exact bodyPost_ret (v := .tuple #[.agg #[.int .i64 0, .bool false], .int .i64 1]) (by simp [results, Try.results15, go_sem]) rfl ⟨rfl, (((Below.refl _ _).alloc (Nat.le_refl _) _))⟩
theorem Get_some (x : Int) (i : Nat) (r : Rec) (c : Cel) (w : World) (h : HeapAt w base p mb s) (hf : find s.recs x = some r) (hl : r.words.length ≤ 65536) (hc : r.words[i]? = some c) :
    Calls Try.prog 15 #[.pointer (some ⟨p, 0, none⟩), .int .i64 x, .int .i64 i] w fun e w' => e = .returned (.tuple #[.agg #[.int .i64 c.1, .bool c.2], .int .i64 0]) ∧ Below w.heap.size w w' := by
  have hi : i < r.words.length := (List.getElem?_eq_some_iff.1 hc).1
  have hw := (h.wds r (find_mem hf).1).alloc (.cells #[.int .i64 0, .bool false] 41)
  have hg := cellsOf_get r.words i c hc
  have c0 : (w.alloc (.cells #[.int .i64 0, .bool false] 41)).cell? ⟨r.wb, i * 2, none⟩ = some (.int .i64 c.1) := hw.cell _ (by rw [Nat.mul_comm]; simpa using hg.1)
  have c1 : (w.alloc (.cells #[.int .i64 0, .bool false] 41)).cell? ⟨r.wb, i * 2 + 1, none⟩ = some (.bool c.2) := hw.cell _ (by rw [Nat.mul_comm]; simpa using hg.2)
  have hne : r.wb ≠ w.heap.size := by have := (h.wds r (find_mem hf).1).lt; omega
  have HF := Lib.hid hf; clear hf hc hg
  go_enter Try.func15, Try.ntmps15
  go_wp2_with (first | (go_at_call 30; refine (word_some x i r _ (h.alloc _) HF.out hi hl).mono ?_; rintro e w' ⟨rfl, rfl⟩))
  exact bodyPost_ret (v := .tuple #[.agg #[.int .i64 c.1, .bool c.2], .int .i64 0]) (by simp [results, Try.results15, go_sem]) rfl ⟨rfl, (((Below.refl _ _).alloc (Nat.le_refl _) _))⟩

theorem Set_none (x i n : Int) (b : Bool) (w : World) (h : HeapAt w base p mb s) (hf : find s.recs x = none) :
    Calls Try.prog 13 #[.pointer (some ⟨p, 0, none⟩), .int .i64 x, .int .i64 i, .agg #[.int .i64 n, .bool b]] w fun e w' => e = .returned (.int .i64 7) ∧ Below w.heap.size w w' := by
  have HF := Lib.hid hf; clear hf
  go_enter Try.func13, Try.ntmps13
  go_wp2_with (first | (go_at_call 30; refine (word_none x i _ (h.alloc _) HF.out).mono ?_; rintro e w' ⟨rfl, rfl⟩))
  go_ret
  exact ⟨rfl, (((Below.refl _ _).alloc (Nat.le_refl _) _))⟩
theorem Set_out (x i n : Int) (b : Bool) (r : Rec) (w : World) (h : HeapAt w base p mb s) (hf : find s.recs x = some r) (hi : i < 0 ∨ r.words.length ≤ i) :
    Calls Try.prog 13 #[.pointer (some ⟨p, 0, none⟩), .int .i64 x, .int .i64 i, .agg #[.int .i64 n, .bool b]] w fun e w' => e = .returned (.int .i64 1) ∧ Below w.heap.size w w' := by
  have HF := Lib.hid hf; clear hf
  have HI := Lib.hid hi; clear hi
  go_enter Try.func13, Try.ntmps13
  go_wp2_with (first | (go_at_call 30; refine (word_out x i r _ (h.alloc _) HF.out HI.out).mono ?_; rintro e w' ⟨rfl, rfl⟩))
  go_ret
  exact ⟨rfl, (((Below.refl _ _).alloc (Nat.le_refl _) _))⟩
theorem Set_bad (x n : Int) (i : Nat) (r : Rec) (w : World) (h : HeapAt w base p mb s) (hf : find s.recs x = some r) (hi : i < r.words.length) (hl : r.words.length ≤ 65536) (hn : n ≠ 0) (hb : find s.recs n = none) :
    Calls Try.prog 13 #[.pointer (some ⟨p, 0, none⟩), .int .i64 x, .int .i64 i, .agg #[.int .i64 n, .bool true]] w fun e w' => e = .returned (.int .i64 1) ∧ Below w.heap.size w w' := by
  have HF := Lib.hid hf; clear hf
  have HB := Lib.hid hb; clear hb
  have hn1 : (n != 0) = true := by simpa using hn
  have hlk := look_drewN (h.alloc (.cells #[.int .i64 n, .bool true] 41)) n _ (look_none HB.out)
  have c4 : (w.alloc (.cells #[.int .i64 n, .bool true] 41)).cell? ⟨p, 4, none⟩ = some (.map (some mb)) := (h.alloc _).hd.cell 4 rfl
  go_enter Try.func13, Try.ntmps13
  go_wp2_with (first | (go_at_call 30; refine (word_some x i r _ (h.alloc _) HF.out hi hl).mono ?_; rintro e w' ⟨rfl, rfl⟩))
  go_quiet (fail)
  go_wp2
  go_ret
  exact ⟨rfl, below_drewN ((Below.refl _ _).alloc (Nat.le_refl _) _) _⟩
theorem Set_ok (x n : Int) (b : Bool) (i : Nat) (r : Rec) (w : World) (h : HeapAt w base p mb s) (hf : find s.recs x = some r) (hi : i < r.words.length) (hl : r.words.length ≤ 65536) (hn : b = true → n ≠ 0 → ∃ q, find s.recs n = some q) :
    Calls Try.prog 13 #[.pointer (some ⟨p, 0, none⟩), .int .i64 x, .int .i64 i, .agg #[.int .i64 n, .bool b]] w fun e w' => e = .returned (.int .i64 0) ∧ HeapAt w' base p mb { s with recs := setW s.recs x i (n, b) } ∧ But (fun k => k ∈ p :: mb :: blks s.recs) w w' := by
  have HF := Lib.hid hf; clear hf
  have hm := mem_blks (find_mem HF.out).1
  have hlt := (h.wds r (find_mem HF.out).1).lt
  have hne : r.wb ≠ w.heap.size := by omega
  have hne' : w.heap.size ≠ r.wb := by omega
  obtain ⟨c, hc⟩ : ∃ c, r.words[i]? = some c := ⟨_, List.getElem?_eq_getElem hi⟩
  have hg := cellsOf_get r.words i c hc
  have hw := (h.wds r (find_mem HF.out).1).alloc (.cells #[.int .i64 n, .bool b] 41)
  have c0 : (w.alloc (.cells #[.int .i64 n, .bool b] 41)).cell? ⟨r.wb, i * 2, none⟩ = some (.int .i64 c.1) := hw.cell _ (by rw [Nat.mul_comm]; simpa using hg.1)
  have c1 : (w.alloc (.cells #[.int .i64 n, .bool b] 41)).cell? ⟨r.wb, i * 2 + 1, none⟩ = some (.bool c.2) := hw.cell _ (by rw [Nat.mul_comm]; simpa using hg.2)
  have f0 := hw.free (i * 2)
  have f1 := hw.free (i * 2 + 1)
  have hfin := fun nq => HeapAt.setW (w := (w.alloc (.cells #[.int .i64 n, .bool b] 41)).drewN nq) (h.alloc _).drewN HF.out i (n, b)
  have HFIN := Lib.hid hfin
  have hbut : ∀ nq, But (fun k => k ∈ p :: mb :: blks s.recs) w ((((w.alloc (.cells #[.int .i64 n, .bool b] 41)).drewN nq).setCell ⟨r.wb, i * 2, none⟩ (.int .i64 n)).setCell ⟨r.wb, i * 2 + 1, none⟩ (.bool b)) := fun nq =>
    ((((But.refl _ w).alloc _).drewN nq).setCell _ _ (Or.inl (by simp [hm.2]))).setCell _ _ (Or.inl (by simp [hm.2]))
  have HBUT := Lib.hid hbut
  clear hw hg hc hfin hbut hm
  cases b
  · clear hn
    go_enter Try.func13, Try.ntmps13
    go_wp2_with (first | (go_at_call 30; refine (word_some x i r _ (h.alloc _) HF.out hi hl).mono ?_; rintro e w' ⟨rfl, rfl⟩))
    go_quiet (fail)
    go_wp2
    go_ret
    exact ⟨rfl, HFIN.out _, HBUT.out _⟩
  · by_cases h0 : n = 0
    · subst h0
      clear hn
      go_enter Try.func13, Try.ntmps13
      go_wp2_with (first | (go_at_call 30; refine (word_some x i r _ (h.alloc _) HF.out hi hl).mono ?_; rintro e w' ⟨rfl, rfl⟩))
      go_quiet (fail)
      go_wp2
      go_ret
      exact ⟨rfl, HFIN.out _, HBUT.out _⟩
    · obtain ⟨q, hq⟩ := hn rfl h0
      have hlk := look_drewN (h.alloc (.cells #[.int .i64 n, .bool true] 41)) n _ (look_some hq)
      have c4 : (w.alloc (.cells #[.int .i64 n, .bool true] 41)).cell? ⟨p, 4, none⟩ = some (.map (some mb)) := (h.alloc _).hd.cell 4 rfl
      have hn1 : (n != 0) = true := by simpa using h0
      clear hn hq
      go_enter Try.func13, Try.ntmps13
      go_wp2_with (first | (go_at_call 30; refine (word_some x i r _ (h.alloc _) HF.out hi hl).mono ?_; rintro e w' ⟨rfl, rfl⟩))
      go_quiet (fail)
      go_wp2
      go_ret
      exact ⟨rfl, HFIN.out _, HBUT.out _⟩
end
end Go.Proofs.Ytmamcpaejhjceaa.HP
