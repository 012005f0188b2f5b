/- The heap's Collect. -/
import Derived.Test.YtmamcpaejhjceaaW3
import Derived.Test.YtmamcpaejhjceaaMark
import Derived.Deep.LoopGhost
import Derived.Deep.CutBlock
import Derived.Deep.DeepCutAuto
namespace Go.Proofs.Ytmamcpaejhjceaa.HP
open Go.MapKept Go.ChangeMaps Go.RowKit

/-- a slice of ints that reads so -/
def RdI (w : World) (A : Option Addr) (zs : List Int) : Prop := ∀ k, k < zs.length → ∃ b off, A = some ⟨b, off, none⟩ ∧ ∀ j, j < zs.length → w.cell? ⟨b, off + j, none⟩ = some (.int .i64 (zs.getD j 0))
theorem RdI.below {w w' : World} {A : Option Addr} {zs : List Int} (h : RdI w A zs) (hb : Below w.heap.size w w') : RdI w' A zs := by
  intro k hk
  obtain ⟨b, off, e, hc⟩ := h k hk
  refine ⟨b, off, e, fun j hj => ?_⟩
  have h1 := hc j hj
  rw [hb.cell (p := ⟨b, off + j, none⟩) (World.block_lt_of_cell? w _ h1)]
  exact h1
theorem Clone_any (A : Option Addr) (c : Nat) (zs : List Int) (w : World) (h : RdI w A zs) (hz : A = none → zs = []) (hbig : zs.length * 8 ≤ 140737488355328) :
    Calls Try.prog 27 #[.slice A zs.length c] w fun e w' => ∃ v', e = .returned v' ∧ w'.ownsRow w.heap.size 3 1 v' zs.length (zs.map (Value.int .i64)) ∧ Below w.heap.size w w' := by
  cases A with
  | none =>
    refine (Try.slices_Clone_int_nil _ _ w).mono ?_
    rintro e w' ⟨rfl, rfl⟩
    obtain rfl := hz rfl
    exact ⟨_, rfl, World.ownsRow_nil _ _ _ _, Below.refl _ _⟩
  | some a =>
    rcases Nat.eq_zero_or_pos zs.length with h0 | h0
    · obtain rfl := List.eq_nil_of_length_eq_zero h0
      refine (Try.slices_Clone_int_zero a c w).mono ?_
      rintro e w' ⟨v', rfl, h1, _, h2⟩
      exact ⟨v', rfl, h1, h2⟩
    · obtain ⟨b, off, e, hc⟩ := h 0 h0
      cases e
      refine (Try.slices_Clone_int b off zs.length c zs w (Nat.le_refl _) hbig hc).mono ?_
      rintro e w' ⟨v', rfl, h1, _, h2⟩
      rw [List.take_length] at h1
      exact ⟨v', rfl, h1, h2⟩

theorem zero75 (w : World) : (zeroValue 75).run Try.prog w = .ok (.agg #[]) w := by kernel_rfl
def encU (_ : Unit) : Value := .agg #[]
def setOf (K : List Int) : List (Int × Unit) := K.map fun x => (x, ())
theorem setOf_look (K : List Int) (x : Int) : (setOf K).lookup x = if x ∈ K then some () else none := by
  induction K with
  | nil => rfl
  | cons a K ih =>
    unfold setOf at *
    by_cases h : x = a
    · simp [List.lookup, h]
    · have h1 : (x == a) = false := by simpa using h
      simp [List.lookup, h1, ih, h]
theorem set_val (K : List Int) (x : Int) : (((setOf K).lookup x).map encU).getD (.agg #[]) = .agg #[] := by
  rw [setOf_look]; split <;> rfl
theorem set_in {K : List Int} {x : Int} (h : x ∈ K) : ((setOf K).lookup x).isSome = true := by rw [setOf_look, if_pos h]; rfl
theorem set_out {K : List Int} {x : Int} (h : x ∉ K) : ((setOf K).lookup x).isSome = false := by rw [setOf_look, if_neg h]; rfl

section
variable {base p mb : Nat} {s : St}
def badRoot (l : List Rec) (x : Int) : Prop := x ≠ 0 ∧ find l x = none
theorem look_at {w : World} (h : HeapAt w base p mb s) (n : Int) (v : Value) (hv : (((keysOf s.recs).lookup n).map encP).getD (.pointer none) = v) :
    (Instr.lookup 65 (.map (some mb)) (.int .i64 n) false).run Try.prog w = .ok v w := look_drewN h n v hv 0
theorem rest_le (K : List Int) : ∀ l : List Rec, (∀ r ∈ l, 1 ≤ r.words.length) → rest K l ≤ 2 * (sumS l + sumL l)
  | [], _ => by simp [rest]
  | r :: l, h => by
    have h1 := rest_le K l (fun q hq => h q (by simp [hq]))
    have h2 := h r (by simp)
    simp only [rest, sumS, sumL]
    by_cases h3 : r.x ∈ K <;> by_cases h4 : r.words.length ≤ 16 <;> simp only [h3, h4, if_true, if_false] <;> omega
theorem Fits.rest {s : St} (F : Fits s) (K : List Int) : rest K s.recs ≤ 262144 := by
  have := rest_le K s.recs (fun r hr => (F.recs r hr).1)
  have := F.topS; have := F.top1; have := F.small1; have := F.bigs; have := F.big1
  omega
/-- what Collect leaves -/
def ColPost (base p mb : Nat) (s : St) (zs : List Int) (w : World) (e : Ending) (w' : World) : Prop :=
  ((∃ x ∈ zs, badRoot s.recs x) ∧ e = .returned (.tuple #[.int .i64 0, .int .i64 7]) ∧ w' = w) ∨
  ((∀ x ∈ zs, ¬ badRoot s.recs x) ∧ ∃ K : List Int, (∀ x, x ∈ K ↔ Reach s.recs zs x) ∧ e = .returned (.tuple #[.int .i64 (freed K s.recs), .int .i64 0]) ∧
    HeapAt w' base p mb { s with top := keptTop K s.recs, recs := kept K 0 s.recs } ∧ But (fun k => k ∈ p :: mb :: blks s.recs) w w')
theorem getD_mem {zs : List Int} {k : Nat} (h : k < zs.length) : zs.getD k 0 ∈ zs := by
  rw [List.getD_eq_getElem?_getD, List.getElem?_eq_getElem h]; exact List.getElem_mem h
set_option maxRecDepth 100000 in
set_option maxHeartbeats 2000000 in
theorem Collect_any (A : Option Addr) (c : Nat) (zs : List Int) (w : World) (hz : A = none → zs = []) (hRd : RdI w A zs) (hlen : zs.length ≤ 1048576) (h : HeapAt w base p mb s) (F : Fits s) :
    Calls Try.prog 9 #[.pointer (some ⟨p, 0, none⟩), .slice A zs.length c] w fun e w' =>
      ColPost base p mb s zs w e w' := by
  have c4 : w.cell? ⟨p, 4, none⟩ = some (.map (some mb)) := h.hd.cell 4 rfl
  have HZ := Lib.hid hz
  clear hz
  go_enter Try.func9, Try.ntmps9
  go_wp2
  go_loop [26] (fun i => ∃ k : Nat, i = .int .i64 k ∧ k ≤ zs.length ∧ Hid (∀ j, j < k → ¬ badRoot s.recs (zs.getD j 0))) (fun i => zs.length - (intOf i).toNat)
  case atStart => exact ⟨0, rfl, Nat.zero_le _, by intro j hj; omega⟩
  case round =>
    obtain ⟨k, rfl, hk, hall⟩ := hrel
    by_cases hlt : k < zs.length
    · obtain ⟨b, off, eA, hc⟩ := hRd k hlt
      have hck := hc k hlt
      clear hc
      subst eA
      obtain ⟨x, hx⟩ : ∃ x, zs.getD k 0 = x := ⟨_, rfl⟩
      rw [hx] at hck
      have HX := Lib.hid hx
      clear hx
      by_cases h0 : x = 0
      · subst h0
        go_wp2
        go_round
        case rel => exact ⟨k + 1, by go_num, by omega, fun j hj => by
          rcases Nat.lt_or_ge j k with h1 | h1
          · exact hall j h1
          · obtain rfl : j = k := by omega
            rw [HX.out]; exact fun e => e.1 rfl⟩
        case measure => simp [intOf]; omega
      · have hx1 : (x != 0) = true := by simpa using h0
        rcases hf : find s.recs x with _ | r
        · have HF := Lib.hid hf
          have hlk := look_at h x _ (look_none hf)
          clear hf
          go_wp2
          go_ret2
          exact .inl ⟨⟨x, by rw [← HX.out]; exact getD_mem hlt, h0, HF.out⟩, rfl, rfl⟩
        · have HF := Lib.hid hf
          have hlk := look_at h x _ (look_some hf)
          clear hf
          go_wp2
          go_round
          case rel => exact ⟨k + 1, by go_num, by omega, fun j hj => by
            rcases Nat.lt_or_ge j k with h1 | h1
            · exact hall j h1
            · obtain rfl : j = k := by omega
              rw [HX.out]; exact fun e => by have e2 := e.2; rw [HF.out] at e2; cases e2⟩
          case measure => simp [intOf]; omega
    · have hgood : ∀ x ∈ zs, ¬ badRoot s.recs x := by
        intro x hx
        obtain ⟨j, hj, rfl⟩ := List.getElem_of_mem hx
        have := hall.out j (by omega)
        rwa [List.getD_eq_getElem?_getD, List.getElem?_eq_getElem hj] at this
      have HG := Lib.hid hgood
      clear hgood
      obtain rfl : k = zs.length := by omega
      clear hk hall
      have hmm := @run_makeMap Try.prog
      go_wp2_with (first
        | (go_at_call 27; refine (Clone_any A c zs _ (hRd.below ((Below.refl _ _).alloc (Nat.le_refl _) _)) HZ.out (by omega)).mono ?_; rintro e w1 ⟨v1, rfl, ho1, hb1⟩))
      have hs1 : w.heap.size + 1 ≤ w1.heap.size := by have := hb1.size; simp at this; omega
      have hB1 : Below w.heap.size w w1 := ((Below.refl _ w).alloc (Nat.le_refl _) _).trans (hb1.mono (by simp))
      have hm1 : IMap encU w1 w.heap.size (setOf []) := (IMap.made encU w).of_block (hb1.block _ (by simp))
      have ho2 : w1.ownsRow (w.heap.size + 1) 3 1 v1 zs.length (zs.map (Value.int .i64)) := by simpa using ho1
      clear ho1 hb1 hmm
      obtain ⟨i0, hi, hz0, hz1, hz2⟩ := info_parts info3
      go_loopg [9] (rest [] s.recs + zs.length) (fun n v wr => ∃ K Wk : List Int, Mark s.recs zs K Wk ∧ Hid (n = rest K s.recs + Wk.length) ∧ rest K s.recs + Wk.length ≤ 2097152 ∧ wr.ownsRow (w.heap.size + 1) 3 1 v Wk.length (Wk.map (Value.int .i64)) ∧
        IMap encU wr w.heap.size (setOf K) ∧ Below w.heap.size w wr ∧ w.heap.size + 1 ≤ wr.heap.size)
      case atStart => exact ⟨[], zs, Mark.start _ _, rfl, by have := F.rest []; omega, ho2, hm1, hB1, hs1⟩
      case round =>
        obtain ⟨K, Wk, hM, HN, hle, hown, hst, hBel, hsz⟩ := hrel
        clear ho2 hm1 hB1 hs1
        have hH := h.below hBel
        rcases Nat.eq_zero_or_pos Wk.length with h0 | hpos
        · obtain rfl : Wk = [] := List.eq_nil_of_length_eq_zero h0
          have HK := Lib.hid hM.done
          obtain ⟨A9, c9, rfl⟩ : ∃ A c, u9 = .slice A 0 c := by
            rcases hown.2 with ⟨e, _⟩ | ⟨g, cap, cur, e, _⟩
            · exact ⟨none, 0, e⟩
            · exact ⟨some ⟨g, 0, none⟩, cap, e⟩
          have hBut : But (fun k => k ∈ p :: mb :: blks s.recs) w wr := But.of_below hBel
          have hplt := h.lt p (by simp)
          have hblt := fun (i : Nat) => h.lt i
          have HBLT := Lib.hid hblt
          have f2 := hH.hd.free 2
          have d2 : wr.cell? ⟨p, 2, none⟩ = some (.int .i64 s.top) := hH.hd.cell 2 rfl
          have hcnt := F.cnt
          clear hblt h0 HN hle hown
          go_wp2_with (first
            | (go_at_call 10; refine (Live_form (s := { s with top := 0 }) _ (hH.setTop 0) hcnt F.rise).mono ?_; rintro e w2 ⟨A2, c2, rfl, ho2, hA2, hb2⟩))
          have hH2 := (hH.setTop 0).below hb2
          have hst2 : IMap encU w2 w.heap.size (setOf K) := hst.of_block ((hb2.block _ (by simp; exact hst.lt)).trans (Below.heap_setCell _ _ _ _ (by simp; omega)))
          have hBut2 : But (fun k => k ∈ p :: mb :: blks s.recs) w w2 := (hBut.setCell ⟨p, 2, none⟩ (.int .i64 0) (Or.inl (by simp))).trans (But.of_below (S := fun _ => False) hb2) (fun i hi => hi.elim)
          have hs2 : wr.heap.size ≤ w2.heap.size := by have := hb2.size; simp at this; omega
          have ho3 : w2.ownsRow wr.heap.size 3 1 (.slice A2 s.recs.length c2) s.recs.length ((s.recs.map Rec.x).map (Value.int .i64)) := by simpa using ho2
          clear ho2 hb2 hst hBut hBel hH f2 d2
          obtain ⟨wm, rfl⟩ : ∃ wm : World, wm = wr := ⟨_, rfl⟩
          have hplm : w.heap.size + 1 ≤ wm.heap.size := hsz
          clear hsz
          go_loopw [16, 102] (fun f i wx => ∃ k : Nat, i = .int .i64 k ∧ k ≤ s.recs.length ∧ f = .int .i64 (freed K (s.recs.take k)) ∧ HeapAt wx base p mb { s with top := keptTop K (s.recs.take k), recs := swept K s.recs k } ∧ IMap encU wx w.heap.size (setOf K) ∧
              wx.ownsRow wm.heap.size 3 1 (.slice A2 s.recs.length c2) s.recs.length ((s.recs.map Rec.x).map (Value.int .i64)) ∧ But (fun k => k ∈ p :: mb :: blks s.recs) w wx ∧ wm.heap.size ≤ wx.heap.size)
            (fun _ i _ => s.recs.length - (intOf i).toNat)
          case atStart => exact ⟨0, rfl, Nat.zero_le _, rfl, hH2, hst2, ho3, hBut2, hs2⟩
          case round =>
            obtain ⟨k, rfl, hk, rfl, hH, hst, hown, hBut, hsz⟩ := hrel
            clear hH2 hst2 ho3 hBut2 hs2
            have hfl := freed_le K (s.recs.take k)
            have hktl := keptTop_le K (s.recs.take k)
            have hstk := sums_take s.recs k
            have hb1 := F.top1; have hb2 := F.small1; have hb3 := F.bigs; have hb4 := F.big1
            have hb5 : (sumS s.recs : Int) ≤ s.small := by have := F.topS; omega
            by_cases hlt2 : k < s.recs.length
            · obtain ⟨r, hr⟩ : ∃ r, s.recs[k]? = some r := ⟨_, List.getElem?_eq_getElem hlt2⟩
              have hrm : r ∈ s.recs := List.mem_of_getElem? hr
              have hlen16 := F.len hrm
              obtain ⟨g, rfl⟩ := hA2 (by omega)
              have hcell : wr.cell? ⟨g, k, none⟩ = some (.int .i64 r.x) := by
                have := hown.cellAt k (by omega)
                rw [this]
                simp [List.getElem?_map, hr]
              have hsr := swept_in (K := K) hr
              have hf : find (swept K s.recs k) r.x = some r := find_of_mem hH.keys hsr
              have hglt := hown.lt g rfl
              have hfs := freed_succ (K := K) hr
              have hks := keptTop_succ (K := K) hr
              have d2 : wr.cell? ⟨p, 2, none⟩ = some (.int .i64 (keptTop K (s.recs.take k))) := hH.hd.cell 2 rfl
              have d4 : wr.cell? ⟨p, 4, none⟩ = some (.map (some mb)) := hH.hd.cell 4 rfl
              have o0 : wr.cell? ⟨r.ob, 0, none⟩ = some (.slice (some ⟨r.wb, 0, none⟩) r.words.length r.words.length) := (hH.obs r hsr).cell 0 rfl
              have hpl := hH.hd.lt
              have hol := (hH.obs r hsr).lt
              have HF := Lib.hid hf
              have HR := Lib.hid hr
              clear hf hr
              by_cases hx : r.x ∈ K
              · rw [if_pos hx, Nat.add_zero] at hfs
                have HFS := Lib.hid hfs
                clear hfs
                by_cases hl : r.words.length ≤ 16
                · rw [if_pos ⟨hx, hl⟩] at hks
                  have HKS := Lib.hid hks
                  clear hks
                  have o1 : wr.cell? ⟨r.ob, 1, none⟩ = some (.int .i64 r.place) := (hH.obs r hsr).cell 1 rfl
                  have fo1 := (hH.obs r hsr).free 1
                  have f2 := hH.hd.free 2
                  have hpo := (hH.not_p hsr).1
                  have hpo' := hpo.symm
                  go_wp2_with (first
                    | (at_lookup; refine wpList_look _ rfl _ _ 65 rfl 3 70 Try.underlying65 Try.underlying3 (zero70 _) mb _ rfl hH.mp r.x rfl _ (look_some HF.out) ?_)
                    | (at_lookup; refine wpList_look_ok _ rfl _ _ 73 rfl 3 75 Try.underlying73 Try.underlying3 (zero75 _) w.heap.size _ rfl hst r.x rfl _ (set_val K r.x) true (set_in hx) ?_)
                    | (go_at_call 26; refine (large_no r _ (hH.alloc (.cells #[] 75)) hsr hl).mono ?_; rintro e w' ⟨rfl, rfl⟩))
                  have hG := (hH.setP HF.out (keptTop K (s.recs.take k))).alloc (.cells #[] 75)
                  have hst3 : IMap encU ((wr.setCell ⟨r.ob, 1, none⟩ (.int .i64 (keptTop K (s.recs.take k)))).alloc (.cells #[] 75)) w.heap.size (setOf K) := hst.of_block ((Below.heap_alloc _ _ _ (by simp; exact hst.lt)).trans (Below.heap_setCell _ _ _ _ (by have := HBLT.out r.ob (by simp [mem_blks hrm]); simp; omega)))
                  have hown3 := (hown.kept (w' := wr.setCell ⟨r.ob, 1, none⟩ (.int .i64 (keptTop K (s.recs.take k)))) (row := some r.ob) ⟨rfl, rfl, rfl, by simp, fun i _ hi => Below.heap_setCell _ _ _ _ (fun e => hi (by rw [e]))⟩ (.inr (by have := HBLT.out r.ob (by simp [mem_blks hrm]); simp [Value.ownBlock]; omega))).alloc (.cells #[] 75)
                  have hBut3 := (hBut.setCell ⟨r.ob, 1, none⟩ (.int .i64 (keptTop K (s.recs.take k))) (Or.inl (by simp [mem_blks hrm]))).alloc (.cells #[] 75)
                  have hsz3 : wm.heap.size ≤ ((wr.setCell ⟨r.ob, 1, none⟩ (.int .i64 (keptTop K (s.recs.take k)))).alloc (.cells #[] 75)).heap.size := by simp; omega
                  have hin : ∃ q, q ∈ setP r.x (keptTop K (s.recs.take k)) (swept K s.recs k) ∧ q.ob = r.ob ∧ q.words = r.words ∧ q.wb = r.wb := ⟨_, List.mem_map.2 ⟨r, hsr, rfl⟩, by simp, by simp, by simp⟩
                  obtain ⟨q, hq1, hq2, hq3, hq4⟩ := hin
                  have e0 := (hG.obs q hq1).cell 0 (v := .slice (some ⟨q.wb, 0, none⟩) q.words.length q.words.length) rfl
                  rw [hq2, hq3, hq4] at e0
                  have e2 := hG.hd.cell 2 (v := .int .i64 (keptTop K (s.recs.take k))) rfl
                  have g2 := hG.hd.free 2
                  clear hq1 hq2 hq3 hq4
                  clear hst hown hBut hsz hcell d2 d4 o0 o1 fo1 f2
                  generalize (wr.setCell ⟨r.ob, 1, none⟩ (.int .i64 (keptTop K (s.recs.take k)))).alloc (.cells #[] 75) = W at hG hst3 hown3 hBut3 hsz3 e0 e2 g2 ⊢
                  go_still_tail 12, (by kernel_rfl)
                  go_wp2
                  go_roundw
                  case rel =>
                    refine ⟨k + 1, by go_num, by omega, by rw [HFS.out]; simp, ?_, ?_, ?_, ?_, by simp; omega⟩
                    · have := (hG.setTop ((keptTop K (s.recs.take k) : Int) + r.words.length)).drew
                      rw [HKS.out, ← swept_place h.keys HR.out hx hl]
                      rw [show ((keptTop K (s.recs.take k) + r.words.length : Nat) : Int) = (keptTop K (s.recs.take k) : Int) + r.words.length by omega]
                      exact this
                    · exact hst3.of_block (Below.heap_setCell _ _ _ _ (by have := HBLT.out p (by simp); simp; omega))
                    · exact hown3.kept (w' := (W.setCell ⟨p, 2, none⟩ (.int .i64 ((keptTop K (s.recs.take k) : Int) + r.words.length))).drew) (row := some p) ⟨rfl, rfl, rfl, by simp, fun i _ hi => Below.heap_setCell _ _ _ _ (fun e => hi (by rw [e]))⟩ (.inr (by simp [Value.ownBlock]; omega))
                    · exact (hBut3.setCell _ _ (Or.inl (by simp))).drew
                  case measure => simp [intOf]; omega
                · rw [if_neg (fun e => hl e.2), Nat.add_zero] at hks
                  have HKS := Lib.hid hks
                  clear hks
                  go_wp2_with (first
                    | (at_lookup; refine wpList_look _ rfl _ _ 65 rfl 3 70 Try.underlying65 Try.underlying3 (zero70 _) mb _ rfl hH.mp r.x rfl _ (look_some HF.out) ?_)
                    | (at_lookup; refine wpList_look_ok _ rfl _ _ 73 rfl 3 75 Try.underlying73 Try.underlying3 (zero75 _) w.heap.size _ rfl hst r.x rfl _ (set_val K r.x) true (set_in hx) ?_)
                    | (go_at_call 26; refine (large_yes r _ (hH.alloc (.cells #[] 75)) hsr (by omega)).mono ?_; rintro e w' ⟨rfl, rfl⟩))
                  go_roundw
                  case rel =>
                    exact ⟨k + 1, by go_num, by omega, by rw [HFS.out]; simp, by rw [HKS.out, ← swept_large HR.out hx hl]; exact hH.alloc _, hst.of_block (Below.heap_alloc _ _ _ hst.lt), hown.alloc _, hBut.alloc _, by simp; omega⟩
                  case measure => simp [intOf]; omega
              · rw [if_neg hx] at hfs
                rw [if_neg (fun e => hx e.1)] at hks
                have HFS := Lib.hid hfs
                have HKS := Lib.hid hks
                clear hfs hks
                go_wp2_with (first
                  | (at_lookup; refine wpList_look _ rfl _ _ 65 rfl 3 70 Try.underlying65 Try.underlying3 (zero70 _) mb _ rfl hH.mp r.x rfl _ (look_some HF.out) ?_)
                  | (at_lookup; refine wpList_look_ok _ rfl _ _ 73 rfl 3 75 Try.underlying73 Try.underlying3 (zero75 _) w.heap.size _ rfl hst r.x rfl _ (set_val K r.x) false (set_out hx) ?_)
                  | (at_delete; refine wpList_strike (enc := encP) _ rfl _ _ 65 3 rfl 70 Try.underlying65 Try.underlying3 mb _ rfl (hH.alloc (.cells #[] 75)).mp r.x rfl ?_; intro w3 hm3 hB3 hs3))
                have hG := (hH.alloc (.cells #[] 75)).strike r.x hB3 hm3
                have hne := (hH.not_p hsr)
                have hmbw := h.lt mb (by simp)
                go_roundw
                case rel =>
                  refine ⟨k + 1, by go_num, by omega, by rw [HFS.out]; go_num, ?_, ?_, ?_, ?_, by rw [hs3]; simp; omega⟩
                  · rw [HKS.out, Nat.add_zero, ← swept_strike h.keys HR.out hx]; exact hG
                  · exact hst.of_block ((hB3.block _ (by simp; have := hst.lt; omega) (by omega)).trans (Below.heap_alloc _ _ _ hst.lt))
                  · exact (hown.alloc _).kept hB3.grown (.inr (by simp [Value.ownBlock]; omega))
                  · exact (hBut.alloc _).trans hB3 (fun i hi => Or.inl (by subst hi; simp))
                case measure => simp [intOf]; omega
            · obtain rfl : k = s.recs.length := by omega
              have hfa : freed K (s.recs.take s.recs.length) = freed K s.recs := by rw [List.take_length]
              have hka : keptTop K (s.recs.take s.recs.length) = keptTop K s.recs := by rw [List.take_length]
              rw [hfa] at hfl ⊢
              rw [hka, swept_all] at hH
              clear hfa hka
              go_wp2
              go_ret2
              exact .inr ⟨HG.out, K, HK.out, rfl, hH, hBut⟩
        · obtain ⟨Wd, x, rfl⟩ : ∃ Wd x, Wk = Wd ++ [x] := ⟨Wk.dropLast, Wk.getLast (by rintro rfl; simp at hpos), (List.dropLast_concat_getLast _).symm⟩
          rcases hown.2 with ⟨_, hn0⟩ | ⟨g, cap, cur, rfl, hg1, hg2, hg3, hg4, hg5, hg6⟩
          · omega
          have hcell : wr.cell? ⟨g, Wd.length, none⟩ = some (.int .i64 x) := by
            have := hown.cellAt Wd.length (by simp)
            simpa using this
          have howd : wr.ownsRow (w.heap.size + 1) 3 1 (.slice (some ⟨g, 0, none⟩) Wd.length cap) Wd.length (Wd.map (Value.int .i64)) := by
            refine ⟨by simp, .inr ⟨g, cap, cur, rfl, hg1, hg2, by simp at hg3; omega, hg4, hg5, ?_⟩⟩
            have := congrArg (List.take Wd.length) hg6
            simpa [List.take_take] using this
          have hlW : (Wd ++ [x]).length = Wd.length + 1 := by simp
          have d4 : wr.cell? ⟨p, 4, none⟩ = some (.map (some mb)) := hH.hd.cell 4 rfl
          rw [hlW] at hle hg3 ⊢
          have HN' := Lib.hid (show gk = rest K s.recs + (Wd.length + 1) by have := HN.out; rwa [hlW] at this)
          clear hlW hpos hown hg2 hg5 hg6 HN hg4
          have hbase := fun (k : Nat) => h.lt k
          rcases hf : find s.recs x with _ | r
          · have HF := Lib.hid hf
            have HB := Lib.hid hbase
            clear hf hbase
            go_wp2_with (first
              | (at_lookup; refine wpList_look _ rfl _ _ 65 rfl 3 70 Try.underlying65 Try.underlying3 (zero70 _) mb _ rfl hH.mp x rfl _ (look_none HF.out) ?_)
              | (at_lookup; refine wpList_look_ok _ rfl _ _ 73 rfl 3 75 Try.underlying73 Try.underlying3 (zero75 _) w.heap.size _ rfl hst x rfl _ (set_val K x) (decide (x ∈ K)) (by rw [setOf_look]; by_cases hx : x ∈ K <;> simp [hx]) ?_))
            go_roundg (rest K s.recs + Wd.length)
            case measure => have := HN'.out; omega
            case rel => exact ⟨K, Wd, hM.drop (.inl HF.out), rfl, by omega, howd.alloc _, hst.of_block (Below.heap_alloc _ _ _ hst.lt), hBel.alloc (by omega) _, by simp; omega⟩
          · have HF := Lib.hid hf
            have HB := Lib.hid hbase
            clear hf hbase
            by_cases hx : x ∈ K
            · go_wp2_with (first
                | (at_lookup; refine wpList_look _ rfl _ _ 65 rfl 3 70 Try.underlying65 Try.underlying3 (zero70 _) mb _ rfl hH.mp x rfl _ (look_some HF.out) ?_)
                | (at_lookup; refine wpList_look_ok _ rfl _ _ 73 rfl 3 75 Try.underlying73 Try.underlying3 (zero75 _) w.heap.size _ rfl hst x rfl _ (set_val K x) true (set_in hx) ?_))
              go_roundg (rest K s.recs + Wd.length)
              case measure => have := HN'.out; omega
              case rel => exact ⟨K, Wd, hM.drop (.inr hx), rfl, by omega, howd.alloc _, hst.of_block (Below.heap_alloc _ _ _ hst.lt), hBel.alloc (by omega) _, by simp; omega⟩
            · have o0 : wr.cell? ⟨r.ob, 0, none⟩ = some (.slice (some ⟨r.wb, 0, none⟩) r.words.length r.words.length) := (hH.obs r (find_mem HF.out).1).cell 0 rfl
              have hrob := h.lt r.ob (by simp [mem_blks (find_mem HF.out).1])
              have hstn : (setOf K).lookup x = none := by rw [setOf_look, if_neg hx]
              have HSTN := Lib.hid hstn
              clear hstn
              have hl16 := F.len (find_mem HF.out).1
              go_wp2_with (first
                | (at_lookup; refine wpList_look _ rfl _ _ 65 rfl 3 70 Try.underlying65 Try.underlying3 (zero70 _) mb _ rfl hH.mp x rfl _ (look_some HF.out) ?_)
                | (at_lookup; refine wpList_look_ok _ rfl _ _ 73 rfl 3 75 Try.underlying73 Try.underlying3 (zero75 _) w.heap.size _ rfl hst x rfl _ (set_val K x) false (set_out hx) ?_)
                | (at_mapUpdate; refine wpList_put (enc := encU) _ rfl _ _ _ 73 rfl 3 75 Try.underlying73 Try.underlying3 w.heap.size (setOf K) rfl (hst.of_block (Below.heap_alloc _ _ _ hst.lt)) x rfl () rfl HSTN.out ?_; intro w2 hm2 hB2 hs2; have o2 := ((hH.obs r (find_mem HF.out).1).alloc (.cells #[] 75)).kept hB2 (by omega) |>.cell 0 (v := .slice (some ⟨r.wb, 0, none⟩) r.words.length r.words.length) rfl))
              have hwd2 : w2.ownsRow (w.heap.size + 1) 3 1 (.slice (some ⟨g, 0, none⟩) Wd.length cap) Wd.length (Wd.map (Value.int .i64)) := (howd.alloc _).kept hB2.grown (.inr (by simp [Value.ownBlock]; omega))
              have hBel2 : Below w.heap.size w w2 := (hBel.alloc (by omega) (.cells #[] 75)).trans (hB2.below (fun i hi => by omega) (by simp; omega))
              have hsz2 : w.heap.size + 1 ≤ w2.heap.size := by rw [hs2]; simp; omega
              have HM := Lib.hid (hM.take HF.out)
              have HRT := Lib.hid (rest_take h.keys HF.out hx)
              clear hs2 hB2 hM hst howd o0 o2 d4 hH hBel hsz hcell
              obtain ⟨wo, rfl⟩ : ∃ wo : World, wo = w2 := ⟨_, rfl⟩
              go_loopw [9, 84] (fun v i wx => ∃ j : Nat, i = .int .i64 j ∧ j ≤ r.words.length ∧ wx.ownsRow (w.heap.size + 1) 3 1 v (Wd ++ refsTo r j).length ((Wd ++ refsTo r j).map (Value.int .i64)) ∧ IMap encU wx w.heap.size (setOf K ++ [(x, ())]) ∧ Below w.heap.size w wx ∧ w.heap.size + 1 ≤ wx.heap.size)
                (fun _ i _ => r.words.length - (intOf i).toNat)
              case atStart => exact ⟨0, rfl, Nat.zero_le _, by simpa [refsTo_zero] using hwd2, hm2, hBel2, hsz2⟩
              case round =>
                obtain ⟨j, rfl, hj, hown, hst, hBel, hsz⟩ := hrel
                clear hwd2 hm2 hBel2 hsz2
                by_cases hlt2 : j < r.words.length
                · obtain ⟨⟨n, b⟩, hc⟩ : ∃ c, r.words[j]? = some c := ⟨_, List.getElem?_eq_getElem hlt2⟩
                  have hg := cellsOf_get r.words j _ hc
                  have hw := (h.below hBel).wds r (find_mem HF.out).1
                  have d0 : wr.cell? ⟨r.wb, j * 2, none⟩ = some (.int .i64 n) := hw.cell _ (by rw [Nat.mul_comm]; simpa using hg.1)
                  have d1 : wr.cell? ⟨r.wb, j * 2 + 1, none⟩ = some (.bool b) := hw.cell _ (by rw [Nat.mul_comm]; simpa using hg.2)
                  have hrl := refsTo_len r j
                  have HRS := Lib.hid (refsTo_succ r j n b hc)
                  have hll : (Wd ++ refsTo r j).length = Wd.length + (refsTo r j).length := by simp
                  have hbnd : (Wd ++ refsTo r j).length ≤ 2162688 := by omega
                  clear hg hw hc hll
                  cases b
                  · go_wp2
                    go_roundw
                    case rel => exact ⟨j + 1, by go_num, by omega, by rw [HRS.out]; simpa using hown.alloc _, hst.of_block (Below.heap_alloc _ _ _ hst.lt), hBel.alloc (by omega) _, by simp; omega⟩
                    case measure => simp [intOf]; omega
                  · go_wp2_with (first
                      | (at_builtin; refine wpList_append_own _ rfl _ _ 31 rfl (w.heap.size + 1) 3 i0 (.int .i64 0) 1 8 Try.underlying31 hi hz0 hz1 hz2 rfl (by decide) _ _ _ rfl ((hown.alloc _).alloc _) ⟨wr.heap.size + 1, 0, none⟩ 1 1 [.int .i64 n] rfl rfl ?c1 ?c2 ?c3 ?c4 ?c5 ?_))
                    case c2 => rfl
                    case c3 => unfold maxLen; omega
                    case c4 => omega
                    case c5 => omega
                    intro v' w2 hown2 hgrow _
                    have hl9 : ∀ k, u9.ownBlock = some k → w.heap.size + 1 ≤ k := fun k hk => (hown.lt k hk).1
                    have hBel3 : Below w.heap.size w w2 := ((hBel.alloc (by omega) (.cells #[.int .i64 n, .bool true] 41)).alloc (by simp; omega) (.cells #[.int .i64 n] 3)).grown hgrow (by simp; omega) (fun k hk => by have := hl9 k hk; omega)
                    have hst3 : IMap encU w2 w.heap.size (setOf K ++ [(x, ())]) := by
                      have hlt9 := hst.lt
                      refine hst.of_block ((hgrow.block w.heap.size (by simp; omega) (fun e => by have := hl9 _ e.symm; omega)).trans ((Below.heap_alloc _ _ _ (by simp; omega)).trans (Below.heap_alloc _ _ _ hlt9)))
                    have hsz3 : w.heap.size + 1 ≤ w2.heap.size := by have := hgrow.size; simp at this; omega
                    have hown3 : w2.ownsRow (w.heap.size + 1) 3 1 v' (Wd ++ (refsTo r j ++ [n])).length ((Wd ++ (refsTo r j ++ [n])).map (Value.int .i64)) := by
                      simpa [Nat.add_assoc] using hown2
                    clear hown2 hgrow hown hst hBel hsz hl9
                    go_wp2
                    go_roundw
                    case rel => exact ⟨j + 1, by go_num, by omega, by rw [HRS.out]; exact hown3, hst3, hBel3, hsz3⟩
                    case measure => simp [intOf]; omega
                · obtain rfl : j = r.words.length := by omega
                  have hra := refsTo_all r
                  rw [hra] at hown
                  clear hra
                  have hrl := refs_len r
                  go_wp2
                  go_roundg (rest (K ++ [x]) s.recs + (Wd ++ refs r).length)
                  case measure => have := HN'.out; have := HRT.out; simp only [List.length_append]; omega
                  case rel =>
                    have e1 : setOf (K ++ [x]) = setOf K ++ [(x, ())] := by simp [setOf]
                    exact ⟨K ++ [x], Wd ++ refs r, HM.out, rfl, by have := HRT.out; simp only [List.length_append]; omega, hown, by rw [e1]; exact hst, hBel, hsz⟩
end
end Go.Proofs.Ytmamcpaejhjceaa.HP
