/- The large area: sorting objects by their places, and the least place of n free words. -/
import Derived.Test.YtmamcpaejhjceaaW3
import Derived.Test.YtmamcpaejhjceaaSortF
namespace Go.Proofs.Ytmamcpaejhjceaa.HP
open Go.MapKept Go.ChangeMaps Go.RowKit
open Go.Sort (Holds putRow grow SWO PermIn SortedIn)

/-- the pointer to an object of the list -/
def encR {l : List Rec} (r : { r : Rec // r ∈ l }) : Value := .pointer (some ⟨r.1.ob, 0, none⟩)
def cfR {l : List Rec} (a b : { r : Rec // r ∈ l }) : Int := a.1.place - b.1.place
theorem ltR {l : List Rec} (a b : { r : Rec // r ∈ l }) : ltOf cfR a b = decide (a.1.place < b.1.place) := by
  unfold ltOf cfR
  by_cases h : a.1.place < b.1.place
  · rw [decide_eq_true (by omega), decide_eq_true h]
  · rw [decide_eq_false (by omega), decide_eq_false h]
theorem swoR (l : List Rec) : SWO (ltOf (cfR (l := l))) where
  irrefl x := by rw [ltR]; simp
  trans x y z h1 h2 := by
    rw [ltR] at *
    have := of_decide_eq_true h1; have := of_decide_eq_true h2
    exact decide_eq_true (by omega)
  ntrans x y z h1 h2 := by
    rw [ltR] at *
    have := of_decide_eq_false h1; have := of_decide_eq_false h2
    exact decide_eq_false (by omega)

theorem less_any (a b : Rec) (W : World) (ha : W.cell? ⟨a.ob, 1, none⟩ = some (.int .i64 a.place)) (hb : W.cell? ⟨b.ob, 1, none⟩ = some (.int .i64 b.place)) (a0 : 0 ≤ a.place) (a1 : a.place ≤ 65536) (b0 : 0 ≤ b.place) (b1 : b.place ≤ 65536) :
    Calls Try.prog 36 #[.pointer (some ⟨a.ob, 0, none⟩), .pointer (some ⟨b.ob, 0, none⟩)] W fun e w' => e = .returned (.int .i64 (a.place - b.place)) ∧ ∃ q, w' = W.drewN q := by
  have hw : IntKind.i64.wrap (a.place - b.place) = a.place - b.place := IntWalk.i64_in _ (by omega)
  go_enter Try.func36, Try.ntmps36
  go_wp2_with fail
  go_quiet (fail)
  go_wp2
  go_ret
  exact ⟨rfl, _, rfl⟩

theorem heap_sortedG {α : Type} [Inhabited α] {enc : α → Value} {w : World} {g n : Nat} {os : Array Obj} {cur : Array Value} {e : TypeId} {fr : Nat × Nat} (d : Array α) (hb : w.heap[g]? = some (.cells cur e fr)) :
    (grow (putRow enc (Sort.ahead w n) g 0 d) os).heap[g]? = some (.cells (Sort.putCells enc 0 d cur) e fr) := by
  have hg : g < w.heap.size := (Array.getElem?_eq_some_iff.1 hb).1
  rw [Sort.heap_grow_old _ _ (by simpa using hg)]
  simp [putRow, Sort.mapBlock, Sort.ahead, Array.getElem?_modify, hb, Sort.onCells]
theorem but_sortedG {α : Type} [Inhabited α] {enc : α → Value} {w : World} {g n : Nat} {os : Array Obj} (d : Array α) : But (fun i => i = g) w (grow (putRow enc (Sort.ahead w n) g 0 d) os) := by
  refine ⟨rfl, rfl, rfl, by simp, fun k hk hne => ?_⟩
  rw [Sort.heap_grow_old _ _ (by simpa using hk)]
  have : g ≠ k := fun e => hne e.symm
  simp [putRow, Sort.mapBlock, Sort.ahead, Array.getElem?_modify, this]
theorem take_putCellsG {α : Type} [Inhabited α] {enc : α → Value} (cur : Array Value) (ts : List α) (h : ts.length ≤ cur.size) : (Sort.putCells enc 0 ts.toArray cur).toList.take ts.length = ts.map enc := by
  apply List.ext_getElem?
  intro j
  by_cases hj : j < ts.length
  · rw [List.getElem?_take_of_lt hj, Array.getElem?_toList]
    simp [Sort.putCells, hj, show j < cur.size by omega]
  · rw [List.getElem?_take_eq_none (by omega), List.getElem?_eq_none (by simp; omega)]

section
variable {base p mb : Nat} {s : St}
theorem SortObj (w : World) (h : HeapAt w base p mb s) (F : Fits s) (g cap : Nat) (D : List Rec) (hD : ∀ r ∈ D, r ∈ s.recs) (hpos : 0 < D.length) (hlen : D.length ≤ 131072) (cur : Array Value) (e : TypeId)
    (hb : w.heap[g]? = some (.cells cur e (0, 0))) (ht : cur.toList.take D.length = D.map (fun r => .pointer (some ⟨r.ob, 0, none⟩))) (hsz : D.length ≤ cur.size) (hg : g ∉ p :: mb :: blks s.recs) :
    Calls Try.prog 35 #[.slice (some ⟨g, 0, none⟩) D.length cap, .func (.func 36) #[] #[]] w fun e' w' => e' = .returned (.tuple #[]) ∧ ∃ (D' : List Rec) (cur' : Array Value), D'.Perm D ∧ D'.Pairwise (fun a b => a.place ≤ b.place) ∧
      w'.heap[g]? = some (.cells cur' e (0, 0)) ∧ cur'.size = cur.size ∧ cur'.toList.take D.length = D'.map (fun r => .pointer (some ⟨r.ob, 0, none⟩)) ∧ But (fun i => i = g) w w' := by
  obtain ⟨d, hd⟩ : ∃ d : List { r : Rec // r ∈ s.recs }, d.map Subtype.val = D := ⟨D.pmap (fun r hr => ⟨r, hr⟩) hD, by rw [List.map_pmap]; simp⟩
  have hdl : d.length = D.length := by rw [← hd]; simp
  have hdm : d.map encR = D.map (fun r => Value.pointer (some ⟨r.ob, 0, none⟩)) := by rw [← hd, List.map_map]; rfl
  haveI : Inhabited { r : Rec // r ∈ s.recs } := ⟨d[0]'(by omega)⟩
  have eg : ∀ args w, (callFunc 36 args).run Try.prog w = .ok (.enter 36 args) w := enters_of Try.func36 (by kernel_rfl) rfl
  have hH : Holds (encR (l := s.recs)) w g 0 d.toArray := by
    intro j hj
    have hj' : j < d.length := by simpa using hj
    refine ⟨?_, by simp [World.frozen?, hb]⟩
    have h1 : (cur.toList.take D.length)[j]? = (d.map encR)[j]? := by rw [ht, hdm]
    rw [List.getElem?_take_of_lt (by omega)] at h1
    simp only [World.cell?, hb, Nat.zero_add]
    simp only [Option.isSome_none, Bool.false_eq_true, if_false]
    rw [← Array.getElem?_toList, h1]
    simp [hj']
  have hcmp : CmpReads Try.prog 36 #[] (encR (l := s.recs)) (cfR (l := s.recs)) g 0 d.toArray.size w := by
    intro m os dk hs x y
    have key : ∀ r : Rec, r ∈ s.recs → (sortWorld (encR (l := s.recs)) w g 0 m dk os).cell? ⟨r.ob, 1, none⟩ = some (.int .i64 r.place) := by
      intro r hr
      have hne : r.ob ≠ g := fun e => hg (by rw [← e]; simp [mem_blks hr])
      have := ((h.obs r hr).kept (but_sortedG (enc := encR (l := s.recs)) (n := m) (os := os) dk) hne).cell 1 (v := .int .i64 r.place) rfl
      exact this
    have hx := F.recs x.1 x.2
    have hy := F.recs y.1 y.2
    exact less_any x.1 y.1 _ (key x.1 x.2) (key y.1 y.2) hx.2.1 hx.2.2.1 hy.2.1 hy.2.2.1
  have hS := Any.slices_SortFunc Try.sortL (encR (l := s.recs)) (fun _ => rfl) cfR (swoR s.recs) 36 #[] g 0 cap d.toArray w eg hcmp.lays hH (Array.getElem?_eq_some_iff.1 hb).1 (by simp; omega)
  have hsz' : d.toArray.size = D.length := by simpa using hdl
  rw [hsz'] at hS
  change Calls Try.prog 35 _ _ _ at hS
  refine hS.mono ?_
  rintro e' w' ⟨he, d', n, os, hp, hso, rfl⟩
  refine ⟨he, d'.toList.map Subtype.val, Sort.putCells encR 0 d' cur, ?_, ?_, heap_sortedG d' hb, by simp [Sort.putCells], ?_, but_sortedG d'⟩
  · have h1 := hp.2.2
    have h2 : d'.size = D.length := by rw [hp.1]; simpa using hdl
    have e1 : d'.extract 0 D.length = d' := by rw [← h2]; simp
    have e2 : d.toArray.extract 0 D.length = d.toArray := by rw [← hsz']; simp
    rw [e1, e2] at h1
    have := h1.map Subtype.val
    simpa [hd] using this
  · have h2 : d'.size = D.length := by rw [hp.1]; simpa using hdl
    rw [List.pairwise_map, List.pairwise_iff_getElem]
    intro i j hi hj hij
    have := hso i j (Nat.zero_le _) hij (by rw [← h2]; simpa using hj)
    rw [getElem!_pos d' i (by simpa using hi), getElem!_pos d' j (by simpa using hj)] at this
    rw [ltR] at this
    have := of_decide_eq_false this
    simp only [Array.getElem_toList]
    omega
  · have h2 : d'.toList.length = D.length := by have := hp.1; simp at this; simp [this, hdl]
    have := take_putCellsG (enc := encR) cur d'.toList (by omega)
    rw [h2] at this
    rw [List.map_map]
    exact this
end
/-- the large ones -/
def larges (l : List Rec) : List Rec := l.filter fun r => 16 < r.words.length
/-- the least place of n free words, over large objects that rise -/
def goL (n big : Int) : Int → List Rec → Int × Bool
  | a, [] => (a, decide (n ≤ big - a))
  | a, r :: l => if n ≤ r.place - a then (a, true) else goL n big (r.place + r.words.length) l
theorem larges_snoc (l : List Rec) (r : Rec) : larges (l ++ [r]) = larges l ++ (if 16 < r.words.length then [r] else []) := by
  unfold larges
  rw [List.filter_append]
  by_cases h : 16 < r.words.length <;> simp [h]
theorem drop_at {l : List Rec} {k : Nat} {r : Rec} (h : l[k]? = some r) : l.drop k = r :: l.drop (k + 1) := by
  obtain ⟨hk, e⟩ := List.getElem?_eq_some_iff.1 h
  rw [List.drop_eq_getElem_cons hk, e]
theorem info70 : (Try.prog.info? 70).map (fun i => (i.zero, i.size, i.bytes)) = some (some (.pointer none), 1, 8) := by kernel_rfl

section
variable {base p mb : Nat} {s : St}
def RunPost (s : St) (n : Int) (w : World) (e : Ending) (w' : World) : Prop :=
  ∃ D : List Rec, D.Perm (larges s.recs) ∧ D.Pairwise (fun a b => a.place ≤ b.place) ∧ e = .returned (.tuple #[.int .i64 (goL n s.big 0 D).1, .bool (goL n s.big 0 D).2]) ∧ Below w.heap.size w w'
set_option maxRecDepth 100000 in
theorem run_any (n : Int) (w : World) (h : HeapAt w base p mb s) (F : Fits s) (n0 : 0 ≤ n) (n1 : n ≤ 9223372036854775807) :
    Calls Try.prog 25 #[.pointer (some ⟨p, 0, none⟩), .int .i64 n] w (RunPost s n w) := by
  have c1 : w.cell? ⟨p, 1, none⟩ = some (.int .i64 s.big) := h.hd.cell 1 rfl
  have c4 : w.cell? ⟨p, 4, none⟩ = some (.map (some mb)) := h.hd.cell 4 rfl
  have hcnt := F.cnt
  have hmlt := h.mp.lt
  have hplt := h.hd.lt
  have hkl : (keysOf s.recs).length = s.recs.length := by simp [keysOf]
  have HKL := Lib.hid hkl
  clear hkl
  obtain ⟨i0, hi, hz0, hz1, hz2⟩ := info_parts info70
  go_enter Try.func25, Try.ntmps25
  go_wp2_with (first
    | (at_range; refine wpList_rangeP _ rfl _ 65 rfl 3 70 Try.underlying65 mb (keysOf s.recs) rfl h.mp ?_; intro w0 hr0 hB0 hs0))
  go_frame
  go_loopw [6] (fun v wr => ∃ done, IRange wr mb w.heap.size (keysOf s.recs) done ∧ wr.ownsRow (w.heap.size + 1) 70 1 v (larges (recsOf s.recs done)).length ((larges (recsOf s.recs done)).map (fun r => .pointer (some ⟨r.ob, 0, none⟩))) ∧ done.length ≤ s.recs.length ∧ Below w.heap.size w wr ∧ w.heap.size + 1 ≤ wr.heap.size)
    (fun _ wr => s.recs.length - (wr.iterSeen w.heap.size).size)
  case atStart => exact ⟨[], hr0, World.ownsRow_nil _ _ _ _, Nat.zero_le _, But.below (S := fun _ => False) (hB0 _) (fun _ h => h.elim) (Nat.le_refl _), by omega⟩
  case round =>
    obtain ⟨done, hR, hown, hdl, hBel, hsz⟩ := hrel
    have hH := h.below hBel
    go_wp2_with (first
      | (at_next; refine wpList_nextP _ rfl _ rfl mb w.heap.size (keysOf s.recs) done rfl hR ?_ ?_))
    · intro hperm
      have hpm : (larges (recsOf s.recs done)).Perm (larges s.recs) := (recsOf_perm h.keys hperm).filter _
      have hDm : ∀ r ∈ larges (recsOf s.recs done), r ∈ s.recs := fun r hr => recsOf_mem (List.mem_filter.1 hr).1
      have hDl : (larges (recsOf s.recs done)).length ≤ 131072 := Nat.le_trans (Nat.le_trans (List.length_filter_le _ _) (List.length_filterMap_le _ _)) (by omega)
      generalize larges (recsOf s.recs done) = D at hown hpm hDm hDl
      clear hR hperm hdl
      have HPM := Lib.hid hpm
      have HDM := Lib.hid hDm
      clear hpm hDm
      have b0 := F.big0; have b1 := F.big1
      have d1 : wr.cell? ⟨p, 1, none⟩ = some (.int .i64 s.big) := hH.hd.cell 1 rfl
      rcases Nat.eq_zero_or_pos D.length with h0 | hpos
      · obtain rfl : D = [] := List.eq_nil_of_length_eq_zero h0
        obtain ⟨A9, c9, rfl⟩ : ∃ A c, u6 = .slice A 0 c := by
          rcases hown.2 with ⟨e, _⟩ | ⟨g, cap, cur, e, _⟩
          · exact ⟨none, 0, e⟩
          · exact ⟨some ⟨g, 0, none⟩, cap, e⟩
        have hS := fun W => AnyF.slices_SortFunc_none (P := Try.prog) (ρ := Try.sortL_ren) { Try.sortL with } A9 c9 (.func (.func 36) #[] #[]) W
        change ∀ W, Calls Try.prog 35 _ _ _ at hS
        clear hown h0 hH
        have hw0 : IntKind.i64.wrap (s.big - 0) = s.big - 0 := IntWalk.i64_in _ (by omega)
        go_wp2_with (first | (go_at_call 35; refine (hS _).mono ?_; rintro e w' ⟨rfl, rfl⟩))
        refine wp_loop_rounds 1 ?_
        rw [rounds_succ]
        go_wp2_with fail
        go_quiet (fail)
        clear hw0
        go_wp2
        go_ret2
        exact ⟨[], HPM.out, List.Pairwise.nil, by simp [goL], below_drewN hBel _⟩
      · rcases hown.2 with ⟨_, hn0⟩ | ⟨g, cap, cur, rfl, hg1, hg2, hg3, hg4, hg5, hg6⟩
        · omega
        have hgf : g ∉ p :: mb :: blks s.recs := fun hm => by have := h.lt g hm; omega
        have hS := SortObj wr hH F g cap D HDM.out hpos hDl cur 70 hg2 (by simpa using hg6) (by omega) hgf
        have hcs : D.length ≤ cur.size := by omega
        clear hown hg2 hg4 hg5 hg6 hgf d1
        go_wp2_with (first | (go_at_call 35; refine hS.mono ?_; rintro e w2 ⟨rfl, D', cur', hp', hso, hb', hsz', ht', hB'⟩))
        have hH2 := hH.kept hB' (fun i hi e => by have := h.lt i hi; omega)
        have hBel2 : Below w.heap.size w w2 := hBel.trans (hB'.below (fun i hi => by omega) (by omega))
        have hdl' : D'.length = D.length := hp'.length_eq
        have hcell : ∀ (k : Nat) (r : Rec), D'[k]? = some r → w2.cell? ⟨g, k, none⟩ = some (.pointer (some ⟨r.ob, 0, none⟩)) := by
          intro k r hr
          have hk : k < D.length := by rw [← hdl']; exact (List.getElem?_eq_some_iff.1 hr).1
          have h1 : (cur'.toList.take D.length)[k]? = some (.pointer (some ⟨r.ob, 0, none⟩)) := by rw [ht']; simp [List.getElem?_map, hr]
          rw [List.getElem?_take_of_lt hk, Array.getElem?_toList] at h1
          simp [World.cell?, hb', h1]
        have HC := Lib.hid hcell
        have HDL := Lib.hid hdl'
        have HP := Lib.hid (And.intro hp' hso)
        clear hp' hso hb' hsz' ht' hB' hH hS hcs hBel hcell hdl'
        go_loopw [9, 31] (fun a i wx => ∃ (k : Nat) (av : Int) (q : Nat), i = .int .i64 k ∧ k ≤ D.length ∧ a = .int .i64 av ∧ 0 ≤ av ∧ av ≤ 131072 ∧ Hid (goL n s.big 0 D' = goL n s.big av (D'.drop k)) ∧ wx = w2.drewN q)
          (fun _ i _ => D.length - (intOf i).toNat)
        case atStart => exact ⟨0, 0, 0, rfl, Nat.zero_le _, rfl, Int.le_refl _, by omega, rfl, rfl⟩
        case round =>
          obtain ⟨k, av, q, rfl, hk, rfl, av0, av1, HG, rfl⟩ := hrel
          by_cases hlt : k < D.length
          · obtain ⟨r, hr⟩ : ∃ r, D'[k]? = some r := ⟨_, List.getElem?_eq_getElem (by rw [HDL.out]; exact hlt)⟩
            have hrm : r ∈ s.recs := HDM.out r (HP.out.1.subset (List.mem_of_getElem? hr))
            have hck := HC.out k r hr
            have o0 : w2.cell? ⟨r.ob, 0, none⟩ = some (.slice (some ⟨r.wb, 0, none⟩) r.words.length r.words.length) := (hH2.obs r hrm).cell 0 rfl
            have o1 : w2.cell? ⟨r.ob, 1, none⟩ = some (.int .i64 r.place) := (hH2.obs r hrm).cell 1 rfl
            have hfr := F.recs r hrm
            have hlen := F.len hrm
            have p0 := hfr.2.1; have p1 := hfr.2.2.1
            have hdrop := drop_at hr
            have HDR := Lib.hid hdrop
            clear hdrop hr hfr
            by_cases hfit : n ≤ r.place - av
            · have hd : decide (n ≤ r.place - av) = true := by simpa using hfit
              go_wp2
              go_ret2
              refine ⟨D', HP.out.1.trans HPM.out, HP.out.2, ?_, below_drewN hBel2 _⟩
              rw [HG.out, HDR.out, goL, if_pos hfit]
              rfl
            · have hd : decide (n ≤ r.place - av) = false := by simpa using hfit
              have hw0 : IntKind.i64.wrap (r.place + r.words.length) = r.place + r.words.length := IntWalk.i64_in _ (by omega)
              go_wp2_with fail
              go_quiet (fail)
              clear hw0
              go_wp2
              go_roundw
              case rel => exact ⟨k + 1, r.place + r.words.length, _, by go_num, by omega, rfl, by omega, by omega, by show _ = _; rw [HG.out, HDR.out, goL, if_neg (by omega)], rfl⟩
              case measure => simp [intOf]; omega
          · obtain rfl : k = D.length := by omega
            have d1 : w2.cell? ⟨p, 1, none⟩ = some (.int .i64 s.big) := hH2.hd.cell 1 rfl
            have hw0 : IntKind.i64.wrap (s.big - av) = s.big - av := IntWalk.i64_in _ (by omega)
            have hnil : D'.drop D.length = [] := by rw [← HDL.out, List.drop_length]
            have HNIL := Lib.hid hnil
            clear hnil
            go_wp2_with fail
            go_quiet (fail)
            clear hw0
            go_wp2
            go_ret2
            refine ⟨D', HP.out.1.trans HPM.out, HP.out.2, ?_, below_drewN (below_drewN hBel2 _) _⟩
            rw [HG.out, HNIL.out]
            rfl
    · intro x o w1 hq hlt hR1 hB1 hs1 hen
      obtain ⟨r, hr, hf, hqe⟩ := key_rec h.keys hq
      obtain ⟨rfl, rfl⟩ : x = r.x ∧ o = r.ob := by simpa using hqe
      have hH1 := hH.kept hB1 (fun i hi e => by have := h.lt i hi; omega)
      have hBel1 : Below w.heap.size w w1 := hBel.trans (hB1.below (fun i hi => by omega) (by omega))
      have hsn : larges (recsOf s.recs (done ++ [(r.x, r.ob)])) = larges (recsOf s.recs done) ++ (if 16 < r.words.length then [r] else []) := by rw [recsOf_snoc (q := (r.x, r.ob)) hf, larges_snoc]
      have HSN := Lib.hid hsn
      have HSEEN := Lib.hid (And.intro hR.seen (And.intro hR1.seen (show done.length < s.recs.length by rw [HKL.out] at hlt; exact hlt)))
      have hown1 : w1.ownsRow (w.heap.size + 1) 70 1 u6 (larges (recsOf s.recs done)).length ((larges (recsOf s.recs done)).map (fun r => .pointer (some ⟨r.ob, 0, none⟩))) := by
        refine hown.kept hB1.grown ?_
        rcases hv : u6.ownBlock with _ | k
        · exact .inl rfl
        · exact .inr (fun e => by have := (hown.lt k hv).1; simp only [Option.some.injEq] at e; omega)
      have hdl1 : done.length + 1 ≤ s.recs.length := by rw [HKL.out] at hlt; omega
      have hll : (larges (recsOf s.recs done)).length ≤ done.length := Nat.le_trans (List.length_filter_le _ _) (List.length_filterMap_le _ _)
      have hsz1 : w.heap.size + 1 ≤ w1.heap.size := by omega
      clear hs1 hlt hqe hf hsn hB1 hR hH hBel hown
      by_cases hl : r.words.length ≤ 16
      · go_wp2_with (first | (go_at_call 26; refine (large_no r _ hH1 hr hl).mono ?_; rintro e w' ⟨rfl, rfl⟩))
        go_roundw
        case rel => exact ⟨_, hR1, by rw [HSN.out, if_neg (by omega), List.append_nil]; exact hown1, by simp; omega, hBel1, hsz1⟩
        case measure =>
          have := HSEEN.out
          rw [this.1, this.2.1]; simp; omega
      · have hl' : 16 < r.words.length := by omega
        clear hl
        go_wp2_with (first
          | (go_at_call 26; refine (large_yes r _ hH1 hr hl').mono ?_; rintro e w' ⟨rfl, rfl⟩)
          | (at_builtin; refine wpList_append_own _ rfl _ _ 88 rfl (w.heap.size + 1) 70 i0 (.pointer none) 1 8 Try.underlying88 hi hz0 hz1 hz2 rfl (by decide) _ _ _ rfl (hown1.alloc _) ⟨w1.heap.size, 0, none⟩ 1 1 [.pointer (some ⟨r.ob, 0, none⟩)] rfl rfl ?c1 ?c2 ?c3 ?c4 ?c5 ?_))
        case c1 =>
          intro j u hj
          match j, hj with
          | 0, hj => simp at hj; subst hj; simp [Addr.add]
        case c2 => intro u hu; simp at hu; subst hu; rfl
        case c3 => unfold maxLen; omega
        case c4 => omega
        case c5 => simp; omega
        intro v' w2 hown2 hgrow _
        have hR2 : IRange w2 mb w.heap.size (keysOf s.recs) (done ++ [(r.x, r.ob)]) := by
          refine (hR1.kept (S := fun _ => False) ((But.refl _ _).alloc (.cells #[.pointer (some ⟨r.ob, 0, none⟩)] 70)) (fun h => h) (fun h => h)).kept (S := fun k => u6.ownBlock = some k) (But.of_grown hgrow (fun k hk => Or.inl hk)) ?_ ?_
          · intro e; have := (hown1.lt _ e).1; omega
          · intro e; have := (hown1.lt _ e).1; omega
        have hBel2 : Below w.heap.size w w2 := (hBel1.alloc (by omega) (.cells #[.pointer (some ⟨r.ob, 0, none⟩)] 70)).grown hgrow (by simp; omega) (fun k hk => by have := (hown1.lt _ hk).1; omega)
        have hsz2 : w.heap.size + 1 ≤ w2.heap.size := by have := hgrow.size; simp at this; omega
        have hown3 : w2.ownsRow (w.heap.size + 1) 70 1 v' (larges (recsOf s.recs done) ++ [r]).length ((larges (recsOf s.recs done) ++ [r]).map (fun r => .pointer (some ⟨r.ob, 0, none⟩))) := by simpa using hown2
        clear hown1 hown2 hgrow hR1 hBel1
        go_wp2
        go_roundw
        case rel => exact ⟨_, hR2, by rw [HSN.out, if_pos hl']; exact hown3, by simp; omega, hBel2, hsz2⟩
        case measure =>
          have := HSEEN.out
          have h2 := hR2.seen
          rw [this.1, h2]; simp; omega
end
end Go.Proofs.Ytmamcpaejhjceaa.HP
