/- HeapKeeps: the links. -/
import Derived.Test.YtmamcpaejhjceaaKeeps5
namespace Go.Proofs.Ytmamcpaejhjceaa.HP
open Go.MapKept Go.ChangeMaps Go.RowKit
theorem step4_8 : tail4 8 = (headSeq (tail4 8)).seq (tail4 9) := by kernel_rfl
def SameShape (g : Rec → Rec) : Prop := ∀ r, (g r).x = r.x ∧ (g r).place = r.place ∧ (g r).words.length = r.words.length
theorem sumS_map {g : Rec → Rec} (hg : SameShape g) : ∀ l, sumS (l.map g) = sumS l
  | [] => rfl
  | r :: l => by simp only [List.map_cons, sumS, (hg r).2.2, sumS_map hg l]
theorem sumL_map {g : Rec → Rec} (hg : SameShape g) : ∀ l, sumL (l.map g) = sumL l
  | [] => rfl
  | r :: l => by simp only [List.map_cons, sumL, (hg r).2.2, sumL_map hg l]
theorem stacked_map {g : Rec → Rec} (hg : SameShape g) : ∀ a l, stacked a l → stacked a (l.map g)
  | _, [], _ => trivial
  | a, r :: l, h => by
    simp only [List.map_cons, stacked, (hg r).2.2, (hg r).2.1] at h ⊢
    split
    · rename_i h1; rw [if_pos h1] at h; exact ⟨h.1, stacked_map hg _ l h.2⟩
    · rename_i h1; rw [if_neg h1] at h; exact stacked_map hg _ l h
theorem larges_map {g : Rec → Rec} (hg : SameShape g) : ∀ l, larges (l.map g) = (larges l).map g
  | [] => rfl
  | r :: l => by
    have ih := larges_map hg l
    unfold larges at ih ⊢
    simp only [List.map_cons, List.filter_cons, (hg r).2.2, ih]
    split <;> rfl
theorem Fits.shape {s : St} {g : Rec → Rec} (hg : SameShape g) (F : Fits s) : Fits { s with recs := s.recs.map g } := by
  refine ⟨F.small0, F.small1, F.big0, F.big1, by rw [sumS_map hg]; exact F.topS, F.top1, F.last0, by rw [sumL_map hg]; exact F.bigs, ?_, ?_⟩
  · intro r hr
    obtain ⟨q, hq, rfl⟩ := List.mem_map.1 hr
    rw [(hg q).1, (hg q).2.1, (hg q).2.2]
    exact F.recs q hq
  · rw [List.pairwise_map]
    exact F.rise.imp (fun {a b} h => by rw [(hg a).1, (hg b).1]; exact h)
theorem Lay.shape {s : St} {g : Rec → Rec} (hg : SameShape g) (L : Lay s) : Lay { s with recs := s.recs.map g } := by
  refine ⟨stacked_map hg _ _ L.small, ?_, ?_⟩
  · intro r hr
    obtain ⟨q, hq, rfl⟩ := List.mem_map.1 hr
    rw [(hg q).2.1, (hg q).2.2]
    exact L.inside q hq
  · rw [larges_map hg, List.pairwise_map]
    refine L.apart.imp (fun {a b} h => ?_)
    unfold HP.apart at h ⊢
    rw [(hg a).2.1, (hg b).2.1, (hg a).2.2, (hg b).2.2]
    exact h
theorem setW_shape (x : Int) (i : Nat) (c : Cel) : SameShape (fun r => if r.x = x then { r with words := r.words.set i c } else r) := by
  intro r
  dsimp only
  split <;> simp
theorem Fits.setW {s : St} (F : Fits s) (x : Int) (i : Nat) (c : Cel) : Fits { s with recs := setW s.recs x i c } := F.shape (setW_shape x i c)
theorem Lay.setW {s : St} (L : Lay s) (x : Int) (i : Nat) (c : Cel) : Lay { s with recs := setW s.recs x i c } := L.shape (setW_shape x i c)
theorem Shelved.setW {N : Nat} {s : St} (h : Shelved N s) (x : Int) (i : Nat) (c : Cel) : Shelved N { s with recs := setW s.recs x i c } := by
  refine ⟨by unfold HP.setW; simp [h.cnt], ?_, ?_⟩
  · intro j r hr
    unfold HP.setW at hr
    rw [List.getElem?_map] at hr
    rcases hq : s.recs[j]? with _ | q
    · rw [hq] at hr; cases hr
    · rw [hq] at hr
      obtain rfl := Option.some.inj hr
      rw [(setW_shape x i c q).1]
      exact h.key j q hq
  · intro r hr
    obtain ⟨q, hq, rfl⟩ := List.mem_map.1 hr
    rw [(setW_shape x i c q).2.2]
    exact h.len q hq
theorem Wired.setW {N : Nat} {s : St} (h : Wired N s) (x : Int) (i : Nat) (c : Cel) (hc : c.2 = true → 1 ≤ c.1 ∧ c.1 ≤ N) : Wired N { s with recs := setW s.recs x i c } := by
  intro r hr d hd hb
  obtain ⟨q, hq, rfl⟩ := List.mem_map.1 hr
  split at hd
  · rcases List.mem_or_eq_of_mem_set hd with h1 | h1
    · exact h q hq d h1 hb
    · subst h1; exact hc hb
  · exact h q hq d hd hb
theorem Copy.setW {w : World} {M N : Nat} {f : Nat → Nat} {s : St} {foot : List Nat} (h : Copy w M f s) (O : Owned M f N foot) (Sh : Shelved N s) {i : Nat} (hi : i < N) (k : Nat) (c : Cel) :
    Copy ((w.setCell ⟨f i, k * 2, none⟩ (.int .i64 c.1)).setCell ⟨f i, k * 2 + 1, none⟩ (.bool c.2)) M f { s with recs := setW s.recs ((i : Int) + 1) k c } := by
  have hq : ∀ (j : Nat) (r : Rec), (HP.setW s.recs ((i : Int) + 1) k c)[j]? = some r → ∃ q, s.recs[j]? = some q ∧ j < N ∧ ((j = i ∧ r.words = q.words.set k c) ∨ (j ≠ i ∧ r.words = q.words)) := by
    intro j r hr
    unfold HP.setW at hr
    rw [List.getElem?_map] at hr
    rcases hq : s.recs[j]? with _ | q
    · rw [hq] at hr; cases hr
    · rw [hq] at hr
      have hj : j < N := by rw [← Sh.cnt]; exact (List.getElem?_eq_some_iff.1 hq).1
      have hk := Sh.key j q hq
      obtain rfl := Option.some.inj hr
      refine ⟨q, rfl, hj, ?_⟩
      by_cases e : j = i
      · subst e; left; dsimp only; rw [if_pos hk]; exact ⟨rfl, rfl⟩
      · right; dsimp only; rw [if_neg (by omega)]; exact ⟨e, rfl⟩
  refine ⟨?_, ?_, by simpa using h.size⟩
  · intro j r hr
    obtain ⟨q, h1, h2, h3⟩ := hq j r hr
    have e : r.words.length = q.words.length := by rcases h3 with ⟨_, h3⟩ | ⟨_, h3⟩ <;> simp [h3]
    have hne : M ≠ f i := fun e => (O.out i hi).2 e.symm
    rw [World.cell?_of_block (Below.heap_setCell _ _ _ _ hne), World.cell?_of_block (Below.heap_setCell _ _ _ _ hne), e]
    exact h.cells j q h1
  · intro j r hr
    obtain ⟨q, h1, h2, h3⟩ := hq j r hr
    rcases h3 with ⟨rfl, h3⟩ | ⟨hne, h3⟩
    · rw [h3]; exact cellsOf_put (h.blk j q h1) k c
    · rw [h3]
      have : f j ≠ f i := fun e => hne (O.inj j i h2 hi e)
      exact ((h.blk j q h1).other this _).other this _
/-- all that stands ahead of the links and of the marks -/
structure Stage (w0 w : World) (p mb N M : Nat) (f : Nat → Nat) (s : St) : Prop where
  bel : Below w0.heap.size w0 w
  heap : HeapAt w w0.heap.size p mb s
  fits : Fits s
  lay : Lay s
  area : s.small = 600 ∧ s.big = 900
  shelved : Shelved N s
  copy : Copy w M f s
  own : Owned M f N (p :: mb :: blks s.recs)
  new : w0.heap.size ≤ M ∧ ∀ i, i < N → w0.heap.size ≤ f i
  wired : Wired N s
theorem Stage.mid {w0 w : World} {p mb N M : Nat} {f : Nat → Nat} {s : St} (h : Stage w0 w p mb N M f s) (W : World) (SB : Nat) (hB : Below w.heap.size w W) (hs : SB = w.heap.size) (hr : BRow W SB (List.replicate (N + 1) false)) : Mid w0 W p mb N M SB f s [] (List.replicate (N + 1) false) := by
  subst hs
  have hf : ∀ i, i < N → f i < w.heap.size := fun i hi => by obtain ⟨r, hr⟩ := h.shelved.at hi; exact (h.copy.blk i r hr).lt
  refine ⟨h.bel.trans (hB.mono h.bel.size), h.heap.below hB, h.fits, h.lay, h.area, h.shelved, h.copy.kept (S := fun _ => False) (But.of_below hB) (fun h => h) (fun _ _ h => h), h.own, hr, by simp, fun hm => by have := h.heap.lt _ hm; omega, ⟨fun e => by have := h.copy.size; omega, h.bel.size, fun i hi e => by have := hf i hi; omega⟩, ?_, fun i _ hi => by simp at hi, h.wired, fun x hx => by simp at hx⟩
  intro i hi hs
  rw [List.getElem?_replicate] at hs
  split at hs <;> simp at hs
end Go.Proofs.Ytmamcpaejhjceaa.HP
