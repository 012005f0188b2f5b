/- HeapKeeps: what can be reached, round by round. -/
import Derived.Test.YtmamcpaejhjceaaKeeps2
namespace Go.Proofs.Ytmamcpaejhjceaa.HP
open Go.MapKept Go.ChangeMaps Go.RowKit
theorem step4_12 : tail4 12 = (headSeq (tail4 12)).seq (tail4 13) := by kernel_rfl
def Sound (N : Nat) (s : St) (zs : List Int) (st : List Bool) : Prop := ∀ i, i < N → st[i + 1]? = some true → Reach s.recs zs ((i : Int) + 1)
def Base (N : Nat) (zs : List Int) (st : List Bool) : Prop := ∀ i : Nat, i < N → (i : Int) + 1 ∈ zs → st[i + 1]? = some true
/-- the first k words' handles are marked -/
def Done (st : List Bool) (r : Rec) (k : Nat) : Prop := ∀ (j : Nat) (y : Int), j < k → r.words[j]? = some ((y, true) : Int × Bool) → st[y.toNat]? = some true
def Closed (N : Nat) (s : St) (st : List Bool) : Prop := ∀ i r, i < N → s.recs[i]? = some r → st[i + 1]? = some true → Done st r r.words.length
def More (a b : List Bool) : Prop := ∀ i : Nat, a[i]? = some true → b[i]? = some true
structure Rnd (N : Nat) (s : St) (zs : List Int) (a b : List Bool) (x : Nat) : Prop where
  len : b.length = N + 1
  more : More a b
  sound : Sound N s zs b
  still : Closed N s a → b = a
  done : ∀ i r, i + 1 < x → s.recs[i]? = some r → a[i + 1]? = some true → Done b r r.words.length
theorem More.refl (a : List Bool) : More a a := fun _ h => h
theorem More.set {a b : List Bool} (h : More a b) (k : Nat) : More a (b.set k true) := by
  intro i hi
  have := h i hi
  by_cases e : k = i
  · subst e
    have hl : k < b.length := (List.getElem?_eq_some_iff.1 this).1
    simp [hl]
  · rw [List.getElem?_set_ne e]; exact this
theorem Done.more {a b : List Bool} {r : Rec} {k : Nat} (h : Done a r k) (hm : More a b) : Done b r k := fun j y hj hy => hm _ (h j y hj hy)
theorem mem_refs {r : Rec} {y : Int} : y ∈ refs r ↔ ∃ j : Nat, r.words[j]? = some ((y, true) : Int × Bool) := by
  unfold refs
  rw [List.mem_map]
  constructor
  · rintro ⟨⟨n, b⟩, hm, rfl⟩
    obtain ⟨h1, h2⟩ := List.mem_filter.1 hm
    obtain ⟨j, hj⟩ := List.getElem?_of_mem h1
    simp at h2
    exact ⟨j, by rw [hj, h2]⟩
  · rintro ⟨j, hj⟩
    exact ⟨(y, true), List.mem_filter.2 ⟨List.mem_of_getElem? hj, rfl⟩, rfl⟩
/-- one handle more is marked -/
theorem Rnd.mark {N : Nat} {s : St} {zs : List Int} {a b : List Bool} {x : Nat} (h : Rnd N s zs a b x) (Sh : Shelved N s) (hk : s.recs.Pairwise (fun a b => a.x ≠ b.x)) {i j y : Nat} {r : Rec} (hi : i < N) (hr : s.recs[i]? = some r) (hb : b[i + 1]? = some true) (hj : r.words[j]? = some ((y : Int), true)) (hy1 : 1 ≤ y) (hy : y ≤ N) :
    Rnd N s zs a (b.set y true) x := by
  have hR := h.sound i hi hb
  have hf := Sh.find hk hr
  obtain ⟨q, hq⟩ := Sh.at (show y - 1 < N by omega)
  have hfq := Sh.find hk hq
  have ey : ((y - 1 : Nat) : Int) + 1 = (y : Int) := by omega
  rw [ey] at hfq
  have hRy : Reach s.recs zs (y : Int) := .step hR hf (mem_refs.2 ⟨j, hj⟩) hfq
  refine ⟨by simp [h.len], h.more.set y, ?_, ?_, fun i' r' h1 h2 h3 => (h.done i' r' h1 h2 h3).more ((More.refl b).set y)⟩
  · intro i' hi' hs
    by_cases e : y = i' + 1
    · rw [show (i' : Int) + 1 = (y : Int) by omega]; exact hRy
    · rw [List.getElem?_set_ne e] at hs; exact h.sound i' hi' hs
  · intro hc
    have e := h.still hc
    subst e
    have := hc i r hi hr hb j y (List.getElem?_eq_some_iff.1 hj).1 hj
    rw [Int.toNat_natCast] at this
    obtain ⟨h1, h2⟩ := List.getElem?_eq_some_iff.1 this
    apply List.ext_getElem?
    intro k
    by_cases e : y = k
    · subst e; simp [h1, h2]
    · rw [List.getElem?_set_ne e]
theorem count_more : ∀ {a b : List Bool}, a.length = b.length → More a b → a ≠ b → a.count true < b.count true
  | [], [], _, _, h => absurd rfl h
  | [], _ :: _, h, _, _ => by simp at h
  | _ :: _, [], h, _, _ => by simp at h
  | x :: a, y :: b, hl, hm, hne => by
    have hm' : More a b := fun i hi => by have := hm (i + 1) (by simpa using hi); simpa using this
    have h0 := hm 0
    simp only [List.length_cons, Nat.add_right_cancel_iff] at hl
    by_cases e : a = b
    · subst e
      have hxy : x ≠ y := fun e => hne (by rw [e])
      cases x <;> cases y <;> simp_all
    · have ih := count_more hl hm' e
      cases x <;> cases y <;> simp_all <;> omega
theorem count_le (a : List Bool) : a.count true ≤ a.length := List.count_le_length
theorem all_true {a : List Bool} (h : a.length ≤ a.count true) (i : Nat) (hi : i < a.length) : a[i]? = some true := by
  have e : a.count true = a.length := by have := count_le a; omega
  rw [List.count_eq_length] at e
  rw [List.getElem?_eq_getElem hi]
  exact congrArg some (e _ (List.getElem_mem hi)).symm
/-- a round that is over -/
theorem Rnd.next {N : Nat} {s : St} {zs : List Int} {a b : List Bool} {t : Nat} (h : Rnd N s zs a b (N + 1)) (ha : a.length = N + 1) (hJ : Closed N s a ∨ t < a.count true) : Closed N s b ∨ t + 1 < b.count true := by
  by_cases hc : Closed N s a
  · left; rw [h.still hc]; exact hc
  · rcases hJ with h1 | h1
    · exact absurd h1 hc
    · right
      have hne : a ≠ b := by
        rintro rfl
        exact hc (fun i r hi hr hs => h.done i r (by omega) hr hs)
      have := count_more (by rw [ha, h.len]) h.more hne
      omega
theorem closed_all {N : Nat} {s : St} {st : List Bool} (W : Wired N s) (hl : st.length = N + 1) (h : N < st.count true) : Closed N s st := by
  intro i r hi hr hs j y hj hy
  have := W r (List.mem_of_getElem? hr) (y, true) (List.mem_of_getElem? hy) rfl
  exact all_true (by rw [hl]; omega) _ (by simp only at this; omega)
theorem closed_none {N : Nat} {s : St} {st : List Bool} (h : st.count true = 0) : Closed N s st := by
  intro i r hi hr hs
  have : true ∈ st := List.mem_of_getElem? hs
  rw [List.count_eq_zero] at h
  exact absurd this h
theorem closed_reach {N : Nat} {s : St} {zs : List Int} {st : List Bool} (Sh : Shelved N s) (hk : s.recs.Pairwise (fun a b => a.x ≠ b.x)) (W : Wired N s) (hc : Closed N s st) (hb : Base N zs st) (x : Int) (hR : Reach s.recs zs x) : ∃ i, i < N ∧ x = (i : Int) + 1 ∧ st[i + 1]? = some true := by
  have key : ∀ (x : Int) (r : Rec), find s.recs x = some r → ∃ i, i < N ∧ x = (i : Int) + 1 ∧ s.recs[i]? = some r := by
    intro x r hf
    obtain ⟨h1, h2⟩ := find_mem hf
    obtain ⟨i, hi⟩ := List.getElem?_of_mem h1
    exact ⟨i, by rw [← Sh.cnt]; exact (List.getElem?_eq_some_iff.1 hi).1, by rw [← h2]; exact Sh.key i r hi, hi⟩
  induction hR with
  | root hx hr =>
    obtain ⟨i, h1, h2, _⟩ := key _ _ hr
    exact ⟨i, h1, h2, hb i h1 (by rw [← h2]; exact hx)⟩
  | step _ hr hy hq ih =>
    obtain ⟨i, h1, h2, h3⟩ := key _ _ hr
    obtain ⟨i', h1', h2', h3'⟩ := ih
    obtain rfl : i = i' := by omega
    obtain ⟨j, hj⟩ := mem_refs.1 hy
    obtain ⟨m, m1, m2, _⟩ := key _ _ hq
    have := hc i _ h1 h3 h3' j _ (List.getElem?_eq_some_iff.1 hj).1 hj
    refine ⟨m, m1, m2, ?_⟩
    rw [m2] at this
    rwa [show ((m : Int) + 1).toNat = m + 1 by omega] at this
/-- all that stands ahead of the rounds -/
structure Mid (w0 w : World) (p mb N M SB : Nat) (f : Nat → Nat) (s : St) (zs : List Int) (st : List Bool) : Prop where
  bel : Below w0.heap.size w0 w
  heap : HeapAt w w0.heap.size p mb s
  fits : Fits s
  lay : Lay s
  area : s.small = 600 ∧ s.big = 900
  shelved : Shelved N s
  copy : Copy w M f s
  own : Owned M f N (p :: mb :: blks s.recs)
  row : BRow w SB st
  rowl : st.length = N + 1
  sbo : SB ∉ p :: mb :: blks s.recs
  sbm : SB ≠ M ∧ w0.heap.size ≤ SB ∧ ∀ i, i < N → f i ≠ SB
  sound : Sound N s zs st
  base : Base N zs st
  wired : Wired N s
  good : ∀ x ∈ zs, ¬ badRoot s.recs x
/-- a further world with a further row -/
theorem Mid.turn {w0 w W : World} {p mb N M SB : Nat} {f : Nat → Nat} {s : St} {zs : List Int} {st b : List Bool} (h : Mid w0 w p mb N M SB f s zs st) (hB : But (fun k => k = SB) w W) (hr : BRow W SB b) (hl : b.length = N + 1) (hs : Sound N s zs b) (hb : Base N zs b) : Mid w0 W p mb N M SB f s zs b :=
  ⟨h.bel.trans (hB.below (fun i hi => by rw [hi]; exact h.sbm.2.1) h.bel.size), h.heap.kept hB (fun i hi e => by subst e; exact h.sbo hi), h.fits, h.lay, h.area, h.shelved, h.copy.kept hB (fun e => h.sbm.1 e.symm) (fun i hi e => h.sbm.2.2 i (by rw [h.shelved.cnt] at hi; exact hi) e), h.own, hr, hl, h.sbo, h.sbm, hs, hb, h.wired, h.good⟩
theorem Mid.before {w0 w : World} {p mb N M SB : Nat} {f : Nat → Nat} {s : St} {zs : List Int} {st : List Bool} (h : Mid w0 w p mb N M SB f s zs st) (hc : Closed N s st) : Before w0 w p mb N M SB f s zs st := by
  refine ⟨h.bel, h.heap, h.fits, h.lay, h.area, h.shelved, h.copy, h.own, h.row, h.rowl, h.sbo, ?_, h.good⟩
  intro i hi
  refine ⟨_, List.getElem?_eq_getElem (by rw [h.rowl]; omega), ?_⟩
  constructor
  · intro hv
    exact h.sound i hi (by rw [List.getElem?_eq_getElem (by rw [h.rowl]; omega), hv])
  · intro hR
    obtain ⟨j, h1, h2, h3⟩ := closed_reach h.shelved h.fits.ne h.wired hc h.base _ hR
    obtain rfl : i = j := by omega
    exact (List.getElem?_eq_some_iff.1 h3).2
end Go.Proofs.Ytmamcpaejhjceaa.HP
