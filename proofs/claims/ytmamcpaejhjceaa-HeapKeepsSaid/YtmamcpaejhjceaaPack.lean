/- How objects stand in their areas: plain facts. -/
import Derived.Test.YtmamcpaejhjceaaMark
import Derived.Test.YtmamcpaejhjceaaW5
namespace Go.Proofs.Ytmamcpaejhjceaa.HP

def apart (a b : Rec) : Prop := a.place + a.words.length ≤ b.place ∨ b.place + b.words.length ≤ a.place
/-- the small objects stand one behind the other -/
def stacked : Int → List Rec → Prop
  | _, [] => True
  | a, r :: l => if r.words.length ≤ 16 then r.place = a ∧ stacked (a + r.words.length) l else stacked a l
structure Lay (s : St) : Prop where
  small : stacked 0 s.recs
  inside : ∀ r ∈ s.recs, 16 < r.words.length → 0 ≤ r.place ∧ r.place + r.words.length ≤ s.big
  apart : (larges s.recs).Pairwise apart
/-- rising objects, each behind the last, from a on -/
def chain (big : Int) : Int → List Rec → Prop
  | a, [] => a ≤ big
  | a, r :: l => a ≤ r.place ∧ chain big (r.place + r.words.length) l
def lens : List Rec → Nat
  | [] => 0
  | r :: l => r.words.length + lens l
theorem chain_of {big : Int} : ∀ (a : Int) (D : List Rec), a ≤ big → (∀ r ∈ D, a ≤ r.place ∧ r.place + r.words.length ≤ big ∧ 1 ≤ r.words.length) → D.Pairwise (fun a b => a.place ≤ b.place) → D.Pairwise apart → chain big a D
  | a, [], h, _, _, _ => h
  | a, r :: l, h, hi, hs, hp => by
    obtain ⟨s1, s2⟩ := List.pairwise_cons.1 hs
    obtain ⟨p1, p2⟩ := List.pairwise_cons.1 hp
    have hr := hi r (by simp)
    refine ⟨hr.1, chain_of _ l hr.2.1 (fun q hq => ?_) s2 p2⟩
    have h1 := hi q (by simp [hq])
    have h2 := s1 q hq
    rcases p1 q hq with h3 | h3
    · exact ⟨h3, h1.2⟩
    · omega
theorem chain_lens {big : Int} : ∀ (a : Int) (D : List Rec), chain big a D → a + lens D ≤ big
  | a, [], h => by simp only [lens]; unfold chain at h; omega
  | a, r :: l, h => by
    obtain ⟨h1, h2⟩ := h
    have := chain_lens _ l h2
    simp only [lens]; omega
theorem chain_from {big : Int} : ∀ (a : Int) (D : List Rec), chain big a D → ∀ r ∈ D, a ≤ r.place
  | a, [], _, r, hr => by simp at hr
  | a, q :: l, h, r, hr => by
    obtain ⟨h1, h2⟩ := h
    rcases List.mem_cons.1 hr with rfl | hr
    · exact h1
    · have := chain_from _ l h2 r hr; omega
/-- does an object hit the words from x on? -/
def hits (x n : Int) (r : Rec) : Prop := r.place < x + n ∧ x < r.place + r.words.length
theorem goL_yes {n big : Int} (n1 : 1 ≤ n) : ∀ (a : Int) (D : List Rec), chain big a D → (goL n big a D).2 = true →
    a ≤ (goL n big a D).1 ∧ (goL n big a D).1 + n ≤ big ∧ a + n + lens D ≤ big ∧ (∀ r ∈ D, ¬ hits (goL n big a D).1 n r)
  | a, [], h, hok => by
    simp only [goL, decide_eq_true_eq] at hok ⊢
    simp only [lens]
    exact ⟨Int.le_refl _, by omega, by omega, by simp⟩
  | a, r :: l, h, hok => by
    obtain ⟨h1, h2⟩ := h
    have hl := chain_lens _ l h2
    simp only [goL] at hok ⊢
    by_cases hf : n ≤ r.place - a
    · rw [if_pos hf] at hok ⊢
      refine ⟨Int.le_refl _, by show a + n ≤ big; omega, by simp only [lens]; omega, ?_⟩
      intro q hq
      show ¬ (q.place < a + n ∧ a < q.place + q.words.length)
      rcases List.mem_cons.1 hq with rfl | hq
      · omega
      · have := chain_from _ l h2 q hq; omega
    · rw [if_neg hf] at hok ⊢
      obtain ⟨g1, g2, g3, g4⟩ := goL_yes n1 _ l h2 hok
      refine ⟨by omega, g2, by simp only [lens]; omega, ?_⟩
      intro q hq
      rcases List.mem_cons.1 hq with rfl | hq
      · show ¬ (q.place < (goL n big (q.place + q.words.length) l).1 + n ∧ (goL n big (q.place + q.words.length) l).1 < q.place + q.words.length)
        omega
      · exact g4 q hq
/-- nothing nearer is free; if the answer is no, nothing at all -/
theorem goL_least {n big : Int} (n1 : 1 ≤ n) : ∀ (a : Int) (D : List Rec), chain big a D → ∀ x, a ≤ x → x + n ≤ big → (∀ r ∈ D, ¬ hits x n r) → (goL n big a D).2 = true ∧ (goL n big a D).1 ≤ x
  | a, [], h, x, hx, hb, _ => by
    simp only [goL, decide_eq_true_eq]; omega
  | a, r :: l, h, x, hx, hb, hn => by
    obtain ⟨h1, h2⟩ := h
    simp only [goL]
    by_cases hf : n ≤ r.place - a
    · rw [if_pos hf]; exact ⟨rfl, hx⟩
    · rw [if_neg hf]
      have hr := hn r (by simp)
      unfold hits at hr
      exact goL_least n1 _ l h2 x (by omega) hb (fun q hq => hn q (by simp [hq]))
theorem lens_larges : ∀ l : List Rec, lens (larges l) = sumL l
  | [] => rfl
  | r :: l => by
    have ih := lens_larges l
    unfold larges at *
    by_cases h : 16 < r.words.length
    · rw [List.filter_cons_of_pos (by simpa using h)]
      simp only [lens, sumL, ih, if_neg (show ¬ r.words.length ≤ 16 by omega)]
    · rw [List.filter_cons_of_neg (by simpa using h)]
      simp only [sumL, ih, if_pos (show r.words.length ≤ 16 by omega), Nat.zero_add]
theorem lens_perm {a b : List Rec} (h : a.Perm b) : lens a = lens b := by
  induction h with
  | nil => rfl
  | cons x _ ih => simp only [lens, ih]
  | swap x y l => simp only [lens]; omega
  | trans _ _ h1 h2 => exact h1.trans h2
theorem apart_symm {a b : Rec} (h : apart a b) : apart b a := h.symm
theorem Lay.chain {s : St} (L : Lay s) (F : Fits s) {D : List Rec} (hp : D.Perm (larges s.recs)) (hs : D.Pairwise (fun a b => a.place ≤ b.place)) : chain s.big 0 D := by
  refine chain_of 0 D F.big0 (fun r hr => ?_) hs (hp.pairwise_iff (fun h => apart_symm h) |>.2 L.apart)
  have h1 := hp.subset hr
  have h2 := List.mem_filter.1 h1
  have h3 : 16 < r.words.length := by simpa using h2.2
  have := L.inside r h2.1 h3
  exact ⟨this.1, this.2, by omega⟩
theorem Lay.fresh (a b : Int) : Lay ⟨a, b, 0, 0, []⟩ := ⟨trivial, by simp, List.Pairwise.nil⟩
theorem stacked_append : ∀ (a : Int) (l m : List Rec), stacked a (l ++ m) ↔ stacked a l ∧ stacked (a + sumS l) m
  | a, [], m => by simp [stacked, sumS]
  | a, r :: l, m => by
    simp only [List.cons_append, stacked, sumS]
    by_cases h : r.words.length ≤ 16
    · simp only [h, if_true, stacked_append _ l m, and_assoc]
      rw [show a + ((r.words.length + sumS l : Nat) : Int) = a + r.words.length + sumS l by omega]
    · simp only [h, if_false, stacked_append _ l m, Nat.zero_add]
theorem Lay.push_small {s : St} (L : Lay s) (F : Fits s) (n ob wb : Nat) (h2 : n ≤ 16) : Lay { grown s n s.top ob wb with top := s.top + n } := by
  refine ⟨?_, ?_, ?_⟩
  · show stacked 0 (s.recs ++ [newRec s n s.top ob wb])
    rw [stacked_append]
    refine ⟨L.small, ?_⟩
    have := F.topS
    simp [stacked, newRec, h2]; omega
  · intro r hr hl
    rcases List.mem_append.1 hr with hr | hr
    · exact L.inside r hr hl
    · rw [List.mem_singleton] at hr; subst hr
      simp [newRec] at hl; omega
  · show (larges (s.recs ++ [newRec s n s.top ob wb])).Pairwise HP.apart
    rw [larges_snoc, if_neg (by simp [newRec]; omega), List.append_nil]
    exact L.apart
theorem Lay.push_large {s : St} (L : Lay s) {D : List Rec} (hp : D.Perm (larges s.recs)) (n ob wb : Nat) (pl : Int) (h2 : 16 < n) (p0 : 0 ≤ pl) (p1 : pl + n ≤ s.big) (hn : ∀ r ∈ D, ¬ hits pl n r) : Lay (grown s n pl ob wb) := by
  refine ⟨?_, ?_, ?_⟩
  · show stacked 0 (s.recs ++ [newRec s n pl ob wb])
    rw [stacked_append]
    refine ⟨L.small, ?_⟩
    simp only [stacked, newRec, List.length_replicate]
    rw [if_neg (by omega)]
    trivial
  · intro r hr hl
    rcases List.mem_append.1 hr with hr | hr
    · exact L.inside r hr hl
    · rw [List.mem_singleton] at hr; subst hr
      show 0 ≤ pl ∧ pl + ((List.replicate n ((0, false) : Cel)).length : Int) ≤ s.big
      rw [List.length_replicate]; exact ⟨p0, p1⟩
  · show (larges (s.recs ++ [newRec s n pl ob wb])).Pairwise HP.apart
    rw [larges_snoc, if_pos (by simp [newRec]; omega), List.pairwise_append]
    refine ⟨L.apart, by simp, ?_⟩
    intro a ha b hb
    rw [List.mem_singleton] at hb; subst hb
    have := hn a (hp.symm.subset ha)
    unfold hits at this
    show a.place + a.words.length ≤ pl ∨ pl + ((List.replicate n ((0, false) : Cel)).length : Int) ≤ a.place
    rw [List.length_replicate]; omega
theorem Fits.push_large {s : St} (F : Fits s) (n ob wb : Nat) (pl : Int) (h2 : 16 < n) (p0 : 0 ≤ pl) (p1 : pl + n ≤ s.big) (hs : (n : Int) + sumL s.recs ≤ s.big) : Fits (grown s n pl ob wb) := by
  have b1 := F.big1; have l0 := F.last0
  have e1 : sumS (s.recs ++ [newRec s n pl ob wb]) = sumS s.recs := by rw [sumS_append]; simp [sumS, newRec]; omega
  have e2 : sumL (s.recs ++ [newRec s n pl ob wb]) = sumL s.recs + n := by rw [sumL_append]; simp [sumL, newRec]; omega
  refine ⟨F.small0, F.small1, F.big0, F.big1, ?_, F.top1, ?_, ?_, ?_, ?_⟩
  · show s.top = (sumS (s.recs ++ [newRec s n pl ob wb]) : Nat)
    rw [e1]; exact F.topS
  · show 0 ≤ s.last + 1; omega
  · show ((sumL (s.recs ++ [newRec s n pl ob wb]) : Nat) : Int) ≤ s.big
    rw [e2]; omega
  · intro r hr
    rcases List.mem_append.1 hr with hr | hr
    · have := F.recs r hr
      show _ ∧ _ ∧ _ ∧ _ ∧ r.x ≤ s.last + 1
      omega
    · rw [List.mem_singleton] at hr
      subst hr
      show 1 ≤ (List.replicate n ((0, false) : Cel)).length ∧ 0 ≤ pl ∧ pl ≤ 65536 ∧ 1 ≤ s.last + 1 ∧ s.last + 1 ≤ s.last + 1
      rw [List.length_replicate]
      omega
  · show (s.recs ++ [newRec s n pl ob wb]).Pairwise _
    rw [List.pairwise_append]
    refine ⟨F.rise, by simp, ?_⟩
    intro a ha b hb
    rw [List.mem_singleton] at hb
    subst hb
    have := F.recs a ha
    show a.x < s.last + 1
    omega
/-- behind a collection -/
theorem kept_larges (K : List Int) : ∀ (a : Int) (l : List Rec), larges (kept K a l) = (larges l).filter (fun r => r.x ∈ K)
  | _, [] => rfl
  | a, r :: l => by
    have ih := fun a => kept_larges K a l
    unfold larges at *
    simp only [kept]
    by_cases h1 : r.x ∈ K <;> by_cases h2 : r.words.length ≤ 16
    · have h3 : ¬ 16 < r.words.length := by omega
      simp [h1, h2, h3, ih]
    · have h3 : 16 < r.words.length := by omega
      simp [h1, h2, h3, ih]
    · have h3 : ¬ 16 < r.words.length := by omega
      simp [h1, h3, ih]
    · have h3 : 16 < r.words.length := by omega
      simp [h1, h3, ih]
theorem kept_stacked (K : List Int) : ∀ (a : Int) (l : List Rec), stacked a (kept K a l)
  | _, [] => trivial
  | a, r :: l => by
    simp only [kept]
    by_cases h1 : r.x ∈ K <;> by_cases h2 : r.words.length ≤ 16
    · simp only [h1, h2, if_true, stacked, true_and]; exact kept_stacked K _ l
    · simp only [h1, h2, if_true, if_false, stacked]; exact kept_stacked K _ l
    · simp only [h1, if_false]; exact kept_stacked K _ l
    · simp only [h1, if_false]; exact kept_stacked K _ l
theorem kept_sumS (K : List Int) : ∀ (a : Int) (l : List Rec), sumS (kept K a l) = keptTop K l
  | _, [] => rfl
  | a, r :: l => by
    simp only [kept, keptTop]
    by_cases h1 : r.x ∈ K <;> by_cases h2 : r.words.length ≤ 16 <;> simp [h1, h2, sumS, kept_sumS K _ l]
theorem kept_sumL (K : List Int) : ∀ (a : Int) (l : List Rec), sumL (kept K a l) ≤ sumL l
  | _, [] => Nat.le_refl _
  | a, r :: l => by
    simp only [kept]
    by_cases h1 : r.x ∈ K <;> by_cases h2 : r.words.length ≤ 16
    · have := kept_sumL K (a + r.words.length) l; simp [h1, h2, sumL]; omega
    · have := kept_sumL K a l; simp [h1, h2, sumL]; omega
    · have := kept_sumL K a l; simp [h1, h2, sumL]; omega
    · have := kept_sumL K a l; simp [h1, h2, sumL]; omega
theorem kept_rise (K : List Int) : ∀ (a : Int) (l : List Rec), l.Pairwise (fun a b => a.x < b.x) → (kept K a l).Pairwise (fun a b => a.x < b.x)
  | _, [], _ => List.Pairwise.nil
  | a, r :: l, h => by
    obtain ⟨h1, h2⟩ := List.pairwise_cons.1 h
    have key : ∀ b, ∀ q ∈ kept K b l, r.x < q.x := fun b q hq => by
      obtain ⟨r0, h0, e, _⟩ := kept_mem hq
      rw [e]; exact h1 r0 h0
    simp only [kept]
    split
    · split
      · exact List.pairwise_cons.2 ⟨fun q hq => key _ q hq, kept_rise K _ l h2⟩
      · exact List.pairwise_cons.2 ⟨fun q hq => key _ q hq, kept_rise K _ l h2⟩
    · exact kept_rise K _ l h2
theorem kept_place (K : List Int) : ∀ (a : Int) (l : List Rec), 0 ≤ a → ∀ r ∈ kept K a l, (r.words.length ≤ 16 ∧ a ≤ r.place ∧ r.place + r.words.length ≤ a + keptTop K l) ∨ (16 < r.words.length ∧ r ∈ l)
  | _, [], _, r, h => by simp [kept] at h
  | a, q :: l, a0, r, h => by
    simp only [kept] at h
    simp only [keptTop]
    by_cases h1 : q.x ∈ K <;> by_cases h2 : q.words.length ≤ 16
    · rw [if_pos h1, if_pos h2] at h
      rw [if_pos ⟨h1, h2⟩]
      rcases List.mem_cons.1 h with rfl | h
      · left
        show q.words.length ≤ 16 ∧ a ≤ a ∧ a + (q.words.length : Int) ≤ _
        omega
      · rcases kept_place K _ l (by omega) r h with h3 | h3
        · left; omega
        · right; exact ⟨h3.1, by simp [h3.2]⟩
    · rw [if_pos h1, if_neg h2] at h
      rw [if_neg (fun e => h2 e.2)]
      rcases List.mem_cons.1 h with rfl | h
      · right; exact ⟨by omega, by simp⟩
      · rcases kept_place K _ l a0 r h with h3 | h3
        · left; omega
        · right; exact ⟨h3.1, by simp [h3.2]⟩
    all_goals
      rw [if_neg h1] at h
      rw [if_neg (fun e => h1 e.1)]
      rcases kept_place K _ l a0 r h with h3 | h3
      · left; omega
      · right; exact ⟨h3.1, by simp [h3.2]⟩
theorem Fits.swept {s : St} (F : Fits s) (K : List Int) : Fits { s with top := keptTop K s.recs, recs := kept K 0 s.recs } := by
  have h1 := keptTop_le K s.recs
  have h2 := F.topS; have h3 := F.top1; have h4 := F.small1
  refine ⟨F.small0, F.small1, F.big0, F.big1, ?_, ?_, F.last0, ?_, ?_, kept_rise K 0 _ F.rise⟩
  · show ((keptTop K s.recs : Nat) : Int) = (sumS (kept K 0 s.recs) : Nat)
    rw [kept_sumS]
  · show ((keptTop K s.recs : Nat) : Int) ≤ s.small; omega
  · show ((sumL (kept K 0 s.recs) : Nat) : Int) ≤ s.big
    have := kept_sumL K 0 s.recs; have := F.bigs; omega
  · intro r hr
    obtain ⟨r0, h0, e1, e2, _⟩ := kept_mem hr
    have := F.recs r0 h0
    rw [e1, e2]
    refine ⟨this.1, ?_, ?_, this.2.2.2.1, this.2.2.2.2⟩
    · rcases kept_place K 0 s.recs (Int.le_refl _) r hr with h5 | h5
      · omega
      · exact (F.recs r h5.2).2.1
    · rcases kept_place K 0 s.recs (Int.le_refl _) r hr with h5 | h5
      · omega
      · exact (F.recs r h5.2).2.2.1
theorem Lay.swept {s : St} (L : Lay s) (K : List Int) : Lay { s with top := keptTop K s.recs, recs := kept K 0 s.recs } := by
  refine ⟨kept_stacked K 0 s.recs, ?_, ?_⟩
  · intro r hr hl
    rcases kept_place K 0 s.recs (Int.le_refl _) r hr with h5 | h5
    · omega
    · exact L.inside r h5.2 hl
  · show (larges (kept K 0 s.recs)).Pairwise HP.apart
    rw [kept_larges]
    exact L.apart.filter _
theorem stacked_bound : ∀ (a : Int) (l : List Rec), stacked a l → ∀ r ∈ l, r.words.length ≤ 16 → a ≤ r.place ∧ r.place + r.words.length ≤ a + sumS l
  | a, [], _, r, hr, _ => by simp at hr
  | a, q :: l, h, r, hr, hl => by
    simp only [stacked] at h
    simp only [sumS]
    by_cases hq : q.words.length ≤ 16
    · rw [if_pos hq] at h ⊢
      rcases List.mem_cons.1 hr with rfl | hr
      · omega
      · have := stacked_bound _ l h.2 r hr hl; omega
    · rw [if_neg hq] at h ⊢
      rcases List.mem_cons.1 hr with rfl | hr
      · omega
      · have := stacked_bound _ l h r hr hl; omega
theorem stacked_apart : ∀ (a : Int) (l : List Rec), stacked a l → l.Pairwise (fun r q => r.words.length ≤ 16 → q.words.length ≤ 16 → apart r q)
  | a, [], _ => List.Pairwise.nil
  | a, q :: l, h => by
    simp only [stacked] at h
    by_cases hq : q.words.length ≤ 16
    · rw [if_pos hq] at h
      refine List.pairwise_cons.2 ⟨fun r hr _ hl => ?_, stacked_apart _ l h.2⟩
      have := stacked_bound _ l h.2 r hr hl
      left; omega
    · rw [if_neg hq] at h
      exact List.pairwise_cons.2 ⟨fun r hr h1 _ => absurd h1 hq, stacked_apart _ l h⟩
/-- two objects of one area don't overlap -/
theorem Lay.two {s : St} (L : Lay s) {a b : Rec} (ha : a ∈ s.recs) (hb : b ∈ s.recs) (hne : a.x ≠ b.x) (harea : a.words.length ≤ 16 ↔ b.words.length ≤ 16) : HP.apart a b := by
  have key : ∀ l : List Rec, l.Pairwise (fun r q => r.words.length ≤ 16 → q.words.length ≤ 16 → HP.apart r q) → a ∈ l → b ∈ l → a.words.length ≤ 16 → b.words.length ≤ 16 → HP.apart a b := by
    intro l
    induction l with
    | nil => intro _ h; simp at h
    | cons q l ih =>
      intro h h1 h2 h3 h4
      obtain ⟨p1, p2⟩ := List.pairwise_cons.1 h
      rcases List.mem_cons.1 h1 with e1 | h1' <;> rcases List.mem_cons.1 h2 with e2 | h2'
      · exact absurd (by rw [e1, e2]) hne
      · subst e1; exact p1 b h2' h3 h4
      · subst e2; exact apart_symm (p1 a h1' h4 h3)
      · exact ih p2 h1' h2' h3 h4
  have key2 : ∀ l : List Rec, l.Pairwise HP.apart → a ∈ l → b ∈ l → HP.apart a b := by
    intro l
    induction l with
    | nil => intro _ h; simp at h
    | cons q l ih =>
      intro h h1 h2
      obtain ⟨p1, p2⟩ := List.pairwise_cons.1 h
      rcases List.mem_cons.1 h1 with e1 | h1' <;> rcases List.mem_cons.1 h2 with e2 | h2'
      · exact absurd (by rw [e1, e2]) hne
      · subst e1; exact p1 b h2'
      · subst e2; exact apart_symm (p1 a h1')
      · exact ih p2 h1' h2'
  by_cases hl : a.words.length ≤ 16
  · exact key s.recs (stacked_apart 0 _ L.small) ha hb hl (harea.1 hl)
  · have hl2 : ¬ b.words.length ≤ 16 := fun h => hl (harea.2 h)
    exact key2 _ L.apart (List.mem_filter.2 ⟨ha, by simp; omega⟩) (List.mem_filter.2 ⟨hb, by simp; omega⟩)
end Go.Proofs.Ytmamcpaejhjceaa.HP
