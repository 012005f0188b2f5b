/- The marks and the sweep, as plain data; striking an object out and moving one, in the world. -/
import Derived.Test.YtmamcpaejhjceaaW2
namespace Go.Proofs.Ytmamcpaejhjceaa.HP
open Go.MapKept Go.ChangeMaps Go.RowKit

/-- the handles that an object's words bear -/
def refs (r : Rec) : List Int := (r.words.filter (·.2)).map (·.1)
inductive Reach (l : List Rec) (roots : List Int) : Int → Prop
  | root {x : Int} {r : Rec} : x ∈ roots → find l x = some r → Reach l roots x
  | step {x y : Int} {r q : Rec} : Reach l roots x → find l x = some r → y ∈ refs r → find l y = some q → Reach l roots y
/-- the marking under way: K: what stays; W: what is to be looked at -/
structure Mark (l : List Rec) (roots K W : List Int) : Prop where
  sound : ∀ x ∈ K, Reach l roots x
  work : ∀ x ∈ W, ∀ r, find l x = some r → Reach l roots x
  root : ∀ x ∈ roots, ∀ r, find l x = some r → x ∈ K ∨ x ∈ W
  closed : ∀ x ∈ K, ∀ r, find l x = some r → ∀ y ∈ refs r, ∀ q, find l y = some q → y ∈ K ∨ y ∈ W
theorem Mark.start (l : List Rec) (roots : List Int) : Mark l roots [] roots := ⟨by simp, fun x hx r hr => .root hx hr, fun x hx _ _ => .inr hx, by simp⟩
theorem Mark.drop {l : List Rec} {roots K W : List Int} {x : Int} (h : Mark l roots K (W ++ [x])) (hx : find l x = none ∨ x ∈ K) : Mark l roots K W := by
  have key : ∀ y, (y ∈ K ∨ y ∈ W ++ [x]) → ∀ q, find l y = some q → y ∈ K ∨ y ∈ W := by
    intro y hy q hq
    rcases hy with hy | hy
    · exact .inl hy
    · rcases List.mem_append.1 hy with hy | hy
      · exact .inr hy
      · rw [List.mem_singleton] at hy
        subst hy
        rcases hx with hx | hx
        · rw [hx] at hq; cases hq
        · exact .inl hx
  exact ⟨h.sound, fun y hy => h.work y (by simp [hy]), fun y hy q hq => key y (h.root y hy q hq) q hq, fun y hy r hr z hz q hq => key z (h.closed y hy r hr z hz q hq) q hq⟩
theorem Mark.take {l : List Rec} {roots K W : List Int} {x : Int} {r : Rec} (h : Mark l roots K (W ++ [x])) (hx : find l x = some r) : Mark l roots (K ++ [x]) (W ++ refs r) := by
  have hR := h.work x (by simp) r hx
  have key : ∀ y, (y ∈ K ∨ y ∈ W ++ [x]) → y ∈ K ++ [x] ∨ y ∈ W ++ refs r := by
    intro y hy
    rcases hy with hy | hy
    · exact .inl (by simp [hy])
    · rcases List.mem_append.1 hy with hy | hy
      · exact .inr (by simp [hy])
      · exact .inl (by simp [List.mem_singleton.1 hy])
  refine ⟨?_, ?_, fun y hy q hq => key y (h.root y hy q hq), ?_⟩
  · intro y hy
    rcases List.mem_append.1 hy with hy | hy
    · exact h.sound y hy
    · rw [List.mem_singleton.1 hy]; exact hR
  · intro y hy q hq
    rcases List.mem_append.1 hy with hy | hy
    · exact h.work y (by simp [hy]) q hq
    · exact .step hR hx hy hq
  · intro y hy r' hr' z hz q hq
    rcases List.mem_append.1 hy with hy | hy
    · exact key z (h.closed y hy r' hr' z hz q hq)
    · rw [List.mem_singleton.1 hy, hx] at hr'
      obtain rfl := Option.some.inj hr'
      exact .inr (by simp [hz])
theorem Mark.done {l : List Rec} {roots K : List Int} (h : Mark l roots K []) (x : Int) : x ∈ K ↔ Reach l roots x := by
  refine ⟨h.sound x, fun hR => ?_⟩
  induction hR with
  | root hx hr => rcases h.root _ hx _ hr with h1 | h1; exact h1; simp at h1
  | step _ hr hy hq ih => rcases h.closed _ ih _ hr _ hy _ hq with h1 | h1; exact h1; simp at h1
theorem Reach.has {l : List Rec} {roots : List Int} {x : Int} (h : Reach l roots x) : ∃ r, find l x = some r := by
  cases h with
  | root _ hr => exact ⟨_, hr⟩
  | step _ _ _ hq => exact ⟨_, hq⟩

/-- how much is still to be marked -/
def rest (K : List Int) : List Rec → Nat
  | [] => 0
  | r :: l => (if r.x ∈ K then 0 else r.words.length + 1) + rest K l
theorem rest_same (K : List Int) (x : Int) : ∀ l : List Rec, (∀ r ∈ l, r.x ≠ x) → rest (K ++ [x]) l = rest K l
  | [], _ => rfl
  | a :: l, h => by
    have h1 := h a (by simp)
    have : (a.x ∈ K ++ [x]) ↔ a.x ∈ K := by simp [h1]
    simp only [rest, this, rest_same K x l (fun r hr => h r (by simp [hr]))]
theorem rest_take {l : List Rec} (hk : l.Pairwise (fun a b => a.x ≠ b.x)) {K : List Int} {x : Int} {r : Rec} (hf : find l x = some r) (hx : x ∉ K) : rest K l = r.words.length + 1 + rest (K ++ [x]) l := by
  obtain ⟨hr, rfl⟩ := find_mem hf
  clear hf
  induction l with
  | nil => simp at hr
  | cons a l ih =>
    obtain ⟨h1, h2⟩ := List.pairwise_cons.1 hk
    rcases List.mem_cons.1 hr with rfl | hr'
    · have e := rest_same K r.x l (fun q hq => (h1 q hq).symm)
      simp only [rest, e, if_neg hx]
      rw [if_pos (by simp)]
      omega
    · have hne := h1 r hr'
      have : (a.x ∈ K ++ [r.x]) ↔ a.x ∈ K := by simp [hne]
      simp only [rest, this]
      have := ih h2 hr'
      omega
/-- .. of the first j words -/
def refsTo (r : Rec) (j : Nat) : List Int := ((r.words.take j).filter (·.2)).map (·.1)
theorem refsTo_zero (r : Rec) : refsTo r 0 = [] := rfl
theorem refsTo_all (r : Rec) : refsTo r r.words.length = refs r := by unfold refsTo refs; rw [List.take_length]
theorem refsTo_len (r : Rec) (j : Nat) : (refsTo r j).length ≤ j := by
  unfold refsTo; rw [List.length_map]; exact Nat.le_trans (List.length_filter_le _ _) (List.length_take_le _ _)
theorem refsTo_succ (r : Rec) (j : Nat) (n : Int) (b : Bool) (h : r.words[j]? = some (n, b)) : refsTo r (j + 1) = refsTo r j ++ (if b then [n] else []) := by
  obtain ⟨hj, e⟩ := List.getElem?_eq_some_iff.1 h
  unfold refsTo
  rw [List.take_succ_eq_append_getElem hj, e, List.filter_append, List.map_append]
  cases b <;> rfl
theorem refs_len (r : Rec) : (refs r).length ≤ r.words.length := by unfold refs; rw [List.length_map]; exact List.length_filter_le _ _

/-- what stays, small objects moved together from 'at' on -/
def kept (K : List Int) : Int → List Rec → List Rec
  | _, [] => []
  | a, r :: l => if r.x ∈ K then (if r.words.length ≤ 16 then { r with place := a } :: kept K (a + r.words.length) l else r :: kept K a l) else kept K a l
def freed (K : List Int) : List Rec → Nat
  | [] => 0
  | r :: l => (if r.x ∈ K then 0 else r.words.length) + freed K l
/-- where the next small object would stand -/
def keptTop (K : List Int) : List Rec → Nat
  | [] => 0
  | r :: l => (if r.x ∈ K ∧ r.words.length ≤ 16 then r.words.length else 0) + keptTop K l
theorem kept_append (K : List Int) : ∀ (a : Int) (l m : List Rec), kept K a (l ++ m) = kept K a l ++ kept K (a + keptTop K l) m
  | a, [], m => by simp [kept, keptTop]
  | a, r :: l, m => by
    simp only [List.cons_append, kept, keptTop]
    by_cases h1 : r.x ∈ K <;> by_cases h2 : r.words.length ≤ 16
    · simp only [h1, h2, if_true, and_self, kept_append K _ l m, List.cons_append]
      rw [show a + (r.words.length : Int) + keptTop K l = a + ((r.words.length + keptTop K l : Nat) : Int) by omega]
    · simp only [h1, h2, if_true, if_false, and_false, kept_append K _ l m, List.cons_append, Nat.zero_add]
    · simp only [h1, if_false, false_and, kept_append K _ l m, Nat.zero_add]
    · simp only [h1, if_false, false_and, kept_append K _ l m, Nat.zero_add]
theorem freed_append (K : List Int) : ∀ (l m : List Rec), freed K (l ++ m) = freed K l + freed K m
  | [], m => by simp [freed]
  | r :: l, m => by simp only [List.cons_append, freed, freed_append K l m]; omega
theorem keptTop_append (K : List Int) : ∀ (l m : List Rec), keptTop K (l ++ m) = keptTop K l + keptTop K m
  | [], m => by simp [keptTop]
  | r :: l, m => by simp only [List.cons_append, keptTop, keptTop_append K l m]; omega
theorem keptTop_le (K : List Int) : ∀ l : List Rec, keptTop K l ≤ sumS l
  | [] => Nat.le_refl _
  | r :: l => by
    have := keptTop_le K l
    simp only [keptTop, sumS]
    by_cases h1 : r.x ∈ K <;> by_cases h2 : r.words.length ≤ 16 <;> simp only [h1, h2, if_true, if_false, and_self, and_false, false_and] <;> omega
theorem freed_le (K : List Int) : ∀ l : List Rec, freed K l ≤ sumS l + sumL l
  | [] => Nat.le_refl _
  | r :: l => by
    have := freed_le K l
    simp only [freed, sumS, sumL]
    by_cases h1 : r.x ∈ K <;> by_cases h2 : r.words.length ≤ 16 <;> simp only [h1, h2, if_true, if_false] <;> omega
theorem kept_mem {K : List Int} {r : Rec} : ∀ {a : Int} {l : List Rec}, r ∈ kept K a l → ∃ r0 ∈ l, r.x = r0.x ∧ r.words = r0.words ∧ r.ob = r0.ob ∧ r.wb = r0.wb ∧ r0.x ∈ K
  | a, [], h => by simp [kept] at h
  | a, q :: l, h => by
    simp only [kept] at h
    split at h
    · rename_i hq
      split at h
      · rcases List.mem_cons.1 h with rfl | h
        · exact ⟨q, by simp, rfl, rfl, rfl, rfl, hq⟩
        · obtain ⟨r0, h0, h1⟩ := kept_mem h
          exact ⟨r0, by simp [h0], h1⟩
      · rcases List.mem_cons.1 h with rfl | h
        · exact ⟨r, by simp, rfl, rfl, rfl, rfl, hq⟩
        · obtain ⟨r0, h0, h1⟩ := kept_mem h
          exact ⟨r0, by simp [h0], h1⟩
    · obtain ⟨r0, h0, h1⟩ := kept_mem h
      exact ⟨r0, by simp [h0], h1⟩

section
variable {w w' : World} {base p mb : Nat} {s : St}
theorem blks_filter (f : Rec → Bool) : ∀ l : List Rec, (blks (l.filter f)).Sublist (blks l)
  | [] => List.Sublist.refl _
  | r :: l => by
    have ih := blks_filter f l
    have e : ∀ m, blks (r :: m) = [r.ob, r.wb] ++ blks m := fun _ => rfl
    by_cases h : f r = true
    · rw [List.filter_cons_of_pos h, e, e]; exact List.Sublist.append_left ih _
    · rw [List.filter_cons_of_neg h, e]; exact ih.trans (List.sublist_append_right _ _)
/-- the object at x struck out -/
def without (x : Int) (l : List Rec) : List Rec := l.filter fun r => r.x != x
theorem keys_without (x : Int) (l : List Rec) : keysOf (without x l) = (keysOf l).filter (fun p => p.1 != x) := by
  unfold keysOf without
  rw [List.filter_map]; rfl
theorem HeapAt.strike (h : HeapAt w base p mb s) (x : Int) (hB : But (fun i => i = mb) w w') (hm : IMap encP w' mb ((keysOf s.recs).filter (fun p => p.1 != x))) : HeapAt w' base p mb { s with recs := without x s.recs } := by
  have hsub := blks_filter (fun r => r.x != x) s.recs
  have hmem : ∀ r ∈ without x s.recs, r ∈ s.recs := fun r hr => (List.mem_filter.1 hr).1
  refine ⟨List.Nodup.sublist (List.Sublist.cons_cons p (List.Sublist.cons_cons mb hsub)) h.own, fun i hi => h.low i ?_, h.hd.kept hB h.p_mb, by show IMap encP w' mb (keysOf (without x s.recs)); rw [keys_without]; exact hm, fun r hr => (h.obs r (hmem r hr)).kept hB (h.not_p (hmem r hr)).2.2.1, fun r hr => (h.wds r (hmem r hr)).kept hB (h.not_p (hmem r hr)).2.2.2⟩
  exact (List.Sublist.cons_cons p (List.Sublist.cons_cons mb hsub)).subset hi
/-- the object at x stands at place n -/
def setP (x n : Int) (l : List Rec) : List Rec := l.map fun r => if r.x = x then { r with place := n } else r
theorem setP_blks (x n : Int) (l : List Rec) : blks (setP x n l) = blks l := by
  unfold blks setP
  rw [List.flatMap_map]
  congr 1
  funext r
  split <;> rfl
theorem setP_keys (x n : Int) (l : List Rec) : keysOf (setP x n l) = keysOf l := by
  unfold keysOf setP
  rw [List.map_map]
  congr 1
  funext r
  simp only [Function.comp]
  split <;> rfl
theorem HeapAt.setP (h : HeapAt w base p mb s) {x : Int} {r : Rec} (hf : find s.recs x = some r) (n : Int) :
    HeapAt (w.setCell ⟨r.ob, 1, none⟩ (.int .i64 n)) base p mb { s with recs := setP x n s.recs } := by
  obtain ⟨hr, rfl⟩ := find_mem hf
  have hn := h.not_p hr
  refine ⟨by rw [setP_blks]; exact h.own, by rw [setP_blks]; exact h.low, h.hd.other hn.1.symm _, ?_, ?_, ?_⟩
  · rw [setP_keys]
    exact h.mp.of_block (Below.heap_setCell _ _ _ _ hn.2.2.1.symm)
  · intro r1 h1
    obtain ⟨r0, h0, rfl⟩ := List.mem_map.1 h1
    by_cases e : r0.x = r.x
    · rw [if_pos e]
      obtain rfl : r0 = r := by
        have := find_of_mem h.keys h0
        rw [e, hf] at this
        exact (Option.some.inj this).symm
      have := (h.obs r0 h0).put 1 (.int .i64 n)
      simpa [objV] using this
    · rw [if_neg e]
      exact (h.obs r0 h0).other (blks_apart h.nodup h0 hr e).1 _
  · intro r1 h1
    obtain ⟨r0, h0, rfl⟩ := List.mem_map.1 h1
    by_cases e : r0.x = r.x
    · rw [if_pos e]
      obtain rfl : r0 = r := by
        have := find_of_mem h.keys h0
        rw [e, hf] at this
        exact (Option.some.inj this).symm
      exact (h.wds r0 h0).other (blks_self h.nodup h0).symm _
    · rw [if_neg e]
      exact (h.wds r0 h0).other (blks_apart h.nodup h0 hr e).2.2.1 _
end
/-- the sweep at place k -/
def swept (K : List Int) (l : List Rec) (k : Nat) : List Rec := kept K 0 (l.take k) ++ l.drop k
theorem take_succ' {l : List Rec} {k : Nat} {r : Rec} (h : l[k]? = some r) : l.take (k + 1) = l.take k ++ [r] := by
  obtain ⟨hk, e⟩ := List.getElem?_eq_some_iff.1 h
  rw [List.take_succ_eq_append_getElem hk, e]
theorem drop_cons' {l : List Rec} {k : Nat} {r : Rec} (h : l[k]? = some r) : l.drop k = r :: l.drop (k + 1) := by
  obtain ⟨hk, e⟩ := List.getElem?_eq_some_iff.1 h
  rw [List.drop_eq_getElem_cons hk, e]
theorem apart_at {l : List Rec} (hk : l.Pairwise (fun a b => a.x ≠ b.x)) {k : Nat} {r : Rec} (h : l[k]? = some r) : (∀ q ∈ l.take k, q.x ≠ r.x) ∧ (∀ q ∈ l.drop (k + 1), q.x ≠ r.x) := by
  have e : l = l.take k ++ r :: l.drop (k + 1) := by rw [← drop_cons' h, List.take_append_drop]
  rw [e] at hk
  obtain ⟨_, h2, h3⟩ := List.pairwise_append.1 hk
  exact ⟨fun q hq => h3 q hq r (by simp), fun q hq => ((List.pairwise_cons.1 h2).1 q hq).symm⟩
theorem kept_x {K : List Int} {a : Int} {l : List Rec} {y : Int} (h : ∀ q ∈ l, q.x ≠ y) : ∀ q ∈ kept K a l, q.x ≠ y := fun q hq => by
  obtain ⟨r0, h0, e, _⟩ := kept_mem hq
  rw [e]; exact h r0 h0
theorem swept_in {K : List Int} {l : List Rec} {k : Nat} {r : Rec} (h : l[k]? = some r) : r ∈ swept K l k := by
  unfold swept; rw [drop_cons' h]; simp
theorem swept_strike {K : List Int} {l : List Rec} (hk : l.Pairwise (fun a b => a.x ≠ b.x)) {k : Nat} {r : Rec} (h : l[k]? = some r) (hx : r.x ∉ K) : without r.x (swept K l k) = swept K l (k + 1) := by
  obtain ⟨h1, h2⟩ := apart_at hk h
  unfold swept
  rw [take_succ' h, kept_append, drop_cons' h]
  unfold without
  have e1 : (kept K 0 (l.take k)).filter (fun q => q.x != r.x) = kept K 0 (l.take k) := List.filter_eq_self.2 (fun q hq => by simpa using kept_x h1 q hq)
  have e2 : (l.drop (k + 1)).filter (fun q => q.x != r.x) = l.drop (k + 1) := List.filter_eq_self.2 (fun q hq => by simpa using h2 q hq)
  rw [List.filter_append, e1, List.filter_cons_of_neg (by simp), e2]
  simp [kept, hx]
theorem map_id_of {l : List Rec} {f : Rec → Rec} (h : ∀ q ∈ l, f q = q) : l.map f = l := by
  rw [List.map_congr_left h, List.map_id']
theorem swept_place {K : List Int} {l : List Rec} (hk : l.Pairwise (fun a b => a.x ≠ b.x)) {k : Nat} {r : Rec} (h : l[k]? = some r) (hx : r.x ∈ K) (hl : r.words.length ≤ 16) : setP r.x (keptTop K (l.take k)) (swept K l k) = swept K l (k + 1) := by
  obtain ⟨h1, h2⟩ := apart_at hk h
  unfold swept
  rw [take_succ' h, kept_append, drop_cons' h]
  unfold setP
  have e1 : (kept K 0 (l.take k)).map (fun q => if q.x = r.x then { q with place := (keptTop K (l.take k) : Int) } else q) = kept K 0 (l.take k) := map_id_of (fun q hq => if_neg (kept_x h1 q hq))
  have e2 : (l.drop (k + 1)).map (fun q => if q.x = r.x then { q with place := (keptTop K (l.take k) : Int) } else q) = l.drop (k + 1) := map_id_of (fun q hq => if_neg (h2 q hq))
  rw [List.map_append, e1, List.map_cons, e2]
  simp [kept, hx, hl]
theorem swept_large {K : List Int} {l : List Rec} {k : Nat} {r : Rec} (h : l[k]? = some r) (hx : r.x ∈ K) (hl : ¬ r.words.length ≤ 16) : swept K l k = swept K l (k + 1) := by
  unfold swept
  rw [take_succ' h, kept_append, drop_cons' h]
  simp [kept, hx, hl]
theorem swept_zero (K : List Int) (l : List Rec) : swept K l 0 = l := rfl
theorem swept_all (K : List Int) (l : List Rec) : swept K l l.length = kept K 0 l := by unfold swept; simp
theorem freed_succ {K : List Int} {l : List Rec} {k : Nat} {r : Rec} (h : l[k]? = some r) : freed K (l.take (k + 1)) = freed K (l.take k) + (if r.x ∈ K then 0 else r.words.length) := by
  rw [take_succ' h, freed_append]; simp [freed]
theorem keptTop_succ {K : List Int} {l : List Rec} {k : Nat} {r : Rec} (h : l[k]? = some r) : keptTop K (l.take (k + 1)) = keptTop K (l.take k) + (if r.x ∈ K ∧ r.words.length ≤ 16 then r.words.length else 0) := by
  rw [take_succ' h, keptTop_append]; simp [keptTop]
theorem sums_take (l : List Rec) (k : Nat) : sumS (l.take k) ≤ sumS l ∧ sumL (l.take k) ≤ sumL l := by
  induction l generalizing k with
  | nil => simp
  | cons a l ih =>
    cases k with
    | zero => simp [sumS, sumL]
    | succ k => have := ih k; simp only [List.take_succ_cons, sumS, sumL]; omega
end Go.Proofs.Ytmamcpaejhjceaa.HP
