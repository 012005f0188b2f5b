/- The heap as plain data, and what the world holds of it. -/
import Derived.Test.YtmamcpaejhjceaaMap
namespace Go.Proofs.Ytmamcpaejhjceaa.HP
open Go.MapKept Go.ChangeMaps Go.RowKit

abbrev Cel := Int × Bool
structure Rec where
  x : Int
  place : Int
  words : List Cel
  ob : Nat
  wb : Nat
structure St where
  small : Int
  big : Int
  top : Int
  last : Int
  recs : List Rec
def cellV (c : Cel) : List Value := [.int .i64 c.1, .bool c.2]
def cellsOf (l : List Cel) : List Value := l.flatMap cellV
def blks (l : List Rec) : List Nat := l.flatMap (fun r => [r.ob, r.wb])
def keysOf (l : List Rec) : List (Int × Nat) := l.map fun r => (r.x, r.ob)
def headV (s : St) (mb : Nat) : Array Value := #[.int .i64 s.small, .int .i64 s.big, .int .i64 s.top, .int .i64 s.last, .map (some mb)]
def objV (r : Rec) : Array Value := #[.slice (some ⟨r.wb, 0, none⟩) r.words.length r.words.length, .int .i64 r.place]
/-- block b holds just these cells, none of them frozen -/
def Blk (w : World) (b : Nat) (c : Array Value) : Prop := ∃ t, w.heap[b]? = some (.cells c t (0, 0))
structure HeapAt (w : World) (base p mb : Nat) (s : St) : Prop where
  own : (p :: mb :: blks s.recs).Nodup
  low : ∀ i ∈ p :: mb :: blks s.recs, base ≤ i
  hd : Blk w p (headV s mb)
  mp : IMap encP w mb (keysOf s.recs)
  obs : ∀ r ∈ s.recs, Blk w r.ob (objV r)
  wds : ∀ r ∈ s.recs, Blk w r.wb (cellsOf r.words).toArray

section
variable {w w' : World} {b : Nat} {c : Array Value}
theorem Blk.lt (h : Blk w b c) : b < w.heap.size := by
  obtain ⟨t, h⟩ := h
  exact (Array.getElem?_eq_some_iff.1 h).1
theorem Blk.cell (h : Blk w b c) (k : Nat) {v : Value} (hv : c[k]? = some v) : w.cell? ⟨b, k, none⟩ = some v := by
  obtain ⟨t, h⟩ := h
  simp [World.cell?, h, hv]
theorem Blk.free (h : Blk w b c) (k : Nat) : w.frozen? ⟨b, k, none⟩ = false := by
  obtain ⟨t, h⟩ := h
  simp [World.frozen?, h]
theorem Blk.of_block (h : Blk w b c) (e : w'.heap[b]? = w.heap[b]?) : Blk w' b c := by
  obtain ⟨t, h⟩ := h
  exact ⟨t, e.trans h⟩
theorem Blk.kept {S : Nat → Prop} (h : Blk w b c) (hB : But S w w') (hn : ¬ S b) : Blk w' b c := h.of_block (hB.block b h.lt hn)
theorem Blk.put (h : Blk w b c) (k : Nat) (v : Value) : Blk (w.setCell ⟨b, k, none⟩ v) b (c.setIfInBounds k v) := by
  obtain ⟨t, h⟩ := h
  have hlt := (Array.getElem?_eq_some_iff.1 h).1
  refine ⟨t, ?_⟩
  simp [World.setCell, Array.getElem?_modify, h]
theorem Blk.other (h : Blk w b c) {a : Addr} (ha : b ≠ a.block) (v : Value) : Blk (w.setCell a v) b c := h.of_block (Below.heap_setCell w a v b ha)
theorem Blk.alloc (h : Blk w b c) (o : Obj) : Blk (w.alloc o) b c := h.of_block (Below.heap_alloc w o b h.lt)
theorem Blk.made (w : World) (c : Array Value) (t : TypeId) : Blk (w.alloc (.cells c t)) w.heap.size c := ⟨t, (MapKept.heap_alloc w _).1⟩
end

section
variable {w w' : World} {base p mb : Nat} {s : St}
theorem mem_blks {l : List Rec} {r : Rec} (h : r ∈ l) : r.ob ∈ blks l ∧ r.wb ∈ blks l :=
  ⟨List.mem_flatMap.2 ⟨r, h, by simp⟩, List.mem_flatMap.2 ⟨r, h, by simp⟩⟩
theorem HeapAt.kept {S : Nat → Prop} (h : HeapAt w base p mb s) (hB : But S w w') (hn : ∀ i ∈ p :: mb :: blks s.recs, ¬ S i) : HeapAt w' base p mb s :=
  ⟨h.own, h.low, h.hd.kept hB (hn _ (by simp)), h.mp.of_block (hB.block mb h.mp.lt (hn _ (by simp))), fun r hr => (h.obs r hr).kept hB (hn _ (by simp [mem_blks hr])), fun r hr => (h.wds r hr).kept hB (hn _ (by simp [mem_blks hr]))⟩
theorem HeapAt.lt (h : HeapAt w base p mb s) : ∀ i ∈ p :: mb :: blks s.recs, i < w.heap.size := by
  intro i hi
  simp only [List.mem_cons] at hi
  rcases hi with rfl | rfl | hi
  · exact h.hd.lt
  · exact h.mp.lt
  · obtain ⟨r, hr, hi⟩ := List.mem_flatMap.1 hi
    simp only [List.mem_cons, List.not_mem_nil, or_false] at hi
    rcases hi with rfl | rfl
    · exact (h.obs r hr).lt
    · exact (h.wds r hr).lt
theorem HeapAt.below (h : HeapAt w base p mb s) (hB : Below w.heap.size w w') : HeapAt w' base p mb s :=
  h.kept (S := fun i => w.heap.size ≤ i) (But.of_below hB) (fun i hi => by have := h.lt i hi; omega)
theorem HeapAt.alloc (h : HeapAt w base p mb s) (o : Obj) : HeapAt (w.alloc o) base p mb s := h.below ((Below.refl _ _).alloc (Nat.le_refl _) _)
theorem HeapAt.drew (h : HeapAt w base p mb s) : HeapAt w.drew base p mb s := ⟨h.own, h.low, h.hd, h.mp, h.obs, h.wds⟩
theorem HeapAt.drewN (h : HeapAt w base p mb s) {n : Nat} : HeapAt (w.drewN n) base p mb s := ⟨h.own, h.low, h.hd, h.mp, h.obs, h.wds⟩
theorem HeapAt.keys (h : HeapAt w base p mb s) : s.recs.Pairwise (fun a b => a.x ≠ b.x) := by
  have := h.mp.keys
  unfold keysOf at this
  rwa [List.pairwise_map] at this

theorem blks_self {l : List Rec} (h : (blks l).Nodup) {a : Rec} (ha : a ∈ l) : a.ob ≠ a.wb := by
  induction l with
  | nil => simp at ha
  | cons c l ih =>
    have e : blks (c :: l) = c.ob :: c.wb :: blks l := rfl
    rw [e, List.nodup_cons, List.nodup_cons] at h
    rcases List.mem_cons.1 ha with rfl | ha
    · exact fun e => h.1 (by rw [e]; simp)
    · exact ih h.2.2 ha
theorem blks_apart {l : List Rec} (h : (blks l).Nodup) {a b : Rec} (ha : a ∈ l) (hb : b ∈ l) (hne : a.x ≠ b.x) : a.ob ≠ b.ob ∧ a.ob ≠ b.wb ∧ a.wb ≠ b.ob ∧ a.wb ≠ b.wb := by
  induction l with
  | nil => simp at ha
  | cons c l ih =>
    have e : blks (c :: l) = c.ob :: c.wb :: blks l := rfl
    rw [e, List.nodup_cons, List.nodup_cons] at h
    have h1 : c.ob ∉ blks l := fun hm => h.1 (List.mem_cons_of_mem _ hm)
    have h2 := h.2.1
    rcases List.mem_cons.1 ha with ea | ha' <;> rcases List.mem_cons.1 hb with eb | hb'
    · exact absurd (by rw [ea, eb]) hne
    · subst ea
      have m := mem_blks hb'
      exact ⟨fun e => h1 (e ▸ m.1), fun e => h1 (e ▸ m.2), fun e => h2 (e ▸ m.1), fun e => h2 (e ▸ m.2)⟩
    · subst eb
      have m := mem_blks ha'
      exact ⟨fun e => h1 (e ▸ m.1), fun e => h2 (e ▸ m.1), fun e => h1 (e ▸ m.2), fun e => h2 (e ▸ m.2)⟩
    · exact ih h.2.2 ha' hb'
theorem HeapAt.nodup (h : HeapAt w base p mb s) : (blks s.recs).Nodup := by
  have := h.own
  rw [List.nodup_cons, List.nodup_cons] at this
  exact this.2.2
theorem HeapAt.not_p (h : HeapAt w base p mb s) {r : Rec} (hr : r ∈ s.recs) : r.ob ≠ p ∧ r.wb ≠ p ∧ r.ob ≠ mb ∧ r.wb ≠ mb := by
  have := h.own
  rw [List.nodup_cons, List.nodup_cons] at this
  have m := mem_blks hr
  exact ⟨fun e => this.1 (by rw [← e]; exact List.mem_cons_of_mem _ m.1), fun e => this.1 (by rw [← e]; exact List.mem_cons_of_mem _ m.2), fun e => this.2.1 (e ▸ m.1), fun e => this.2.1 (e ▸ m.2)⟩
theorem HeapAt.p_mb (h : HeapAt w base p mb s) : p ≠ mb := by
  have := h.own
  rw [List.nodup_cons] at this
  exact fun e => this.1 (by rw [e]; simp)

/-- word i of the object at x is c -/
def setW (l : List Rec) (x : Int) (i : Nat) (c : Cel) : List Rec := l.map fun r => if r.x = x then { r with words := r.words.set i c } else r
theorem setW_blks (l : List Rec) (x : Int) (i : Nat) (c : Cel) : blks (setW l x i c) = blks l := by
  unfold blks setW
  rw [List.flatMap_map]
  congr 1
  funext r
  split <;> rfl
theorem setW_keys (l : List Rec) (x : Int) (i : Nat) (c : Cel) : keysOf (setW l x i c) = keysOf l := by
  unfold keysOf setW
  rw [List.map_map]
  congr 1
  funext r
  simp only [Function.comp]
  split <;> rfl
theorem Blk.put2 {c : Array Value} {b : Nat} (h : Blk w b c) {a : Addr} (v : Value) (ha : b ≠ a.block) : Blk (w.setCell a v) b c := h.other ha v

/-- the object at a handle -/
def find (l : List Rec) (x : Int) : Option Rec := l.find? fun r => r.x == x
theorem lookup_keys (x : Int) : ∀ l : List Rec, (keysOf l).lookup x = (find l x).map Rec.ob
  | [] => rfl
  | r :: l => by
    have ih := lookup_keys x l
    unfold keysOf find at *
    by_cases h : r.x = x
    · simp [List.lookup, h]
    · have h1 : (x == r.x) = false := by simpa using fun e => h e.symm
      have h2 : (r.x == x) = false := by simpa using h
      simp [List.lookup, h1, h2, ih]
theorem find_mem {l : List Rec} {x : Int} {r : Rec} (h : find l x = some r) : r ∈ l ∧ r.x = x :=
  ⟨List.mem_of_find?_eq_some h, by simpa using List.find?_some h⟩
theorem find_none {l : List Rec} {x : Int} (h : find l x = none) : ∀ r ∈ l, r.x ≠ x := fun r hr => by
  have := List.find?_eq_none.1 h r hr
  simpa using this
theorem find_of_mem {l : List Rec} (hk : l.Pairwise (fun a b => a.x ≠ b.x)) {r : Rec} (hr : r ∈ l) : find l r.x = some r := by
  induction l with
  | nil => simp at hr
  | cons a l ih =>
    obtain ⟨h1, h2⟩ := List.pairwise_cons.1 hk
    unfold find at *
    rcases List.mem_cons.1 hr with rfl | hr'
    · simp
    · have : (a.x == r.x) = false := by simpa using h1 r hr'
      simp [this, ih h2 hr']
end
theorem cellsOf_length (l : List Cel) : (cellsOf l).length = 2 * l.length := by
  induction l with
  | nil => rfl
  | cons c l ih => unfold cellsOf at *; simp [cellV, ih]; omega
theorem cellsOf_get (l : List Cel) : ∀ (i : Nat) (c : Cel), l[i]? = some c → (cellsOf l)[2 * i]? = some (.int .i64 c.1) ∧ (cellsOf l)[2 * i + 1]? = some (.bool c.2) := by
  induction l with
  | nil => intro i c h; simp at h
  | cons a l ih =>
    intro i c h
    cases i with
    | zero => simp at h; subst h; exact ⟨rfl, rfl⟩
    | succ i =>
      have := ih i c (by simpa using h)
      have e1 : 2 * (i + 1) = 2 * i + 1 + 1 := by omega
      have e2 : cellsOf (a :: l) = .int .i64 a.1 :: .bool a.2 :: cellsOf l := rfl
      rw [e1, e2]
      simpa using this
theorem cellsOf_set (l : List Cel) : ∀ (i : Nat) (c : Cel), ((cellsOf l).set (2 * i) (.int .i64 c.1)).set (2 * i + 1) (.bool c.2) = cellsOf (l.set i c) := by
  induction l with
  | nil => intro i c; rfl
  | cons a l ih =>
    intro i c
    cases i with
    | zero => rfl
    | succ i =>
      have e1 : 2 * (i + 1) = 2 * i + 1 + 1 := by omega
      have e2 : ∀ m, cellsOf (a :: m) = .int .i64 a.1 :: .bool a.2 :: cellsOf m := fun _ => rfl
      rw [e1, e2, List.set_cons_succ, List.set_cons_succ, List.set_cons_succ, List.set_cons_succ, ih i c, List.set_cons_succ, e2]
theorem cellsOf_put {w : World} {b : Nat} {l : List Cel} (h : Blk w b (cellsOf l).toArray) (i : Nat) (c : Cel) : Blk ((w.setCell ⟨b, i * 2, none⟩ (.int .i64 c.1)).setCell ⟨b, i * 2 + 1, none⟩ (.bool c.2)) b (cellsOf (l.set i c)).toArray := by
  have := (h.put (i * 2) (.int .i64 c.1)).put (i * 2 + 1) (.bool c.2)
  rw [← cellsOf_set, Nat.mul_comm 2 i]
  simpa using this
theorem HeapAt.setW {w : World} {base p mb : Nat} {s : St} (h : HeapAt w base p mb s) {x : Int} {r : Rec} (hf : find s.recs x = some r) (i : Nat) (c : Cel) :
    HeapAt ((w.setCell ⟨r.wb, i * 2, none⟩ (.int .i64 c.1)).setCell ⟨r.wb, i * 2 + 1, none⟩ (.bool c.2)) base p mb { s with recs := setW s.recs x i c } := by
  obtain ⟨hr, rfl⟩ := find_mem hf
  have hn := h.not_p hr
  refine ⟨by rw [setW_blks]; exact h.own, by rw [setW_blks]; exact h.low, (h.hd.other hn.2.1.symm _).other hn.2.1.symm _, ?_, ?_, ?_⟩
  · rw [setW_keys]
    exact h.mp.of_block ((Below.heap_setCell _ _ _ _ hn.2.2.2.symm).trans (Below.heap_setCell _ _ _ _ hn.2.2.2.symm))
  · intro r1 h1
    obtain ⟨r0, h0, rfl⟩ := List.mem_map.1 h1
    by_cases e : r0.x = r.x
    · rw [if_pos e]
      obtain rfl : r0 = r := by
        have := find_of_mem h.keys h0
        rw [e, hf] at this
        exact (Option.some.inj this).symm
      have := ((h.obs r0 h0).other (a := ⟨r0.wb, i * 2, none⟩) (blks_self h.nodup h0) (.int .i64 c.1)).other (a := ⟨r0.wb, i * 2 + 1, none⟩) (blks_self h.nodup h0) (.bool c.2)
      simpa [objV] using this
    · rw [if_neg e]
      have hq := (blks_apart h.nodup h0 hr e).2.1
      exact ((h.obs r0 h0).other hq _).other hq _
  · intro r1 h1
    obtain ⟨r0, h0, rfl⟩ := List.mem_map.1 h1
    by_cases e : r0.x = r.x
    · rw [if_pos e]
      obtain rfl : r0 = r := by
        have := find_of_mem h.keys h0
        rw [e, hf] at this
        exact (Option.some.inj this).symm
      exact cellsOf_put (h.wds r0 h0) i c
    · rw [if_neg e]
      have hq := (blks_apart h.nodup h0 hr e).2.2.2
      exact ((h.wds r0 h0).other hq _).other hq _
section
variable {w w' : World} {base p mb : Nat} {s : St}
theorem HeapAt.setHead (h : HeapAt w base p mb s) (k : Nat) (v : Value) (s' : St) (hr : s'.recs = s.recs) (hv : (headV s mb).setIfInBounds k v = headV s' mb) : HeapAt (w.setCell ⟨p, k, none⟩ v) base p mb s' := by
  have hpm := h.p_mb
  refine ⟨by rw [hr]; exact h.own, by rw [hr]; exact h.low, by rw [← hv]; exact h.hd.put k v, ?_, ?_, ?_⟩
  · rw [hr]; exact h.mp.of_block (Below.heap_setCell _ _ _ _ hpm.symm)
  · rw [hr]; exact fun r hr => (h.obs r hr).other (h.not_p hr).1 v
  · rw [hr]; exact fun r hr => (h.wds r hr).other (h.not_p hr).2.1 v
theorem HeapAt.setTop (h : HeapAt w base p mb s) (n : Int) : HeapAt (w.setCell ⟨p, 2, none⟩ (.int .i64 n)) base p mb { s with top := n } := h.setHead 2 _ _ rfl rfl
theorem HeapAt.setLast (h : HeapAt w base p mb s) (n : Int) : HeapAt (w.setCell ⟨p, 3, none⟩ (.int .i64 n)) base p mb { s with last := n } := h.setHead 3 _ _ rfl rfl
theorem HeapAt.push (h : HeapAt w base p mb s) (r : Rec) (ho : Blk w r.ob (objV r)) (hw : Blk w r.wb (cellsOf r.words).toArray) (hne : r.ob ≠ r.wb) (n1 : r.ob ∉ p :: mb :: blks s.recs) (n2 : r.wb ∉ p :: mb :: blks s.recs) (b1 : base ≤ r.ob) (b2 : base ≤ r.wb)
    (hB : But (fun i => i = mb) w w') (hm : IMap encP w' mb (keysOf s.recs ++ [(r.x, r.ob)])) : HeapAt w' base p mb { s with recs := s.recs ++ [r] } := by
  have e1 : blks (s.recs ++ [r]) = blks s.recs ++ [r.ob, r.wb] := by unfold blks; simp
  have e2 : keysOf (s.recs ++ [r]) = keysOf s.recs ++ [(r.x, r.ob)] := by unfold keysOf; simp
  have hpm := h.p_mb
  have all : ∀ q ∈ s.recs ++ [r], (q ∈ s.recs) ∨ q = r := fun q hq => by simpa using hq
  have hown := h.own
  simp only [List.mem_cons, not_or] at n1 n2
  refine ⟨?_, ?_, h.hd.kept hB hpm, by show IMap encP w' mb (keysOf (s.recs ++ [r])); rw [e2]; exact hm, ?_, ?_⟩
  · show (p :: mb :: blks (s.recs ++ [r])).Nodup
    rw [e1, List.nodup_cons, List.nodup_cons]
    rw [List.nodup_cons, List.nodup_cons] at hown
    simp only [List.mem_cons, not_or] at hown
    refine ⟨?_, ?_, ?_⟩
    · simp only [List.mem_cons, List.mem_append, not_or, List.not_mem_nil]
      exact ⟨hown.1.1, hown.1.2, fun e => n1.1 e.symm, fun e => n2.1 e.symm, not_false⟩
    · simp only [List.mem_cons, List.mem_append, not_or, List.not_mem_nil]
      exact ⟨hown.2.1, fun e => n1.2.1 e.symm, fun e => n2.2.1 e.symm, not_false⟩
    · rw [List.nodup_append]
      refine ⟨hown.2.2, by simpa using hne, ?_⟩
      intro a ha b hb
      simp only [List.mem_cons, List.not_mem_nil, or_false] at hb
      rcases hb with rfl | rfl
      · exact fun e => n1.2.2 (e ▸ ha)
      · exact fun e => n2.2.2 (e ▸ ha)
  · show ∀ i ∈ p :: mb :: blks (s.recs ++ [r]), base ≤ i
    rw [e1]
    intro i hi
    simp only [List.mem_cons, List.mem_append, List.not_mem_nil, or_false] at hi
    rcases hi with hi | hi | hi | hi | hi
    · exact h.low i (by simp [hi])
    · exact h.low i (by simp [hi])
    · exact h.low i (by simp [hi])
    · omega
    · omega
  · intro q hq
    rcases all q hq with hq | rfl
    · exact (h.obs q hq).kept hB (h.not_p hq).2.2.1
    · exact ho.kept hB n1.2.1
  · intro q hq
    rcases all q hq with hq | rfl
    · exact (h.wds q hq).kept hB (h.not_p hq).2.2.2
    · exact hw.kept hB n2.2.1
end
end Go.Proofs.Ytmamcpaejhjceaa.HP
