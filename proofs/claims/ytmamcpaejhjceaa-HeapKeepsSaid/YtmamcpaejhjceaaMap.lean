/- Maps with keys of int, said by the list of their entries: looked up, laid into, struck, ranged over. -/
import Derived.Maps.RangeWalk
import Derived.WalkKit
import Derived.Deep.Draws
namespace Go.Proofs.Ytmamcpaejhjceaa.HP
open Go.MapKept Go.ChangeMaps Go.RowKit

section
variable {β : Type} (enc : β → Value)
/-- an entry as the map holds it -/
def entV (p : Int × β) : Value × Value := (.int .i64 p.1, enc p.2)
/-- BLOCK b IS A MAP WITH THESE ENTRIES, in the order in which they were laid. -/
def IMap (w : World) (b : Nat) (L : List (Int × β)) : Prop :=
  ∃ es clock, w.heap[b]? = some (.map es clock) ∧ Stamped es clock ∧ es.toList.map (fun e => (e.key, e.val)) = L.map (entV enc)
/-- w' is w but for blocks in S, and new ones -/
structure But (S : Nat → Prop) (w w' : World) : Prop where
  os : w'.os = w.os
  tape : w'.tape = w.tape
  output : w'.output = w.output
  size : w.heap.size ≤ w'.heap.size
  block : ∀ i, i < w.heap.size → ¬ S i → w'.heap[i]? = w.heap[i]?
end
section
variable {β : Type} {enc : β → Value} {w : World} {b : Nat} {L : List (Int × β)} {P : Program}

theorem IMap.lt (h : IMap enc w b L) : b < w.heap.size := by
  obtain ⟨es, clock, hb, _⟩ := h
  exact (Array.getElem?_eq_some_iff.1 hb).1
theorem IMap.of_block {w' : World} (h : IMap enc w b L) (e : w'.heap[b]? = w.heap[b]?) : IMap enc w' b L := by
  obtain ⟨es, clock, hb, r⟩ := h
  exact ⟨es, clock, e.trans hb, r⟩
theorem IMap.made (enc : β → Value) (w : World) : IMap enc (w.alloc (.map #[] 0)) w.heap.size [] := ⟨#[], 0, (MapKept.heap_alloc w _).1, stamped_empty 0, rfl⟩

theorem ent_keys {es : List MapEntry} (h : es.map (fun e => (e.key, e.val)) = L.map (entV enc)) : ∀ x ∈ es, IsKey (.int .i64) x.key := by
  intro x hx
  have : (x.key, x.val) ∈ L.map (entV enc) := by rw [← h]; exact List.mem_map.2 ⟨x, hx, rfl⟩
  obtain ⟨p, _, hp⟩ := List.mem_map.1 this
  simp only [entV, Prod.mk.injEq] at hp
  rw [← hp.1]; simp [IsKey]
theorem ent_none {es : List MapEntry} {x : Int} (h : es.map (fun e => (e.key, e.val)) = L.map (entV enc)) (hk : ∀ e ∈ es, e.key ≠ .int .i64 x) : L.lookup x = none := by
  rw [List.lookup_eq_none_iff]
  intro p hp
  have : entV enc p ∈ es.map (fun e => (e.key, e.val)) := by rw [h]; exact List.mem_map.2 ⟨p, hp, rfl⟩
  obtain ⟨e, he, h2⟩ := List.mem_map.1 this
  simp only [entV, Prod.mk.injEq] at h2
  have := hk e he
  rw [h2.1] at this
  simp at this
  simpa using fun e => this e.symm

theorem imap_find (x : Int) : ∀ (es : List MapEntry) (L : List (Int × β)) (i : Nat), es.map (fun e => (e.key, e.val)) = L.map (entV enc) →
    (Instr.findNow (.int .i64) (.int .i64 x) es i = some none ∧ L.lookup x = none ∧ ∀ e ∈ es, e.key ≠ .int .i64 x) ∨
    ∃ j y e, Instr.findNow (.int .i64) (.int .i64 x) es i = some (some (i + j, enc y)) ∧ L.lookup x = some y ∧ es[j]? = some e ∧ e.key = .int .i64 x ∧ L[j]? = some (x, y)
  | [], [], i, _ => .inl ⟨rfl, rfl, by simp⟩
  | [], p :: L, i, h => by simp at h
  | e :: es, [], i, h => by simp at h
  | e :: es, p :: L, i, h => by
    simp only [List.map_cons, List.cons.injEq, entV, Prod.mk.injEq] at h
    obtain ⟨⟨hk, hv⟩, ht⟩ := h
    by_cases hx : x = p.1
    · refine .inr ⟨0, p.2, e, ?_, ?_, rfl, by rw [hk, hx], by rw [hx]; rfl⟩
      · simp [Instr.findNow, hk, Instr.sameNow, hx, hv]
      · simp [List.lookup, hx]
    · have hb : (x == p.1) = false := by simpa using hx
      rcases imap_find x es L (i + 1) ht with ⟨h1, h2, h3⟩ | ⟨j, y, e', h1, h2, h3, h4, h5⟩
      · refine .inl ⟨by simp [Instr.findNow, hk, Instr.sameNow, hb, h1], by simp [List.lookup, hb, h2], ?_⟩
        intro e1 he1
        rcases List.mem_cons.1 he1 with rfl | he1
        · rw [hk]; simpa using fun e => hx e.symm
        · exact h3 e1 he1
      · exact .inr ⟨j + 1, y, e', by simp [Instr.findNow, hk, Instr.sameNow, hb, h1]; omega, by simp [List.lookup, hb, h2], by simpa using h3, h4, by simpa using h5⟩

theorem IMap.look {t k e : TypeId} (h : IMap enc w b L) (ht : P.underlying t = some (.map k e)) (hk : P.underlying k = some (.int .i64)) {z : Value} (hz : (zeroValue e).run P w = .ok z w) (x : Int) (c : Bool) :
    (Instr.lookup t (.map (some b)) (.int .i64 x) c).run P w = .ok (if c then .tuple #[((L.lookup x).map enc).getD z, .bool (L.lookup x).isSome] else ((L.lookup x).map enc).getD z) w := by
  obtain ⟨es, clock, hb, hs, hL⟩ := h
  have hc : ∀ em, (Instr.checkKey em 10000 k (.int .i64 x)).run P w = .ok () w := fun em => run_checkKey hk (by simp [IsKey]) em 9999
  rcases imap_find x es.toList L 0 hL with ⟨h1, h2, _⟩ | ⟨j, y, e0, h1, h2, _⟩
  · have hf := run_findKey (w := w) hk h1
    simp [Instr.lookup, run_underlying ht, MapKept.run_getObj_map hb, hc, hf, hz, Result.andThen, h2]
  · have hf := run_findKey (w := w) hk h1
    simp [Instr.lookup, run_underlying ht, MapKept.run_getObj_map hb, hc, hf, hz, Result.andThen, h2]

/-- what was there is there, but for block b -/
theorem But.setBlock {es : Array MapEntry} {clock : Nat} (hb : w.heap[b]? = some (.map es clock)) (o : Obj) : But (fun i => i = b) w (setBlock w b o) :=
  ⟨rfl, rfl, rfl, by simp [ChangeMaps.setBlock], fun i _ hi => heap_setBlock_other hb _ hi⟩

theorem IMap.put {t k e : TypeId} (h : IMap enc w b L) (ht : P.underlying t = some (.map k e)) (hk : P.underlying k = some (.int .i64)) (x : Int) (y : β) (hn : L.lookup x = none) :
    ∃ w', (Instr.mapUpdate t (.map (some b)) (.int .i64 x) (enc y)).run P w = .ok () w' ∧ IMap enc w' b (L ++ [(x, y)]) ∧ But (fun i => i = b) w w' ∧ w'.heap.size = w.heap.size := by
  obtain ⟨es, clock, hb, hs, hL⟩ := h
  have hc : ∀ em, (Instr.checkKey em 10000 k (.int .i64 x)).run P w = .ok () w := fun em => run_checkKey hk (by simp [IsKey]) em 9999
  rcases imap_find x es.toList L 0 hL with ⟨h1, h2, h3⟩ | ⟨j, y, e0, h1, h2, _⟩
  · have hf := run_findKey (w := w) hk h1
    refine ⟨_, ?_, ⟨es.push { key := .int .i64 x, val := enc y, born := clock }, clock + 1, heap_setBlock_same hb _, stamped_push hs h3, ?_⟩, But.setBlock hb _, ?_⟩
    · simp [Instr.mapUpdate, run_underlying ht, MapKept.run_getObj_map hb, hc, hf, MapKept.run_setObj_map _ hb, Result.andThen, setBlock]
    · simp [hL, entV]
    · simp [setBlock]
  · rw [hn] at h2; cases h2

theorem map_eraseIdx_ent (es : List MapEntry) (j : Nat) : (es.eraseIdx j).map (fun e => (e.key, e.val)) = (es.map (fun e => (e.key, e.val))).eraseIdx j := map_eraseIdx _ _ _

theorem eraseIdx_filter {α : Type} (f : α → Int) (x : Int) : ∀ (L : List α) (j : Nat) (p : α), L[j]? = some p → f p = x → L.Pairwise (fun a b => f a ≠ f b) → L.eraseIdx j = L.filter (fun p => f p != x)
  | [], j, p, h, _, _ => by simp at h
  | a :: L, 0, p, h, hp, hd => by
    simp only [List.getElem?_cons_zero, Option.some.injEq] at h
    subst h
    obtain ⟨h1, h2⟩ := List.pairwise_cons.1 hd
    have : L.filter (fun p => f p != x) = L := List.filter_eq_self.2 (fun q hq => by
      have := h1 q hq
      rw [hp] at this
      simpa using fun e => this e.symm)
    simp [hp, this]
  | a :: L, j + 1, p, h, hp, hd => by
    obtain ⟨h1, h2⟩ := List.pairwise_cons.1 hd
    have hm : p ∈ L := List.mem_of_getElem? (by simpa using h)
    have := h1 p hm
    rw [hp] at this
    simp [this, eraseIdx_filter f x L j p (by simpa using h) hp h2]

theorem stamped_keys {es : Array MapEntry} {clock : Nat} (hs : Stamped es clock) (hL : es.toList.map (fun e => (e.key, e.val)) = L.map (entV enc)) : L.Pairwise (fun p q => p.1 ≠ q.1) := by
  have h := ((stamped_iff es clock).1 hs).2.2
  have h2 : (es.toList.map (fun e => (e.key, e.val))).Pairwise (fun p q => p.1 ≠ q.1) := by
    rw [List.pairwise_map]; exact h
  rw [hL, List.pairwise_map] at h2
  exact h2.imp (fun h e => h (by simp [entV, e]))

theorem IMap.keys (h : IMap enc w b L) : L.Pairwise (fun p q => p.1 ≠ q.1) := by
  obtain ⟨es, clock, hb, hs, hL⟩ := h
  exact stamped_keys hs hL

theorem IMap.strike {t k e : TypeId} (h : IMap enc w b L) (ht : P.underlying t = some (.map k e)) (hk : P.underlying k = some (.int .i64)) (x : Int) (ty : TypeId) :
    ∃ w', (Builtin.delete_ #[t, k] ty #[.map (some b), .int .i64 x]).run P w = .ok (.tuple #[]) w' ∧ IMap enc w' b (L.filter (fun p => p.1 != x)) ∧ But (fun i => i = b) w w' ∧ w'.heap.size = w.heap.size := by
  obtain ⟨es, clock, hb, hs, hL⟩ := h
  have hc : ∀ em, (Instr.checkKey em 10000 k (.int .i64 x)).run P w = .ok () w := fun em => run_checkKey hk (by simp [IsKey]) em 9999
  have hd := stamped_keys hs hL
  rcases imap_find x es.toList L 0 hL with ⟨h1, h2, h3⟩ | ⟨j, y, e0, h1, h2, h3, h4, h5⟩
  · have hf := run_findKey (w := w) hk h1
    refine ⟨_, ?_, ⟨es, clock, heap_setBlock_same hb _, hs, ?_⟩, But.setBlock hb _, ?_⟩
    · simp [Builtin.delete_, run_underlying ht, MapKept.run_getObj_map hb, hc, hf, MapKept.run_setObj_map _ hb, Result.andThen, setBlock]
    · rw [hL]
      congr 1
      exact (List.filter_eq_self.2 (fun p hp => by
        have := List.lookup_eq_none_iff.1 h2 p hp
        have h4 : x ≠ p.1 := by simpa using this
        simpa using fun e => h4 e.symm)).symm
    · simp [setBlock]
  · have hf := run_findKey (w := w) hk h1
    have hjs : j < es.size := by have := (List.getElem?_eq_some_iff.1 h3).1; simpa using this
    have hsub : (es.eraseIdxIfInBounds j).toList = es.toList.eraseIdx j := by
      unfold Array.eraseIdxIfInBounds
      rw [dif_pos hjs]; simp
    refine ⟨_, ?_, ⟨es.eraseIdxIfInBounds j, clock, heap_setBlock_same hb _, stamped_erase hs j, ?_⟩, But.setBlock hb _, ?_⟩
    · simp [Builtin.delete_, run_underlying ht, MapKept.run_getObj_map hb, hc, hf, MapKept.run_setObj_map _ hb, Result.andThen, setBlock]
    · rw [hsub, map_eraseIdx_ent, hL, ← map_eraseIdx, eraseIdx_filter (fun p : Int × β => p.1) x L j (x, y) h5 rfl hd]
    · simp [setBlock]
end

section
variable {S S' : Nat → Prop} {w w' w'' : World}
theorem below_drewN {B : Nat} {a w : World} (h : Below B a w) (n : Nat) : Below B a (w.drewN n) := ⟨h.os, h.tape, h.output, h.size, h.block⟩
theorem But.refl (S : Nat → Prop) (w : World) : But S w w := ⟨rfl, rfl, rfl, Nat.le_refl _, fun _ _ _ => rfl⟩
theorem But.trans (h : But S w w') (k : But S' w' w'') (hs : ∀ i, S' i → S i ∨ w.heap.size ≤ i) : But S w w'' :=
  ⟨k.os.trans h.os, k.tape.trans h.tape, k.output.trans h.output, Nat.le_trans h.size k.size, fun i hi hn => (k.block i (Nat.lt_of_lt_of_le hi h.size) (fun e => by
    rcases hs i e with h1 | h1
    · exact hn h1
    · omega)).trans (h.block i hi hn)⟩
theorem But.alloc (h : But S w w') (o : Obj) : But S w (w'.alloc o) :=
  ⟨h.os, h.tape, h.output, Nat.le_trans h.size (by simp), fun i hi hn => (Below.heap_alloc w' o i (Nat.lt_of_lt_of_le hi h.size)).trans (h.block i hi hn)⟩
theorem But.drew (h : But S w w') : But S w w'.drew := ⟨h.os, h.tape, h.output, h.size, h.block⟩
theorem But.drewN (h : But S w w') (n : Nat) : But S w (w'.drewN n) := ⟨h.os, h.tape, h.output, h.size, h.block⟩
theorem But.setCell (h : But S w w') (a : Addr) (v : Value) (ha : S a.block ∨ w.heap.size ≤ a.block) : But S w (w'.setCell a v) :=
  ⟨h.os, h.tape, h.output, Nat.le_trans h.size (by simp), fun i hi hn => (Below.heap_setCell w' a v i (fun e => by
    subst e
    rcases ha with h1 | h1
    · exact hn h1
    · omega)).trans (h.block i hi hn)⟩
theorem But.mono (h : But S w w') (hs : ∀ i, S i → S' i ∨ w.heap.size ≤ i) : But S' w w' := ⟨h.os, h.tape, h.output, h.size, fun i hi hn => h.block i hi (fun e => by
    rcases hs i e with h1 | h1
    · exact hn h1
    · omega)⟩
theorem But.below {B : Nat} (h : But S w w') (hs : ∀ i, S i → B ≤ i) (hB : B ≤ w.heap.size) : Below B w w' := ⟨h.os, h.tape, h.output, h.size, fun k hk => h.block k (by omega) (fun e => by have := hs k e; omega)⟩
theorem But.grown {b : Nat} (h : But (fun i => i = b) w w') : w.grownBy w' (some b) := ⟨h.os, h.tape, h.output, h.size, fun k hk hne => h.block k hk (fun e => hne (by rw [e]))⟩
theorem But.of_below (h : Below w.heap.size w w') : But S w w' := ⟨h.os, h.tape, h.output, h.size, fun i hi _ => h.block i hi⟩
theorem But.of_grown {row : Option Nat} (h : w.grownBy w' row) (hr : ∀ k, row = some k → S k ∨ w.heap.size ≤ k) : But S w w' := ⟨h.os, h.tape, h.output, h.size, fun i hi hn => h.block i hi (fun e => by
    rcases hr i e.symm with h1 | h1
    · exact hn h1
    · omega)⟩
end

/-! ### ranging over a map of pointers -/
def encP (o : Nat) : Value := .pointer (some ⟨o, 0, none⟩)
def decE : Value × Value → Int × Nat
  | (.int _ n, .pointer (some a)) => (n, a.block)
  | _ => (0, 0)
theorem decE_ent (p : Int × Nat) : decE (entV encP p) = p := rfl

/-- the loop over map b by iterator r: those in 'done' have come out -/
def IRange (w : World) (b r : Nat) (L done : List (Int × Nat)) : Prop :=
  ∃ es clock since seen c0, w.heap[b]? = some (.map es clock) ∧ Stamped es clock ∧ es.toList.map (fun e => (e.key, e.val)) = L.map (entV encP) ∧
    w.heap[r]? = some (.mapIter (some b) since seen c0) ∧ (∀ x ∈ es.toList, x.born < since) ∧ since ≤ c0 ∧ since ≤ clock ∧
    (done.map (entV encP) ++ (leftOf es seen).toList.map (fun e => (e.key, e.val))).Perm (L.map (entV encP)) ∧ seen.size = done.length

section
variable {w : World} {b r : Nat} {L done : List (Int × Nat)} {P : Program}
theorem IRange.map (h : IRange w b r L done) : IMap encP w b L := by
  obtain ⟨es, clock, _, _, _, hb, hs, hL, _⟩ := h
  exact ⟨es, clock, hb, hs, hL⟩
theorem IRange.lt (h : IRange w b r L done) : r < w.heap.size := by
  obtain ⟨es, clock, since, seen, c0, _, _, _, hr, _⟩ := h
  exact (Array.getElem?_eq_some_iff.1 hr).1
theorem IRange.ne (h : IRange w b r L done) : r ≠ b := by
  obtain ⟨es, clock, since, seen, c0, hb, _, _, hr, _⟩ := h
  intro e
  rw [e, hb] at hr
  cases hr
theorem IRange.of_blocks {w' : World} (h : IRange w b r L done) (e1 : w'.heap[b]? = w.heap[b]?) (e2 : w'.heap[r]? = w.heap[r]?) : IRange w' b r L done := by
  obtain ⟨es, clock, since, seen, c0, hb, hs, hL, hr, rest⟩ := h
  exact ⟨es, clock, since, seen, c0, e1.trans hb, hs, hL, e2.trans hr, rest⟩
theorem IRange.seen (h : IRange w b r L done) : (w.iterSeen r).size = done.length := by
  obtain ⟨es, clock, since, seen, c0, hb, hs, hL, hr, _, _, _, _, hsz⟩ := h
  simp [World.iterSeen, hr, hsz]
theorem IRange.kept {S : Nat → Prop} {w' : World} (h : IRange w b r L done) (hB : But S w w') (h1 : ¬ S b) (h2 : ¬ S r) : IRange w' b r L done := h.of_blocks (hB.block b h.map.lt h1) (hB.block r h.lt h2)

theorem IMap.range {t k e : TypeId} (h : IMap encP w b L) (ht : P.underlying t = some (.map k e)) :
    ∃ w', (Instr.range t (.map (some b))).run P w = .ok (.pointer (some ⟨w.heap.size, 0, none⟩)) w' ∧ IRange w' b w.heap.size L [] ∧ (∀ S, But S w w') ∧ w'.heap.size = w.heap.size + 1 := by
  have hlt := h.lt
  obtain ⟨es, clock, hb, hs, hL⟩ := h
  refine ⟨_, run_range_map w t k e b es clock ht hb, ⟨es, clock, clock, #[], clock, ((MapKept.heap_alloc w _).2 b hlt).trans hb, hs, hL, (MapKept.heap_alloc w _).1, hs.1, Nat.le_refl _, Nat.le_refl _, ?_⟩, fun S => (But.refl S w).alloc _, by simp⟩
  have : (leftOf es #[]).toList = es.toList := by simp [leftOf]
  rw [this, hL]; exact ⟨List.Perm.refl _, rfl⟩

theorem filter_out {es : List MapEntry} {q : MapEntry → Bool} {e : MapEntry} (hn : (es.map (·.born)).Nodup) (he : e ∈ es) (hq : q e = true) :
    (es.filter q).Perm (e :: es.filter (fun x => q x && x.born != e.born)) := by
  induction es with
  | nil => simp at he
  | cons a es ih =>
    simp only [List.map_cons, List.nodup_cons] at hn
    rcases List.mem_cons.1 he with rfl | he'
    · have : es.filter (fun x => q x && x.born != e.born) = es.filter q := List.filter_congr (fun x hx => by
        have : x.born ≠ e.born := fun e1 => hn.1 (by rw [← e1]; exact List.mem_map.2 ⟨x, hx, rfl⟩)
        simp [this])
      simp [hq, this]
    · have hne : a.born ≠ e.born := fun e1 => hn.1 (by rw [e1]; exact List.mem_map.2 ⟨e, he', rfl⟩)
      have h1 := ih hn.2 he'
      by_cases ha : q a = true
      · simp only [List.filter_cons, ha, if_true]
        have : (q a && a.born != e.born) = true := by simp [ha, hne]
        rw [ha] at this
        rw [if_pos this]
        exact (h1.cons a).trans (List.Perm.swap _ _ _)
      · have ha' : q a = false := by simpa using ha
        simp [List.filter_cons, ha', h1]

theorem IRange.next (h : IRange w b r L done) (ty : TypeId) :
    (done.Perm L ∧ (Instr.next (.pointer (some ⟨r, 0, none⟩)) false ty).run P w = .ok (.tuple #[.bool false]) w) ∨
    ∃ p w', p ∈ L ∧ done.length < L.length ∧ (Instr.next (.pointer (some ⟨r, 0, none⟩)) false ty).run P w = .ok (.tuple #[.bool true, .int .i64 p.1, encP p.2]) w' ∧ IRange w' b r L (done ++ [p]) ∧
      But (fun i => i = r) w w' ∧ w'.heap.size = w.heap.size ∧ (Instr.entry (.pointer (some ⟨r, 0, none⟩))).run P w' = .ok (.tuple #[.int .i64 p.1, encP p.2]) w' := by
  have hne := h.ne
  obtain ⟨es, clock, since, seen, c0, hb, hs, hL, hr, hold, hsc, hsk, hp, hsz⟩ := h
  have hst := (stamped_iff es clock).1 hs
  rcases run_next_at (P := P) w ty r b since c0 seen es clock hr hb hold hsc with ⟨h0, hrun⟩ | ⟨e, he, w1, hal, hrun⟩
  · refine Or.inl ⟨?_, hrun⟩
    have : (leftOf es seen).toList = [] := by
      rw [Array.eq_empty_of_size_eq_zero h0]
    rw [this, List.map_nil, List.append_nil] at hp
    have h2 := hp.map decE
    simpa [List.map_map, Function.comp_def, decE_ent] using h2
  · obtain ⟨hem, hes⟩ := mem_left he
    have hpm : (e.key, e.val) ∈ L.map (entV encP) := by rw [← hL]; exact List.mem_map.2 ⟨e, hem, rfl⟩
    obtain ⟨p, hpL, hpe⟩ := List.mem_map.1 hpm
    simp only [entV, Prod.mk.injEq] at hpe
    have hr1 : w1.heap[r]? = some (.mapIter (some b) since seen c0) := by rcases hal with rfl | rfl <;> exact hr
    have hb1 : w1.heap[b]? = some (.map es clock) := by rcases hal with rfl | rfl <;> exact hb
    have hset := heap_set (o' := .mapIter (some b) since (seen.push e.born) clock) hr1
    have hb' : (setBlock w1 r (.mapIter (some b) since (seen.push e.born) clock)).heap[b]? = some (.map es clock) := (hset.2 b (fun e1 => hne e1.symm)).trans hb1
    have hrun' := hrun
    rw [← hpe.1, ← hpe.2] at hrun'
    have hent := run_entry_at (P := P) _ r b since seen es clock e hset.1 hb' hem hst.2.1
    rw [← hpe.1, ← hpe.2] at hent
    have hout : ((leftOf es seen).toList.map (fun e => (e.key, e.val))).Perm ((e.key, e.val) :: (leftOf es (seen.push e.born)).toList.map (fun e => (e.key, e.val))) := by
      have h1 := filter_out (q := fun x => !seen.contains x.born) hst.2.1 hem (by rw [hes]; rfl)
      have h2 := h1.map (fun e => (e.key, e.val))
      simp only [leftOf, Array.toList_filter, List.map_cons] at h2 ⊢
      refine h2.trans (List.Perm.of_eq ?_)
      congr 2
      refine List.filter_congr (fun x _ => ?_)
      rw [contains_push]
      cases seen.contains x.born <;> rfl
    have hperm : ((done ++ [p]).map (entV encP) ++ (leftOf es (seen.push e.born)).toList.map (fun e => (e.key, e.val))).Perm (L.map (entV encP)) := by
      refine List.Perm.trans ?_ hp
      rw [List.map_append, List.append_assoc]
      refine List.Perm.append_left _ ?_
      refine List.Perm.trans ?_ hout.symm
      simp [entV, hpe.1, hpe.2]
    have hlen : done.length < L.length := by
      have := hperm.length_eq
      simp at this; omega
    refine Or.inr ⟨p, _, hpL, hlen, hrun', ⟨es, clock, since, seen.push e.born, clock, hb', hs, hL, hset.1, hold, hsk, hsk, hperm, by simp [hsz]⟩, ?_, ?_, hent⟩
    · rcases hal with rfl | rfl <;> exact ⟨rfl, rfl, rfl, by simp [setBlock], fun i _ hi => hset.2 i hi⟩
    · rcases hal with rfl | rfl <;> simp [setBlock]
end

/-! ### at the operation, for the walk -/
section
variable {β : Type} {enc : β → Value} {P : Program} (w : World) {ops : Array Oper} {rest : List Oper} {o : Oper} {a : Act} {Q : Exit → Act → World → Prop}

theorem wpList_look (hg : o.guard = none) (m x : Operand) (t : TypeId) (hop : o.op = Op.lookup t m x false) (k e : TypeId) (ht : P.underlying t = some (.map k e)) (hk : P.underlying k = some (.int .i64)) {z : Value} (hz : (zeroValue e).run P w = .ok z w)
    (b : Nat) (L : List (Int × β)) (hm : a.eval m = .map (some b)) (h : IMap enc w b L) (n : Int) (hx : a.eval x = .int .i64 n) (v : Value) (hv : ((L.lookup n).map enc).getD z = v)
    (hK : wpList P ops Q rest (a.put o.dst v) w) : wpList P ops Q (o :: rest) a w := by
  refine wpList_plain hg fun K' hK' => ?_
  have hrun := h.look ht hk hz n false
  rw [hv] at hrun
  unfold Oper.wp
  simp [execOp, hop, hm, hx, hrun, Result.andThen]
  exact hK' _ _ hK

theorem wpList_look_ok (hg : o.guard = none) (m x : Operand) (t : TypeId) (hop : o.op = Op.lookup t m x true) (k e : TypeId) (ht : P.underlying t = some (.map k e)) (hk : P.underlying k = some (.int .i64)) {z : Value} (hz : (zeroValue e).run P w = .ok z w)
    (b : Nat) (L : List (Int × β)) (hm : a.eval m = .map (some b)) (h : IMap enc w b L) (n : Int) (hx : a.eval x = .int .i64 n) (v : Value) (hv : ((L.lookup n).map enc).getD z = v) (ok : Bool) (hok : (L.lookup n).isSome = ok)
    (hK : wpList P ops Q rest (a.put o.dst (.tuple #[v, .bool ok])) w) : wpList P ops Q (o :: rest) a w := by
  refine wpList_plain hg fun K' hK' => ?_
  have hrun := h.look ht hk hz n true
  rw [hv, hok] at hrun
  unfold Oper.wp
  simp [execOp, hop, hm, hx, hrun, Result.andThen]
  exact hK' _ _ hK

theorem wpList_put (hg : o.guard = none) (m x v : Operand) (t : TypeId) (hop : o.op = Op.mapUpdate t m x v) (k e : TypeId) (ht : P.underlying t = some (.map k e)) (hk : P.underlying k = some (.int .i64))
    (b : Nat) (L : List (Int × β)) (hm : a.eval m = .map (some b)) (h : IMap enc w b L) (n : Int) (hx : a.eval x = .int .i64 n) (y : β) (hv : a.eval v = enc y) (hn : L.lookup n = none)
    (hK : ∀ w', IMap enc w' b (L ++ [(n, y)]) → But (fun i => i = b) w w' → w'.heap.size = w.heap.size → wpList P ops Q rest (a.put o.dst undef) w') : wpList P ops Q (o :: rest) a w := by
  refine wpList_plain hg fun K' hK' => ?_
  obtain ⟨w', hrun, r1, r2, r3⟩ := h.put ht hk n y hn
  unfold Oper.wp
  simp [execOp, hop, hm, hx, hv, hrun, Result.andThen]
  exact hK' _ _ (hK w' r1 r2 r3)

theorem wpList_strike (hg : o.guard = none) (m x : Operand) (t k : TypeId) (hop : o.op = Op.call { callee := Callee.builtin Builtin.delete, args := #[m, x], argTypes := #[t, k] }) (e : TypeId) (ht : P.underlying t = some (.map k e)) (hk : P.underlying k = some (.int .i64))
    (b : Nat) (L : List (Int × β)) (hm : a.eval m = .map (some b)) (h : IMap enc w b L) (n : Int) (hx : a.eval x = .int .i64 n)
    (hK : ∀ w', IMap enc w' b (L.filter (fun p => p.1 != n)) → But (fun i => i = b) w w' → w'.heap.size = w.heap.size → wpList P ops Q rest (a.put o.dst (.tuple #[])) w') : wpList P ops Q (o :: rest) a w := by
  refine wpList_plain hg fun K' hK' => ?_
  obtain ⟨w', hrun, r1, r2, r3⟩ := h.strike ht hk n o.type
  unfold Oper.wp
  simp [execOp, hop, resolve, invoke, builtin, hm, hx, hrun, Result.andThen]
  exact hK' _ _ (hK w' r1 r2 r3)

theorem wpList_rangeP (hg : o.guard = none) (m : Operand) (t : TypeId) (hop : o.op = Op.range t m) (k e : TypeId) (ht : P.underlying t = some (.map k e)) (b : Nat) (L : List (Int × Nat)) (hm : a.eval m = .map (some b)) (h : IMap encP w b L)
    (hK : ∀ w', IRange w' b w.heap.size L [] → (∀ S, But S w w') → w'.heap.size = w.heap.size + 1 → wpList P ops Q rest (a.put o.dst (.pointer (some ⟨w.heap.size, 0, none⟩))) w') : wpList P ops Q (o :: rest) a w := by
  refine wpList_plain hg fun K' hK' => ?_
  obtain ⟨w', hrun, r1, r2, r3⟩ := h.range ht
  unfold Oper.wp
  simp [execOp, hop, hm, hrun, Result.andThen]
  exact hK' _ _ (hK w' r1 r2 r3)

theorem wpList_nextP (hg : o.guard = none) (it : Operand) (hop : o.op = Op.next it false) (b r : Nat) (L done : List (Int × Nat)) (hit : a.eval it = .pointer (some ⟨r, 0, none⟩)) (h : IRange w b r L done)
    (hDone : done.Perm L → wpList P ops Q rest (a.put o.dst (.tuple #[.bool false])) w)
    (hMore : ∀ (p : Int × Nat) (w' : World), p ∈ L → done.length < L.length → IRange w' b r L (done ++ [p]) → But (fun i => i = r) w w' → w'.heap.size = w.heap.size →
      (Instr.entry (.pointer (some ⟨r, 0, none⟩))).run P w' = .ok (.tuple #[.int .i64 p.1, .pointer (some ⟨p.2, 0, none⟩)]) w' → wpList P ops Q rest (a.put o.dst (.tuple #[.bool true, .int .i64 p.1, .pointer (some ⟨p.2, 0, none⟩)])) w') :
    wpList P ops Q (o :: rest) a w := by
  refine wpList_plain hg fun K' hK' => ?_
  unfold Oper.wp
  rcases h.next o.type with ⟨h0, hrun⟩ | ⟨p, w', hp, hlt, hrun, hr, hB, hsz, hen⟩
  · simp [execOp, hop, hit, Result.andThen]
    rw [hrun]
    exact hK' _ _ (hDone h0)
  · simp [execOp, hop, hit, Result.andThen]
    rw [hrun]
    exact hK' _ _ (hMore p w' hp hlt hr hB hsz hen)
end
end Go.Proofs.Ytmamcpaejhjceaa.HP
