/- What HeapKeeps keeps beside the heap: its own copy, and rows of Booleans. -/
import Derived.Test.YtmamcpaejhjceaaTail
namespace Go.Proofs.Ytmamcpaejhjceaa.HP
open Go.MapKept Go.ChangeMaps Go.RowKit

def KPost (w0 : World) (e : Ending) (w' : World) : Prop := e = .returned (.bool true) ∧ Below w0.heap.size w0 w'
/-- a row of Booleans -/
def BRow (w : World) (b : Nat) (l : List Bool) : Prop := Blk w b (l.map Value.bool).toArray
theorem BRow.cell {w : World} {b : Nat} {l : List Bool} (h : BRow w b l) (k : Nat) {v : Bool} (hv : l[k]? = some v) : w.cell? ⟨b, k, none⟩ = some (.bool v) := Blk.cell h k (by simp [hv])
theorem BRow.put {w : World} {b : Nat} {l : List Bool} (h : BRow w b l) (k : Nat) (v : Bool) : BRow (w.setCell ⟨b, k, none⟩ (.bool v)) b (l.set k v) := by
  have := Blk.put h k (.bool v)
  unfold BRow
  simpa [List.map_set] using this
/-- the objects have the handles 1, 2, .., and at most 40 words each -/
structure Shelved (N : Nat) (s : St) : Prop where
  cnt : s.recs.length = N
  key : ∀ (i : Nat) (r : Rec), s.recs[i]? = some r → r.x = (i : Int) + 1
  len : ∀ r ∈ s.recs, r.words.length ≤ 40
/-- the words' handles are handles -/
def Wired (N : Nat) (s : St) : Prop := ∀ r ∈ s.recs, ∀ c ∈ r.words, c.2 = true → 1 ≤ c.1 ∧ c.1 ≤ N
/-- the copy: row M holds a slice for each object, and that has the object's words -/
structure Copy (w : World) (M : Nat) (f : Nat → Nat) (s : St) : Prop where
  cells : ∀ i r, s.recs[i]? = some r → w.cell? ⟨M, i + 1, none⟩ = some (.slice (some ⟨f i, 0, none⟩) r.words.length r.words.length)
  blk : ∀ i r, s.recs[i]? = some r → Blk w (f i) (cellsOf r.words).toArray
  size : M < w.heap.size
/-- the copy's blocks are blocks of their own -/
structure Owned (M : Nat) (f : Nat → Nat) (N : Nat) (foot : List Nat) : Prop where
  inj : ∀ i j, i < N → j < N → f i = f j → i = j
  out : ∀ i, i < N → f i ∉ foot ∧ f i ≠ M
  m : M ∉ foot
theorem Copy.kept {S : Nat → Prop} {w w' : World} {M : Nat} {f : Nat → Nat} {s : St} (h : Copy w M f s) (hB : But S w w') (hM : ¬ S M) (hf : ∀ i, i < s.recs.length → ¬ S (f i)) : Copy w' M f s := by
  refine ⟨fun i r hr => ?_, fun i r hr => (h.blk i r hr).kept hB (hf i (List.getElem?_eq_some_iff.1 hr).1), Nat.lt_of_lt_of_le h.size hB.size⟩
  rw [World.cell?_of_block (hB.block M h.size hM)]
  exact h.cells i r hr
theorem Shelved.find {N : Nat} {s : St} (h : Shelved N s) (hk : s.recs.Pairwise (fun a b => a.x ≠ b.x)) {i : Nat} {r : Rec} (hr : s.recs[i]? = some r) : find s.recs (i + 1) = some r := by
  have := find_of_mem hk (List.mem_of_getElem? hr)
  rwa [h.key i r hr] at this
theorem Shelved.at {N : Nat} {s : St} (h : Shelved N s) {i : Nat} (hi : i < N) : ∃ r, s.recs[i]? = some r := ⟨_, List.getElem?_eq_getElem (by rw [h.cnt]; exact hi)⟩
theorem Fits.ne {s : St} (F : Fits s) : s.recs.Pairwise (fun a b => a.x ≠ b.x) := F.rise.imp (fun h e => by omega)
end Go.Proofs.Ytmamcpaejhjceaa.HP
