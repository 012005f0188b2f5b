/- HeapRoom's walk. -/
import Derived.Test.YtmamcpaejhjceaaW4
namespace Go.Proofs.Ytmamcpaejhjceaa.HP
open Go.MapKept Go.ChangeMaps Go.RowKit

theorem Fits.fresh {a b : Int} (h0 : 0 ≤ a) (h1 : a ≤ 65536) (h2 : 0 ≤ b) (h3 : b ≤ 65536) : Fits ⟨a, b, 0, 0, []⟩ :=
  ⟨h0, h1, h2, h3, rfl, h0, Int.le_refl _, h2, by simp, List.Pairwise.nil⟩
theorem foot_low {w : World} {base p mb : Nat} {s : St} (h : HeapAt w base p mb s) (i : Nat) (hi : i ∈ p :: mb :: blks s.recs) : base ≤ i := h.low i hi
theorem awake_any (w : World) : Calls Try.prog 7 #[] w fun e w' => e = .returned (.bool true) ∧ Below w.heap.size w w' := by
  go_enter Try.func7, Try.ntmps7
  go_wp2_with (first | (go_at_call 6; refine (New_in 10 40 w (by omega) (by omega) (by omega) (by omega)).mono ?_; rintro e w1 ⟨p, mb, rfl, hH, hB⟩))
  refine (Alloc_small 4 w1 hH (Fits.fresh (by omega) (by omega) (by omega) (by omega)) (by show (0 : Int) ≤ _; omega) (by omega) (by omega) (by show (4 : Int) ≤ 10 - 0; omega)).mono ?_
  rintro e w2 ⟨rfl, ob, wb, _, _, hH2, hB2⟩
  have hbel2 : Below w.heap.size w w2 := hB.trans (hB2.below (foot_low hH) hB.size)
  clear hB hB2
  go_wp2_with fail
  refine (Alloc_full 7 w2 hH2 (Fits.push (Fits.fresh (by omega) (by omega) (by omega) (by omega)) 4 ob wb (by omega) (by omega) (by show (4 : Int) ≤ 10 - 0; omega)) (by omega) (by omega) (by show (10 : Int) - (0 + 4) < 7; omega)).mono ?_
  rintro e w3 ⟨rfl, k, rfl⟩
  clear hH2 hH
  go_wp2
  go_ret
  exact ⟨rfl, below_drewN hbel2 _⟩
/-- a slice of integers of one kind that reads so -/
def RdK (q : IntKind) (w : World) (A : Option Addr) (n : Nat) (zs : List Int) : Prop := ∀ k, k < n → ∃ b off, A = some ⟨b, off, none⟩ ∧ b < w.heap.size ∧ ∀ j, j < n → w.cell? ⟨b, off + j, none⟩ = some (.int q (zs.getD j 0))
theorem kept_nil : ∀ (a : Int) (l : List Rec), kept [] a l = []
  | _, [] => rfl
  | a, r :: l => by simp [kept, kept_nil a l]
theorem freed_nil : ∀ l : List Rec, freed [] l = sumS l + sumL l
  | [] => rfl
  | r :: l => by simp only [freed, sumS, sumL, freed_nil l, List.not_mem_nil, if_false]; split <;> omega
theorem keptTop_nil : ∀ l : List Rec, keptTop [] l = 0
  | [] => rfl
  | r :: l => by simp [keptTop, keptTop_nil l]
section
variable {base p mb : Nat} {s : St}
/-- a collection without roots -/
theorem Collect_nil (w : World) (h : HeapAt w base p mb s) (F : Fits s) :
    Calls Try.prog 9 #[.pointer (some ⟨p, 0, none⟩), .slice none 0 0] w fun e w' => e = .returned (.tuple #[.int .i64 ((sumS s.recs + sumL s.recs : Nat) : Int), .int .i64 0]) ∧
      HeapAt w' base p mb { s with top := 0, recs := [] } ∧ But (fun k => k ∈ p :: mb :: blks s.recs) w w' := by
  refine (Collect_any none 0 [] w (fun _ => rfl) (fun k hk => by simp at hk) (by simp) h F).mono ?_
  rintro e w' (⟨⟨x, hx, _⟩, _⟩ | ⟨_, K, hK, rfl, hH, hB⟩)
  · simp at hx
  · have hK0 : K = [] := by
      rcases K with _ | ⟨x, K⟩
      · rfl
      · have : Reach s.recs [] x := (hK x).1 (by simp)
        exfalso
        have key : ∀ y, Reach s.recs [] y → False := by
          intro y hy
          induction hy with
          | root hx _ => simp at hx
          | step _ _ _ _ ih => exact ih
        exact key x this
    subst hK0
    rw [kept_nil, keptTop_nil] at hH
    rw [freed_nil]
    exact ⟨rfl, hH, hB⟩
end
theorem Room_any (a0 : Int) (A : Option Addr) (n cap : Nat) (zs : List Int) (w : World) (h0 : 0 ≤ a0) (h1 : a0 ≤ 255) (hn : n ≤ 9223372036854775807) (hR : RdK .u8 w A n zs) (hz : ∀ j, 0 ≤ zs.getD j 0 ∧ zs.getD j 0 ≤ 255) :
    Calls Try.prog 3 #[.int .u8 a0, .slice A n cap] w fun e w' => e = .returned (.bool true) ∧ Below w.heap.size w w' := by
  go_enter Try.func3, Try.ntmps3
  go_wp2_with (first
    | (go_at_call 6; refine (New_in a0 0 w (by omega) (by omega) (by omega) (by omega)).mono ?_; rintro e w1 ⟨p, mb, rfl, hH, hB⟩)
    | (go_at_call 7; refine (awake_any _).mono ?_; rintro e w2 ⟨rfl, hB2⟩))
  have hH2 := hH.below hB2
  have hB3 : Below w.heap.size w w2 := hB.trans (hB2.mono hB.size)
  clear hB hB2 hH
  go_loopw [7, 8] (fun u i wr => ∃ (k : Nat) (s : St), i = .int .i64 k ∧ k ≤ n ∧ u = .int .i64 s.top ∧ HeapAt wr w.heap.size p mb s ∧ Fits s ∧ Hid (s.small = a0 ∧ s.big = 0) ∧ s.last ≤ k ∧ Below w.heap.size w wr)
    (fun _ i _ => n - (intOf i).toNat)
  case atStart => exact ⟨0, _, rfl, Nat.zero_le _, rfl, hH2, Fits.fresh h0 (by omega) (by omega) (by omega), ⟨rfl, rfl⟩, Int.le_refl _, hB3⟩
  case round =>
    obtain ⟨k, s, rfl, hk, rfl, hH, F, HS, hl, hBel⟩ := hrel
    clear hH2 hB3
    by_cases hlt : k < n
    · obtain ⟨b, off, eA, hb, hc⟩ := hR k hlt
      have hck : wr.cell? ⟨b, off + k, none⟩ = some (.int .u8 (zs.getD k 0)) := by
        rw [hBel.cell (p := ⟨b, off + k, none⟩) hb]; exact hc k hlt
      clear hc
      subst eA
      obtain ⟨z0, z1⟩ := hz k
      generalize zs.getD k 0 = z at hck z0 z1
      obtain ⟨m, hm⟩ : ∃ m : Nat, z % 16 + 1 = m := ⟨(z % 16 + 1).toNat, by omega⟩
      have hm1 : 1 ≤ m ∧ m ≤ 16 := by omega
      have t0 := F.top0; have t1 := F.top1; have l0 := F.last0
      have hsm := HS.out.1
      have hF := F.push m
      by_cases hfit : s.top + m ≤ a0
      · have hd : decide (s.top + (m : Int) ≤ a0) = true := by simpa using hfit
        have hfit' : (m : Int) ≤ s.small - s.top := by omega
        have ht1 : s.top ≤ a0 := by omega
        clear hsm t1
        go_wp2_with (first
          | (go_at_call 8; refine (Alloc_small m _ hH F (by omega) hm1.1 hm1.2 hfit').mono ?_; rintro e w3 ⟨rfl, ob, wb, _, _, hH3, hB3⟩))
        go_roundw
        case rel => exact ⟨k + 1, _, by go_num, by omega, rfl, hH3, hF ob wb hm1.1 hm1.2 hfit', HS, by show s.last + 1 ≤ _; omega, hBel.trans (hB3.below (foot_low hH) hBel.size)⟩
        case measure => simp [intOf]; omega
      · have hd : decide (s.top + (m : Int) ≤ a0) = false := by simp; omega
        have hfit' : s.small - s.top < (m : Int) := by omega
        have ht1 : s.top ≤ a0 := by omega
        have hsl : sumL s.recs = 0 := by have := F.bigs; rw [HS.out.2] at this; omega
        have htop : ((sumS s.recs + sumL s.recs : Nat) : Int) = s.top := by rw [hsl, F.topS]; omega
        have HT := Lib.hid htop
        clear hsm t1 hsl htop
        go_wp2_with (first
          | (go_at_call 8; refine (Alloc_full m _ hH F (by omega) (by omega) hfit').mono ?_; rintro e w3 ⟨rfl, kk, rfl⟩)
          | (go_at_call 9; refine (Collect_nil _ hH.drewN F).mono ?_; rintro e w4 ⟨rfl, hH4, hB4⟩; rw [HT.out]))
        have hB5 : Below w.heap.size w w4 := (below_drewN hBel kk).trans (hB4.below (foot_low hH) hBel.size)
        have hF4 : Fits { s with top := 0, recs := [] } := ⟨F.small0, F.small1, F.big0, F.big1, rfl, F.small0, F.last0, F.big0, by simp, List.Pairwise.nil⟩
        clear hB4 hBel hH
        refine (Live_form _ hH4 (by simp) List.Pairwise.nil).mono ?_
        rintro e w5 ⟨A5, c5, rfl, _, _, hB6⟩
        have hH5 := hH4.below hB6
        have hB7 : Below w.heap.size w w5 := hB5.trans (hB6.mono hB5.size)
        clear hB6 hB5 hH4
        simp only [List.length_nil]
        go_wp2
        go_roundw
        case rel => exact ⟨k + 1, _, by go_num, by omega, rfl, hH5, hF4, HS, by show s.last ≤ _; omega, hB7⟩
        case measure => simp [intOf]; omega
    · obtain rfl : k = n := by omega
      have t0 := F.top0; have t1 := F.top1
      have ht1 : s.top ≤ a0 := by rw [← HS.out.1]; exact t1
      have hsl : sumL s.recs = 0 := by have := F.bigs; rw [HS.out.2] at this; omega
      have hr1 : s.small - s.top = a0 - s.top := by rw [HS.out.1]
      have hr2 : s.big - sumL s.recs = 0 := by rw [HS.out.2, hsl]; rfl
      have HR1 := Lib.hid hr1
      have HR2 := Lib.hid hr2
      clear hsl hr1 hr2 t1
      have hr3 : (s.small - s.top == a0 - s.top) = true := by rw [HR1.out]; simp
      go_wp2_with (first
        | (go_at_call 11; refine (Free_any _ hH F).mono ?_; rintro e w3 ⟨rfl, hB3⟩; rw [HR1.out, HR2.out]))
      go_ret
      exact ⟨by simp, hBel.trans (hB3.mono hBel.size)⟩
end Go.Proofs.Ytmamcpaejhjceaa.HP
