/- The document's ladder of bools: where a priority stands, Set. -/
import Derived.RangeFuncNested
import Derived.RangeFuncBound
import Derived.RangeFuncCalls
import Derived.RangeFuncLeaves
import Derived.Shelf.Abstract
import Derived.Shelf.RegionOpen
import Derived.WalkKit
import Derived.OwnWalkIn
import Derived.TacticsInMore
import Derived.LoopNIn
import Derived.LoopIn
import Derived.WalkSpells
import Derived.WalkLawsBesides
import Derived.Deep.QuietTactic
import Derived.BigQuiet
import Derived.Lib.Hide
import Derived.Deep.WholeRow
import Derived.Test.YtoloccoodnbbdaaLdA
namespace Go.Proofs.Ytoloccoodnbbdaa
open Go.RowKit Go.Shelf
attribute [local go_sem] Oper.semAt_some
theorem below_setRow {B g : Nat} {w0 w : World} (h : Below B w0 w) (hB : B ≤ g) (cs : Array Value) : Below B w0 (w.setRow g cs) :=
  ⟨h.os, h.tape, h.output, by rw [setRow_size]; exact h.size, fun k hk => (setRow_other w g k cs (by omega)).trans (h.block k hk)⟩

/-- Where a priority in a group stands. -/
def idx (g p : Int) : Nat := 2 * ksel p + gsel g
theorem idx_lt (g p : Int) : idx g p < 64 := by unfold idx; have := gsel_lt g; have := ksel_lt p; omega

theorem ksel_step (p : Int) (j : Nat) (hj : j < 5) : ksel p % 2 ^ (j + 1) = ksel p % 2 ^ j + 2 ^ j * gsel (p / 2 ^ (j + 3)) := by
  have : j = 0 ∨ j = 1 ∨ j = 2 ∨ j = 3 ∨ j = 4 := by omega
  unfold ksel gsel
  rcases this with rfl | rfl | rfl | rfl | rfl
  all_goals (simp only [Nat.reduceAdd, Nat.reducePow, Int.reducePow]; omega)
theorem place_yes (p : Int) (j : Nat) (hj : j < 5) (h : (bits .and .i64 (p / 2 ^ (j + 3)) 1 == 1) = true) :
    wrap64 (((ksel p % 2 ^ j : Nat) : Int) + wrap64 (2 ^ j)) = ((ksel p % 2 ^ (j + 1) : Nat) : Int) := by
  rw [bits_and1_i64] at h
  have h0 : (gsel (p / 2 ^ (j + 3)) : Int) = 1 := by simpa using h
  have h1 : gsel (p / 2 ^ (j + 3)) = 1 := by omega
  rw [ksel_step p j hj, h1]
  have : j = 0 ∨ j = 1 ∨ j = 2 ∨ j = 3 ∨ j = 4 := by omega
  have hk := ksel_lt p
  rcases this with rfl | rfl | rfl | rfl | rfl <;> (unfold wrap64; omega)
theorem place_no (p : Int) (j : Nat) (hj : j < 5) (h : (bits .and .i64 (p / 2 ^ (j + 3)) 1 == 1) = false) :
    ksel p % 2 ^ j = ksel p % 2 ^ (j + 1) := by
  rw [bits_and1_i64] at h
  have := gsel_lt (p / 2 ^ (j + 3))
  have h1 : gsel (p / 2 ^ (j + 3)) = 0 := by
    have h2 : ¬ (gsel (p / 2 ^ (j + 3)) : Int) = 1 := by simpa using h
    omega
  rw [ksel_step p j hj, h1]; omega
theorem place_end (g p : Int) : wrap64 (wrap64 (2 * ((ksel p : Int) % 2 ^ 5)) + (gsel g : Int)) = (idx g p : Int) := by
  have h1 := ksel_lt p
  have h2 := gsel_lt g
  unfold idx wrap64; omega

set_option maxHeartbeats 400000 in
theorem place_any (g p : Int) (w : World) :
    Calls Try.prog 37 #[.int .i64 g, .int .i64 p] w fun e w' => e = .returned (.int .i64 (idx g p)) ∧ w = w' := by
  have e1 := bits_and1_i64 g
  go_enter Try.func37, Try.ntmps37
  go_wp2_with fail
  go_loop [5, 6] (fun k i => ∃ j : Nat, j ≤ 5 ∧ i = .int .i64 ((j + 3 : Nat) : Int) ∧ k = .int .i64 ((ksel p % 2 ^ j : Nat) : Int)) (fun _ i => 8 - (intOf i).toNat)
  case atStart => exact ⟨0, by omega, rfl, by simp [Nat.mod_one]⟩
  case round =>
    obtain ⟨j, hj, rfl, rfl⟩ := hrel
    go_wp2
    · have hlt : (j : Int) + 3 ≤ 7 := by assumption
      have ht : (bits .and .i64 (p / 2 ^ (j + 3)) 1 == 1) = true := by assumption
      have hp := place_yes p j (by omega) ht
      refine ⟨⟨j + 1, by omega, by go_num, ?_⟩, by simp [intOf]; omega⟩
      rw [← hp]; simp
    · have hlt : (j : Int) + 3 ≤ 7 := by assumption
      have ht : (bits .and .i64 (p / 2 ^ (j + 3)) 1 == 1) = false := by assumption
      exact ⟨⟨j + 1, by omega, by go_num, by rw [place_no p j (by omega) ht]⟩, by simp [intOf]; omega⟩
    · have hge : (7 : Int) < (j : Int) + 3 := by assumption
      obtain rfl : j = 5 := by omega
      rw [place_end]
      go_ret
      exact ⟨rfl, rfl⟩
set_option maxRecDepth 100000 in
set_option maxHeartbeats 400000 in
theorem set_any (C : Array Value) (hC : C.size = 64) (h1 : C.all (·.oneCell') = true) (g p : Int) (b : Bool) (w : World) :
    Calls Try.prog 11 #[.agg C, .int .i64 g, .int .i64 p, .bool b] w fun e w' => e = .returned (.agg (C.setIfInBounds (idx g p) (.bool b))) ∧ Below w.heap.size w w' := by
  have hi := idx_lt g p
  have hi' : (idx g p : Int) < 64 := by omega
  obtain ⟨v0, hv0⟩ : ∃ v0, C[idx g p]? = some v0 := ⟨C[idx g p], by simp⟩
  obtain ⟨D, hD⟩ : ∃ D, C.setIfInBounds (idx g p) (.bool b) = D := ⟨_, rfl⟩
  have hDs : D.size = 64 := by rw [← hD]; simpa using hC
  have hD1 : D.all (·.oneCell') = true := by
    rw [← hD]
    rw [Array.all_eq_true_iff_forall_mem] at h1 ⊢
    intro v hv
    rcases Array.mem_or_eq_of_mem_setIfInBounds hv with h | rfl
    · exact h1 v h
    · rfl
  clear h1
  have hDi : (Try.prog.info? 31).map (·.size) = some D.size := by rw [hDs]; kernel_rfl
  have HC := Lib.hid hC
  have HDs := Lib.hid hDs
  clear hC hDs
  go_enter Try.func11, Try.ntmps11
  go_wp2_with (first | (go_at_call 37; refine (place_any _ _ _).mono ?_; rintro e w1 ⟨rfl, rfl⟩) | (refine wpList_load_row rfl 31 _ rfl w.heap.size rfl 31 D (0, 0) _ (heap_alloc2_old _ _ _) Try.underlying31 rfl hDi ?_) | (refine wpList_store_row rfl 31 _ _ rfl (w.heap.size + 1) D rfl rfl 31 _ (heap_alloc2_new _ _ _) hDi ?_ hD1 ?_; (rw [HDs.out]; rfl)))
  exact bodyPost_ret (v := .agg D) (results_cell_row (fn := Try.f11) rfl _ _ (w.heap.size + 1) 31 D (0, 0) _ rfl (setRow_heap _ _ _ _ _ _ (heap_alloc2_new _ _ _)) Try.underlying31 rfl hDi) rfl ⟨by rw [hD], below_setRow (two_boxes _ _ _) (by omega) _⟩
end Go.Proofs.Ytoloccoodnbbdaa
