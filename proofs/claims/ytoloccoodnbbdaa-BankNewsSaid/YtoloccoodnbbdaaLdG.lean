/- The ladder: of words, how many run. -/
import Derived.RangeFuncNested
import Derived.RangeFuncBound
import Derived.RangeFuncCalls
import Derived.RangeFuncLeaves
import Derived.Shelf.Abstract
import Derived.Shelf.RegionOpen
import Derived.WalkKit
import Derived.OwnWalkIn
import Derived.TacticsInMore
import Derived.LoopNIn
import Derived.LoopIn
import Derived.WalkSpells
import Derived.WalkLawsBesides
import Derived.Deep.QuietTactic
import Derived.BigQuiet
import Derived.Lib.Hide
import Derived.Deep.WholeRow
import Derived.Deep.Onto
import Derived.Laws.CopyOwn
import Derived.Test.YtoloccoodnbbdaaLdF
namespace Go.Proofs.Ytoloccoodnbbdaa
open Go.RowKit Go.Shelf
attribute [local go_sem] Oper.semAt_some

theorem heap_cell2 (w : World) (o o' : Obj) (g j : Nat) (hg : g < w.heap.size) : ((w.alloc o).alloc o').cell? ⟨g, j, none⟩ = w.cell? ⟨g, j, none⟩ :=
  (two_boxes w o o').cell (p := ⟨g, j, none⟩) hg
theorem Addr.add_zero_off (g j : Nat) : (⟨g, 0, none⟩ : Addr).add j = ⟨g, j, none⟩ := by unfold Addr.add; split <;> simp_all

set_option maxRecDepth 100000 in
set_option maxHeartbeats 400000 in
theorem of3 (a b c : Nat) (g cap : Nat) (w : World) (h0 : w.cell? ⟨g, 0, none⟩ = some (.int .u32 a)) (h1 : w.cell? ⟨g, 1, none⟩ = some (.int .u32 b)) (h2 : w.cell? ⟨g, 2, none⟩ = some (.int .u32 c)) :
    Calls Try.prog 7 #[.slice (some ⟨g, 0, none⟩) 3 cap] w fun e w' => e = .returned (lad a b) ∧ Below w.heap.size w w' := by
  have hg : g < w.heap.size := World.block_lt_of_cell? _ _ h0
  go_enter Try.func7, Try.ntmps7
  go_wp2_with (refine wpList_copy_splice rfl (.tmp 5) (.tmp 6) 83 83 rfl 22 Try.underlying83 (by kernel_rfl) (some ⟨w.heap.size + 1, 0, none⟩) (some ⟨g, 0, none⟩) 2 2 3 cap rfl rfl (w.heap.size + 1) 0 [.int .u32 0, .int .u32 0] 27 (heap_alloc2_new _ _ _) [.int .u32 a, .int .u32 b] rfl ?c1 (by simp) (by simp [Value.oneCell']) (w.heap.size + 1) _ (Below.refl _ _) (Nat.le_refl _) ?_)
  case c1 =>
    intro j v hj
    match j, hj with
    | 0, hj => simp at hj; subst hj; exact h0
    | 1, hj => simp at hj; subst hj; exact h1
  intro w' hsp hb'
  have h5 : w'.heap[w.heap.size + 1]? = some (.cells #[.int .u32 a, .int .u32 b] 27) := hsp.out
  have h4 : w'.heap[w.heap.size]? = some (.cells #[.int .u32 0, .int .u32 0] 27) := (hb'.block _ (by omega)).trans (heap_alloc2_old _ _ _)
  have hB : Below w.heap.size w w' := (two_boxes _ _ _).trans (hb'.mono (by omega))
  go_wp2_with (first | (refine wpList_load_row rfl 27 _ rfl (w.heap.size + 1) rfl 27 _ (0, 0) _ h5 Try.underlying27 rfl (by kernel_rfl) ?_) | (refine wpList_store_row rfl 27 _ _ rfl w.heap.size #[.int .u32 a, .int .u32 b] rfl rfl 27 _ h4 (by kernel_rfl) rfl (by simp [Value.oneCell']) ?_))
  refine bodyPost_ret (v := lad a b) (results_cell_row (fn := Try.f7) Try.results7 _ _ w.heap.size 27 _ (0, 0) _ rfl (setRow_heap _ _ _ _ _ _ h4) Try.underlying27 rfl (by kernel_rfl)) rfl ⟨rfl, below_setRow hB (Nat.le_refl _) _⟩

set_option maxRecDepth 100000 in
set_option maxHeartbeats 400000 in
theorem of2 (a b : Nat) (g cap : Nat) (w : World) (h0 : w.cell? ⟨g, 0, none⟩ = some (.int .u32 a)) (h1 : w.cell? ⟨g, 1, none⟩ = some (.int .u32 b)) :
    Calls Try.prog 7 #[.slice (some ⟨g, 0, none⟩) 2 cap] w fun e w' => e = .returned (lad a b) ∧ Below w.heap.size w w' := by
  have hg : g < w.heap.size := World.block_lt_of_cell? _ _ h0
  go_enter Try.func7, Try.ntmps7
  go_wp2_with (refine wpList_copy_splice rfl (.tmp 5) (.tmp 6) 83 83 rfl 22 Try.underlying83 (by kernel_rfl) (some ⟨w.heap.size + 1, 0, none⟩) (some ⟨g, 0, none⟩) 2 2 2 cap rfl rfl (w.heap.size + 1) 0 [.int .u32 0, .int .u32 0] 27 (heap_alloc2_new _ _ _) [.int .u32 a, .int .u32 b] rfl ?c1 (by simp) (by simp [Value.oneCell']) (w.heap.size + 1) _ (Below.refl _ _) (Nat.le_refl _) ?_)
  case c1 =>
    intro j v hj
    match j, hj with
    | 0, hj => simp at hj; subst hj; exact h0
    | 1, hj => simp at hj; subst hj; exact h1
  intro w' hsp hb'
  have h5 : w'.heap[w.heap.size + 1]? = some (.cells #[.int .u32 a, .int .u32 b] 27) := hsp.out
  have h4 : w'.heap[w.heap.size]? = some (.cells #[.int .u32 0, .int .u32 0] 27) := (hb'.block _ (by omega)).trans (heap_alloc2_old _ _ _)
  have hB : Below w.heap.size w w' := (two_boxes _ _ _).trans (hb'.mono (by omega))
  go_wp2_with (first | (refine wpList_load_row rfl 27 _ rfl (w.heap.size + 1) rfl 27 _ (0, 0) _ h5 Try.underlying27 rfl (by kernel_rfl) ?_) | (refine wpList_store_row rfl 27 _ _ rfl w.heap.size #[.int .u32 a, .int .u32 b] rfl rfl 27 _ h4 (by kernel_rfl) rfl (by simp [Value.oneCell']) ?_))
  refine bodyPost_ret (v := lad a b) (results_cell_row (fn := Try.f7) Try.results7 _ _ w.heap.size 27 _ (0, 0) _ rfl (setRow_heap _ _ _ _ _ _ h4) Try.underlying27 rfl (by kernel_rfl)) rfl ⟨rfl, below_setRow hB (Nat.le_refl _) _⟩

set_option maxRecDepth 100000 in
set_option maxHeartbeats 400000 in
theorem of1 (a : Nat) (g cap : Nat) (w : World) (h0 : w.cell? ⟨g, 0, none⟩ = some (.int .u32 a)) :
    Calls Try.prog 7 #[.slice (some ⟨g, 0, none⟩) 1 cap] w fun e w' => e = .returned (lad a 0) ∧ Below w.heap.size w w' := by
  have hg : g < w.heap.size := World.block_lt_of_cell? _ _ h0
  go_enter Try.func7, Try.ntmps7
  go_wp2_with (refine wpList_copy_splice rfl (.tmp 5) (.tmp 6) 83 83 rfl 22 Try.underlying83 (by kernel_rfl) (some ⟨w.heap.size + 1, 0, none⟩) (some ⟨g, 0, none⟩) 2 2 1 cap rfl rfl (w.heap.size + 1) 0 [.int .u32 0, .int .u32 0] 27 (heap_alloc2_new _ _ _) [.int .u32 a] rfl ?c1 (by simp) (by simp [Value.oneCell']) (w.heap.size + 1) _ (Below.refl _ _) (Nat.le_refl _) ?_)
  case c1 =>
    intro j v hj
    match j, hj with
    | 0, hj => simp at hj; subst hj; exact h0
  intro w' hsp hb'
  have h5 : w'.heap[w.heap.size + 1]? = some (.cells #[.int .u32 a, .int .u32 0] 27) := hsp.out
  have h4 : w'.heap[w.heap.size]? = some (.cells #[.int .u32 0, .int .u32 0] 27) := (hb'.block _ (by omega)).trans (heap_alloc2_old _ _ _)
  have hB : Below w.heap.size w w' := (two_boxes _ _ _).trans (hb'.mono (by omega))
  go_wp2_with (first | (refine wpList_load_row rfl 27 _ rfl (w.heap.size + 1) rfl 27 _ (0, 0) _ h5 Try.underlying27 rfl (by kernel_rfl) ?_) | (refine wpList_store_row rfl 27 _ _ rfl w.heap.size #[.int .u32 a, .int .u32 0] rfl rfl 27 _ h4 (by kernel_rfl) rfl (by simp [Value.oneCell']) ?_))
  refine bodyPost_ret (v := lad a 0) (results_cell_row (fn := Try.f7) Try.results7 _ _ w.heap.size 27 _ (0, 0) _ rfl (setRow_heap _ _ _ _ _ _ h4) Try.underlying27 rfl (by kernel_rfl)) rfl ⟨rfl, below_setRow hB (Nat.le_refl _) _⟩

set_option maxRecDepth 100000 in
set_option maxHeartbeats 400000 in
theorem len_any (x0 x1 : Nat) (h0 : x0 < 4294967296) (h1 : x1 < 4294967296) (w : World) :
    Calls Try.prog 31 #[lad x0 x1] w fun e w' => e = .returned (.int .i64 ((popN x0 32 + popN x1 32 : Nat) : Int)) ∧ Below w.heap.size w w' := by
  have b0 := popN_le x0 32
  have b1 := popN_le x1 32
  go_enter Try.func31, Try.ntmps31
  go_wp2
  go_quiet ((go_at_call 52; exact Calls.quiet_of (ones_any _ (by assumption) _)))
  go_wp2
  go_ret
  refine ⟨by simp, ?_⟩
  exact below_drewN (one_box _ _) nq
end Go.Proofs.Ytoloccoodnbbdaa
