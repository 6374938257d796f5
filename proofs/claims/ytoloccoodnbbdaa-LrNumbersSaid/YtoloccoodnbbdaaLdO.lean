/- The ladder: awake. -/
import Derived.RangeFuncNested
import Derived.RangeFuncBound
import Derived.RangeFuncCalls
import Derived.RangeFuncLeaves
import Derived.Shelf.Abstract
import Derived.Shelf.RegionOpen
import Derived.WalkKit
import Derived.OwnWalkIn
import Derived.TacticsInMore
import Derived.LoopNIn
import Derived.LoopIn
import Derived.WalkSpells
import Derived.WalkLawsBesides
import Derived.Deep.QuietTactic
import Derived.BigQuiet
import Derived.Lib.Hide
import Derived.Deep.WholeRow
import Derived.Deep.Onto
import Derived.RangeFuncWrites
import Derived.Laws.Rows
import Derived.Laws.Tables
import Derived.Deep.RegionHeld3
import Derived.Test.YtoloccoodnbbdaaHd
import Derived.Test.YtoloccoodnbbdaaLdN
namespace Go.Proofs.Ytoloccoodnbbdaa
open Go.RowKit Go.Shelf
attribute [local go_sem] Oper.semAt_some

theorem lit4 (w : World) : RI (w.alloc (.cells #[.int .i64 8, .int .i64 0, .int .i64 160, .int .i64 1] 3)) (.slice (some ⟨w.heap.size, 0, none⟩) 4 4) [8, 0, 160, 1] := by
  refine ⟨_, _, rfl, fun h => (by cases h), fun g h => ?_⟩
  cases h
  refine ⟨rfl, fun j hj => ?_⟩
  have hb := (Blk.new w 3 #[.int .i64 8, .int .i64 0, .int .i64 160, .int .i64 1]).cell j
  simp at hj
  match j, hj with
  | 0, _ => exact hb
  | 1, _ => exact hb
  | 2, _ => exact hb
  | 3, _ => exact hb
theorem same_a (v u : Value) (w : World) (hv : RI w v [8, 0, 160, 1]) (hu : RI w u [8, 0, 160, 1]) : Calls Try.prog 32 #[v, u] w fun e w' => e = .returned (.bool true) ∧ ∃ n, w' = w.drewN n := by
  have := same_any [8, 0, 160, 1] [8, 0, 160, 1] v u w (by decide) (by decide) hv hu
  rw [decide_eq_true rfl] at this
  exact this
theorem of_a (g cap : Nat) (w : World) (h0 : w.cell? ⟨g, 0, none⟩ = some (.int .u32 1)) (h1 : w.cell? ⟨g, 1, none⟩ = some (.int .u32 3)) :
    Calls Try.prog 7 #[.slice (some ⟨g, 0, none⟩) 2 cap] w fun e w' => e = .returned (two 1 3) ∧ Below w.heap.size w w' := of2 1 3 g cap w h0 h1

theorem bLater {w w1 w2 : World} (h : Below w.heap.size w w1) (h2 : Below w1.heap.size w1 w2) : Below w.heap.size w w2 := h.trans (h2.mono h.size)
set_option maxRecDepth 100000 in
set_option maxHeartbeats 1000000 in
theorem awake8_any (w : World) : Calls Try.prog 6 #[] w fun e w' => e = .returned (.bool true) ∧ Below w.heap.size w w' := by
  have z0 := Blk.new w 27 #[.int .u32 0, .int .u32 0]
  have bz : Below w.heap.size w (w.alloc (.cells #[.int .u32 0, .int .u32 0] 27)) := one_box _ _
  go_enter Try.func6, Try.ntmps6
  go_wp2_with (first | (go_at_call 10; with_reducible refine (push_a _).mono ?_; rintro e w1 ⟨rfl, hb1⟩; have z1 := z0.below hb1 z0.lt; have B1 := bLater bz hb1) | (go_at_call 10; with_reducible refine (push_b _).mono ?_; rintro e w2 ⟨rfl, hb2⟩; have z2 := z1.below hb2 z1.lt; have B2 := bLater B1 hb2) | (refine wpList_store_row rfl 27 _ _ rfl (w.heap.size) #[.int .u32 2, .int .u32 1048576] rfl rfl 27 _ z2 (info27 _ rfl) rfl (by simp [Value.oneCell']) ?_; have z3 := z2.row #[.int .u32 2, .int .u32 1048576]; have B3 := below_setRow B2 (Nat.le_refl _) #[.int .u32 2, .int .u32 1048576]) | (refine wpList_load_row rfl 27 _ rfl (w.heap.size) rfl 27 _ (0, 0) _ z3 Try.underlying27 rfl (info27 _ rfl) ?_) | (go_at_call 30; with_reducible refine (run_a _).mono ?_; rintro e w3 ⟨rfl, hb3⟩; have z4 := z3.below hb3 z3.lt; have B4 := bLater B3 hb3) | (refine wpList_load_row rfl 27 _ rfl (w.heap.size) rfl 27 _ (0, 0) _ z4 Try.underlying27 rfl (info27 _ rfl) ?_) | (go_at_call 13; with_reducible refine (drop_a _).mono ?_; rintro e w4 ⟨rfl, hb4⟩; have z5 := (z4.below hb4 z4.lt).alloc (.cells #[.int .u32 0, .int .u32 0] 27); have B5 := (bLater B4 hb4).alloc (bLater B4 hb4).size (.cells #[.int .u32 0, .int .u32 0] 27); have y0 := Blk.new w4 27 #[.int .u32 0, .int .u32 0]) | (refine wpList_store_row rfl 27 _ _ rfl (w4.heap.size) #[.int .u32 0, .int .u32 1048576] rfl rfl 27 _ y0 (info27 _ rfl) rfl (by simp [Value.oneCell']) ?_; have y1 := y0.row #[.int .u32 0, .int .u32 1048576]; have z6 := z5.row_other w4.heap.size #[.int .u32 0, .int .u32 1048576] (by have := z4.lt; have := hb4.size; omega); have B6 := below_setRow B5 (g := w4.heap.size) (by have := z4.lt; have := hb4.size; omega) #[.int .u32 0, .int .u32 1048576]) | (refine wpList_load_row rfl 27 _ rfl (w4.heap.size) rfl 27 _ (0, 0) _ y1 Try.underlying27 rfl (info27 _ rfl) ?_) | (go_at_call 30; with_reducible refine (run_b _).mono ?_; rintro e w5 ⟨rfl, hb5⟩; have y2 := y1.below hb5 y1.lt; have z7 := z6.below hb5 z6.lt; have B7 := bLater B6 hb5) | (refine wpList_load_row rfl 27 _ rfl (w4.heap.size) rfl 27 _ (0, 0) _ y2 Try.underlying27 rfl (info27 _ rfl) ?_) | (go_at_call 13; with_reducible refine (drop_b _).mono ?_; rintro e w6 ⟨rfl, hb6⟩; have z8 := (z7.below hb6 z7.lt).alloc (.cells #[.int .u32 0, .int .u32 0] 27); have B8 := (bLater B7 hb6).alloc (bLater B7 hb6).size (.cells #[.int .u32 0, .int .u32 0] 27); have x0 := Blk.new w6 27 #[.int .u32 0, .int .u32 0]) | (refine wpList_store_row rfl 27 _ _ rfl (w6.heap.size) #[.int .u32 0, .int .u32 0] rfl rfl 27 _ x0 (info27 _ rfl) rfl (by simp [Value.oneCell']) ?_; have x1 := x0.row #[.int .u32 0, .int .u32 0]; have z9 := z8.row_other w6.heap.size #[.int .u32 0, .int .u32 0] (by have := z7.lt; have := hb6.size; omega); have B9 := below_setRow B8 (g := w6.heap.size) (by have := z7.lt; have := hb6.size; omega) #[.int .u32 0, .int .u32 0]) | (refine wpList_load_row rfl 27 _ rfl (w6.heap.size) rfl 27 _ (0, 0) _ x1 Try.underlying27 rfl (info27 _ rfl) ?_) | (go_at_call 30; with_reducible refine (run_c _).mono ?_; rintro e w7 ⟨rfl, hb7⟩; have z10 := z9.below hb7 z9.lt; have B10 := bLater B9 hb7) | (go_at_call 7; refine (of_a w7.heap.size _ _ (((Blk.new _ _ _).cell 0).trans rfl) (((Blk.new _ _ _).cell 1).trans rfl)).mono ?_; rintro e w8 ⟨rfl, hb8⟩; have z11 := (z10.alloc (.cells #[.int .u32 1, .int .u32 3] 22)).below hb8 (z10.alloc _).lt; have B11 := bLater (B10.alloc B10.size (.cells #[.int .u32 1, .int .u32 3] 22)) hb8) | (go_at_call 31; with_reducible refine (len_a _).mono ?_; rintro e w9 ⟨rfl, hb9⟩; have z12 := z11.below hb9 z11.lt; have B12 := bLater B11 hb9; have k0 : w9.cell? ⟨w.heap.size, 0, none⟩ = some (.int .u32 2) := (z12.cell 0).trans rfl; have k1 : w9.cell? ⟨w.heap.size, 1, none⟩ = some (.int .u32 1048576) := (z12.cell 1).trans rfl) | (refine wpList_load_row rfl 27 _ rfl (w.heap.size) rfl 27 _ (0, 0) _ z12 Try.underlying27 rfl (info27 _ rfl) ?_) | (go_at_call 33; refine (allL_a _).mono ?_; rintro e w10 ⟨v, rfl, hv, hb10⟩; have B13 := bLater B12 hb10; have rv := (RI.of_owns hv).below (one_box _ (.cells #[.int .i64 8, .int .i64 0, .int .i64 160, .int .i64 1] 3)); have ru := lit4 w10) | (go_at_call 32; refine (same_a _ _ _ rv ru).mono ?_; rintro e w11 ⟨rfl, n11, rfl⟩))
  go_ret
  exact ⟨rfl, below_drewN (B13.alloc B13.size (.cells #[.int .i64 8, .int .i64 0, .int .i64 160, .int .i64 1] 3)) n11⟩
end Go.Proofs.Ytoloccoodnbbdaa
