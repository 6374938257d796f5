/- Banks: awake. -/
import Derived.RangeFuncNested
import Derived.RangeFuncBound
import Derived.RangeFuncCalls
import Derived.RangeFuncLeaves
import Derived.Shelf.Abstract
import Derived.Shelf.RegionOpen
import Derived.WalkKit
import Derived.OwnWalkIn
import Derived.TacticsInMore
import Derived.LoopNIn
import Derived.LoopIn
import Derived.WalkSpells
import Derived.WalkLawsBesides
import Derived.Deep.QuietTactic
import Derived.BigQuiet
import Derived.Lib.Hide
import Derived.Deep.WholeRow
import Derived.Laws.Rows
import Derived.Laws.Tables
import Derived.Test.YtoloccoodnbbdaaBkL
namespace Go.Proofs.Ytoloccoodnbbdaa
open Go.RowKit Go.Shelf
attribute [local go_sem] Oper.semAt_some

theorem new_a (w : World) : Calls Try.prog 18 #[.int .i64 32, .int .i64 2, .string ⟨#[120]⟩] w fun e w' => e = .returned (.tuple #[.pointer (some ⟨w.heap.size + 1, 0, none⟩), .int .i64 0]) ∧ BP w' (w.heap.size + 1) w.heap.size 32 2 (fun _ => ez ⟨#[120]⟩) ∧ Below w.heap.size w w' :=
  (bnew_yes 32 2 ⟨#[120]⟩ w (by omega) (by omega)).mono fun _ _ ⟨h1, h2, h3, h4⟩ => ⟨h1, ⟨h2, h3⟩, h4⟩
theorem get_a (B D : Nat) (w : World) (h : BP w B D 32 2 (fun _ => ez ⟨#[120]⟩)) : Calls Try.prog 20 #[.pointer (some ⟨B, 0, none⟩), .int .i64 34] w fun e w' => e = .returned (.tuple #[.agg #[.bool false, .bool false, .bool false, .bool false, .bool false, .int .i64 0, .int .i64 0, .string ⟨#[]⟩], .int .i64 90]) ∧ Below w.heap.size w w' :=
  bget_no B D 32 2 _ 34 w h (by omega) (by omega) (by omega) (by decide)
theorem put_b (B D : Nat) (w : World) (hne : B ≠ D) (h : BP w B D 32 2 (fun _ => ez ⟨#[120]⟩)) : Calls Try.prog 39 #[.pointer (some ⟨B, 0, none⟩), .int .i64 32, .agg #[.bool false, .bool false, .bool true, .bool false, .bool true, .int .i64 1, .int .i64 165, .string ⟨#[]⟩]] w fun e w' => e = .returned (.int .i64 0) ∧ BP w' B D 32 2 fA ∧ ∀ n₀, n₀ ≤ D → n₀ ≤ w.heap.size → Below n₀ w w' := put_a B D w hne h

set_option maxRecDepth 100000 in
set_option maxHeartbeats 2000000 in
theorem awake9_any (w : World) : Calls Try.prog 17 #[] w fun e w' => e = .returned (.bool true) ∧ Below w.heap.size w w' := by
  have hq : ∀ w, (binOp .eql 93 (.agg #[.int .i64 32, .int .i64 160, .int .i64 1, .bool true]) (.agg #[.int .i64 32, .int .i64 160, .int .i64 1, .bool true])).run Try.prog w = .ok (.bool true) w := by
    intro w
    simp [go_sem]
  go_enter Try.func17, Try.ntmps17
  go_wp2_with (first
    | (go_at_call 18; refine (new_a _).mono ?_; rintro e w1 ⟨rfl, h1, B1⟩)
    | (go_at_call 20; refine (get_a _ _ _ h1).mono ?_; rintro e w2 ⟨rfl, hb2⟩; have h2 := (h1.below hb2).below (one_box w2 (.cells #[.bool false, .bool false, .bool false, .bool false, .bool false, .int .i64 0, .int .i64 0, .string ⟨#[]⟩] 56)); have B2 := (B1.trans (hb2.mono B1.size)).alloc (B1.trans (hb2.mono B1.size)).size (.cells #[.bool false, .bool false, .bool false, .bool false, .bool false, .int .i64 0, .int .i64 0, .string ⟨#[]⟩] 56))
    | (go_at_call 39; refine (put_b _ _ _ (by omega) h2).mono ?_; rintro e w3 ⟨rfl, h3, hb3⟩; have B3 := B2.trans (hb3 w.heap.size (Nat.le_refl _) B2.size))
    | (go_at_call 41; refine (ready_any _ _ _ h3).mono ?_; rintro e w4 ⟨P1, G, g, T, cap, rfl, hP, hgr, hG, hT, hR, hge, hb4⟩; have B4 := B3.trans (hb4.mono B3.size); have h4 := h3.below hb4)
    | (go_at_call 40; refine (best_ready P1 _ G g T cap _ _ _ hP hgr hG hT h4.1 hR).mono ?_; rintro e w5 ⟨rfl, hb5⟩; have B5 := (B4.trans (hb5.mono B4.size)).alloc (B4.trans (hb5.mono B4.size)).size (.cells #[.int .i64 32, .int .i64 160, .int .i64 1, .bool true] 93)))
  go_ret
  exact ⟨rfl, B5⟩
end Go.Proofs.Ytoloccoodnbbdaa
