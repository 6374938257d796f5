/- List registers: the law's walk. -/
import Derived.RangeFuncNested
import Derived.RangeFuncBound
import Derived.RangeFuncCalls
import Derived.RangeFuncLeaves
import Derived.Shelf.Abstract
import Derived.Shelf.RegionOpen
import Derived.WalkKit
import Derived.OwnWalkIn
import Derived.TacticsInMore
import Derived.LoopNIn
import Derived.LoopIn
import Derived.WalkSpells
import Derived.WalkLawsBesides
import Derived.Deep.QuietTactic
import Derived.BigQuiet
import Derived.Lib.Hide
import Derived.Deep.WholeRow
import Derived.Laws.Rows
import Derived.Laws.Tables
import Derived.Test.YtoloccoodnbbdaaLrQ
import Derived.Test.YtoloccoodnbbdaaLdR
namespace Go.Proofs.Ytoloccoodnbbdaa
open Go.RowKit Go.Shelf
attribute [local go_sem] Oper.semAt_some

set_option maxRecDepth 100000 in
set_option maxHeartbeats 4000000 in
theorem lrNumbers_any (s n p g m : Int) (h t : Bool) (v : Nat) (hv : v < 2 ^ 64) (w : World) :
    Calls Try.prog 5 #[.agg #[.int .i64 s, .int .i64 n, .int .i64 p, .int .i64 g, .bool h, .int .i64 m, .bool t], .int .u64 (v : Int)] w fun e w' => e = .returned (.bool true) ∧ Below w.heap.size w w' := by
  have cM := may_any s n p g h m t
  obtain ⟨U, k, hE, _, cE, cR⟩ := enc_any s n p g m h t
  obtain ⟨s', n', p', g', m', h', t', fine, cD, cDR⟩ := dec_any v hv
  rw [hE] at cM
  clear hE hv
  have hq : ∀ w, (binOp .eql 65 (.agg #[.int .i64 s', .int .i64 n', .int .i64 p', .int .i64 g', .bool h', .int .i64 m', .bool t']) (.agg #[.int .i64 s', .int .i64 n', .int .i64 p', .int .i64 g', .bool h', .int .i64 m', .bool t'])).run Try.prog w = .ok (.bool true) w := by
    intro w
    simp [go_sem]
  have z0 := Blk.new w 65 #[.int .i64 s, .int .i64 n, .int .i64 p, .int .i64 g, .bool h, .int .i64 m, .bool t]
  have bz : Below w.heap.size w (w.alloc (.cells #[.int .i64 s, .int .i64 n, .int .i64 p, .int .i64 g, .bool h, .int .i64 m, .bool t] 65)) := one_box _ _
  cases k <;> cases fine <;> simp only [if_true, if_false, Bool.false_eq_true] at cE cM cD
  all_goals
    go_enter Try.func5, Try.ntmps5
    go_wp2_with (first | (refine wpList_load_row rfl 65 _ rfl (w.heap.size) rfl 65 _ (0, 0) _ z0 Try.underlying65 rfl (info65 _ rfl) ?_) | (go_at_call 24; with_reducible refine (cE _).mono ?_; rintro e w1 ⟨rfl, hb1⟩; have z1 := z0.below hb1 z0.lt; have B1 := bLater bz hb1) | (refine wpList_load_row rfl 65 _ rfl (w.heap.size) rfl 65 _ (0, 0) _ z1 Try.underlying65 rfl (info65 _ rfl) ?_) | (go_at_call 25; with_reducible refine (cR _).mono ?_; rintro e w2 ⟨rfl, hb2⟩; have z2 := z1.below hb2 z1.lt; have B2 := bLater B1 hb2) | (go_at_call 26; with_reducible refine (cD _).mono ?_; rintro e w3 ⟨rfl, hb3⟩; have z3 := (z2.below hb3 z2.lt).alloc (.cells #[.int .i64 s', .int .i64 n', .int .i64 p', .int .i64 g', .bool h', .int .i64 m', .bool t'] 65); have B3 := (bLater B2 hb3).alloc (bLater B2 hb3).size (.cells #[.int .i64 s', .int .i64 n', .int .i64 p', .int .i64 g', .bool h', .int .i64 m', .bool t'] 65); have x3 := Blk.new w3 65 #[.int .i64 s', .int .i64 n', .int .i64 p', .int .i64 g', .bool h', .int .i64 m', .bool t']) | (go_at_call 27; with_reducible refine (cDR _).mono ?_; rintro e w4 ⟨rfl, hb4⟩; have z4 := (z3.below hb4 z3.lt).alloc (.cells #[.int .i64 s', .int .i64 n', .int .i64 p', .int .i64 g', .bool h', .int .i64 m', .bool t'] 65); have x4 := (x3.below hb4 x3.lt).alloc (.cells #[.int .i64 s', .int .i64 n', .int .i64 p', .int .i64 g', .bool h', .int .i64 m', .bool t'] 65); have B4 := (bLater B3 hb4).alloc (bLater B3 hb4).size (.cells #[.int .i64 s', .int .i64 n', .int .i64 p', .int .i64 g', .bool h', .int .i64 m', .bool t'] 65); have y4 := Blk.new w4 65 #[.int .i64 s', .int .i64 n', .int .i64 p', .int .i64 g', .bool h', .int .i64 m', .bool t']) | (go_at_call 28; with_reducible refine (awake20_any _).mono ?_; rintro e w5 ⟨rfl, hb5⟩; have z5 := z4.below hb5 z4.lt; have x5 := x4.below hb5 x4.lt; have y5 := y4.below hb5 y4.lt; have B5 := bLater B4 hb5) | (refine wpList_load_row_w (by rfl) 65 _ rfl (w.heap.size) rfl 65 _ (0, 0) _ z5 Try.underlying65 rfl (info65 _ rfl) ?_) | (go_at_call 29; with_reducible refine (cM _).mono ?_; rintro e w6 ⟨rfl, hb6⟩; have x6 := x5.below hb6 x5.lt; have y6 := y5.below hb6 y5.lt; have B6 := bLater B5 hb6) | (refine wpList_load_row_w (by rfl) 65 _ rfl (w3.heap.size) rfl 65 _ (0, 0) _ x6 Try.underlying65 rfl (info65 _ rfl) ?_) | (refine wpList_load_row_w (by rfl) 65 _ rfl (w4.heap.size) rfl 65 _ (0, 0) _ y6 Try.underlying65 rfl (info65 _ rfl) ?_))
    go_ret
    exact ⟨rfl, B6⟩
end Go.Proofs.Ytoloccoodnbbdaa
