/- List registers: which may be. -/
import Derived.RangeFuncNested
import Derived.RangeFuncBound
import Derived.RangeFuncCalls
import Derived.RangeFuncLeaves
import Derived.Shelf.Abstract
import Derived.Shelf.RegionOpen
import Derived.WalkKit
import Derived.OwnWalkIn
import Derived.TacticsInMore
import Derived.LoopNIn
import Derived.LoopIn
import Derived.WalkSpells
import Derived.WalkLawsBesides
import Derived.Deep.QuietTactic
import Derived.BigQuiet
import Derived.Lib.Hide
import Derived.Test.YtoloccoodnbbdaaLrA
import Derived.Test.YtoloccoodnbbdaaLdA
namespace Go.Proofs.Ytoloccoodnbbdaa
open Go.RowKit Go.Shelf
attribute [local go_sem] Oper.semAt_some

def mayB (s n p g : Int) (h : Bool) (m : Int) (t : Bool) : Bool := decide (0 ≤ s) && decide (s ≤ 3) && (decide (g = 0) || decide (g = 1)) && !(h && t) && decide (0 ≤ p) && decide (p ≤ 255) && decide (p % 8 = 0) && decide (0 ≤ m) && decide (m ≤ 1023) && (h || decide (m = 0)) &&
  ((decide (0 ≤ n) && decide (n ≤ 1019)) || (decide (8192 ≤ n) && decide (n ≤ 16383) && decide (s ≤ 1) && !h))
set_option maxHeartbeats 4000000 in
theorem mayR_any (s n p g : Int) (h : Bool) (m : Int) (t : Bool) (w : World) :
    Calls Try.prog 44 #[.agg #[.int .i64 s, .int .i64 n, .int .i64 p, .int .i64 g, .bool h, .int .i64 m, .bool t]] w fun e w' => e = .returned (.bool (mayB s n p g h m t)) ∧ Below w.heap.size w w' := by
  go_enter Try.func44, Try.ntmps44
  go_wp2
  all_goals (go_ret; refine ⟨congrArg (fun b => Ending.returned (.bool b)) ?_, one_box _ _⟩)
  all_goals (unfold mayB; grind)
end Go.Proofs.Ytoloccoodnbbdaa
