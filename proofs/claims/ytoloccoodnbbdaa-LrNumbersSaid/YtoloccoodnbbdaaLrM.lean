/- List registers: which are let in. -/
import Derived.RangeFuncNested
import Derived.RangeFuncBound
import Derived.RangeFuncCalls
import Derived.RangeFuncLeaves
import Derived.Shelf.Abstract
import Derived.Shelf.RegionOpen
import Derived.WalkKit
import Derived.OwnWalkIn
import Derived.TacticsInMore
import Derived.LoopNIn
import Derived.LoopIn
import Derived.WalkSpells
import Derived.WalkLawsBesides
import Derived.Deep.QuietTactic
import Derived.BigQuiet
import Derived.Lib.Hide
import Derived.Deep.WholeRow
import Derived.Deep.Onto
import Derived.RangeFuncWrites
import Derived.Laws.Rows
import Derived.Test.YtoloccoodnbbdaaLdI
namespace Go.Proofs.Ytoloccoodnbbdaa
open Go.RowKit Go.Shelf
attribute [local go_sem] Oper.semAt_some

theorem free1_0 (w : World) : Calls Try.prog 60 #[.agg #[.int .i64 1, .int .i64 40, .int .i64 160, .int .i64 0, .bool false, .int .i64 0, .bool false]] w fun e w' => e = .returned (.bool false) ∧ w.alloc (.cells #[.int .i64 1, .int .i64 40, .int .i64 160, .int .i64 0, .bool false, .int .i64 0, .bool false] 65) = w' := by
  go_enter Try.func60, Try.ntmps60
  go_wp2
  go_ret
  exact ⟨rfl, rfl⟩

theorem free1_1 (w : World) : Calls Try.prog 60 #[.agg #[.int .i64 0, .int .i64 0, .int .i64 0, .int .i64 0, .bool false, .int .i64 0, .bool false]] w fun e w' => e = .returned (.bool true) ∧ w.alloc (.cells #[.int .i64 0, .int .i64 0, .int .i64 0, .int .i64 0, .bool false, .int .i64 0, .bool false] 65) = w' := by
  go_enter Try.func60, Try.ntmps60
  go_wp2
  go_ret
  exact ⟨rfl, rfl⟩

theorem free1_2 (w : World) : Calls Try.prog 60 #[.agg #[.int .i64 3, .int .i64 41, .int .i64 0, .int .i64 0, .bool false, .int .i64 0, .bool false]] w fun e w' => e = .returned (.bool false) ∧ w.alloc (.cells #[.int .i64 3, .int .i64 41, .int .i64 0, .int .i64 0, .bool false, .int .i64 0, .bool false] 65) = w' := by
  go_enter Try.func60, Try.ntmps60
  go_wp2
  go_ret
  exact ⟨rfl, rfl⟩

theorem find1_0 (nb : Nat) (w : World) (hn : w.cell? ⟨nb, 0, none⟩ = some (.int .i64 41)) (hlt : nb < w.heap.size) : Calls Try.prog 61 #[.agg #[.int .i64 1, .int .i64 40, .int .i64 160, .int .i64 0, .bool false, .int .i64 0, .bool false], .pointer (some ⟨nb, 0, none⟩)] w fun e w' => e = .returned (.bool false) ∧ w.alloc (.cells #[.int .i64 1, .int .i64 40, .int .i64 160, .int .i64 0, .bool false, .int .i64 0, .bool false] 65) = w' := by
  go_enter Try.func61, Try.ntmps61
  go_wp2
  go_ret
  exact ⟨rfl, rfl⟩

theorem find1_1 (nb : Nat) (w : World) (hn : w.cell? ⟨nb, 0, none⟩ = some (.int .i64 41)) (hlt : nb < w.heap.size) : Calls Try.prog 61 #[.agg #[.int .i64 0, .int .i64 0, .int .i64 0, .int .i64 0, .bool false, .int .i64 0, .bool false], .pointer (some ⟨nb, 0, none⟩)] w fun e w' => e = .returned (.bool false) ∧ w.alloc (.cells #[.int .i64 0, .int .i64 0, .int .i64 0, .int .i64 0, .bool false, .int .i64 0, .bool false] 65) = w' := by
  go_enter Try.func61, Try.ntmps61
  go_wp2
  go_ret
  exact ⟨rfl, rfl⟩

theorem find1_2 (nb : Nat) (w : World) (hn : w.cell? ⟨nb, 0, none⟩ = some (.int .i64 41)) (hlt : nb < w.heap.size) : Calls Try.prog 61 #[.agg #[.int .i64 3, .int .i64 41, .int .i64 0, .int .i64 0, .bool false, .int .i64 0, .bool false], .pointer (some ⟨nb, 0, none⟩)] w fun e w' => e = .returned (.bool true) ∧ w.alloc (.cells #[.int .i64 3, .int .i64 41, .int .i64 0, .int .i64 0, .bool false, .int .i64 0, .bool false] 65) = w' := by
  go_enter Try.func61, Try.ntmps61
  go_wp2
  go_ret
  exact ⟨rfl, rfl⟩

theorem waits1_0 (w : World) : Calls Try.prog 65 #[.agg #[.int .i64 1, .int .i64 40, .int .i64 160, .int .i64 0, .bool false, .int .i64 0, .bool false]] w fun e w' => e = .returned (.bool true) ∧ w.alloc (.cells #[.int .i64 1, .int .i64 40, .int .i64 160, .int .i64 0, .bool false, .int .i64 0, .bool false] 65) = w' := by
  go_enter Try.func65, Try.ntmps65
  go_wp2
  go_ret
  exact ⟨rfl, rfl⟩

theorem waits1_1 (w : World) : Calls Try.prog 65 #[.agg #[.int .i64 0, .int .i64 0, .int .i64 0, .int .i64 0, .bool false, .int .i64 0, .bool false]] w fun e w' => e = .returned (.bool false) ∧ w.alloc (.cells #[.int .i64 0, .int .i64 0, .int .i64 0, .int .i64 0, .bool false, .int .i64 0, .bool false] 65) = w' := by
  go_enter Try.func65, Try.ntmps65
  go_wp2
  go_ret
  exact ⟨rfl, rfl⟩

theorem waits1_2 (w : World) : Calls Try.prog 65 #[.agg #[.int .i64 3, .int .i64 41, .int .i64 0, .int .i64 0, .bool false, .int .i64 0, .bool false]] w fun e w' => e = .returned (.bool false) ∧ w.alloc (.cells #[.int .i64 3, .int .i64 41, .int .i64 0, .int .i64 0, .bool false, .int .i64 0, .bool false] 65) = w' := by
  go_enter Try.func65, Try.ntmps65
  go_wp2
  go_ret
  exact ⟨rfl, rfl⟩
end Go.Proofs.Ytoloccoodnbbdaa
