/- The ladder: at given words. -/
import Derived.RangeFuncNested
import Derived.RangeFuncBound
import Derived.RangeFuncCalls
import Derived.RangeFuncLeaves
import Derived.Shelf.Abstract
import Derived.Shelf.RegionOpen
import Derived.WalkKit
import Derived.OwnWalkIn
import Derived.TacticsInMore
import Derived.LoopNIn
import Derived.LoopIn
import Derived.WalkSpells
import Derived.WalkLawsBesides
import Derived.Deep.QuietTactic
import Derived.BigQuiet
import Derived.Lib.Hide
import Derived.Deep.WholeRow
import Derived.Deep.Onto
import Derived.RangeFuncWrites
import Derived.Laws.Rows
import Derived.Laws.Tables
import Derived.Deep.RegionHeld3
import Derived.Test.YtoloccoodnbbdaaHd
import Derived.Test.YtoloccoodnbbdaaLdM
namespace Go.Proofs.Ytoloccoodnbbdaa
open Go.RowKit Go.Shelf
attribute [local go_sem] Oper.semAt_some

abbrev two (x y : Int) : Value := .agg #[.int .u32 x, .int .u32 y]
theorem info27 (C : Array Value) (h : C.size = 2) : (Try.prog.info? 27).map (·.size) = some C.size := by rw [h]; kernel_rfl
theorem push_a (w : World) : Calls Try.prog 10 #[two 0 0, .int .i64 1, .int .i64 160] w fun e w' => e = .returned (two 0 1048576) ∧ Below w.heap.size w w' := by
  have := push_any 0 0 (by decide) (by decide) 1 160 w
  rw [show pushW 0 0 1 160 = (0, 1048576) by decide +kernel] at this
  exact this
theorem push_b (w : World) : Calls Try.prog 10 #[two 0 1048576, .int .i64 0, .int .i64 8] w fun e w' => e = .returned (two 2 1048576) ∧ Below w.heap.size w w' := by
  have := push_any 0 1048576 (by decide) (by decide) 0 8 w
  rw [show pushW 0 1048576 0 8 = (2, 1048576) by decide +kernel] at this
  exact this
theorem P2 : pairs (fw 2 1048576) 64 = [⟨2, by decide⟩, ⟨41, by decide⟩] := by decide +kernel
theorem P1 : pairs (fw 0 1048576) 64 = [⟨41, by decide⟩] := by decide +kernel
theorem P0 : pairs (fw 0 0) 64 = [] := by decide +kernel
theorem run_a (w : World) : Calls Try.prog 30 #[two 2 1048576] w fun e w' => e = .returned (.tuple #[.int .i64 8, .int .i64 0]) ∧ Below w.heap.size w w' :=
  run_any 2 1048576 (by decide) (by decide) _ (Lib.hid P2) w
theorem run_b (w : World) : Calls Try.prog 30 #[two 0 1048576] w fun e w' => e = .returned (.tuple #[.int .i64 160, .int .i64 1]) ∧ Below w.heap.size w w' :=
  run_any 0 1048576 (by decide) (by decide) _ (Lib.hid P1) w
theorem run_c (w : World) : Calls Try.prog 30 #[two 0 0] w fun e w' => e = .returned (.tuple #[.int .i64 255, .int .i64 0]) ∧ Below w.heap.size w w' :=
  run_any 0 0 (by decide) (by decide) _ (Lib.hid P0) w
theorem drop_a (w : World) : Calls Try.prog 13 #[two 2 1048576] w fun e w' => e = .returned (.tuple #[two 0 1048576, .bool true]) ∧ Below w.heap.size w w' := by
  have := drop_any 2 1048576 (by decide) (by decide) _ (Lib.hid P2) w
  rw [show dropP 2 1048576 [⟨2, by decide⟩, ⟨41, by decide⟩] = ((0, 1048576), true) by decide +kernel] at this
  exact this
theorem drop_b (w : World) : Calls Try.prog 13 #[two 0 1048576] w fun e w' => e = .returned (.tuple #[two 0 0, .bool true]) ∧ Below w.heap.size w w' := by
  have := drop_any 0 1048576 (by decide) (by decide) _ (Lib.hid P1) w
  rw [show dropP 0 1048576 [⟨41, by decide⟩] = ((0, 0), true) by decide +kernel] at this
  exact this
theorem len_a (w : World) : Calls Try.prog 31 #[two 1 3] w fun e w' => e = .returned (.int .i64 3) ∧ Below w.heap.size w w' := by
  have := len_any 1 3 (by decide) (by decide) w
  rw [show popN 1 32 + popN 3 32 = 3 by decide +kernel] at this
  exact this
theorem allL_a (w : World) : Calls Try.prog 33 #[two 2 1048576] w (OwnInts w.heap.size [8, 0, 160, 1] w) := by
  have := allL_any 2 1048576 (by decide) (by decide) _ (Lib.hid P2) w
  exact this
end Go.Proofs.Ytoloccoodnbbdaa
