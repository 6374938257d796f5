/- List registers: the small ones. -/
import Derived.RangeFuncNested
import Derived.RangeFuncBound
import Derived.RangeFuncCalls
import Derived.RangeFuncLeaves
import Derived.Shelf.Abstract
import Derived.Shelf.RegionOpen
import Derived.WalkKit
import Derived.OwnWalkIn
import Derived.TacticsInMore
import Derived.LoopNIn
import Derived.LoopIn
import Derived.WalkSpells
import Derived.WalkLawsBesides
import Derived.Deep.QuietTactic
import Derived.BigQuiet
import Derived.Lib.Hide
import Derived.Test.YtoloccoodnbbdaaProg
namespace Go.Proofs.Ytoloccoodnbbdaa
open Go.RowKit Go.Shelf
attribute [local go_sem] Oper.semAt_some

def lst (s n p g : Int) (h : Bool) (m : Int) (t : Bool) : Value := .agg #[.int .i64 s, .int .i64 n, .int .i64 p, .int .i64 g, .bool h, .int .i64 m, .bool t]
theorem real_any (p : Int) (w : World) : Calls Try.prog 51 #[.int .i64 p] w fun e w' => e = .returned (.int .i64 (bits .and .i64 p 248)) ∧ w = w' := by
  go_enter Try.func51, Try.ntmps51
  go_wp2
  go_ret
  exact ⟨rfl, rfl⟩
theorem real_of (p : Int) (h0 : 0 ≤ p) (h1 : p ≤ 255) : bits .and .i64 p 248 = p - p % 8 := by
  have : ∀ k : Fin 256, bits .and .i64 ((k.1 : Nat) : Int) 248 = ((k.1 : Nat) : Int) - ((k.1 : Nat) : Int) % 8 := by decide +kernel
  obtain ⟨n, rfl⟩ := Int.eq_ofNat_of_zero_le h0
  exact this ⟨n, by omega⟩
theorem one_any (b : Bool) (n : Int) (w : World) : Calls Try.prog 45 #[.bool b, .int .u64 n] w fun e w' => e = .returned (.int .u64 (if b then n else 0)) ∧ w = w' := by
  go_enter Try.func45, Try.ntmps45
  cases b
  · go_wp2
    go_ret
    exact ⟨rfl, rfl⟩
  · go_wp2
    go_ret
    exact ⟨rfl, rfl⟩
theorem flag_41 (b : Bool) (w : World) : Calls Try.prog 43 #[.bool b, .int .i64 41] w fun e w' => e = .returned (.int .u64 (if b then 2199023255552 else 0)) ∧ w = w' := by
  go_enter Try.func43, Try.ntmps43
  cases b
  · go_wp2
    go_ret
    exact ⟨rfl, rfl⟩
  · go_wp2
    go_ret
    exact ⟨rfl, rfl⟩
theorem flag_61 (b : Bool) (w : World) : Calls Try.prog 43 #[.bool b, .int .i64 61] w fun e w' => e = .returned (.int .u64 (if b then 2305843009213693952 else 0)) ∧ w = w' := by
  go_enter Try.func43, Try.ntmps43
  cases b
  · go_wp2
    go_ret
    exact ⟨rfl, rfl⟩
  · go_wp2
    go_ret
    exact ⟨rfl, rfl⟩
end Go.Proofs.Ytoloccoodnbbdaa
