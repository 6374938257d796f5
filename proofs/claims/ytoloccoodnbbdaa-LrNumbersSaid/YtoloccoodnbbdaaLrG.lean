/- List registers: of numbers. -/
import Derived.RangeFuncNested
import Derived.RangeFuncBound
import Derived.RangeFuncCalls
import Derived.RangeFuncLeaves
import Derived.Shelf.Abstract
import Derived.Shelf.RegionOpen
import Derived.WalkKit
import Derived.OwnWalkIn
import Derived.TacticsInMore
import Derived.LoopNIn
import Derived.LoopIn
import Derived.WalkSpells
import Derived.WalkLawsBesides
import Derived.Deep.QuietTactic
import Derived.BigQuiet
import Derived.Lib.Hide
import Derived.Test.YtoloccoodnbbdaaLrF
namespace Go.Proofs.Ytoloccoodnbbdaa
open Go.RowKit Go.Shelf
attribute [local go_sem] Oper.semAt_some

theorem and_mask (x j : Nat) (hx : x < 2 ^ 64) (hj : j ≤ 63) (k : Int) (hk : k = ((2 ^ j - 1 : Nat) : Int)) : bits .and .u64 (x : Int) k = ((x % 2 ^ j : Nat) : Int) := by
  subst hk
  have h2 : 2 ^ j ≤ 2 ^ 63 := Nat.pow_le_pow_right (by decide) hj
  have := bits_and_nat .u64 x (2 ^ j - 1) hx (by show 2 ^ j - 1 < 2 ^ 64; omega) rfl
  rw [Nat.and_two_pow_sub_one_eq_mod] at this
  exact this
theorem and_shift (v K j : Nat) (hv : v < 2 ^ 64) (hj : j ≤ 63) (k : Int) (hk : k = ((2 ^ j - 1 : Nat) : Int)) : bits .and .u64 ((v : Int) / (K : Int)) k = ((v / K % 2 ^ j : Nat) : Int) :=
  and_mask (v / K) j (Nat.lt_of_le_of_lt (Nat.div_le_self _ _) hv) hj k hk
theorem w64 (n : Nat) (h : n < 2 ^ 63) : wrap64 (n : Int) = (n : Int) := by unfold wrap64; omega
end Go.Proofs.Ytoloccoodnbbdaa
