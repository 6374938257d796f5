/- Banks: where an interrupt stands. -/
import Derived.RangeFuncNested
import Derived.RangeFuncBound
import Derived.RangeFuncCalls
import Derived.RangeFuncLeaves
import Derived.Shelf.Abstract
import Derived.Shelf.RegionOpen
import Derived.WalkKit
import Derived.OwnWalkIn
import Derived.TacticsInMore
import Derived.LoopNIn
import Derived.LoopIn
import Derived.WalkSpells
import Derived.WalkLawsBesides
import Derived.Deep.QuietTactic
import Derived.BigQuiet
import Derived.Lib.Hide
import Derived.RangeFuncBox
import Derived.Laws.MakeOwn
import Derived.Deep.WholeRow
import Derived.Laws.Rows
import Derived.Laws.Tables
import Derived.Test.YtoloccoodnbbdaaBkC
namespace Go.Proofs.Ytoloccoodnbbdaa
open Go.RowKit Go.Shelf
attribute [local go_sem] Oper.semAt_some

theorem ownsRow_form {W : World} {base e size k : Nat} {v : Value} {xs : List Value} (h : W.ownsRow base e size v k xs) : ∃ a cap, v = .slice a k cap := by
  rcases h.2 with ⟨rfl, rfl⟩ | ⟨g, cap, cur, rfl, _⟩
  · exact ⟨none, 0, rfl⟩
  · exact ⟨_, _, rfl⟩
def atV (first n : Nat) (id : Int) : Int := if inB first n id then id - first else -1
set_option maxRecDepth 100000 in
set_option maxHeartbeats 1000000 in
theorem at_any (R first n cap : Nat) (a : Option Addr) (vE : Value) (id : Int) (w : World) (h : Blk w R 105 #[.int .i64 (first : Int), .slice a n cap, vE]) (hf : first ≤ 16384) (hn : n ≤ 16384) :
    Calls Try.prog 23 #[.pointer (some ⟨R, 0, none⟩), .int .i64 id] w fun e w' => e = .returned (.int .i64 (atV first n id)) ∧ w = w' := by
  have c0 := h.cell 0
  have c1 := h.cell 1
  clear h
  go_enter Try.func23, Try.ntmps23
  go_wp2
  go_loop [5] (fun i => ∃ k : Nat, k ≤ n ∧ i = .int .i64 (k : Int) ∧ (id < (first : Int) ∨ (first : Int) + (k : Int) ≤ id)) (fun i => n - (intOf i).toNat)
  case atStart => exact ⟨0, by omega, rfl, by omega⟩
  case round =>
    obtain ⟨k, hk, rfl, hs⟩ := hrel
    by_cases hlt : k < n
    · by_cases he : (first : Int) + (k : Int) = id
      · have hr : atV first n id = (k : Int) := by unfold atV inB; rw [if_pos (by simp; omega)]; omega
        subst he
        have HR := Lib.hid hr
        clear hr
        go_wp2
        go_ret
        exact ⟨by rw [HR.out]; rfl, rfl⟩
      · have hne : ((first : Int) + (k : Int) == id) = false := by simpa using he
        go_wp2
        go_round
        case rel => exact ⟨k + 1, by omega, by go_num, by omega⟩
        case measure => simp [intOf]; omega
    · obtain rfl : k = n := by omega
      have hr : atV first k id = -1 := by unfold atV inB; rw [if_neg (by simp; omega)]
      have HR := Lib.hid hr
      clear hr
      go_wp2
      go_ret
      exact ⟨by rw [HR.out]; rfl, rfl⟩
end Go.Proofs.Ytoloccoodnbbdaa
