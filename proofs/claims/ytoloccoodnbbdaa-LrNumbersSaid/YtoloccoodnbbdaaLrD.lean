/- List registers: numbers of 64 bits. -/
import Derived.RangeFuncNested
import Derived.RangeFuncBound
import Derived.RangeFuncCalls
import Derived.RangeFuncLeaves
import Derived.Shelf.Abstract
import Derived.Shelf.RegionOpen
import Derived.WalkKit
import Derived.OwnWalkIn
import Derived.TacticsInMore
import Derived.LoopNIn
import Derived.LoopIn
import Derived.WalkSpells
import Derived.WalkLawsBesides
import Derived.Deep.QuietTactic
import Derived.BigQuiet
import Derived.Lib.Hide
import Derived.Test.YtoloccoodnbbdaaLrA
import Derived.Test.YtoloccoodnbbdaaLdP
import Derived.Test.YtoloccoodnbbdaaHd
namespace Go.Proofs.Ytoloccoodnbbdaa
open Go.RowKit Go.Shelf
attribute [local go_sem] Oper.semAt_some

theorem exec_conv {P : Program} {ρ : Operand → Value} {o : Oper} (src dst : TypeId) (x : Operand) (ho : o.op = .convert src dst x) (a : Value) (hx : ρ x = a) {v : Value} {w : World}
    (h : (convert src dst a).run P w = .ok v w) : (execOp ρ o).run P w = .ok (.value v) w := by
  unfold execOp
  simp only [ho, hx, Sem.run_bind, h, Result.andThen, Sem.run_pure]
theorem wrap_u64 (n : Nat) (h : n < 2 ^ 64) : IntKind.u64.wrap (n : Int) = (n : Int) := by
  rw [IntKind.wrap_u64]
  omega
theorem conv_3 (n : Nat) (hn : n < 2 ^ 63) (w : World) : (convert 3 66 (.int .i64 (n : Int))).run Try.prog w = .ok (.int .u64 (n : Int)) w := by
  have := wrap_u64 n (by omega)
  simp [go_sem, convert, this]
theorem conv_63 (n : Nat) (hn : n < 2 ^ 63) (w : World) : (convert 63 66 (.int .i64 (n : Int))).run Try.prog w = .ok (.int .u64 (n : Int)) w := by
  have := wrap_u64 n (by omega)
  simp [go_sem, convert, this]
theorem shl_u64 (a k : Nat) (h : a * 2 ^ k < 2 ^ 64) (hk : k < 64) (w : World) : (binOp .shl 66 (.int .u64 (a : Int)) (.int .u64 (k : Int))).run Try.prog w = .ok (.int .u64 ((a * 2 ^ k : Nat) : Int)) w := by
  have := wrap_u64 _ h
  simp [go_sem]
  simpa using this
theorem or_u64 (a b k : Nat) (ha : a < 2 ^ k) (hb : b % 2 ^ k = 0) (h : b < 2 ^ 64) (hk : k ≤ 64) (w : World) : (binOp .or 66 (.int .u64 (a : Int)) (.int .u64 (b : Int))).run Try.prog w = .ok (.int .u64 ((a + b : Nat) : Int)) w := by
  have h2 : a ||| b = a + b := by
    obtain ⟨c, rfl⟩ : ∃ c, b = 2 ^ k * c := ⟨b / 2 ^ k, by have := Nat.div_add_mod b (2 ^ k); omega⟩
    rw [Nat.or_comm, ← Nat.two_pow_add_eq_or_of_lt ha, Nat.add_comm]
  have h3 := bits_or_nat .u64 a b (Nat.lt_of_lt_of_le ha (Nat.pow_le_pow_right (by decide) hk)) h rfl
  rw [h2] at h3
  simp [go_sem, h3]
theorem add_u64 (a b : Nat) (h : a + b < 2 ^ 64) (w : World) : (binOp .add 66 (.int .u64 (a : Int)) (.int .u64 (b : Int))).run Try.prog w = .ok (.int .u64 ((a + b : Nat) : Int)) w := by
  have := wrap_u64 _ h
  rw [Int.natCast_add] at *
  simp [go_sem, this]
end Go.Proofs.Ytoloccoodnbbdaa
