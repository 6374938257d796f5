/- How many bits of a number are set. -/
import Derived.RangeFuncNested
import Derived.RangeFuncBound
import Derived.RangeFuncCalls
import Derived.RangeFuncLeaves
import Derived.Shelf.Abstract
import Derived.Shelf.RegionOpen
import Derived.WalkKit
import Derived.OwnWalkIn
import Derived.TacticsInMore
import Derived.LoopNIn
import Derived.LoopIn
import Derived.WalkSpells
import Derived.WalkLawsBesides
import Derived.Deep.QuietTactic
import Derived.BigQuiet
import Derived.Lib.Hide
import Derived.Deep.WholeRow
import Derived.Deep.Onto
import Derived.Test.YtoloccoodnbbdaaLdE
namespace Go.Proofs.Ytoloccoodnbbdaa
open Go.RowKit Go.Shelf
attribute [local go_sem] Oper.semAt_some

/-- How many of the bits 0 .. n-1 of x are set. -/
def popN (x : Nat) : Nat → Nat
  | 0 => 0
  | k + 1 => popN x k + if x.testBit k then 1 else 0
theorem popN_le (x n : Nat) : popN x n ≤ n := by
  induction n with
  | zero => simp [popN]
  | succ n ih => unfold popN; split <;> omega
theorem popN_add (x a b : Nat) : popN x (a + b) = popN x a + popN (x / 2 ^ a) b := by
  induction b with
  | zero => simp [popN]
  | succ b ih =>
    rw [← Nat.add_assoc]
    simp only [popN]
    rw [ih, Nat.testBit_div_two_pow, Nat.add_comm b a]
    omega
theorem popN_mod (x a b : Nat) (h : a ≤ b) : popN (x % 2 ^ b) a = popN x a := by
  induction a with
  | zero => rfl
  | succ a ih =>
    simp only [popN]
    rw [ih (by omega), Nat.testBit_mod_two_pow]
    simp [show a < b by omega]
def popTab : List UInt8 := (([0, 1, 1, 2, 1, 2, 2, 3, 1, 2, 2, 3, 2, 3, 3, 4, 1, 2, 2, 3, 2, 3, 3, 4, 2, 3, 3, 4, 3, 4, 4, 5, 1, 2, 2, 3, 2, 3, 3, 4, 2, 3, 3, 4, 3, 4, 4, 5, 2, 3, 3, 4, 3, 4, 4, 5, 3, 4, 4, 5, 4, 5, 5, 6].append [1, 2, 2, 3, 2, 3, 3, 4, 2, 3, 3, 4, 3, 4, 4, 5, 2, 3, 3, 4, 3, 4, 4, 5, 3, 4, 4, 5, 4, 5, 5, 6, 2, 3, 3, 4, 3, 4, 4, 5, 3, 4, 4, 5, 4, 5, 5, 6, 3, 4, 4, 5, 4, 5, 5, 6, 4, 5, 5, 6, 5, 6, 6, 7]).append ([1, 2, 2, 3, 2, 3, 3, 4, 2, 3, 3, 4, 3, 4, 4, 5, 2, 3, 3, 4, 3, 4, 4, 5, 3, 4, 4, 5, 4, 5, 5, 6, 2, 3, 3, 4, 3, 4, 4, 5, 3, 4, 4, 5, 4, 5, 5, 6, 3, 4, 4, 5, 4, 5, 5, 6, 4, 5, 5, 6, 5, 6, 6, 7].append [2, 3, 3, 4, 3, 4, 4, 5, 3, 4, 4, 5, 4, 5, 5, 6, 3, 4, 4, 5, 4, 5, 5, 6, 4, 5, 5, 6, 5, 6, 6, 7, 3, 4, 4, 5, 4, 5, 5, 6, 4, 5, 5, 6, 5, 6, 6, 7, 4, 5, 5, 6, 5, 6, 6, 7, 5, 6, 6, 7, 6, 7, 7, 8]))
theorem pop_tab : ∀ n : Fin 256, (popTab[n.val]?.getD 0).toNat = popN n.val 8 := by decide +kernel
theorem pop_size : popTab.length = 256 := by decide +kernel

theorem run_pop (n : Nat) (h : n < 256) (w : World) : Sem.run Try.prog (Instr.index 9 (.string ⟨popTab.toArray⟩) (.int .u32 (n : Int))) w = .ok (.int .u8 (popN n 8 : Int)) w := by
  rw [run_index_string w 9 _ .u32 _ Try.underlying9]
  have hs : (⟨popTab.toArray⟩ : ByteArray).size = 256 := by
    show popTab.toArray.size = 256
    rw [List.size_toArray, pop_size]
  rw [dif_pos ⟨by omega, by rw [hs]; omega⟩]
  have h2 := pop_tab ⟨n, h⟩
  have h3 : n < popTab.length := by rw [pop_size]; exact h
  have h4 : ((⟨popTab.toArray⟩ : ByteArray)[(n : Int).toNat]'(by rw [hs]; omega)).toNat = popN n 8 := by
    rw [← h2]
    show (popTab.toArray[(n : Int).toNat]'(by rw [List.size_toArray, pop_size]; omega)).toNat = _
    simp [h3]
  rw [h4]

theorem pop_sum (x : Nat) (_h : x < 4294967296) : popN x 32 = popN (x / 16777216) 8 + popN (x / 65536 % 256) 8 + popN (x / 256 % 256) 8 + popN (x % 256) 8 := by
  rw [show (256 : Nat) = 2 ^ 8 from rfl, popN_mod _ 8 8 (Nat.le_refl _), popN_mod _ 8 8 (Nat.le_refl _), popN_mod _ 8 8 (Nat.le_refl _)]
  rw [show 32 = 8 + 24 from rfl, popN_add, show 24 = 8 + 16 from rfl, popN_add, show 16 = 8 + 8 from rfl, popN_add, Nat.div_div_eq_div_mul, Nat.div_div_eq_div_mul]
  simp only [Nat.reducePow, Nat.reduceMul]
  omega

set_option maxRecDepth 100000 in
set_option maxHeartbeats 400000 in
theorem ones_any (x : Nat) (hx : x < 4294967296) (w : World) :
    Calls Try.prog 52 #[.int .u32 x] w fun e w' => e = .returned (.int .i64 (popN x 32)) ∧ ∃ n, w' = w.drewN n := by
  obtain ⟨n1, h1, e1, m1⟩ : ∃ n : Nat, n < 256 ∧ (x : Int) / 16777216 = (n : Int) ∧ n = x / 16777216 := ⟨x / 16777216, by omega, by omega, rfl⟩
  obtain ⟨n2, h2, e2, m2⟩ : ∃ n : Nat, n < 256 ∧ bits .and .u32 ((x : Int) / 65536) 255 = (n : Int) ∧ n = x / 65536 % 256 := ⟨x / 65536 % 256, by omega, by
    rw [show (x : Int) / 65536 = ((x / 65536 : Nat) : Int) from by omega, show (255 : Int) = ((255 : Nat) : Int) from rfl, bits_and_nat .u32 _ 255 (by show _ < 4294967296; omega) (by decide) rfl, show (255 : Nat) = 2 ^ 8 - 1 from rfl, Nat.and_two_pow_sub_one_eq_mod], rfl⟩
  obtain ⟨n3, h3, e3, m3⟩ : ∃ n : Nat, n < 256 ∧ bits .and .u32 ((x : Int) / 256) 255 = (n : Int) ∧ n = x / 256 % 256 := ⟨x / 256 % 256, by omega, by
    rw [show (x : Int) / 256 = ((x / 256 : Nat) : Int) from by omega, show (255 : Int) = ((255 : Nat) : Int) from rfl, bits_and_nat .u32 _ 255 (by show _ < 4294967296; omega) (by decide) rfl, show (255 : Nat) = 2 ^ 8 - 1 from rfl, Nat.and_two_pow_sub_one_eq_mod], rfl⟩
  obtain ⟨n4, h4, e4, m4⟩ : ∃ n : Nat, n < 256 ∧ bits .and .u32 (x : Int) 255 = (n : Int) ∧ n = x % 256 := ⟨x % 256, by omega, by
    rw [show (255 : Int) = ((255 : Nat) : Int) from rfl, bits_and_nat .u32 _ 255 hx (by decide) rfl, show (255 : Nat) = 2 ^ 8 - 1 from rfl, Nat.and_two_pow_sub_one_eq_mod], rfl⟩
  have r1 := run_pop n1 h1
  have r2 := run_pop n2 h2
  have r3 := run_pop n3 h3
  have r4 := run_pop n4 h4
  have hsum := Lib.hid (pop_sum x hx)
  subst m1 m2 m3 m4
  obtain ⟨p1, hp1, q1⟩ : ∃ p : Nat, p ≤ 8 ∧ popN (x / 16777216) 8 = p := ⟨_, popN_le _ _, rfl⟩
  obtain ⟨p2, hp2, q2⟩ : ∃ p : Nat, p ≤ 8 ∧ popN (x / 65536 % 256) 8 = p := ⟨_, popN_le _ _, rfl⟩
  obtain ⟨p3, hp3, q3⟩ : ∃ p : Nat, p ≤ 8 ∧ popN (x / 256 % 256) 8 = p := ⟨_, popN_le _ _, rfl⟩
  obtain ⟨p4, hp4, q4⟩ : ∃ p : Nat, p ≤ 8 ∧ popN (x % 256) 8 = p := ⟨_, popN_le _ _, rfl⟩
  rw [q1, q2, q3, q4] at hsum
  rw [q1] at r1
  rw [q2] at r2
  rw [q3] at r3
  rw [q4] at r4
  clear q1 q2 q3 q4
  generalize x / 16777216 = m1 at *
  generalize x / 65536 % 256 = m2 at *
  generalize x / 256 % 256 = m3 at *
  generalize x % 256 = m4 at *
  obtain ⟨T, hT⟩ : ∃ T : ByteArray, ⟨popTab.toArray⟩ = T := ⟨_, rfl⟩
  rw [hT] at r1 r2 r3 r4
  go_enter Try.func52, Try.ntmps52
  go_wp2
  rw [show (⟨((([0, 1, 1, 2, 1, 2, 2, 3, 1, 2, 2, 3, 2, 3, 3, 4, 1, 2, 2, 3, 2, 3, 3, 4, 2, 3, 3, 4, 3, 4, 4, 5, 1, 2, 2, 3, 2, 3, 3, 4, 2, 3, 3, 4, 3, 4, 4, 5, 2, 3, 3, 4, 3, 4, 4, 5, 3, 4, 4, 5, 4, 5, 5, 6].append [1, 2, 2, 3, 2, 3, 3, 4, 2, 3, 3, 4, 3, 4, 4, 5, 2, 3, 3, 4, 3, 4, 4, 5, 3, 4, 4, 5, 4, 5, 5, 6, 2, 3, 3, 4, 3, 4, 4, 5, 3, 4, 4, 5, 4, 5, 5, 6, 3, 4, 4, 5, 4, 5, 5, 6, 4, 5, 5, 6, 5, 6, 6, 7]).append ([1, 2, 2, 3, 2, 3, 3, 4, 2, 3, 3, 4, 3, 4, 4, 5, 2, 3, 3, 4, 3, 4, 4, 5, 3, 4, 4, 5, 4, 5, 5, 6, 2, 3, 3, 4, 3, 4, 4, 5, 3, 4, 4, 5, 4, 5, 5, 6, 3, 4, 4, 5, 4, 5, 5, 6, 4, 5, 5, 6, 5, 6, 6, 7].append [2, 3, 3, 4, 3, 4, 4, 5, 3, 4, 4, 5, 4, 5, 5, 6, 3, 4, 4, 5, 4, 5, 5, 6, 4, 5, 5, 6, 5, 6, 6, 7, 3, 4, 4, 5, 4, 5, 5, 6, 4, 5, 5, 6, 5, 6, 6, 7, 4, 5, 5, 6, 5, 6, 6, 7, 5, 6, 6, 7, 6, 7, 7, 8]))).toArray⟩ : ByteArray) = T from hT]
  clear hT
  go_quiet (fail)
  go_wp2
  go_ret
  refine ⟨?_, nq, rfl⟩
  rw [hsum.out]
  simp
end Go.Proofs.Ytoloccoodnbbdaa
