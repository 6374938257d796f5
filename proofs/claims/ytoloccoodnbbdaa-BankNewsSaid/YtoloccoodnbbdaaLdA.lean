/- The ladder's small functions: Push, Clear, Has, place, Set, Has of the document's. -/
import Derived.RangeFuncNested
import Derived.RangeFuncBound
import Derived.RangeFuncCalls
import Derived.RangeFuncLeaves
import Derived.Shelf.Abstract
import Derived.Shelf.RegionOpen
import Derived.WalkKit
import Derived.OwnWalkIn
import Derived.TacticsInMore
import Derived.LoopNIn
import Derived.LoopIn
import Derived.WalkSpells
import Derived.WalkLawsBesides
import Derived.Deep.QuietTactic
import Derived.BigQuiet
import Derived.Lib.Hide
import Derived.Test.YtoloccoodnbbdaaProg
import Derived.Test.YtoloccoodnbbdaaLdP
namespace Go.Proofs.Ytoloccoodnbbdaa
open Go.RowKit Go.Shelf
attribute [local go_sem] Oper.semAt_some
abbrev lad (x y : Nat) : Value := .agg #[.int .u32 (x : Int), .int .u32 (y : Int)]
theorem pow_ksel_lt (p : Int) : 2 ^ ksel p < 4294967296 := by
  have : 2 ^ ksel p < 2 ^ 32 := Nat.pow_lt_pow_right (by decide) (ksel_lt p)
  exact this
theorem pow_ksel (p : Int) : (2 : Int) ^ (p % 256 / 8).toNat % 4294967296 = ((2 ^ ksel p : Nat) : Int) := by
  have h2 := pow_ksel_lt p
  have h3 : (2 : Int) ^ (p % 256 / 8).toNat = ((2 ^ ksel p : Nat) : Int) := (Int.natCast_pow 2 (ksel p)).symm
  rw [h3]
  generalize 2 ^ ksel p = n at *
  omega
theorem or_ksel (x : Nat) (h : x < 2 ^ 32) (p : Int) : bits .or .u32 (x : Int) (2 ^ (p % 256 / 8).toNat % 4294967296) = ((x ||| 2 ^ ksel p : Nat) : Int) := by
  rw [pow_ksel]; exact bits_or_nat .u32 x (2 ^ ksel p) h (pow_ksel_lt p) rfl
theorem andNot_ksel (x : Nat) (h : x < 2 ^ 32) (p : Int) : bits .andNot .u32 (x : Int) (2 ^ (p % 256 / 8).toNat % 4294967296) = ((clr 32 x (2 ^ ksel p) : Nat) : Int) := by
  rw [pow_ksel]; exact bits_andNot_nat .u32 x (2 ^ ksel p) h (pow_ksel_lt p) rfl
theorem test_nat (x k : Nat) (h : x < 2 ^ 32) : (bits .and .u32 ((x : Int) / 2 ^ k) 1 == 1) = x.testBit k := by
  have h1 : (x : Int) / 2 ^ k = ((x / 2 ^ k : Nat) : Int) := by
    rw [Int.natCast_ediv, Int.natCast_pow]; rfl
  have h2 : x / 2 ^ k < 2 ^ 32 := Nat.lt_of_le_of_lt (Nat.div_le_self _ _) h
  rw [h1, show (1 : Int) = ((1 : Nat) : Int) from rfl, bits_and_nat .u32 (x / 2 ^ k) 1 h2 (by decide) rfl, Nat.and_one_is_mod, Nat.testBit_eq_decide_div_mod_eq]
  rw [Bool.eq_iff_iff]
  simp
  omega

theorem two_boxes (w : World) (o o' : Obj) : Below w.heap.size w ((w.alloc o).alloc o') := ((Below.refl _ _).alloc (Nat.le_refl _) _).alloc (by simp) _
theorem one_box (w : World) (o : Obj) : Below w.heap.size w (w.alloc o) := (Below.refl _ _).alloc (Nat.le_refl _) _

set_option maxHeartbeats 400000 in
theorem push0 (x0 x1 : Nat) (h0 : x0 < 2 ^ 32) (g p : Int) (w : World) (hg : gsel g = 0) :
    Calls Try.prog 10 #[lad x0 x1, .int .i64 g, .int .i64 p] w fun e w' => e = .returned (lad (x0 ||| 2 ^ ksel p) x1) ∧ Below w.heap.size w w' := by
  have e1 := bits_and1_i64 g
  rw [hg] at e1
  have e2 := bits_and255_u64 p
  have e3 := Lib.hid (or_ksel x0 h0 p)
  clear h0
  go_enter Try.func10, Try.ntmps10
  go_wp2
  rw [e3.out]
  exact bodyPost_ret (v := lad (x0 ||| 2 ^ ksel p) x1) (by simp [results, Try.results10, go_sem]) rfl ⟨rfl, two_boxes _ _ _⟩
set_option maxHeartbeats 400000 in
theorem push1 (x0 x1 : Nat) (h0 : x1 < 2 ^ 32) (g p : Int) (w : World) (hg : gsel g = 1) :
    Calls Try.prog 10 #[lad x0 x1, .int .i64 g, .int .i64 p] w fun e w' => e = .returned (lad x0 (x1 ||| 2 ^ ksel p)) ∧ Below w.heap.size w w' := by
  have e1 := bits_and1_i64 g
  rw [hg] at e1
  have e2 := bits_and255_u64 p
  have e3 := Lib.hid (or_ksel x1 h0 p)
  clear h0
  go_enter Try.func10, Try.ntmps10
  go_wp2
  rw [e3.out]
  exact bodyPost_ret (v := lad x0 (x1 ||| 2 ^ ksel p)) (by simp [results, Try.results10, go_sem]) rfl ⟨rfl, two_boxes _ _ _⟩
set_option maxHeartbeats 400000 in
theorem clear0 (x0 x1 : Nat) (h0 : x0 < 2 ^ 32) (g p : Int) (w : World) (hg : gsel g = 0) :
    Calls Try.prog 12 #[lad x0 x1, .int .i64 g, .int .i64 p] w fun e w' => e = .returned (lad (clr 32 x0 (2 ^ ksel p)) x1) ∧ Below w.heap.size w w' := by
  have e1 := bits_and1_i64 g
  rw [hg] at e1
  have e2 := bits_and255_u64 p
  have e3 := Lib.hid (andNot_ksel x0 h0 p)
  clear h0
  go_enter Try.func12, Try.ntmps12
  go_wp2
  rw [e3.out]
  exact bodyPost_ret (v := lad (clr 32 x0 (2 ^ ksel p)) x1) (by simp [results, Try.results12, go_sem]) rfl ⟨rfl, two_boxes _ _ _⟩
set_option maxHeartbeats 400000 in
theorem clear1 (x0 x1 : Nat) (h0 : x1 < 2 ^ 32) (g p : Int) (w : World) (hg : gsel g = 1) :
    Calls Try.prog 12 #[lad x0 x1, .int .i64 g, .int .i64 p] w fun e w' => e = .returned (lad x0 (clr 32 x1 (2 ^ ksel p))) ∧ Below w.heap.size w w' := by
  have e1 := bits_and1_i64 g
  rw [hg] at e1
  have e2 := bits_and255_u64 p
  have e3 := Lib.hid (andNot_ksel x1 h0 p)
  clear h0
  go_enter Try.func12, Try.ntmps12
  go_wp2
  rw [e3.out]
  exact bodyPost_ret (v := lad x0 (clr 32 x1 (2 ^ ksel p))) (by simp [results, Try.results12, go_sem]) rfl ⟨rfl, two_boxes _ _ _⟩
set_option maxHeartbeats 400000 in
theorem has0 (x0 x1 : Nat) (h0 : x0 < 2 ^ 32) (g p : Int) (w : World) (hg : gsel g = 0) :
    Calls Try.prog 15 #[lad x0 x1, .int .i64 g, .int .i64 p] w fun e w' => e = .returned (.bool (x0.testBit (ksel p))) ∧ Below w.heap.size w w' := by
  have e1 := bits_and1_i64 g
  rw [hg] at e1
  have e2 := bits_and255_u64 p
  have e3 := Lib.hid (test_nat x0 (ksel p) h0)
  unfold ksel at e3
  clear h0
  go_enter Try.func15, Try.ntmps15
  go_wp2
  rw [e3.out]
  go_ret
  exact ⟨rfl, one_box _ _⟩
set_option maxHeartbeats 400000 in
theorem has1 (x0 x1 : Nat) (h0 : x1 < 2 ^ 32) (g p : Int) (w : World) (hg : gsel g = 1) :
    Calls Try.prog 15 #[lad x0 x1, .int .i64 g, .int .i64 p] w fun e w' => e = .returned (.bool (x1.testBit (ksel p))) ∧ Below w.heap.size w w' := by
  have e1 := bits_and1_i64 g
  rw [hg] at e1
  have e2 := bits_and255_u64 p
  have e3 := Lib.hid (test_nat x1 (ksel p) h0)
  unfold ksel at e3
  clear h0
  go_enter Try.func15, Try.ntmps15
  go_wp2
  rw [e3.out]
  go_ret
  exact ⟨rfl, one_box _ _⟩

/-- The word of a group. -/
def word (x0 x1 : Nat) (g : Nat) : Nat := if g = 0 then x0 else x1
def pushW (x0 x1 : Nat) (g p : Int) : Nat × Nat := if gsel g = 0 then (x0 ||| 2 ^ ksel p, x1) else (x0, x1 ||| 2 ^ ksel p)
def clearW (x0 x1 : Nat) (g p : Int) : Nat × Nat := if gsel g = 0 then (clr 32 x0 (2 ^ ksel p), x1) else (x0, clr 32 x1 (2 ^ ksel p))
def hasW (x0 x1 : Nat) (g p : Int) : Bool := (word x0 x1 (gsel g)).testBit (ksel p)

theorem push_any (x0 x1 : Nat) (h0 : x0 < 2 ^ 32) (h1 : x1 < 2 ^ 32) (g p : Int) (w : World) :
    Calls Try.prog 10 #[lad x0 x1, .int .i64 g, .int .i64 p] w fun e w' => e = .returned (lad (pushW x0 x1 g p).1 (pushW x0 x1 g p).2) ∧ Below w.heap.size w w' := by
  have := gsel_lt g
  by_cases h : gsel g = 0
  · simp only [pushW, if_pos h]; exact push0 x0 x1 h0 g p w h
  · simp only [pushW, if_neg h]; exact push1 x0 x1 h1 g p w (by omega)
theorem clear_any (x0 x1 : Nat) (h0 : x0 < 2 ^ 32) (h1 : x1 < 2 ^ 32) (g p : Int) (w : World) :
    Calls Try.prog 12 #[lad x0 x1, .int .i64 g, .int .i64 p] w fun e w' => e = .returned (lad (clearW x0 x1 g p).1 (clearW x0 x1 g p).2) ∧ Below w.heap.size w w' := by
  have := gsel_lt g
  by_cases h : gsel g = 0
  · simp only [clearW, if_pos h]; exact clear0 x0 x1 h0 g p w h
  · simp only [clearW, if_neg h]; exact clear1 x0 x1 h1 g p w (by omega)
theorem has_any (x0 x1 : Nat) (h0 : x0 < 2 ^ 32) (h1 : x1 < 2 ^ 32) (g p : Int) (w : World) :
    Calls Try.prog 15 #[lad x0 x1, .int .i64 g, .int .i64 p] w fun e w' => e = .returned (.bool (hasW x0 x1 g p)) ∧ Below w.heap.size w w' := by
  have := gsel_lt g
  by_cases h : gsel g = 0
  · simp only [hasW, word, if_pos h]; exact has0 x0 x1 h0 g p w h
  · simp only [hasW, word, if_neg h]; exact has1 x0 x1 h1 g p w (by omega)

end Go.Proofs.Ytoloccoodnbbdaa
