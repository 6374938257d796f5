/- The ladder: the plain law. -/
import Derived.Test.YtoloccoodnbbdaaLdM
namespace Go.Proofs.Ytoloccoodnbbdaa
open Go.RowKit Go.Shelf

theorem clr_bit (x k j : Nat) (hx : x < 2 ^ 32) (hk : k < 32) : (clr 32 x (2 ^ k)).testBit j = (x.testBit j && !decide (j = k)) := by
  unfold clr
  have h2 : 2 ^ k < 2 ^ 32 := Nat.pow_lt_pow_right (by decide) hk
  rw [Nat.testBit_and, Nat.sub_sub, Nat.add_comm 1, Nat.testBit_two_pow_sub_succ h2, Nat.testBit_two_pow]
  by_cases hj : j < 32
  · simp [hj, eq_comm]
  · have : x.testBit j = false := Nat.testBit_lt_two_pow (Nat.lt_of_lt_of_le hx (Nat.pow_le_pow_right (by decide) (by omega)))
    simp [this]
theorem or_bit (x k j : Nat) : (x ||| 2 ^ k).testBit j = (x.testBit j || decide (j = k)) := by
  rw [Nat.testBit_or, Nat.testBit_two_pow]
  congr 1
  simp [eq_comm]
theorem clr_lt (x m : Nat) (hx : x < 2 ^ 32) : clr 32 x m < 2 ^ 32 := Nat.lt_of_le_of_lt Nat.and_le_left hx
theorem or_lt (x k : Nat) (hx : x < 2 ^ 32) (hk : k < 32) : x ||| 2 ^ k < 2 ^ 32 := Nat.or_lt_two_pow hx (Nat.pow_lt_pow_right (by decide) hk)
theorem idx_mod (g p : Int) : idx g p % 2 = gsel g := by unfold idx; have := gsel_lt g; omega
theorem idx_div (g p : Int) : idx g p / 2 = ksel p := by unfold idx; have := gsel_lt g; omega
theorem hasW_fw (x0 x1 : Nat) (g p : Int) : hasW x0 x1 g p = fw x0 x1 (idx g p) := by
  unfold hasW fw
  rw [idx_mod, idx_div]
theorem pushW_lt (x0 x1 : Nat) (h0 : x0 < 2 ^ 32) (h1 : x1 < 2 ^ 32) (g p : Int) : (pushW x0 x1 g p).1 < 2 ^ 32 ∧ (pushW x0 x1 g p).2 < 2 ^ 32 := by
  have := ksel_lt p
  unfold pushW
  split
  · exact ⟨or_lt _ _ h0 this, h1⟩
  · exact ⟨h0, or_lt _ _ h1 this⟩
theorem clearW_lt (x0 x1 : Nat) (h0 : x0 < 2 ^ 32) (h1 : x1 < 2 ^ 32) (g p : Int) : (clearW x0 x1 g p).1 < 2 ^ 32 ∧ (clearW x0 x1 g p).2 < 2 ^ 32 := by
  unfold clearW
  split
  · exact ⟨clr_lt _ _ h0, h1⟩
  · exact ⟨h0, clr_lt _ _ h1⟩
theorem dropW_lt (x0 x1 i : Nat) (h0 : x0 < 2 ^ 32) (h1 : x1 < 2 ^ 32) : (dropW x0 x1 i).1 < 2 ^ 32 ∧ (dropW x0 x1 i).2 < 2 ^ 32 := by
  unfold dropW
  split
  · exact ⟨clr_lt _ _ h0, h1⟩
  · exact ⟨h0, clr_lt _ _ h1⟩
theorem fw_push (x0 x1 : Nat) (g p : Int) (j : Nat) : fw (pushW x0 x1 g p).1 (pushW x0 x1 g p).2 j = if j = idx g p then true else fw x0 x1 j := by
  have hm := idx_mod g p
  have hd := idx_div g p
  have hg := gsel_lt g
  unfold fw pushW word
  by_cases hj : j = idx g p
  · subst hj
    rw [hm, hd]
    by_cases h : gsel g = 0 <;> simp [h, or_bit]
  · rw [if_neg hj]
    have hne : j % 2 ≠ gsel g ∨ j / 2 ≠ ksel p := by omega
    by_cases h : gsel g = 0 <;> by_cases h2 : j % 2 = 0 <;> simp only [h, h2, if_true, if_false, or_bit] <;> simp <;> omega
theorem fw_clear (x0 x1 : Nat) (h0 : x0 < 2 ^ 32) (h1 : x1 < 2 ^ 32) (g p : Int) (j : Nat) : fw (clearW x0 x1 g p).1 (clearW x0 x1 g p).2 j = if j = idx g p then false else fw x0 x1 j := by
  have hm := idx_mod g p
  have hd := idx_div g p
  have hg := gsel_lt g
  have hk := ksel_lt p
  unfold fw clearW word
  by_cases hj : j = idx g p
  · subst hj
    rw [hm, hd]
    by_cases h : gsel g = 0 <;> simp [h, clr_bit _ _ _ h0 hk, clr_bit _ _ _ h1 hk]
  · rw [if_neg hj]
    have hne : j % 2 ≠ gsel g ∨ j / 2 ≠ ksel p := by omega
    by_cases h : gsel g = 0 <;> by_cases h2 : j % 2 = 0 <;> simp only [h, h2, if_true, if_false, clr_bit _ _ _ h0 hk, clr_bit _ _ _ h1 hk] <;> simp <;> omega
theorem fw_drop (x0 x1 : Nat) (h0 : x0 < 2 ^ 32) (h1 : x1 < 2 ^ 32) (i : Nat) (hi : i < 64) (j : Nat) : fw (dropW x0 x1 i).1 (dropW x0 x1 i).2 j = (!decide (j = i) && fw x0 x1 j) := by
  have hk : i / 2 < 32 := by omega
  unfold fw dropW word
  by_cases hj : j = i
  · subst hj
    by_cases h : j % 2 = 0 <;> simp [h, clr_bit _ _ _ h0 hk, clr_bit _ _ _ h1 hk]
  · have hne : j % 2 ≠ i % 2 ∨ j / 2 ≠ i / 2 := by omega
    by_cases h : i % 2 = 0 <;> by_cases h2 : j % 2 = 0 <;> simp only [h, h2, if_true, if_false, clr_bit _ _ _ h0 hk, clr_bit _ _ _ h1 hk] <;> simp [hj] <;> omega
theorem pairs_head (f : Nat → Bool) (k : Nat) (hk : k ≤ 64) : (pairs f k).head?.map (·.1) = firstB f k := by
  induction k with
  | zero => rfl
  | succ k ih =>
    have ih := ih (by omega)
    unfold firstB
    rw [← ih]
    cases h : f k with
    | true => rw [pairs_yes f k (by omega) h]; cases pairs f k <;> simp
    | false => rw [pairs_no f k h]; cases pairs f k <;> simp
theorem drop_law (x0 x1 : Nat) (h0 : x0 < 2 ^ 32) (h1 : x1 < 2 ^ 32) (P : List I64) (hP : pairs (fw x0 x1) 64 = P) :
    (dropF (fw x0 x1)).2 = (dropP x0 x1 P).2 ∧ rv (dropF (fw x0 x1)).1 = rv (fw (dropP x0 x1 P).1.1 (dropP x0 x1 P).1.2) ∧ (dropP x0 x1 P).1.1 < 2 ^ 32 ∧ (dropP x0 x1 P).1.2 < 2 ^ 32 := by
  have h := pairs_head (fw x0 x1) 64 (Nat.le_refl _)
  rw [hP] at h
  unfold dropF
  rw [← h]
  cases P with
  | nil => exact ⟨rfl, rfl, h0, h1⟩
  | cons p P =>
    refine ⟨rfl, rv_ext fun j _ => ?_, dropW_lt _ _ _ h0 h1⟩
    exact (fw_drop x0 x1 h0 h1 p.1 p.2 j).symm
theorem set_yes (x0 x1 : Nat) (g p : Int) (w : World) : Calls Try.prog 11 #[.agg (rv (fw x0 x1)), .int .i64 g, .int .i64 p, .bool true] w fun e w' => e = .returned (.agg (rv (fw (pushW x0 x1 g p).1 (pushW x0 x1 g p).2))) ∧ Below w.heap.size w w' := by
  rw [show rv (fw (pushW x0 x1 g p).1 (pushW x0 x1 g p).2) = rv (fun j => if j = idx g p then true else fw x0 x1 j) from rv_ext fun j _ => fw_push x0 x1 g p j]
  exact set_rv (fw x0 x1) g p true w
theorem set_no (x0 x1 : Nat) (h0 : x0 < 2 ^ 32) (h1 : x1 < 2 ^ 32) (g p : Int) (w : World) : Calls Try.prog 11 #[.agg (rv (fw x0 x1)), .int .i64 g, .int .i64 p, .bool false] w fun e w' => e = .returned (.agg (rv (fw (clearW x0 x1 g p).1 (clearW x0 x1 g p).2))) ∧ Below w.heap.size w w' := by
  rw [show rv (fw (clearW x0 x1 g p).1 (clearW x0 x1 g p).2) = rv (fun j => if j = idx g p then false else fw x0 x1 j) from rv_ext fun j _ => fw_clear x0 x1 h0 h1 g p j]
  exact set_rv (fw x0 x1) g p false w
end Go.Proofs.Ytoloccoodnbbdaa
