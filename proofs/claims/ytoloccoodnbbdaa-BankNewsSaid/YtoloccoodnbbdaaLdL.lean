/- Two rows of numbers: are they the same? -/
import Derived.RangeFuncNested
import Derived.RangeFuncBound
import Derived.RangeFuncCalls
import Derived.RangeFuncLeaves
import Derived.Shelf.Abstract
import Derived.Shelf.RegionOpen
import Derived.WalkKit
import Derived.OwnWalkIn
import Derived.TacticsInMore
import Derived.LoopNIn
import Derived.LoopIn
import Derived.WalkSpells
import Derived.WalkLawsBesides
import Derived.Deep.QuietTactic
import Derived.BigQuiet
import Derived.Lib.Hide
import Derived.Deep.WholeRow
import Derived.Deep.Onto
import Derived.RangeFuncWrites
import Derived.Deep.RegionHeld3
import Derived.Test.YtoloccoodnbbdaaLdK
namespace Go.Proofs.Ytoloccoodnbbdaa
open Go.RowKit Go.Shelf
attribute [local go_sem] Oper.semAt_some

/-- A value that reads as a row of numbers. -/
def RI (w : World) (v : Value) (xs : List Int) : Prop :=
  ∃ a cap, v = .slice a xs.length cap ∧ (a = none → xs = []) ∧ ∀ g, a = some g → g = ⟨g.block, 0, none⟩ ∧ ∀ j, j < xs.length → w.cell? ⟨g.block, j, none⟩ = some (.int .i64 (xs[j]?.getD 0))
theorem RI.of_owns {w : World} {n₀ : Nat} {v : Value} {xs : List Int} (h : w.ownsRow n₀ 3 1 v xs.length (xs.map (Value.int .i64))) : RI w v xs := by
  obtain ⟨a, cap, rfl, hn, hg⟩ := ints_open h
  exact ⟨a, cap, rfl, hn, fun g e => ⟨(hg g e).1, (hg g e).2.2⟩⟩
theorem RI.below {w w' : World} {v : Value} {xs : List Int} (h : RI w v xs) (hb : Below w.heap.size w w') : RI w' v xs := by
  obtain ⟨a, cap, rfl, hn, hg⟩ := h
  refine ⟨a, cap, rfl, hn, fun g e => ⟨(hg g e).1, fun j hj => ?_⟩⟩
  exact cell_later hb ((hg g e).2 j hj)

theorem same_step {xs ys : List Int} (hl : xs.length = ys.length) {k : Nat} (hk : k < xs.length) (ht : xs.take k = ys.take k) (h : (xs[k]?.getD 0 != ys[k]?.getD 0) = false) : xs.take (k + 1) = ys.take (k + 1) := by
  have h1 : xs[k]?.getD 0 = ys[k]?.getD 0 := by simpa using h
  have hk' : k < ys.length := by omega
  rw [List.getElem?_eq_getElem hk, List.getElem?_eq_getElem hk'] at h1
  simp only [Option.getD_some] at h1
  rw [List.take_succ_eq_append_getElem hk, List.take_succ_eq_append_getElem hk', ht, h1]
theorem same_not {xs ys : List Int} {k : Nat} (hk : k < xs.length) (hk' : k < ys.length) (h : (xs[k]?.getD 0 != ys[k]?.getD 0) = true) : decide (xs = ys) = false := by
  rw [decide_eq_false]
  rintro rfl
  simp at h

set_option maxRecDepth 100000 in
set_option maxHeartbeats 1000000 in
theorem same_any (xs ys : List Int) (v u : Value) (w : World) (hx : xs.length ≤ 1000000) (hy : ys.length ≤ 1000000) (hv : RI w v xs) (hu : RI w u ys) :
    Calls Try.prog 32 #[v, u] w fun e w' => e = .returned (.bool (decide (xs = ys))) ∧ ∃ n, w' = w.drewN n := by
  obtain ⟨a, cap, rfl, ha, hca⟩ := hv
  obtain ⟨b, cap', rfl, hb, hcb⟩ := hu
  by_cases hl : xs.length = ys.length
  · have hne : ((xs.length : Int) != (ys.length : Int)) = false := by simp; omega
    have HL := Lib.hid hl
    rw [← hl] at hne ⊢
    clear hl
    go_enter Try.func32, Try.ntmps32
    go_wp2_with fail
    go_loopw [5] (fun i wr => ∃ k : Nat, k ≤ xs.length ∧ i = .int .i64 (k : Int) ∧ (∃ n, wr = w.drewN n) ∧ Hid (xs.take k = ys.take k)) (fun i _ => xs.length - (intOf i).toNat)
    case atStart => exact ⟨0, by omega, rfl, ⟨0, rfl⟩, Lib.hid (by simp)⟩
    case round =>
      obtain ⟨k, hk, rfl, ⟨n, rfl⟩, ht⟩ := hrel
      by_cases hlt : k < xs.length
      · cases a with
        | none => rw [ha rfl] at hlt; simp at hlt
        | some ga =>
          cases b with
          | none => exact absurd (show ys.length = 0 by rw [hb rfl]; rfl) (by have := HL.out; omega)
          | some gb =>
            obtain ⟨hga, hcca⟩ := hca ga rfl
            obtain ⟨hgb, hccb⟩ := hcb gb rfl
            have c1 := hcca k hlt
            have c2 := hccb k (by have := HL.out; omega)
            obtain ⟨A, hA⟩ : ∃ A, ga.block = A := ⟨_, rfl⟩
            obtain ⟨B, hB⟩ : ∃ B, gb.block = B := ⟨_, rfl⟩
            rw [hA] at hga c1
            rw [hB] at hgb c2
            subst hga hgb
            clear hcca hccb hca hcb ha hb hA hB
            have hlt' : (k : Int) < (xs.length : Int) := by omega
            obtain ⟨X, hX⟩ : ∃ X, xs[k]?.getD 0 = X := ⟨_, rfl⟩
            obtain ⟨Y, hY⟩ : ∃ Y, ys[k]?.getD 0 = Y := ⟨_, rfl⟩
            rw [hX] at c1
            rw [hY] at c2
            have HX := Lib.hid hX
            have HY := Lib.hid hY
            clear hX hY
            go_wp2
            go_quiet (fail)
            go_wp2
            · have htst : (X != Y) = true := by assumption
              rw [← HX.out, ← HY.out] at htst
              rw [← same_not hlt (by have := HL.out; omega) htst]
              go_ret
              exact ⟨rfl, n + nq, by simp⟩
            · have htst : (X != Y) = false := by assumption
              rw [← HX.out, ← HY.out] at htst
              exact ⟨⟨k + 1, by omega, by go_num, ⟨n + nq, rfl⟩, Lib.hid (same_step HL.out hlt ht.out htst)⟩, by simp [intOf]; omega⟩
      · obtain rfl : k = xs.length := by omega
        go_wp2
        go_ret
        refine ⟨?_, n, rfl⟩
        have h1 := ht.out
        rw [List.take_length, HL.out, List.take_length] at h1
        rw [h1]; simp
  · have hne : ((xs.length : Int) != (ys.length : Int)) = true := by simp; omega
    have HD := Lib.hid (show decide (xs = ys) = false from decide_eq_false (fun h => hl (by rw [h])))
    clear hl
    go_enter Try.func32, Try.ntmps32
    go_wp2
    rw [← HD.out]
    go_ret
    exact ⟨rfl, 0, rfl⟩
end Go.Proofs.Ytoloccoodnbbdaa
