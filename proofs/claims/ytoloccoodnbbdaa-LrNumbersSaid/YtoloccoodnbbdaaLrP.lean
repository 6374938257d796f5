/- List registers: which is taken first. -/
import Derived.RangeFuncNested
import Derived.RangeFuncBound
import Derived.RangeFuncCalls
import Derived.RangeFuncLeaves
import Derived.Shelf.Abstract
import Derived.Shelf.RegionOpen
import Derived.WalkKit
import Derived.OwnWalkIn
import Derived.TacticsInMore
import Derived.LoopNIn
import Derived.LoopIn
import Derived.WalkSpells
import Derived.WalkLawsBesides
import Derived.Deep.QuietTactic
import Derived.BigQuiet
import Derived.Lib.Hide
import Derived.Deep.WholeRow
import Derived.Deep.Onto
import Derived.RangeFuncWrites
import Derived.Laws.Rows
import Derived.Laws.Tables
import Derived.Test.YtoloccoodnbbdaaLrO
import Derived.Test.YtoloccoodnbbdaaLdO
namespace Go.Proofs.Ytoloccoodnbbdaa
open Go.RowKit Go.Shelf
attribute [local go_sem] Oper.semAt_some

set_option maxRecDepth 100000 in
set_option maxHeartbeats 1000000 in
theorem best_any (D cap : Nat) (w : World) (hD : Blk w D 65 #[.int .i64 1, .int .i64 40, .int .i64 160, .int .i64 0, .bool false, .int .i64 0, .bool false, .int .i64 0, .int .i64 0, .int .i64 0, .int .i64 0, .bool false, .int .i64 0, .bool false, .int .i64 3, .int .i64 41, .int .i64 0, .int .i64 0, .bool false, .int .i64 0, .bool false]) : Calls Try.prog 50 #[.slice (some ⟨D, 0, none⟩) 3 cap] w fun e w' => e = .returned (.agg #[.int .i64 40, .int .i64 160, .int .i64 0, .bool true]) ∧ Below w.heap.size w w' := by
  refine (callsIn_wide (n := 9)).1 ?_
  refine callsIn_of_wp_marks Try.func50 rfl trivial ?_ rfl
  simp only [Try.ntmps50, List.size_toArray, List.length_cons, List.length_nil, Nat.reduceAdd, Nat.reduceSub, Array.replicate_succ, Array.replicate_zero, List.push_toArray, List.append_toArray, List.nil_append, List.cons_append]
  gi_wp2_with (refine ⟨trivial, ?_⟩; gi_at_call 62; refine (callsIn_wide.2 (waits_any _ _ _ _)).mono ?_; rintro e w' ⟨rfl, rfl⟩)
  obtain ⟨W0, hW0⟩ : ∃ W0, ((((w.alloc (.cells #[.slice (some ⟨D, 0, none⟩) 3 cap] 110)).alloc (.cells #[.int .i64 0, .int .i64 0, .int .i64 0, .bool false] 93)).alloc (.cells #[.int .i64 0, .int .i64 0, .int .i64 0, .bool false] 93)).alloc (.cells #[.slice (some ⟨D, 0, none⟩) 3 cap] 110)).alloc (.cells #[.func (.func 65) #[] #[]] 108) = W0 := ⟨_, rfl⟩
  have hB0 : Below w.heap.size w W0 := by rw [← hW0]; exact ((((((Below.refl _ w).alloc (Nat.le_refl _) _).alloc (by simp) _).alloc (by simp; omega) _).alloc (by simp; omega) _).alloc (by simp; omega) _)
  have hsz : W0.heap.size = w.heap.size + 5 := by rw [← hW0]; simp
  have hb0 : Blk W0 w.heap.size 110 #[.slice (some ⟨D, 0, none⟩) 3 cap] := by rw [← hW0]; exact ((((Blk.new w 110 #[.slice (some ⟨D, 0, none⟩) 3 cap]).alloc _).alloc _).alloc _).alloc _
  have hb1 : Blk W0 (w.heap.size + 1) 93 #[.int .i64 0, .int .i64 0, .int .i64 0, .bool false] := by rw [← hW0]; have := (((Blk.new (w.alloc (.cells #[.slice (some ⟨D, 0, none⟩) 3 cap] 110)) 93 #[.int .i64 0, .int .i64 0, .int .i64 0, .bool false]).alloc (.cells #[.int .i64 0, .int .i64 0, .int .i64 0, .bool false] 93)).alloc (.cells #[.slice (some ⟨D, 0, none⟩) 3 cap] 110)).alloc (.cells #[.func (.func 65) #[] #[]] 108); simpa using this
  have hb2 : Blk W0 (w.heap.size + 1 + 1) 93 #[.int .i64 0, .int .i64 0, .int .i64 0, .bool false] := by rw [← hW0]; have := ((Blk.new ((w.alloc (.cells #[.slice (some ⟨D, 0, none⟩) 3 cap] 110)).alloc (.cells #[.int .i64 0, .int .i64 0, .int .i64 0, .bool false] 93)) 93 #[.int .i64 0, .int .i64 0, .int .i64 0, .bool false]).alloc (.cells #[.slice (some ⟨D, 0, none⟩) 3 cap] 110)).alloc (.cells #[.func (.func 65) #[] #[]] 108); simpa using this
  have hbs : Blk W0 (w.heap.size + 1 + 1 + 1) 110 #[.slice (some ⟨D, 0, none⟩) 3 cap] := by rw [← hW0]; have := (Blk.new (((w.alloc (.cells #[.slice (some ⟨D, 0, none⟩) 3 cap] 110)).alloc (.cells #[.int .i64 0, .int .i64 0, .int .i64 0, .bool false] 93)).alloc (.cells #[.int .i64 0, .int .i64 0, .int .i64 0, .bool false] 93)) 110 #[.slice (some ⟨D, 0, none⟩) 3 cap]).alloc (.cells #[.func (.func 65) #[] #[]] 108); simpa using this
  have hbf : Blk W0 (w.heap.size + 1 + 1 + 1 + 1) 108 #[.func (.func 65) #[] #[]] := by rw [← hW0]; have := Blk.new ((((w.alloc (.cells #[.slice (some ⟨D, 0, none⟩) 3 cap] 110)).alloc (.cells #[.int .i64 0, .int .i64 0, .int .i64 0, .bool false] 93)).alloc (.cells #[.int .i64 0, .int .i64 0, .int .i64 0, .bool false] 93)).alloc (.cells #[.slice (some ⟨D, 0, none⟩) 3 cap] 110)) 108 #[.func (.func 65) #[] #[]]; simpa using this
  have hD0 := hD.below hB0 hD.lt
  have hlt := hD.lt
  rw [hW0]
  clear hW0
  refine wpIn_rangeFunc_ownF rfl (by decide) (gf := 64) (lb := #[.pointer (some ⟨w.heap.size + 1 + 1 + 1, 0, none⟩), .pointer (some ⟨w.heap.size + 1 + 1 + 1 + 1, 0, none⟩)]) rfl trivial (enters_of Try.func64 (by kernel_rfl) rfl)
    (waits_stops _ (w.heap.size + 1 + 1 + 1) (w.heap.size + 1 + 1 + 1 + 1) D cap W0 hD0 hbs hbf) kp_t (kp_b (by rintro B (rfl | rfl | rfl) <;> omega)) (Below.refl _ _) (fun _ => rfl)
    (fun pre W => (Blk W (w.heap.size + 1 + 1) 93 (if pre = [] then #[.int .i64 0, .int .i64 0, .int .i64 0, .bool false] else #[.int .i64 40, .int .i64 160, .int .i64 0, .bool true]) ∧ Blk W (w.heap.size + 1) 93 #[.int .i64 0, .int .i64 0, .int .i64 0, .bool false] ∧ Blk W w.heap.size 110 #[.slice (some ⟨D, 0, none⟩) 3 cap] ∧ Blk W D 65 #[.int .i64 1, .int .i64 40, .int .i64 160, .int .i64 0, .bool false, .int .i64 0, .bool false, .int .i64 0, .int .i64 0, .int .i64 0, .int .i64 0, .bool false, .int .i64 0, .bool false, .int .i64 3, .int .i64 41, .int .i64 0, .int .i64 0, .bool false, .int .i64 0, .bool false] ∧ Blk W (w.heap.size + 1 + 1 + 1) 110 #[.slice (some ⟨D, 0, none⟩) 3 cap] ∧ Blk W (w.heap.size + 1 + 1 + 1 + 1) 108 #[.func (.func 65) #[] #[]]) ∧ Below w.heap.size w W)
    (fun _ _ _ => False)
    (OwnFrom.and (Own.from (own_and (blk_own _ _ _) (own_and (blk_own _ _ _) (own_and (blk_own _ _ _) (own_and (blk_own _ _ _) (own_and (blk_own _ _ _) (blk_own _ _ _)))))) _) (ownFrom_below (Nat.le_refl _) (by omega)))
    (fun _ _ _ _ _ hs _ _ => hs)
    ⟨⟨by simpa using hb2, hb1, hb0, hD0, hbs, hbf⟩, hB0⟩ ?a1 ?assign ?body ?done ?stop
  case assign =>
    intro l x W K hK
    gi_wp2
    exact hK
  case body =>
    rintro l pre x W ⟨⟨b2, b1, b0, bD, bs, bf⟩, hB⟩ hl
    have hp : pre = [] := List.eq_nil_of_length_eq_zero (by omega)
    subst hp
    replace b2 : Blk W (w.heap.size + 1 + 1) 93 #[.int .i64 0, .int .i64 0, .int .i64 0, .bool false] := b2
    have c0 := b0.cell 0
    have g3 := b2.cell 3
    have l2 := b2.lt
    have lD := bD.lt
    have d0 := bD.cell 0
    have d1 := bD.cell 1
    have d2 := bD.cell 2
    have d3 := bD.cell 3
    have d4 := bD.cell 4
    have d5 := bD.cell 5
    have d6 := bD.cell 6
    have e2 := b2.alloc (.cells #[.int .i64 1, .int .i64 40, .int .i64 160, .int .i64 0, .bool false, .int .i64 0, .bool false] 65)
    gi_wp2
    refine ⟨trivial, ?_⟩
    gi_wp2_with (refine wpListIn_store_row rfl 93 _ _ rfl (w.heap.size + 1 + 1) #[.int .i64 40, .int .i64 160, .int .i64 0, .bool true] rfl rfl 93 _ e2 (by kernel_rfl) rfl (by simp [Value.oneCell']) ?_)
    have k1 : ∀ B, B < W.heap.size → B ≠ w.heap.size + 1 + 1 → ((W.alloc (.cells #[.int .i64 1, .int .i64 40, .int .i64 160, .int .i64 0, .bool false, .int .i64 0, .bool false] 65)).setRow (w.heap.size + 1 + 1) #[.int .i64 40, .int .i64 160, .int .i64 0, .bool true]).heap[B]? = W.heap[B]? := fun B hB hne =>
      (setRow_other (W.alloc (.cells #[.int .i64 1, .int .i64 40, .int .i64 160, .int .i64 0, .bool false, .int .i64 0, .bool false] 65)) (w.heap.size + 1 + 1) B #[.int .i64 40, .int .i64 160, .int .i64 0, .bool true] hne).trans (heap_alloc_old W _ B hB)
    exact ⟨(KeepsOthers.alloc W (.cells #[.int .i64 1, .int .i64 40, .int .i64 160, .int .i64 0, .bool false, .int .i64 0, .bool false] 65)).trans (KeepsOthers.setRow _ _ _ e2), (by
      rintro B (rfl | rfl | rfl)
      · exact k1 _ bs.lt (by omega)
      · exact k1 _ bf.lt (by omega)
      · exact k1 _ lD (by omega)),
      ⟨show Blk _ _ 93 #[.int .i64 40, .int .i64 160, .int .i64 0, .bool true] from e2.row #[.int .i64 40, .int .i64 160, .int .i64 0, .bool true], (b1.alloc _).row_other _ _ (by omega), (b0.alloc _).row_other _ _ (by omega), (bD.alloc _).row_other _ _ (by omega), (bs.alloc _).row_other _ _ (by omega), (bf.alloc _).row_other _ _ (by omega)⟩,
      below_setRow (hB.alloc hB.size _) (show w.heap.size ≤ w.heap.size + 1 + 1 by omega) #[.int .i64 40, .int .i64 160, .int .i64 0, .bool true]⟩
  case done =>
    rintro Dd ys W hDd rfl ⟨⟨b2, b1, _⟩, hB⟩ hK
    replace b2 : Blk W (w.heap.size + 1 + 1) 93 #[.int .i64 40, .int .i64 160, .int .i64 0, .bool true] := b2
    gi_wp2_with (first | (refine wpListIn_load_row rfl 93 _ rfl (w.heap.size + 1 + 1) rfl 93 _ (0, 0) _ b2 Try.underlying93 rfl (by kernel_rfl) ?_) | (refine wpListIn_store_row rfl 93 _ _ rfl (w.heap.size + 1) #[.int .i64 40, .int .i64 160, .int .i64 0, .bool true] rfl rfl 93 _ b1 (by kernel_rfl) rfl (by simp [Value.oneCell']) ?_))
    have hK' := (KeepsOthers.setRow W (w.heap.size + 1) #[.int .i64 40, .int .i64 160, .int .i64 0, .bool true] b1).same Dd _ hK rfl
    have hB' := below_setRow hB (show w.heap.size ≤ w.heap.size + 1 by omega) #[.int .i64 40, .int .i64 160, .int .i64 0, .bool true]
    refine ⟨by simp, .inl ⟨_, _, rfl, run_takeDeferred hK', ?_⟩⟩
    have hd2 := (b1.row #[.int .i64 40, .int .i64 160, .int .i64 0, .bool true]).put (.deferred none) hK' rfl
    exact ⟨_, results_cell_row (fn := Try.f50) rfl _ _ (w.heap.size + 1) 93 #[.int .i64 40, .int .i64 160, .int .i64 0, .bool true] (0, 0) _ rfl hd2 Try.underlying93 rfl (by kernel_rfl), rfl, hB'.trans (belowK_b (w := w) (Nat.le_refl _) _ Dd _ _ (by omega) hK' rfl rfl)⟩
  case stop =>
    rintro Dd c pre W hDd hpre h _
    exact h.elim
end Go.Proofs.Ytoloccoodnbbdaa
