/- List registers: the list register of a number. -/
import Derived.RangeFuncNested
import Derived.RangeFuncBound
import Derived.RangeFuncCalls
import Derived.RangeFuncLeaves
import Derived.Shelf.Abstract
import Derived.Shelf.RegionOpen
import Derived.WalkKit
import Derived.OwnWalkIn
import Derived.TacticsInMore
import Derived.LoopNIn
import Derived.LoopIn
import Derived.WalkSpells
import Derived.WalkLawsBesides
import Derived.Deep.QuietTactic
import Derived.BigQuiet
import Derived.Lib.Hide
import Derived.Deep.WholeRow
import Derived.Laws.Rows
import Derived.Laws.Tables
import Derived.Test.YtoloccoodnbbdaaLrD
import Derived.Test.YtoloccoodnbbdaaLdI
import Derived.Test.YtoloccoodnbbdaaLdO
namespace Go.Proofs.Ytoloccoodnbbdaa
open Go.RowKit Go.Shelf
attribute [local go_sem] Oper.semAt_some
theorem info65 (C : Array Value) (h : C.size = 7) : (Try.prog.info? 65).map (·.size) = some C.size := by rw [h]; kernel_rfl

set_option maxRecDepth 100000 in
set_option maxHeartbeats 4000000 in
theorem dec_h_ok (v S N P G : Nat) (M : Nat) (w : World) (eN : bits .and .u64 (v : Int) 4294967295 = (N : Int)) (eS : wrap64 ((v : Int) / 4611686018427387904) = (S : Int))
    (eP : bits .and .u64 ((v : Int) / 281474976710656) 255 = (P : Int)) (eG : bits .and .u64 ((v : Int) / 1152921504606846976) 1 = (G : Int)) (eH : (bits .and .u64 ((v : Int) / 2305843009213693952) 1 == 1) = true)
    (eM : bits .and .u64 ((v : Int) / 4294967296) 1023 = (M : Int)) (wM : wrap64 (M : Int) = (M : Int))
    (wN : wrap64 (N : Int) = (N : Int)) (wP : wrap64 (P : Int) = (P : Int)) (wG : wrap64 (G : Int) = (G : Int))
    (cE : ∀ w, Calls Try.prog 24 #[.agg #[.int .i64 (S : Int), .int .i64 (N : Int), .int .i64 (P : Int), .int .i64 (G : Int), .bool true, .int .i64 (M : Int), .bool false]] w fun e w' => e = .returned (.tuple #[.int .u64 (v : Int), .int .i64 0]) ∧ Below w.heap.size w w') :
    Calls Try.prog 26 #[.int .u64 (v : Int)] w fun e w' => e = .returned (.tuple #[.agg #[.int .i64 (S : Int), .int .i64 (N : Int), .int .i64 (P : Int), .int .i64 (G : Int), .bool true, .int .i64 (M : Int), .bool false], .int .i64 0]) ∧ Below w.heap.size w w' := by
  have z0 := (Blk.new w 65 #[.int .i64 0, .int .i64 0, .int .i64 0, .int .i64 0, .bool false, .int .i64 0, .bool false]).alloc (.cells #[.int .i64 0, .int .i64 0, .int .i64 0, .int .i64 0, .bool false, .int .i64 0, .bool false] 65)
  have a0 := Blk.new (w.alloc (.cells #[.int .i64 0, .int .i64 0, .int .i64 0, .int .i64 0, .bool false, .int .i64 0, .bool false] 65)) 65 #[.int .i64 0, .int .i64 0, .int .i64 0, .int .i64 0, .bool false, .int .i64 0, .bool false]
  rw [show (w.alloc (.cells #[.int .i64 0, .int .i64 0, .int .i64 0, .int .i64 0, .bool false, .int .i64 0, .bool false] 65)).heap.size = w.heap.size + 1 by simp] at a0
  have B0 := (one_box w (.cells #[.int .i64 0, .int .i64 0, .int .i64 0, .int .i64 0, .bool false, .int .i64 0, .bool false] 65)).alloc (one_box w _).size (.cells #[.int .i64 0, .int .i64 0, .int .i64 0, .int .i64 0, .bool false, .int .i64 0, .bool false] 65)
  go_enter Try.func26, Try.ntmps26
  go_wp2_with (first | (refine wpList_store_row rfl 65 _ _ rfl (w.heap.size + 1) #[.int .i64 (S : Int), .int .i64 (N : Int), .int .i64 (P : Int), .int .i64 (G : Int), .bool true, .int .i64 0, .bool false] rfl rfl 65 _ a0 (info65 _ rfl) rfl (by simp [Value.oneCell']) ?_; have a1 := a0.row #[.int .i64 (S : Int), .int .i64 (N : Int), .int .i64 (P : Int), .int .i64 (G : Int), .bool true, .int .i64 0, .bool false]; have z1 := z0.row_other (w.heap.size + 1) #[.int .i64 (S : Int), .int .i64 (N : Int), .int .i64 (P : Int), .int .i64 (G : Int), .bool true, .int .i64 0, .bool false] (by omega); have B1 := below_setRow B0 (g := w.heap.size + 1) (by omega) #[.int .i64 (S : Int), .int .i64 (N : Int), .int .i64 (P : Int), .int .i64 (G : Int), .bool true, .int .i64 0, .bool false]; have f1 := a1.frozen 4; have c1 := a1.cell 4; have f2 := a1.frozen 5; have c2 := a1.cell 5; have a2 := a1.set 5 (.int .i64 (M : Int)); have z2 := z1.other ⟨w.heap.size + 1, 5, none⟩ (.int .i64 (M : Int)) (by simp); have B2 := B1.setCell (p := ⟨w.heap.size + 1, 5, none⟩) (by simp) (.int .i64 (M : Int)); simp only [List.setIfInBounds_toArray, List.set_cons_succ, List.set_cons_zero] at a2) | (refine wpList_load_row rfl 65 _ rfl (w.heap.size + 1) rfl 65 _ (0, 0) _ a2 Try.underlying65 rfl (info65 _ rfl) ?_) | (go_at_call 24; with_reducible refine (cE _).mono ?_; rintro e w3 ⟨rfl, hb3⟩; have a3 := a2.below hb3 a2.lt; have z3 := z2.below hb3 z2.lt; have B3 := bLater B2 hb3) | (refine wpList_load_row rfl 65 _ rfl (w.heap.size + 1) rfl 65 _ (0, 0) _ a3 Try.underlying65 rfl (info65 _ rfl) ?_) | (refine wpList_store_row rfl 65 _ _ rfl (w.heap.size) #[.int .i64 (S : Int), .int .i64 (N : Int), .int .i64 (P : Int), .int .i64 (G : Int), .bool true, .int .i64 (M : Int), .bool false] rfl rfl 65 _ z3 (info65 _ rfl) rfl (by simp [Value.oneCell']) ?_; have B4 := below_setRow B3 (g := w.heap.size) (Nat.le_refl _) #[.int .i64 (S : Int), .int .i64 (N : Int), .int .i64 (P : Int), .int .i64 (G : Int), .bool true, .int .i64 (M : Int), .bool false]; have z4 := z3.row #[.int .i64 (S : Int), .int .i64 (N : Int), .int .i64 (P : Int), .int .i64 (G : Int), .bool true, .int .i64 (M : Int), .bool false]))
  exact bodyPost_ret (v := (.tuple #[.agg #[.int .i64 (S : Int), .int .i64 (N : Int), .int .i64 (P : Int), .int .i64 (G : Int), .bool true, .int .i64 (M : Int), .bool false], .int .i64 0])) (results_cell_tmp (fn := Try.f26) Try.results26 _ _ w.heap.size 65 _ (0, 0) _ rfl z4 Try.underlying65 rfl (info65 _ rfl)) rfl ⟨rfl, B4⟩

set_option maxRecDepth 100000 in
set_option maxHeartbeats 4000000 in
theorem dec_h_ne (v S N P G : Nat) (M : Nat) (U : Nat) (hU : Hid (U ≠ v)) (w : World) (eN : bits .and .u64 (v : Int) 4294967295 = (N : Int)) (eS : wrap64 ((v : Int) / 4611686018427387904) = (S : Int))
    (eP : bits .and .u64 ((v : Int) / 281474976710656) 255 = (P : Int)) (eG : bits .and .u64 ((v : Int) / 1152921504606846976) 1 = (G : Int)) (eH : (bits .and .u64 ((v : Int) / 2305843009213693952) 1 == 1) = true)
    (eM : bits .and .u64 ((v : Int) / 4294967296) 1023 = (M : Int)) (wM : wrap64 (M : Int) = (M : Int))
    (wN : wrap64 (N : Int) = (N : Int)) (wP : wrap64 (P : Int) = (P : Int)) (wG : wrap64 (G : Int) = (G : Int))
    (cE : ∀ w, Calls Try.prog 24 #[.agg #[.int .i64 (S : Int), .int .i64 (N : Int), .int .i64 (P : Int), .int .i64 (G : Int), .bool true, .int .i64 (M : Int), .bool false]] w fun e w' => e = .returned (.tuple #[.int .u64 (U : Int), .int .i64 0]) ∧ Below w.heap.size w w') :
    Calls Try.prog 26 #[.int .u64 (v : Int)] w fun e w' => e = .returned (.tuple #[.agg #[.int .i64 0, .int .i64 0, .int .i64 0, .int .i64 0, .bool false, .int .i64 0, .bool false], .int .i64 200]) ∧ Below w.heap.size w w' := by
  have u1 : ((U : Int) == (v : Int)) = false := by have := hU.out; rw [beq_eq_false_iff_ne]; omega
  have u2 : ((U : Int) != (v : Int)) = true := by have := hU.out; rw [bne_iff_ne]; omega
  have z0 := (Blk.new w 65 #[.int .i64 0, .int .i64 0, .int .i64 0, .int .i64 0, .bool false, .int .i64 0, .bool false]).alloc (.cells #[.int .i64 0, .int .i64 0, .int .i64 0, .int .i64 0, .bool false, .int .i64 0, .bool false] 65)
  have a0 := Blk.new (w.alloc (.cells #[.int .i64 0, .int .i64 0, .int .i64 0, .int .i64 0, .bool false, .int .i64 0, .bool false] 65)) 65 #[.int .i64 0, .int .i64 0, .int .i64 0, .int .i64 0, .bool false, .int .i64 0, .bool false]
  rw [show (w.alloc (.cells #[.int .i64 0, .int .i64 0, .int .i64 0, .int .i64 0, .bool false, .int .i64 0, .bool false] 65)).heap.size = w.heap.size + 1 by simp] at a0
  have B0 := (one_box w (.cells #[.int .i64 0, .int .i64 0, .int .i64 0, .int .i64 0, .bool false, .int .i64 0, .bool false] 65)).alloc (one_box w _).size (.cells #[.int .i64 0, .int .i64 0, .int .i64 0, .int .i64 0, .bool false, .int .i64 0, .bool false] 65)
  go_enter Try.func26, Try.ntmps26
  go_wp2_with (first | (refine wpList_store_row rfl 65 _ _ rfl (w.heap.size + 1) #[.int .i64 (S : Int), .int .i64 (N : Int), .int .i64 (P : Int), .int .i64 (G : Int), .bool true, .int .i64 0, .bool false] rfl rfl 65 _ a0 (info65 _ rfl) rfl (by simp [Value.oneCell']) ?_; have a1 := a0.row #[.int .i64 (S : Int), .int .i64 (N : Int), .int .i64 (P : Int), .int .i64 (G : Int), .bool true, .int .i64 0, .bool false]; have z1 := z0.row_other (w.heap.size + 1) #[.int .i64 (S : Int), .int .i64 (N : Int), .int .i64 (P : Int), .int .i64 (G : Int), .bool true, .int .i64 0, .bool false] (by omega); have B1 := below_setRow B0 (g := w.heap.size + 1) (by omega) #[.int .i64 (S : Int), .int .i64 (N : Int), .int .i64 (P : Int), .int .i64 (G : Int), .bool true, .int .i64 0, .bool false]; have f1 := a1.frozen 4; have c1 := a1.cell 4; have f2 := a1.frozen 5; have c2 := a1.cell 5; have a2 := a1.set 5 (.int .i64 (M : Int)); have z2 := z1.other ⟨w.heap.size + 1, 5, none⟩ (.int .i64 (M : Int)) (by simp); have B2 := B1.setCell (p := ⟨w.heap.size + 1, 5, none⟩) (by simp) (.int .i64 (M : Int)); simp only [List.setIfInBounds_toArray, List.set_cons_succ, List.set_cons_zero] at a2) | (refine wpList_load_row rfl 65 _ rfl (w.heap.size + 1) rfl 65 _ (0, 0) _ a2 Try.underlying65 rfl (info65 _ rfl) ?_) | (go_at_call 24; with_reducible refine (cE _).mono ?_; rintro e w3 ⟨rfl, hb3⟩; have a3 := a2.below hb3 a2.lt; have z3 := z2.below hb3 z2.lt; have B3 := bLater B2 hb3) | (refine wpList_store_row rfl 65 _ _ rfl (w.heap.size) #[.int .i64 0, .int .i64 0, .int .i64 0, .int .i64 0, .bool false, .int .i64 0, .bool false] rfl rfl 65 _ z3 (info65 _ rfl) rfl (by simp [Value.oneCell']) ?_; have B4 := below_setRow B3 (g := w.heap.size) (Nat.le_refl _) #[.int .i64 0, .int .i64 0, .int .i64 0, .int .i64 0, .bool false, .int .i64 0, .bool false]; have z4 := z3.row #[.int .i64 0, .int .i64 0, .int .i64 0, .int .i64 0, .bool false, .int .i64 0, .bool false]))
  exact bodyPost_ret (v := (.tuple #[.agg #[.int .i64 0, .int .i64 0, .int .i64 0, .int .i64 0, .bool false, .int .i64 0, .bool false], .int .i64 200])) (results_cell_tmp (fn := Try.f26) Try.results26 _ _ w.heap.size 65 _ (0, 0) _ rfl z4 Try.underlying65 rfl (info65 _ rfl)) rfl ⟨rfl, B4⟩

set_option maxRecDepth 100000 in
set_option maxHeartbeats 4000000 in
theorem dec_h_bad (v S N P G : Nat) (M : Nat) (w : World) (eN : bits .and .u64 (v : Int) 4294967295 = (N : Int)) (eS : wrap64 ((v : Int) / 4611686018427387904) = (S : Int))
    (eP : bits .and .u64 ((v : Int) / 281474976710656) 255 = (P : Int)) (eG : bits .and .u64 ((v : Int) / 1152921504606846976) 1 = (G : Int)) (eH : (bits .and .u64 ((v : Int) / 2305843009213693952) 1 == 1) = true)
    (eM : bits .and .u64 ((v : Int) / 4294967296) 1023 = (M : Int)) (wM : wrap64 (M : Int) = (M : Int))
    (wN : wrap64 (N : Int) = (N : Int)) (wP : wrap64 (P : Int) = (P : Int)) (wG : wrap64 (G : Int) = (G : Int))
    (cE : ∀ w, Calls Try.prog 24 #[.agg #[.int .i64 (S : Int), .int .i64 (N : Int), .int .i64 (P : Int), .int .i64 (G : Int), .bool true, .int .i64 (M : Int), .bool false]] w fun e w' => e = .returned (.tuple #[.int .u64 0, .int .i64 200]) ∧ Below w.heap.size w w') :
    Calls Try.prog 26 #[.int .u64 (v : Int)] w fun e w' => e = .returned (.tuple #[.agg #[.int .i64 0, .int .i64 0, .int .i64 0, .int .i64 0, .bool false, .int .i64 0, .bool false], .int .i64 200]) ∧ Below w.heap.size w w' := by
  have z0 := (Blk.new w 65 #[.int .i64 0, .int .i64 0, .int .i64 0, .int .i64 0, .bool false, .int .i64 0, .bool false]).alloc (.cells #[.int .i64 0, .int .i64 0, .int .i64 0, .int .i64 0, .bool false, .int .i64 0, .bool false] 65)
  have a0 := Blk.new (w.alloc (.cells #[.int .i64 0, .int .i64 0, .int .i64 0, .int .i64 0, .bool false, .int .i64 0, .bool false] 65)) 65 #[.int .i64 0, .int .i64 0, .int .i64 0, .int .i64 0, .bool false, .int .i64 0, .bool false]
  rw [show (w.alloc (.cells #[.int .i64 0, .int .i64 0, .int .i64 0, .int .i64 0, .bool false, .int .i64 0, .bool false] 65)).heap.size = w.heap.size + 1 by simp] at a0
  have B0 := (one_box w (.cells #[.int .i64 0, .int .i64 0, .int .i64 0, .int .i64 0, .bool false, .int .i64 0, .bool false] 65)).alloc (one_box w _).size (.cells #[.int .i64 0, .int .i64 0, .int .i64 0, .int .i64 0, .bool false, .int .i64 0, .bool false] 65)
  go_enter Try.func26, Try.ntmps26
  go_wp2_with (first | (refine wpList_store_row rfl 65 _ _ rfl (w.heap.size + 1) #[.int .i64 (S : Int), .int .i64 (N : Int), .int .i64 (P : Int), .int .i64 (G : Int), .bool true, .int .i64 0, .bool false] rfl rfl 65 _ a0 (info65 _ rfl) rfl (by simp [Value.oneCell']) ?_; have a1 := a0.row #[.int .i64 (S : Int), .int .i64 (N : Int), .int .i64 (P : Int), .int .i64 (G : Int), .bool true, .int .i64 0, .bool false]; have z1 := z0.row_other (w.heap.size + 1) #[.int .i64 (S : Int), .int .i64 (N : Int), .int .i64 (P : Int), .int .i64 (G : Int), .bool true, .int .i64 0, .bool false] (by omega); have B1 := below_setRow B0 (g := w.heap.size + 1) (by omega) #[.int .i64 (S : Int), .int .i64 (N : Int), .int .i64 (P : Int), .int .i64 (G : Int), .bool true, .int .i64 0, .bool false]; have f1 := a1.frozen 4; have c1 := a1.cell 4; have f2 := a1.frozen 5; have c2 := a1.cell 5; have a2 := a1.set 5 (.int .i64 (M : Int)); have z2 := z1.other ⟨w.heap.size + 1, 5, none⟩ (.int .i64 (M : Int)) (by simp); have B2 := B1.setCell (p := ⟨w.heap.size + 1, 5, none⟩) (by simp) (.int .i64 (M : Int)); simp only [List.setIfInBounds_toArray, List.set_cons_succ, List.set_cons_zero] at a2) | (refine wpList_load_row rfl 65 _ rfl (w.heap.size + 1) rfl 65 _ (0, 0) _ a2 Try.underlying65 rfl (info65 _ rfl) ?_) | (go_at_call 24; with_reducible refine (cE _).mono ?_; rintro e w3 ⟨rfl, hb3⟩; have a3 := a2.below hb3 a2.lt; have z3 := z2.below hb3 z2.lt; have B3 := bLater B2 hb3) | (refine wpList_store_row rfl 65 _ _ rfl (w.heap.size) #[.int .i64 0, .int .i64 0, .int .i64 0, .int .i64 0, .bool false, .int .i64 0, .bool false] rfl rfl 65 _ z3 (info65 _ rfl) rfl (by simp [Value.oneCell']) ?_; have B4 := below_setRow B3 (g := w.heap.size) (Nat.le_refl _) #[.int .i64 0, .int .i64 0, .int .i64 0, .int .i64 0, .bool false, .int .i64 0, .bool false]; have z4 := z3.row #[.int .i64 0, .int .i64 0, .int .i64 0, .int .i64 0, .bool false, .int .i64 0, .bool false]))
  exact bodyPost_ret (v := (.tuple #[.agg #[.int .i64 0, .int .i64 0, .int .i64 0, .int .i64 0, .bool false, .int .i64 0, .bool false], .int .i64 200])) (results_cell_tmp (fn := Try.f26) Try.results26 _ _ w.heap.size 65 _ (0, 0) _ rfl z4 Try.underlying65 rfl (info65 _ rfl)) rfl ⟨rfl, B4⟩
end Go.Proofs.Ytoloccoodnbbdaa
