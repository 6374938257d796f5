/- List registers: the list register of a number, by trying. -/
import Derived.RangeFuncNested
import Derived.RangeFuncBound
import Derived.RangeFuncCalls
import Derived.RangeFuncLeaves
import Derived.Shelf.Abstract
import Derived.Shelf.RegionOpen
import Derived.WalkKit
import Derived.OwnWalkIn
import Derived.TacticsInMore
import Derived.LoopNIn
import Derived.LoopIn
import Derived.WalkSpells
import Derived.WalkLawsBesides
import Derived.Deep.QuietTactic
import Derived.BigQuiet
import Derived.Lib.Hide
import Derived.Deep.WholeRow
import Derived.Laws.Rows
import Derived.Laws.Tables
import Derived.Test.YtoloccoodnbbdaaLrJ
import Derived.Test.YtoloccoodnbbdaaLrH
namespace Go.Proofs.Ytoloccoodnbbdaa
open Go.RowKit Go.Shelf
attribute [local go_sem] Oper.semAt_some

set_option maxRecDepth 100000 in
set_option maxHeartbeats 4000000 in
theorem decR_h_ok (v S N P G M : Nat) (b : Bool) (X : Int) (k : Bool) (w : World) (eN : Int.tmod (v : Int) 4294967296 = (N : Int)) (eS : wrap64 ((v : Int) / 4611686018427387904) = (S : Int))
    (eP : Int.tmod ((v : Int) / 281474976710656) 256 = (P : Int)) (eG : Int.tmod ((v : Int) / 1152921504606846976) 2 = (G : Int)) (eH : ((v : Int) / 2305843009213693952 % 2 == 1) = true)
    (eM : Int.tmod ((v : Int) / 4294967296) 1024 = (M : Int)) (wM : wrap64 (M : Int) = (M : Int)) (eT : ((v : Int) / 2199023255552 % 2 == 1) = b)
    (wN : wrap64 (N : Int) = (N : Int)) (wP : wrap64 (P : Int) = (P : Int)) (wG : wrap64 (G : Int) = (G : Int))
    (cA : ∀ w, Calls Try.prog 25 #[.agg #[.int .i64 (S : Int), .int .i64 (N : Int), .int .i64 (P : Int), .int .i64 (G : Int), .bool true, .int .i64 (M : Int), .bool false]] w fun e w' => e = .returned (.tuple #[.int .u64 (v : Int), .bool true]) ∧ Below w.heap.size w w')
    (cB : ∀ w, Calls Try.prog 25 #[.agg #[.int .i64 (S : Int), .int .i64 (N : Int), .int .i64 (P : Int), .int .i64 (G : Int), .bool true, .int .i64 0, .bool b]] w fun e w' => e = .returned (.tuple #[.int .u64 X, .bool k]) ∧ Below w.heap.size w w') :
    Calls Try.prog 27 #[.int .u64 (v : Int)] w fun e w' => e = .returned (.tuple #[.agg #[.int .i64 (S : Int), .int .i64 (N : Int), .int .i64 (P : Int), .int .i64 (G : Int), .bool true, .int .i64 (M : Int), .bool false], .bool true]) ∧ Below w.heap.size w w' := by
  have z0 := (Blk.new w 65 #[.int .i64 0, .int .i64 0, .int .i64 0, .int .i64 0, .bool false, .int .i64 0, .bool false]).alloc (.cells #[.int .i64 (S : Int), .int .i64 (N : Int), .int .i64 (P : Int), .int .i64 (G : Int), .bool true, .int .i64 0, .bool false] 65)
  have a0 := Blk.new (w.alloc (.cells #[.int .i64 0, .int .i64 0, .int .i64 0, .int .i64 0, .bool false, .int .i64 0, .bool false] 65)) 65 #[.int .i64 (S : Int), .int .i64 (N : Int), .int .i64 (P : Int), .int .i64 (G : Int), .bool true, .int .i64 0, .bool false]
  rw [show (w.alloc (.cells #[.int .i64 0, .int .i64 0, .int .i64 0, .int .i64 0, .bool false, .int .i64 0, .bool false] 65)).heap.size = w.heap.size + 1 by simp] at a0
  have B0 := (one_box w (.cells #[.int .i64 0, .int .i64 0, .int .i64 0, .int .i64 0, .bool false, .int .i64 0, .bool false] 65)).alloc (one_box w _).size (.cells #[.int .i64 (S : Int), .int .i64 (N : Int), .int .i64 (P : Int), .int .i64 (G : Int), .bool true, .int .i64 0, .bool false] 65)
  go_enter Try.func27, Try.ntmps27
  go_wp2
  obtain ⟨W, hW⟩ : ∃ W, (w.alloc (.cells #[.int .i64 0, .int .i64 0, .int .i64 0, .int .i64 0, .bool false, .int .i64 0, .bool false] 65)).alloc (.cells #[.int .i64 (S : Int), .int .i64 (N : Int), .int .i64 (P : Int), .int .i64 (G : Int), .bool true, .int .i64 0, .bool false] 65) = W := ⟨_, rfl⟩
  rw [hW] at z0 a0 B0 ⊢
  have hsz : W.heap.size = w.heap.size + 2 := by rw [← hW]; simp
  clear hW
  obtain ⟨SS, hSd⟩ : ∃ SS : World → Prop, ∀ w', SS w' ↔ (Blk w' (w.heap.size + 1) 65 #[.int .i64 (S : Int), .int .i64 (N : Int), .int .i64 (P : Int), .int .i64 (G : Int), .bool true, .int .i64 0, .bool false] ∧ Blk w' w.heap.size 65 #[.int .i64 0, .int .i64 0, .int .i64 0, .int .i64 0, .bool false, .int .i64 0, .bool false] ∧ Below w.heap.size w w') := ⟨fun w' => Blk w' (w.heap.size + 1) 65 #[.int .i64 (S : Int), .int .i64 (N : Int), .int .i64 (P : Int), .int .i64 (G : Int), .bool true, .int .i64 0, .bool false] ∧ Blk w' w.heap.size 65 #[.int .i64 0, .int .i64 0, .int .i64 0, .int .i64 0, .bool false, .int .i64 0, .bool false] ∧ Below w.heap.size w w', fun _ => Iff.rfl⟩
  have hS0 : SS W.drew := (hSd _).2 ⟨a0, z0, B0.drew⟩
  refine wp_region_held_drew (S := SS) (by kernel_rfl) hS0 (fun hS => ?_)
  refine stepH (i := 0) (d := 28) (v := .agg #[.int .i64 (S : Int), .int .i64 (N : Int), .int .i64 (P : Int), .int .i64 (G : Int), .bool true, .int .i64 0, .bool false]) rfl rfl (by kernel_rfl) (by kernel_rfl) (by kernel_rfl) (fun _ _ _ h => h) (Or.inl ⟨by kernel_rfl, fun w' hw' => load_blk ((hSd w').1 hw').1 65 _ rfl rfl _ Try.underlying65 rfl (info65 _ rfl)⟩) hS ?_
  simp only [List.set_cons_zero, List.set_cons_succ]
  refine stepH (i := 1) (d := 29) (v := .agg #[.int .i64 (S : Int), .int .i64 (N : Int), .int .i64 (P : Int), .int .i64 (G : Int), .bool true, .int .i64 0, .bool false]) rfl rfl (by kernel_rfl) (by kernel_rfl) (by kernel_rfl) (fun _ _ _ h => h) (Or.inl ⟨by kernel_rfl, fun w' hw' => load_blk ((hSd w').1 hw').1 65 _ rfl rfl _ Try.underlying65 rfl (info65 _ rfl)⟩) hS ?_
  simp only [List.set_cons_zero, List.set_cons_succ]
  refine joinH 2 #[true, true, true, true, false, false] 5 6 (fun s t w' => s ≠ t ∧ w.heap.size + 2 ≤ s ∧ w.heap.size + 2 ≤ t ∧ Blk w' s 65 #[.int .i64 0, .int .i64 0, .int .i64 0, .int .i64 0, .bool false, .int .i64 0, .bool false] ∧ Blk w' t 65 #[.int .i64 0, .int .i64 0, .int .i64 0, .int .i64 0, .bool false, .int .i64 0, .bool false] ∧ SS w') ?_ (fun hj => ?_)
  rotate_left
  · have n0 : W.drew.heap.size = w.heap.size + 2 := hsz
    have hA := (hSd _).1 hS
    have a1 := hA.1.alloc (.cells #[.int .i64 0, .int .i64 0, .int .i64 0, .int .i64 0, .bool false, .int .i64 0, .bool false] 65)
    have z1 := hA.2.1.alloc (.cells #[.int .i64 0, .int .i64 0, .int .i64 0, .int .i64 0, .bool false, .int .i64 0, .bool false] 65)
    have B1 := hA.2.2.alloc (o := .cells #[.int .i64 0, .int .i64 0, .int .i64 0, .int .i64 0, .bool false, .int .i64 0, .bool false] 65) (by omega)
    have y1 := Blk.new W.drew 65 #[.int .i64 0, .int .i64 0, .int .i64 0, .int .i64 0, .bool false, .int .i64 0, .bool false]
    have hS1 : SS (W.drew.alloc (.cells #[.int .i64 0, .int .i64 0, .int .i64 0, .int .i64 0, .bool false, .int .i64 0, .bool false] 65)) := (hSd _).2 ⟨a1, z1, B1⟩
    have n1 : (W.drew.alloc (.cells #[.int .i64 0, .int .i64 0, .int .i64 0, .int .i64 0, .bool false, .int .i64 0, .bool false] 65)).heap.size = w.heap.size + 3 := by simp; omega
    have hS2 : SS ((W.drew.alloc (.cells #[.int .i64 0, .int .i64 0, .int .i64 0, .int .i64 0, .bool false, .int .i64 0, .bool false] 65)).alloc (.cells #[.int .i64 0, .int .i64 0, .int .i64 0, .int .i64 0, .bool false, .int .i64 0, .bool false] 65)) := (hSd _).2 ⟨a1.alloc _, z1.alloc _, B1.alloc (by omega) _⟩
    have y2 := y1.alloc (.cells #[.int .i64 0, .int .i64 0, .int .i64 0, .int .i64 0, .bool false, .int .i64 0, .bool false] 65)
    have x2 := Blk.new (W.drew.alloc (.cells #[.int .i64 0, .int .i64 0, .int .i64 0, .int .i64 0, .bool false, .int .i64 0, .bool false] 65)) 65 #[.int .i64 0, .int .i64 0, .int .i64 0, .int .i64 0, .bool false, .int .i64 0, .bool false]
    refine stepTwo (i := 2) (j := 3) (by kernel_rfl) ?_ ?_
    · refine op_alloc rfl rfl (by kernel_rfl) #[.int .i64 0, .int .i64 0, .int .i64 0, .int .i64 0, .bool false, .int .i64 0, .bool false] 65 (by go_simp) ⟨hS1, ?_⟩
      refine stepOne (i := 3) (by kernel_rfl) (op_alloc rfl rfl (by kernel_rfl) #[.int .i64 0, .int .i64 0, .int .i64 0, .int .i64 0, .bool false, .int .i64 0, .bool false] 65 (by go_simp) ⟨hS2, ?_⟩)
      exact hj _ _ _ ⟨by omega, by omega, by omega, y2, x2, hS2⟩
    · refine op_alloc rfl rfl (by kernel_rfl) #[.int .i64 0, .int .i64 0, .int .i64 0, .int .i64 0, .bool false, .int .i64 0, .bool false] 65 (by go_simp) ⟨hS1, ?_⟩
      refine stepOne (i := 2) (by kernel_rfl) (op_alloc rfl rfl (by kernel_rfl) #[.int .i64 0, .int .i64 0, .int .i64 0, .int .i64 0, .bool false, .int .i64 0, .bool false] 65 (by go_simp) ⟨hS2, ?_⟩)
      rw [List.set_comm _ _ (show (6 : Nat) ≠ 5 by decide)]
      exact hj _ _ _ ⟨by omega, by omega, by omega, x2, y2, hS2⟩
  clear hS hS0 hsz a0 z0 B0
  rintro s t W2 ⟨hne, hs, ht, bs, bt, hS2⟩
  simp only [List.set_cons_zero, List.set_cons_succ]
  have hA := (hSd _).1 hS2
  have a1 := hA.1.row_other s #[.int .i64 (S : Int), .int .i64 (N : Int), .int .i64 (P : Int), .int .i64 (G : Int), .bool true, .int .i64 0, .bool false] (by omega)
  have z1 := hA.2.1.row_other s #[.int .i64 (S : Int), .int .i64 (N : Int), .int .i64 (P : Int), .int .i64 (G : Int), .bool true, .int .i64 0, .bool false] (by omega)
  have B1 := below_setRow hA.2.2 (g := s) (by omega) #[.int .i64 (S : Int), .int .i64 (N : Int), .int .i64 (P : Int), .int .i64 (G : Int), .bool true, .int .i64 0, .bool false]
  have hS3 : SS (W2.setRow s #[.int .i64 (S : Int), .int .i64 (N : Int), .int .i64 (P : Int), .int .i64 (G : Int), .bool true, .int .i64 0, .bool false]) := (hSd _).2 ⟨a1, z1, B1⟩
  refine stepOne (i := 4) (by kernel_rfl) (op_store rfl rfl (by kernel_rfl) 65 _ _ rfl s #[.int .i64 (S : Int), .int .i64 (N : Int), .int .i64 (P : Int), .int .i64 (G : Int), .bool true, .int .i64 0, .bool false] rfl rfl 65 #[.int .i64 0, .int .i64 0, .int .i64 0, .int .i64 0, .bool false, .int .i64 0, .bool false] bs (info65 _ rfl) rfl (by simp [Value.oneCell']) ⟨hS3, ?_⟩)
  have bs1 := bs.row #[.int .i64 (S : Int), .int .i64 (N : Int), .int .i64 (P : Int), .int .i64 (G : Int), .bool true, .int .i64 0, .bool false]
  have bt1 := bt.row_other s #[.int .i64 (S : Int), .int .i64 (N : Int), .int .i64 (P : Int), .int .i64 (G : Int), .bool true, .int .i64 0, .bool false] (Ne.symm hne)
  have a2 := a1.row_other t #[.int .i64 (S : Int), .int .i64 (N : Int), .int .i64 (P : Int), .int .i64 (G : Int), .bool true, .int .i64 0, .bool false] (by omega)
  have z2 := z1.row_other t #[.int .i64 (S : Int), .int .i64 (N : Int), .int .i64 (P : Int), .int .i64 (G : Int), .bool true, .int .i64 0, .bool false] (by omega)
  have B2 := below_setRow B1 (g := t) (by omega) #[.int .i64 (S : Int), .int .i64 (N : Int), .int .i64 (P : Int), .int .i64 (G : Int), .bool true, .int .i64 0, .bool false]
  have hS4 : SS ((W2.setRow s #[.int .i64 (S : Int), .int .i64 (N : Int), .int .i64 (P : Int), .int .i64 (G : Int), .bool true, .int .i64 0, .bool false]).setRow t #[.int .i64 (S : Int), .int .i64 (N : Int), .int .i64 (P : Int), .int .i64 (G : Int), .bool true, .int .i64 0, .bool false]) := (hSd _).2 ⟨a2, z2, B2⟩
  refine stepOne (i := 5) (by kernel_rfl) (op_store rfl rfl (by kernel_rfl) 65 _ _ rfl t #[.int .i64 (S : Int), .int .i64 (N : Int), .int .i64 (P : Int), .int .i64 (G : Int), .bool true, .int .i64 0, .bool false] rfl rfl 65 #[.int .i64 0, .int .i64 0, .int .i64 0, .int .i64 0, .bool false, .int .i64 0, .bool false] bt1 (info65 _ rfl) rfl (by simp [Value.oneCell']) ⟨hS4, ?_⟩)
  have bs2 := bs1.row_other t #[.int .i64 (S : Int), .int .i64 (N : Int), .int .i64 (P : Int), .int .i64 (G : Int), .bool true, .int .i64 0, .bool false] hne
  have bt2 := bt1.row #[.int .i64 (S : Int), .int .i64 (N : Int), .int .i64 (P : Int), .int .i64 (G : Int), .bool true, .int .i64 0, .bool false]
  refine wpAnyH_done (by kernel_rfl) ?_ _
  clear hS2 hS3 hS4 hA a1 z1 B1 bs1 bt1 bs bt hSd
  obtain ⟨W, hW⟩ : ∃ W, (W2.setRow s #[.int .i64 (S : Int), .int .i64 (N : Int), .int .i64 (P : Int), .int .i64 (G : Int), .bool true, .int .i64 0, .bool false]).setRow t #[.int .i64 (S : Int), .int .i64 (N : Int), .int .i64 (P : Int), .int .i64 (G : Int), .bool true, .int .i64 0, .bool false] = W := ⟨_, rfl⟩
  rw [hW] at a2 z2 B2 bs2 bt2 ⊢
  clear hW
  have c5 := bs2.cell 5
  have f5 := bs2.frozen 5
  have c6 := bt2.cell 6
  have f6 := bt2.frozen 6
  have hne2 := Ne.symm hne
  have s3 := (bs2.set 5 (.int .i64 (M : Int))).other ⟨t, 6, none⟩ (.bool b) hne
  have t3 := (bt2.other ⟨s, 5, none⟩ (.int .i64 (M : Int)) hne2).set 6 (.bool b)
  simp only [List.setIfInBounds_toArray, List.set_cons_succ, List.set_cons_zero] at s3 t3
  have a3 := (a2.other ⟨s, 5, none⟩ (.int .i64 (M : Int)) (show w.heap.size + 1 ≠ s by omega)).other ⟨t, 6, none⟩ (.bool b) (show w.heap.size + 1 ≠ t by omega)
  have z3 := (z2.other ⟨s, 5, none⟩ (.int .i64 (M : Int)) (show w.heap.size ≠ s by omega)).other ⟨t, 6, none⟩ (.bool b) (show w.heap.size ≠ t by omega)
  have B3 := (B2.setCell (p := ⟨s, 5, none⟩) (show w.heap.size ≤ s by omega) (.int .i64 (M : Int))).setCell (p := ⟨t, 6, none⟩) (show w.heap.size ≤ t by omega) (.bool b)
  clear hs ht
  go_wp2_with (first | (refine wpList_load_row rfl 65 _ rfl (s) rfl 65 _ (0, 0) _ s3 Try.underlying65 rfl (info65 _ rfl) ?_) | (go_at_call 25; with_reducible refine (cA _).mono ?_; rintro e w4 ⟨rfl, hb4⟩; have s4 := s3.below hb4 s3.lt; have t4 := t3.below hb4 t3.lt; have a4 := a3.below hb4 a3.lt; have z4 := z3.below hb4 z3.lt; have B4 := bLater B3 hb4; have k4 := a4.cell 4) | (refine wpList_load_row rfl 65 _ rfl (s) rfl 65 _ (0, 0) _ s4 Try.underlying65 rfl (info65 _ rfl) ?_) | (refine wpList_store_row rfl 65 _ _ rfl (w.heap.size) #[.int .i64 (S : Int), .int .i64 (N : Int), .int .i64 (P : Int), .int .i64 (G : Int), .bool true, .int .i64 (M : Int), .bool false] rfl rfl 65 _ z4 (info65 _ rfl) rfl (by simp [Value.oneCell']) ?_; have B6 := below_setRow B4 (g := w.heap.size) (Nat.le_refl _) #[.int .i64 (S : Int), .int .i64 (N : Int), .int .i64 (P : Int), .int .i64 (G : Int), .bool true, .int .i64 (M : Int), .bool false]; have z6 := z4.row #[.int .i64 (S : Int), .int .i64 (N : Int), .int .i64 (P : Int), .int .i64 (G : Int), .bool true, .int .i64 (M : Int), .bool false]))
  exact bodyPost_ret (v := (.tuple #[.agg #[.int .i64 (S : Int), .int .i64 (N : Int), .int .i64 (P : Int), .int .i64 (G : Int), .bool true, .int .i64 (M : Int), .bool false], .bool true])) (results_cell_tmp (fn := Try.f27) Try.results27 _ _ w.heap.size 65 _ (0, 0) _ rfl z6 Try.underlying65 rfl (info65 _ rfl)) rfl ⟨rfl, B6⟩

set_option maxRecDepth 100000 in
set_option maxHeartbeats 4000000 in
theorem decR_h_ne (v S N P G M : Nat) (b : Bool) (X : Int) (k : Bool) (U : Nat) (hU : Hid (U ≠ v)) (w : World) (eN : Int.tmod (v : Int) 4294967296 = (N : Int)) (eS : wrap64 ((v : Int) / 4611686018427387904) = (S : Int))
    (eP : Int.tmod ((v : Int) / 281474976710656) 256 = (P : Int)) (eG : Int.tmod ((v : Int) / 1152921504606846976) 2 = (G : Int)) (eH : ((v : Int) / 2305843009213693952 % 2 == 1) = true)
    (eM : Int.tmod ((v : Int) / 4294967296) 1024 = (M : Int)) (wM : wrap64 (M : Int) = (M : Int)) (eT : ((v : Int) / 2199023255552 % 2 == 1) = b)
    (wN : wrap64 (N : Int) = (N : Int)) (wP : wrap64 (P : Int) = (P : Int)) (wG : wrap64 (G : Int) = (G : Int))
    (cA : ∀ w, Calls Try.prog 25 #[.agg #[.int .i64 (S : Int), .int .i64 (N : Int), .int .i64 (P : Int), .int .i64 (G : Int), .bool true, .int .i64 (M : Int), .bool false]] w fun e w' => e = .returned (.tuple #[.int .u64 (U : Int), .bool true]) ∧ Below w.heap.size w w')
    (cB : ∀ w, Calls Try.prog 25 #[.agg #[.int .i64 (S : Int), .int .i64 (N : Int), .int .i64 (P : Int), .int .i64 (G : Int), .bool true, .int .i64 0, .bool b]] w fun e w' => e = .returned (.tuple #[.int .u64 X, .bool k]) ∧ Below w.heap.size w w') :
    Calls Try.prog 27 #[.int .u64 (v : Int)] w fun e w' => e = .returned (.tuple #[.agg #[.int .i64 0, .int .i64 0, .int .i64 0, .int .i64 0, .bool false, .int .i64 0, .bool false], .bool false]) ∧ Below w.heap.size w w' := by
  have u1 : ((U : Int) == (v : Int)) = false := by have := hU.out; rw [beq_eq_false_iff_ne]; omega
  have u2 : ((U : Int) != (v : Int)) = true := by have := hU.out; rw [bne_iff_ne]; omega
  have z0 := (Blk.new w 65 #[.int .i64 0, .int .i64 0, .int .i64 0, .int .i64 0, .bool false, .int .i64 0, .bool false]).alloc (.cells #[.int .i64 (S : Int), .int .i64 (N : Int), .int .i64 (P : Int), .int .i64 (G : Int), .bool true, .int .i64 0, .bool false] 65)
  have a0 := Blk.new (w.alloc (.cells #[.int .i64 0, .int .i64 0, .int .i64 0, .int .i64 0, .bool false, .int .i64 0, .bool false] 65)) 65 #[.int .i64 (S : Int), .int .i64 (N : Int), .int .i64 (P : Int), .int .i64 (G : Int), .bool true, .int .i64 0, .bool false]
  rw [show (w.alloc (.cells #[.int .i64 0, .int .i64 0, .int .i64 0, .int .i64 0, .bool false, .int .i64 0, .bool false] 65)).heap.size = w.heap.size + 1 by simp] at a0
  have B0 := (one_box w (.cells #[.int .i64 0, .int .i64 0, .int .i64 0, .int .i64 0, .bool false, .int .i64 0, .bool false] 65)).alloc (one_box w _).size (.cells #[.int .i64 (S : Int), .int .i64 (N : Int), .int .i64 (P : Int), .int .i64 (G : Int), .bool true, .int .i64 0, .bool false] 65)
  go_enter Try.func27, Try.ntmps27
  go_wp2
  obtain ⟨W, hW⟩ : ∃ W, (w.alloc (.cells #[.int .i64 0, .int .i64 0, .int .i64 0, .int .i64 0, .bool false, .int .i64 0, .bool false] 65)).alloc (.cells #[.int .i64 (S : Int), .int .i64 (N : Int), .int .i64 (P : Int), .int .i64 (G : Int), .bool true, .int .i64 0, .bool false] 65) = W := ⟨_, rfl⟩
  rw [hW] at z0 a0 B0 ⊢
  have hsz : W.heap.size = w.heap.size + 2 := by rw [← hW]; simp
  clear hW
  obtain ⟨SS, hSd⟩ : ∃ SS : World → Prop, ∀ w', SS w' ↔ (Blk w' (w.heap.size + 1) 65 #[.int .i64 (S : Int), .int .i64 (N : Int), .int .i64 (P : Int), .int .i64 (G : Int), .bool true, .int .i64 0, .bool false] ∧ Blk w' w.heap.size 65 #[.int .i64 0, .int .i64 0, .int .i64 0, .int .i64 0, .bool false, .int .i64 0, .bool false] ∧ Below w.heap.size w w') := ⟨fun w' => Blk w' (w.heap.size + 1) 65 #[.int .i64 (S : Int), .int .i64 (N : Int), .int .i64 (P : Int), .int .i64 (G : Int), .bool true, .int .i64 0, .bool false] ∧ Blk w' w.heap.size 65 #[.int .i64 0, .int .i64 0, .int .i64 0, .int .i64 0, .bool false, .int .i64 0, .bool false] ∧ Below w.heap.size w w', fun _ => Iff.rfl⟩
  have hS0 : SS W.drew := (hSd _).2 ⟨a0, z0, B0.drew⟩
  refine wp_region_held_drew (S := SS) (by kernel_rfl) hS0 (fun hS => ?_)
  refine stepH (i := 0) (d := 28) (v := .agg #[.int .i64 (S : Int), .int .i64 (N : Int), .int .i64 (P : Int), .int .i64 (G : Int), .bool true, .int .i64 0, .bool false]) rfl rfl (by kernel_rfl) (by kernel_rfl) (by kernel_rfl) (fun _ _ _ h => h) (Or.inl ⟨by kernel_rfl, fun w' hw' => load_blk ((hSd w').1 hw').1 65 _ rfl rfl _ Try.underlying65 rfl (info65 _ rfl)⟩) hS ?_
  simp only [List.set_cons_zero, List.set_cons_succ]
  refine stepH (i := 1) (d := 29) (v := .agg #[.int .i64 (S : Int), .int .i64 (N : Int), .int .i64 (P : Int), .int .i64 (G : Int), .bool true, .int .i64 0, .bool false]) rfl rfl (by kernel_rfl) (by kernel_rfl) (by kernel_rfl) (fun _ _ _ h => h) (Or.inl ⟨by kernel_rfl, fun w' hw' => load_blk ((hSd w').1 hw').1 65 _ rfl rfl _ Try.underlying65 rfl (info65 _ rfl)⟩) hS ?_
  simp only [List.set_cons_zero, List.set_cons_succ]
  refine joinH 2 #[true, true, true, true, false, false] 5 6 (fun s t w' => s ≠ t ∧ w.heap.size + 2 ≤ s ∧ w.heap.size + 2 ≤ t ∧ Blk w' s 65 #[.int .i64 0, .int .i64 0, .int .i64 0, .int .i64 0, .bool false, .int .i64 0, .bool false] ∧ Blk w' t 65 #[.int .i64 0, .int .i64 0, .int .i64 0, .int .i64 0, .bool false, .int .i64 0, .bool false] ∧ SS w') ?_ (fun hj => ?_)
  rotate_left
  · have n0 : W.drew.heap.size = w.heap.size + 2 := hsz
    have hA := (hSd _).1 hS
    have a1 := hA.1.alloc (.cells #[.int .i64 0, .int .i64 0, .int .i64 0, .int .i64 0, .bool false, .int .i64 0, .bool false] 65)
    have z1 := hA.2.1.alloc (.cells #[.int .i64 0, .int .i64 0, .int .i64 0, .int .i64 0, .bool false, .int .i64 0, .bool false] 65)
    have B1 := hA.2.2.alloc (o := .cells #[.int .i64 0, .int .i64 0, .int .i64 0, .int .i64 0, .bool false, .int .i64 0, .bool false] 65) (by omega)
    have y1 := Blk.new W.drew 65 #[.int .i64 0, .int .i64 0, .int .i64 0, .int .i64 0, .bool false, .int .i64 0, .bool false]
    have hS1 : SS (W.drew.alloc (.cells #[.int .i64 0, .int .i64 0, .int .i64 0, .int .i64 0, .bool false, .int .i64 0, .bool false] 65)) := (hSd _).2 ⟨a1, z1, B1⟩
    have n1 : (W.drew.alloc (.cells #[.int .i64 0, .int .i64 0, .int .i64 0, .int .i64 0, .bool false, .int .i64 0, .bool false] 65)).heap.size = w.heap.size + 3 := by simp; omega
    have hS2 : SS ((W.drew.alloc (.cells #[.int .i64 0, .int .i64 0, .int .i64 0, .int .i64 0, .bool false, .int .i64 0, .bool false] 65)).alloc (.cells #[.int .i64 0, .int .i64 0, .int .i64 0, .int .i64 0, .bool false, .int .i64 0, .bool false] 65)) := (hSd _).2 ⟨a1.alloc _, z1.alloc _, B1.alloc (by omega) _⟩
    have y2 := y1.alloc (.cells #[.int .i64 0, .int .i64 0, .int .i64 0, .int .i64 0, .bool false, .int .i64 0, .bool false] 65)
    have x2 := Blk.new (W.drew.alloc (.cells #[.int .i64 0, .int .i64 0, .int .i64 0, .int .i64 0, .bool false, .int .i64 0, .bool false] 65)) 65 #[.int .i64 0, .int .i64 0, .int .i64 0, .int .i64 0, .bool false, .int .i64 0, .bool false]
    refine stepTwo (i := 2) (j := 3) (by kernel_rfl) ?_ ?_
    · refine op_alloc rfl rfl (by kernel_rfl) #[.int .i64 0, .int .i64 0, .int .i64 0, .int .i64 0, .bool false, .int .i64 0, .bool false] 65 (by go_simp) ⟨hS1, ?_⟩
      refine stepOne (i := 3) (by kernel_rfl) (op_alloc rfl rfl (by kernel_rfl) #[.int .i64 0, .int .i64 0, .int .i64 0, .int .i64 0, .bool false, .int .i64 0, .bool false] 65 (by go_simp) ⟨hS2, ?_⟩)
      exact hj _ _ _ ⟨by omega, by omega, by omega, y2, x2, hS2⟩
    · refine op_alloc rfl rfl (by kernel_rfl) #[.int .i64 0, .int .i64 0, .int .i64 0, .int .i64 0, .bool false, .int .i64 0, .bool false] 65 (by go_simp) ⟨hS1, ?_⟩
      refine stepOne (i := 2) (by kernel_rfl) (op_alloc rfl rfl (by kernel_rfl) #[.int .i64 0, .int .i64 0, .int .i64 0, .int .i64 0, .bool false, .int .i64 0, .bool false] 65 (by go_simp) ⟨hS2, ?_⟩)
      rw [List.set_comm _ _ (show (6 : Nat) ≠ 5 by decide)]
      exact hj _ _ _ ⟨by omega, by omega, by omega, x2, y2, hS2⟩
  clear hS hS0 hsz a0 z0 B0
  rintro s t W2 ⟨hne, hs, ht, bs, bt, hS2⟩
  simp only [List.set_cons_zero, List.set_cons_succ]
  have hA := (hSd _).1 hS2
  have a1 := hA.1.row_other s #[.int .i64 (S : Int), .int .i64 (N : Int), .int .i64 (P : Int), .int .i64 (G : Int), .bool true, .int .i64 0, .bool false] (by omega)
  have z1 := hA.2.1.row_other s #[.int .i64 (S : Int), .int .i64 (N : Int), .int .i64 (P : Int), .int .i64 (G : Int), .bool true, .int .i64 0, .bool false] (by omega)
  have B1 := below_setRow hA.2.2 (g := s) (by omega) #[.int .i64 (S : Int), .int .i64 (N : Int), .int .i64 (P : Int), .int .i64 (G : Int), .bool true, .int .i64 0, .bool false]
  have hS3 : SS (W2.setRow s #[.int .i64 (S : Int), .int .i64 (N : Int), .int .i64 (P : Int), .int .i64 (G : Int), .bool true, .int .i64 0, .bool false]) := (hSd _).2 ⟨a1, z1, B1⟩
  refine stepOne (i := 4) (by kernel_rfl) (op_store rfl rfl (by kernel_rfl) 65 _ _ rfl s #[.int .i64 (S : Int), .int .i64 (N : Int), .int .i64 (P : Int), .int .i64 (G : Int), .bool true, .int .i64 0, .bool false] rfl rfl 65 #[.int .i64 0, .int .i64 0, .int .i64 0, .int .i64 0, .bool false, .int .i64 0, .bool false] bs (info65 _ rfl) rfl (by simp [Value.oneCell']) ⟨hS3, ?_⟩)
  have bs1 := bs.row #[.int .i64 (S : Int), .int .i64 (N : Int), .int .i64 (P : Int), .int .i64 (G : Int), .bool true, .int .i64 0, .bool false]
  have bt1 := bt.row_other s #[.int .i64 (S : Int), .int .i64 (N : Int), .int .i64 (P : Int), .int .i64 (G : Int), .bool true, .int .i64 0, .bool false] (Ne.symm hne)
  have a2 := a1.row_other t #[.int .i64 (S : Int), .int .i64 (N : Int), .int .i64 (P : Int), .int .i64 (G : Int), .bool true, .int .i64 0, .bool false] (by omega)
  have z2 := z1.row_other t #[.int .i64 (S : Int), .int .i64 (N : Int), .int .i64 (P : Int), .int .i64 (G : Int), .bool true, .int .i64 0, .bool false] (by omega)
  have B2 := below_setRow B1 (g := t) (by omega) #[.int .i64 (S : Int), .int .i64 (N : Int), .int .i64 (P : Int), .int .i64 (G : Int), .bool true, .int .i64 0, .bool false]
  have hS4 : SS ((W2.setRow s #[.int .i64 (S : Int), .int .i64 (N : Int), .int .i64 (P : Int), .int .i64 (G : Int), .bool true, .int .i64 0, .bool false]).setRow t #[.int .i64 (S : Int), .int .i64 (N : Int), .int .i64 (P : Int), .int .i64 (G : Int), .bool true, .int .i64 0, .bool false]) := (hSd _).2 ⟨a2, z2, B2⟩
  refine stepOne (i := 5) (by kernel_rfl) (op_store rfl rfl (by kernel_rfl) 65 _ _ rfl t #[.int .i64 (S : Int), .int .i64 (N : Int), .int .i64 (P : Int), .int .i64 (G : Int), .bool true, .int .i64 0, .bool false] rfl rfl 65 #[.int .i64 0, .int .i64 0, .int .i64 0, .int .i64 0, .bool false, .int .i64 0, .bool false] bt1 (info65 _ rfl) rfl (by simp [Value.oneCell']) ⟨hS4, ?_⟩)
  have bs2 := bs1.row_other t #[.int .i64 (S : Int), .int .i64 (N : Int), .int .i64 (P : Int), .int .i64 (G : Int), .bool true, .int .i64 0, .bool false] hne
  have bt2 := bt1.row #[.int .i64 (S : Int), .int .i64 (N : Int), .int .i64 (P : Int), .int .i64 (G : Int), .bool true, .int .i64 0, .bool false]
  refine wpAnyH_done (by kernel_rfl) ?_ _
  clear hS2 hS3 hS4 hA a1 z1 B1 bs1 bt1 bs bt hSd
  obtain ⟨W, hW⟩ : ∃ W, (W2.setRow s #[.int .i64 (S : Int), .int .i64 (N : Int), .int .i64 (P : Int), .int .i64 (G : Int), .bool true, .int .i64 0, .bool false]).setRow t #[.int .i64 (S : Int), .int .i64 (N : Int), .int .i64 (P : Int), .int .i64 (G : Int), .bool true, .int .i64 0, .bool false] = W := ⟨_, rfl⟩
  rw [hW] at a2 z2 B2 bs2 bt2 ⊢
  clear hW
  have c5 := bs2.cell 5
  have f5 := bs2.frozen 5
  have c6 := bt2.cell 6
  have f6 := bt2.frozen 6
  have hne2 := Ne.symm hne
  have s3 := (bs2.set 5 (.int .i64 (M : Int))).other ⟨t, 6, none⟩ (.bool b) hne
  have t3 := (bt2.other ⟨s, 5, none⟩ (.int .i64 (M : Int)) hne2).set 6 (.bool b)
  simp only [List.setIfInBounds_toArray, List.set_cons_succ, List.set_cons_zero] at s3 t3
  have a3 := (a2.other ⟨s, 5, none⟩ (.int .i64 (M : Int)) (show w.heap.size + 1 ≠ s by omega)).other ⟨t, 6, none⟩ (.bool b) (show w.heap.size + 1 ≠ t by omega)
  have z3 := (z2.other ⟨s, 5, none⟩ (.int .i64 (M : Int)) (show w.heap.size ≠ s by omega)).other ⟨t, 6, none⟩ (.bool b) (show w.heap.size ≠ t by omega)
  have B3 := (B2.setCell (p := ⟨s, 5, none⟩) (show w.heap.size ≤ s by omega) (.int .i64 (M : Int))).setCell (p := ⟨t, 6, none⟩) (show w.heap.size ≤ t by omega) (.bool b)
  clear hs ht
  go_wp2_with (first | (refine wpList_load_row rfl 65 _ rfl (s) rfl 65 _ (0, 0) _ s3 Try.underlying65 rfl (info65 _ rfl) ?_) | (go_at_call 25; with_reducible refine (cA _).mono ?_; rintro e w4 ⟨rfl, hb4⟩; have s4 := s3.below hb4 s3.lt; have t4 := t3.below hb4 t3.lt; have a4 := a3.below hb4 a3.lt; have z4 := z3.below hb4 z3.lt; have B4 := bLater B3 hb4; have k4 := a4.cell 4) | (refine wpList_load_row rfl 65 _ rfl (t) rfl 65 _ (0, 0) _ t4 Try.underlying65 rfl (info65 _ rfl) ?_) | (go_at_call 25; with_reducible refine (cB _).mono ?_; rintro e w5 ⟨rfl, hb5⟩; have t5 := t4.below hb5 t4.lt; have a5 := a4.below hb5 a4.lt; have z5 := z4.below hb5 z4.lt; have B5 := bLater B4 hb5; have k5 := a5.cell 4) | (refine wpList_store_row rfl 65 _ _ rfl (w.heap.size) #[.int .i64 0, .int .i64 0, .int .i64 0, .int .i64 0, .bool false, .int .i64 0, .bool false] rfl rfl 65 _ z5 (info65 _ rfl) rfl (by simp [Value.oneCell']) ?_; have B6 := below_setRow B5 (g := w.heap.size) (Nat.le_refl _) #[.int .i64 0, .int .i64 0, .int .i64 0, .int .i64 0, .bool false, .int .i64 0, .bool false]; have z6 := z5.row #[.int .i64 0, .int .i64 0, .int .i64 0, .int .i64 0, .bool false, .int .i64 0, .bool false]))
  exact bodyPost_ret (v := (.tuple #[.agg #[.int .i64 0, .int .i64 0, .int .i64 0, .int .i64 0, .bool false, .int .i64 0, .bool false], .bool false])) (results_cell_tmp (fn := Try.f27) Try.results27 _ _ w.heap.size 65 _ (0, 0) _ rfl z6 Try.underlying65 rfl (info65 _ rfl)) rfl ⟨rfl, B6⟩

set_option maxRecDepth 100000 in
set_option maxHeartbeats 4000000 in
theorem decR_h_bad (v S N P G M : Nat) (b : Bool) (X : Int) (k : Bool) (w : World) (eN : Int.tmod (v : Int) 4294967296 = (N : Int)) (eS : wrap64 ((v : Int) / 4611686018427387904) = (S : Int))
    (eP : Int.tmod ((v : Int) / 281474976710656) 256 = (P : Int)) (eG : Int.tmod ((v : Int) / 1152921504606846976) 2 = (G : Int)) (eH : ((v : Int) / 2305843009213693952 % 2 == 1) = true)
    (eM : Int.tmod ((v : Int) / 4294967296) 1024 = (M : Int)) (wM : wrap64 (M : Int) = (M : Int)) (eT : ((v : Int) / 2199023255552 % 2 == 1) = b)
    (wN : wrap64 (N : Int) = (N : Int)) (wP : wrap64 (P : Int) = (P : Int)) (wG : wrap64 (G : Int) = (G : Int))
    (cA : ∀ w, Calls Try.prog 25 #[.agg #[.int .i64 (S : Int), .int .i64 (N : Int), .int .i64 (P : Int), .int .i64 (G : Int), .bool true, .int .i64 (M : Int), .bool false]] w fun e w' => e = .returned (.tuple #[.int .u64 0, .bool false]) ∧ Below w.heap.size w w')
    (cB : ∀ w, Calls Try.prog 25 #[.agg #[.int .i64 (S : Int), .int .i64 (N : Int), .int .i64 (P : Int), .int .i64 (G : Int), .bool true, .int .i64 0, .bool b]] w fun e w' => e = .returned (.tuple #[.int .u64 X, .bool k]) ∧ Below w.heap.size w w') :
    Calls Try.prog 27 #[.int .u64 (v : Int)] w fun e w' => e = .returned (.tuple #[.agg #[.int .i64 0, .int .i64 0, .int .i64 0, .int .i64 0, .bool false, .int .i64 0, .bool false], .bool false]) ∧ Below w.heap.size w w' := by
  have z0 := (Blk.new w 65 #[.int .i64 0, .int .i64 0, .int .i64 0, .int .i64 0, .bool false, .int .i64 0, .bool false]).alloc (.cells #[.int .i64 (S : Int), .int .i64 (N : Int), .int .i64 (P : Int), .int .i64 (G : Int), .bool true, .int .i64 0, .bool false] 65)
  have a0 := Blk.new (w.alloc (.cells #[.int .i64 0, .int .i64 0, .int .i64 0, .int .i64 0, .bool false, .int .i64 0, .bool false] 65)) 65 #[.int .i64 (S : Int), .int .i64 (N : Int), .int .i64 (P : Int), .int .i64 (G : Int), .bool true, .int .i64 0, .bool false]
  rw [show (w.alloc (.cells #[.int .i64 0, .int .i64 0, .int .i64 0, .int .i64 0, .bool false, .int .i64 0, .bool false] 65)).heap.size = w.heap.size + 1 by simp] at a0
  have B0 := (one_box w (.cells #[.int .i64 0, .int .i64 0, .int .i64 0, .int .i64 0, .bool false, .int .i64 0, .bool false] 65)).alloc (one_box w _).size (.cells #[.int .i64 (S : Int), .int .i64 (N : Int), .int .i64 (P : Int), .int .i64 (G : Int), .bool true, .int .i64 0, .bool false] 65)
  go_enter Try.func27, Try.ntmps27
  go_wp2
  obtain ⟨W, hW⟩ : ∃ W, (w.alloc (.cells #[.int .i64 0, .int .i64 0, .int .i64 0, .int .i64 0, .bool false, .int .i64 0, .bool false] 65)).alloc (.cells #[.int .i64 (S : Int), .int .i64 (N : Int), .int .i64 (P : Int), .int .i64 (G : Int), .bool true, .int .i64 0, .bool false] 65) = W := ⟨_, rfl⟩
  rw [hW] at z0 a0 B0 ⊢
  have hsz : W.heap.size = w.heap.size + 2 := by rw [← hW]; simp
  clear hW
  obtain ⟨SS, hSd⟩ : ∃ SS : World → Prop, ∀ w', SS w' ↔ (Blk w' (w.heap.size + 1) 65 #[.int .i64 (S : Int), .int .i64 (N : Int), .int .i64 (P : Int), .int .i64 (G : Int), .bool true, .int .i64 0, .bool false] ∧ Blk w' w.heap.size 65 #[.int .i64 0, .int .i64 0, .int .i64 0, .int .i64 0, .bool false, .int .i64 0, .bool false] ∧ Below w.heap.size w w') := ⟨fun w' => Blk w' (w.heap.size + 1) 65 #[.int .i64 (S : Int), .int .i64 (N : Int), .int .i64 (P : Int), .int .i64 (G : Int), .bool true, .int .i64 0, .bool false] ∧ Blk w' w.heap.size 65 #[.int .i64 0, .int .i64 0, .int .i64 0, .int .i64 0, .bool false, .int .i64 0, .bool false] ∧ Below w.heap.size w w', fun _ => Iff.rfl⟩
  have hS0 : SS W.drew := (hSd _).2 ⟨a0, z0, B0.drew⟩
  refine wp_region_held_drew (S := SS) (by kernel_rfl) hS0 (fun hS => ?_)
  refine stepH (i := 0) (d := 28) (v := .agg #[.int .i64 (S : Int), .int .i64 (N : Int), .int .i64 (P : Int), .int .i64 (G : Int), .bool true, .int .i64 0, .bool false]) rfl rfl (by kernel_rfl) (by kernel_rfl) (by kernel_rfl) (fun _ _ _ h => h) (Or.inl ⟨by kernel_rfl, fun w' hw' => load_blk ((hSd w').1 hw').1 65 _ rfl rfl _ Try.underlying65 rfl (info65 _ rfl)⟩) hS ?_
  simp only [List.set_cons_zero, List.set_cons_succ]
  refine stepH (i := 1) (d := 29) (v := .agg #[.int .i64 (S : Int), .int .i64 (N : Int), .int .i64 (P : Int), .int .i64 (G : Int), .bool true, .int .i64 0, .bool false]) rfl rfl (by kernel_rfl) (by kernel_rfl) (by kernel_rfl) (fun _ _ _ h => h) (Or.inl ⟨by kernel_rfl, fun w' hw' => load_blk ((hSd w').1 hw').1 65 _ rfl rfl _ Try.underlying65 rfl (info65 _ rfl)⟩) hS ?_
  simp only [List.set_cons_zero, List.set_cons_succ]
  refine joinH 2 #[true, true, true, true, false, false] 5 6 (fun s t w' => s ≠ t ∧ w.heap.size + 2 ≤ s ∧ w.heap.size + 2 ≤ t ∧ Blk w' s 65 #[.int .i64 0, .int .i64 0, .int .i64 0, .int .i64 0, .bool false, .int .i64 0, .bool false] ∧ Blk w' t 65 #[.int .i64 0, .int .i64 0, .int .i64 0, .int .i64 0, .bool false, .int .i64 0, .bool false] ∧ SS w') ?_ (fun hj => ?_)
  rotate_left
  · have n0 : W.drew.heap.size = w.heap.size + 2 := hsz
    have hA := (hSd _).1 hS
    have a1 := hA.1.alloc (.cells #[.int .i64 0, .int .i64 0, .int .i64 0, .int .i64 0, .bool false, .int .i64 0, .bool false] 65)
    have z1 := hA.2.1.alloc (.cells #[.int .i64 0, .int .i64 0, .int .i64 0, .int .i64 0, .bool false, .int .i64 0, .bool false] 65)
    have B1 := hA.2.2.alloc (o := .cells #[.int .i64 0, .int .i64 0, .int .i64 0, .int .i64 0, .bool false, .int .i64 0, .bool false] 65) (by omega)
    have y1 := Blk.new W.drew 65 #[.int .i64 0, .int .i64 0, .int .i64 0, .int .i64 0, .bool false, .int .i64 0, .bool false]
    have hS1 : SS (W.drew.alloc (.cells #[.int .i64 0, .int .i64 0, .int .i64 0, .int .i64 0, .bool false, .int .i64 0, .bool false] 65)) := (hSd _).2 ⟨a1, z1, B1⟩
    have n1 : (W.drew.alloc (.cells #[.int .i64 0, .int .i64 0, .int .i64 0, .int .i64 0, .bool false, .int .i64 0, .bool false] 65)).heap.size = w.heap.size + 3 := by simp; omega
    have hS2 : SS ((W.drew.alloc (.cells #[.int .i64 0, .int .i64 0, .int .i64 0, .int .i64 0, .bool false, .int .i64 0, .bool false] 65)).alloc (.cells #[.int .i64 0, .int .i64 0, .int .i64 0, .int .i64 0, .bool false, .int .i64 0, .bool false] 65)) := (hSd _).2 ⟨a1.alloc _, z1.alloc _, B1.alloc (by omega) _⟩
    have y2 := y1.alloc (.cells #[.int .i64 0, .int .i64 0, .int .i64 0, .int .i64 0, .bool false, .int .i64 0, .bool false] 65)
    have x2 := Blk.new (W.drew.alloc (.cells #[.int .i64 0, .int .i64 0, .int .i64 0, .int .i64 0, .bool false, .int .i64 0, .bool false] 65)) 65 #[.int .i64 0, .int .i64 0, .int .i64 0, .int .i64 0, .bool false, .int .i64 0, .bool false]
    refine stepTwo (i := 2) (j := 3) (by kernel_rfl) ?_ ?_
    · refine op_alloc rfl rfl (by kernel_rfl) #[.int .i64 0, .int .i64 0, .int .i64 0, .int .i64 0, .bool false, .int .i64 0, .bool false] 65 (by go_simp) ⟨hS1, ?_⟩
      refine stepOne (i := 3) (by kernel_rfl) (op_alloc rfl rfl (by kernel_rfl) #[.int .i64 0, .int .i64 0, .int .i64 0, .int .i64 0, .bool false, .int .i64 0, .bool false] 65 (by go_simp) ⟨hS2, ?_⟩)
      exact hj _ _ _ ⟨by omega, by omega, by omega, y2, x2, hS2⟩
    · refine op_alloc rfl rfl (by kernel_rfl) #[.int .i64 0, .int .i64 0, .int .i64 0, .int .i64 0, .bool false, .int .i64 0, .bool false] 65 (by go_simp) ⟨hS1, ?_⟩
      refine stepOne (i := 2) (by kernel_rfl) (op_alloc rfl rfl (by kernel_rfl) #[.int .i64 0, .int .i64 0, .int .i64 0, .int .i64 0, .bool false, .int .i64 0, .bool false] 65 (by go_simp) ⟨hS2, ?_⟩)
      rw [List.set_comm _ _ (show (6 : Nat) ≠ 5 by decide)]
      exact hj _ _ _ ⟨by omega, by omega, by omega, x2, y2, hS2⟩
  clear hS hS0 hsz a0 z0 B0
  rintro s t W2 ⟨hne, hs, ht, bs, bt, hS2⟩
  simp only [List.set_cons_zero, List.set_cons_succ]
  have hA := (hSd _).1 hS2
  have a1 := hA.1.row_other s #[.int .i64 (S : Int), .int .i64 (N : Int), .int .i64 (P : Int), .int .i64 (G : Int), .bool true, .int .i64 0, .bool false] (by omega)
  have z1 := hA.2.1.row_other s #[.int .i64 (S : Int), .int .i64 (N : Int), .int .i64 (P : Int), .int .i64 (G : Int), .bool true, .int .i64 0, .bool false] (by omega)
  have B1 := below_setRow hA.2.2 (g := s) (by omega) #[.int .i64 (S : Int), .int .i64 (N : Int), .int .i64 (P : Int), .int .i64 (G : Int), .bool true, .int .i64 0, .bool false]
  have hS3 : SS (W2.setRow s #[.int .i64 (S : Int), .int .i64 (N : Int), .int .i64 (P : Int), .int .i64 (G : Int), .bool true, .int .i64 0, .bool false]) := (hSd _).2 ⟨a1, z1, B1⟩
  refine stepOne (i := 4) (by kernel_rfl) (op_store rfl rfl (by kernel_rfl) 65 _ _ rfl s #[.int .i64 (S : Int), .int .i64 (N : Int), .int .i64 (P : Int), .int .i64 (G : Int), .bool true, .int .i64 0, .bool false] rfl rfl 65 #[.int .i64 0, .int .i64 0, .int .i64 0, .int .i64 0, .bool false, .int .i64 0, .bool false] bs (info65 _ rfl) rfl (by simp [Value.oneCell']) ⟨hS3, ?_⟩)
  have bs1 := bs.row #[.int .i64 (S : Int), .int .i64 (N : Int), .int .i64 (P : Int), .int .i64 (G : Int), .bool true, .int .i64 0, .bool false]
  have bt1 := bt.row_other s #[.int .i64 (S : Int), .int .i64 (N : Int), .int .i64 (P : Int), .int .i64 (G : Int), .bool true, .int .i64 0, .bool false] (Ne.symm hne)
  have a2 := a1.row_other t #[.int .i64 (S : Int), .int .i64 (N : Int), .int .i64 (P : Int), .int .i64 (G : Int), .bool true, .int .i64 0, .bool false] (by omega)
  have z2 := z1.row_other t #[.int .i64 (S : Int), .int .i64 (N : Int), .int .i64 (P : Int), .int .i64 (G : Int), .bool true, .int .i64 0, .bool false] (by omega)
  have B2 := below_setRow B1 (g := t) (by omega) #[.int .i64 (S : Int), .int .i64 (N : Int), .int .i64 (P : Int), .int .i64 (G : Int), .bool true, .int .i64 0, .bool false]
  have hS4 : SS ((W2.setRow s #[.int .i64 (S : Int), .int .i64 (N : Int), .int .i64 (P : Int), .int .i64 (G : Int), .bool true, .int .i64 0, .bool false]).setRow t #[.int .i64 (S : Int), .int .i64 (N : Int), .int .i64 (P : Int), .int .i64 (G : Int), .bool true, .int .i64 0, .bool false]) := (hSd _).2 ⟨a2, z2, B2⟩
  refine stepOne (i := 5) (by kernel_rfl) (op_store rfl rfl (by kernel_rfl) 65 _ _ rfl t #[.int .i64 (S : Int), .int .i64 (N : Int), .int .i64 (P : Int), .int .i64 (G : Int), .bool true, .int .i64 0, .bool false] rfl rfl 65 #[.int .i64 0, .int .i64 0, .int .i64 0, .int .i64 0, .bool false, .int .i64 0, .bool false] bt1 (info65 _ rfl) rfl (by simp [Value.oneCell']) ⟨hS4, ?_⟩)
  have bs2 := bs1.row_other t #[.int .i64 (S : Int), .int .i64 (N : Int), .int .i64 (P : Int), .int .i64 (G : Int), .bool true, .int .i64 0, .bool false] hne
  have bt2 := bt1.row #[.int .i64 (S : Int), .int .i64 (N : Int), .int .i64 (P : Int), .int .i64 (G : Int), .bool true, .int .i64 0, .bool false]
  refine wpAnyH_done (by kernel_rfl) ?_ _
  clear hS2 hS3 hS4 hA a1 z1 B1 bs1 bt1 bs bt hSd
  obtain ⟨W, hW⟩ : ∃ W, (W2.setRow s #[.int .i64 (S : Int), .int .i64 (N : Int), .int .i64 (P : Int), .int .i64 (G : Int), .bool true, .int .i64 0, .bool false]).setRow t #[.int .i64 (S : Int), .int .i64 (N : Int), .int .i64 (P : Int), .int .i64 (G : Int), .bool true, .int .i64 0, .bool false] = W := ⟨_, rfl⟩
  rw [hW] at a2 z2 B2 bs2 bt2 ⊢
  clear hW
  have c5 := bs2.cell 5
  have f5 := bs2.frozen 5
  have c6 := bt2.cell 6
  have f6 := bt2.frozen 6
  have hne2 := Ne.symm hne
  have s3 := (bs2.set 5 (.int .i64 (M : Int))).other ⟨t, 6, none⟩ (.bool b) hne
  have t3 := (bt2.other ⟨s, 5, none⟩ (.int .i64 (M : Int)) hne2).set 6 (.bool b)
  simp only [List.setIfInBounds_toArray, List.set_cons_succ, List.set_cons_zero] at s3 t3
  have a3 := (a2.other ⟨s, 5, none⟩ (.int .i64 (M : Int)) (show w.heap.size + 1 ≠ s by omega)).other ⟨t, 6, none⟩ (.bool b) (show w.heap.size + 1 ≠ t by omega)
  have z3 := (z2.other ⟨s, 5, none⟩ (.int .i64 (M : Int)) (show w.heap.size ≠ s by omega)).other ⟨t, 6, none⟩ (.bool b) (show w.heap.size ≠ t by omega)
  have B3 := (B2.setCell (p := ⟨s, 5, none⟩) (show w.heap.size ≤ s by omega) (.int .i64 (M : Int))).setCell (p := ⟨t, 6, none⟩) (show w.heap.size ≤ t by omega) (.bool b)
  clear hs ht
  go_wp2_with (first | (refine wpList_load_row rfl 65 _ rfl (s) rfl 65 _ (0, 0) _ s3 Try.underlying65 rfl (info65 _ rfl) ?_) | (go_at_call 25; with_reducible refine (cA _).mono ?_; rintro e w4 ⟨rfl, hb4⟩; have s4 := s3.below hb4 s3.lt; have t4 := t3.below hb4 t3.lt; have a4 := a3.below hb4 a3.lt; have z4 := z3.below hb4 z3.lt; have B4 := bLater B3 hb4; have k4 := a4.cell 4) | (refine wpList_load_row rfl 65 _ rfl (t) rfl 65 _ (0, 0) _ t4 Try.underlying65 rfl (info65 _ rfl) ?_) | (go_at_call 25; with_reducible refine (cB _).mono ?_; rintro e w5 ⟨rfl, hb5⟩; have t5 := t4.below hb5 t4.lt; have a5 := a4.below hb5 a4.lt; have z5 := z4.below hb5 z4.lt; have B5 := bLater B4 hb5; have k5 := a5.cell 4) | (refine wpList_store_row rfl 65 _ _ rfl (w.heap.size) #[.int .i64 0, .int .i64 0, .int .i64 0, .int .i64 0, .bool false, .int .i64 0, .bool false] rfl rfl 65 _ z5 (info65 _ rfl) rfl (by simp [Value.oneCell']) ?_; have B6 := below_setRow B5 (g := w.heap.size) (Nat.le_refl _) #[.int .i64 0, .int .i64 0, .int .i64 0, .int .i64 0, .bool false, .int .i64 0, .bool false]; have z6 := z5.row #[.int .i64 0, .int .i64 0, .int .i64 0, .int .i64 0, .bool false, .int .i64 0, .bool false]))
  exact bodyPost_ret (v := (.tuple #[.agg #[.int .i64 0, .int .i64 0, .int .i64 0, .int .i64 0, .bool false, .int .i64 0, .bool false], .bool false])) (results_cell_tmp (fn := Try.f27) Try.results27 _ _ w.heap.size 65 _ (0, 0) _ rfl z6 Try.underlying65 rfl (info65 _ rfl)) rfl ⟨rfl, B6⟩

set_option maxRecDepth 100000 in
set_option maxHeartbeats 4000000 in
theorem decR_s_ok (v S N P G M : Nat) (b : Bool) (X : Int) (k : Bool) (w : World) (eN : Int.tmod (v : Int) 4294967296 = (N : Int)) (eS : wrap64 ((v : Int) / 4611686018427387904) = (S : Int))
    (eP : Int.tmod ((v : Int) / 281474976710656) 256 = (P : Int)) (eG : Int.tmod ((v : Int) / 1152921504606846976) 2 = (G : Int)) (eH : ((v : Int) / 2305843009213693952 % 2 == 1) = false)
    (eM : Int.tmod ((v : Int) / 4294967296) 1024 = (M : Int)) (wM : wrap64 (M : Int) = (M : Int)) (eT : ((v : Int) / 2199023255552 % 2 == 1) = b)
    (wN : wrap64 (N : Int) = (N : Int)) (wP : wrap64 (P : Int) = (P : Int)) (wG : wrap64 (G : Int) = (G : Int))
    (cA : ∀ w, Calls Try.prog 25 #[.agg #[.int .i64 (S : Int), .int .i64 (N : Int), .int .i64 (P : Int), .int .i64 (G : Int), .bool false, .int .i64 (M : Int), .bool false]] w fun e w' => e = .returned (.tuple #[.int .u64 X, .bool k]) ∧ Below w.heap.size w w')
    (cB : ∀ w, Calls Try.prog 25 #[.agg #[.int .i64 (S : Int), .int .i64 (N : Int), .int .i64 (P : Int), .int .i64 (G : Int), .bool false, .int .i64 0, .bool b]] w fun e w' => e = .returned (.tuple #[.int .u64 (v : Int), .bool true]) ∧ Below w.heap.size w w') :
    Calls Try.prog 27 #[.int .u64 (v : Int)] w fun e w' => e = .returned (.tuple #[.agg #[.int .i64 (S : Int), .int .i64 (N : Int), .int .i64 (P : Int), .int .i64 (G : Int), .bool false, .int .i64 0, .bool b], .bool true]) ∧ Below w.heap.size w w' := by
  have z0 := (Blk.new w 65 #[.int .i64 0, .int .i64 0, .int .i64 0, .int .i64 0, .bool false, .int .i64 0, .bool false]).alloc (.cells #[.int .i64 (S : Int), .int .i64 (N : Int), .int .i64 (P : Int), .int .i64 (G : Int), .bool false, .int .i64 0, .bool false] 65)
  have a0 := Blk.new (w.alloc (.cells #[.int .i64 0, .int .i64 0, .int .i64 0, .int .i64 0, .bool false, .int .i64 0, .bool false] 65)) 65 #[.int .i64 (S : Int), .int .i64 (N : Int), .int .i64 (P : Int), .int .i64 (G : Int), .bool false, .int .i64 0, .bool false]
  rw [show (w.alloc (.cells #[.int .i64 0, .int .i64 0, .int .i64 0, .int .i64 0, .bool false, .int .i64 0, .bool false] 65)).heap.size = w.heap.size + 1 by simp] at a0
  have B0 := (one_box w (.cells #[.int .i64 0, .int .i64 0, .int .i64 0, .int .i64 0, .bool false, .int .i64 0, .bool false] 65)).alloc (one_box w _).size (.cells #[.int .i64 (S : Int), .int .i64 (N : Int), .int .i64 (P : Int), .int .i64 (G : Int), .bool false, .int .i64 0, .bool false] 65)
  go_enter Try.func27, Try.ntmps27
  go_wp2
  obtain ⟨W, hW⟩ : ∃ W, (w.alloc (.cells #[.int .i64 0, .int .i64 0, .int .i64 0, .int .i64 0, .bool false, .int .i64 0, .bool false] 65)).alloc (.cells #[.int .i64 (S : Int), .int .i64 (N : Int), .int .i64 (P : Int), .int .i64 (G : Int), .bool false, .int .i64 0, .bool false] 65) = W := ⟨_, rfl⟩
  rw [hW] at z0 a0 B0 ⊢
  have hsz : W.heap.size = w.heap.size + 2 := by rw [← hW]; simp
  clear hW
  obtain ⟨SS, hSd⟩ : ∃ SS : World → Prop, ∀ w', SS w' ↔ (Blk w' (w.heap.size + 1) 65 #[.int .i64 (S : Int), .int .i64 (N : Int), .int .i64 (P : Int), .int .i64 (G : Int), .bool false, .int .i64 0, .bool false] ∧ Blk w' w.heap.size 65 #[.int .i64 0, .int .i64 0, .int .i64 0, .int .i64 0, .bool false, .int .i64 0, .bool false] ∧ Below w.heap.size w w') := ⟨fun w' => Blk w' (w.heap.size + 1) 65 #[.int .i64 (S : Int), .int .i64 (N : Int), .int .i64 (P : Int), .int .i64 (G : Int), .bool false, .int .i64 0, .bool false] ∧ Blk w' w.heap.size 65 #[.int .i64 0, .int .i64 0, .int .i64 0, .int .i64 0, .bool false, .int .i64 0, .bool false] ∧ Below w.heap.size w w', fun _ => Iff.rfl⟩
  have hS0 : SS W.drew := (hSd _).2 ⟨a0, z0, B0.drew⟩
  refine wp_region_held_drew (S := SS) (by kernel_rfl) hS0 (fun hS => ?_)
  refine stepH (i := 0) (d := 28) (v := .agg #[.int .i64 (S : Int), .int .i64 (N : Int), .int .i64 (P : Int), .int .i64 (G : Int), .bool false, .int .i64 0, .bool false]) rfl rfl (by kernel_rfl) (by kernel_rfl) (by kernel_rfl) (fun _ _ _ h => h) (Or.inl ⟨by kernel_rfl, fun w' hw' => load_blk ((hSd w').1 hw').1 65 _ rfl rfl _ Try.underlying65 rfl (info65 _ rfl)⟩) hS ?_
  simp only [List.set_cons_zero, List.set_cons_succ]
  refine stepH (i := 1) (d := 29) (v := .agg #[.int .i64 (S : Int), .int .i64 (N : Int), .int .i64 (P : Int), .int .i64 (G : Int), .bool false, .int .i64 0, .bool false]) rfl rfl (by kernel_rfl) (by kernel_rfl) (by kernel_rfl) (fun _ _ _ h => h) (Or.inl ⟨by kernel_rfl, fun w' hw' => load_blk ((hSd w').1 hw').1 65 _ rfl rfl _ Try.underlying65 rfl (info65 _ rfl)⟩) hS ?_
  simp only [List.set_cons_zero, List.set_cons_succ]
  refine joinH 2 #[true, true, true, true, false, false] 5 6 (fun s t w' => s ≠ t ∧ w.heap.size + 2 ≤ s ∧ w.heap.size + 2 ≤ t ∧ Blk w' s 65 #[.int .i64 0, .int .i64 0, .int .i64 0, .int .i64 0, .bool false, .int .i64 0, .bool false] ∧ Blk w' t 65 #[.int .i64 0, .int .i64 0, .int .i64 0, .int .i64 0, .bool false, .int .i64 0, .bool false] ∧ SS w') ?_ (fun hj => ?_)
  rotate_left
  · have n0 : W.drew.heap.size = w.heap.size + 2 := hsz
    have hA := (hSd _).1 hS
    have a1 := hA.1.alloc (.cells #[.int .i64 0, .int .i64 0, .int .i64 0, .int .i64 0, .bool false, .int .i64 0, .bool false] 65)
    have z1 := hA.2.1.alloc (.cells #[.int .i64 0, .int .i64 0, .int .i64 0, .int .i64 0, .bool false, .int .i64 0, .bool false] 65)
    have B1 := hA.2.2.alloc (o := .cells #[.int .i64 0, .int .i64 0, .int .i64 0, .int .i64 0, .bool false, .int .i64 0, .bool false] 65) (by omega)
    have y1 := Blk.new W.drew 65 #[.int .i64 0, .int .i64 0, .int .i64 0, .int .i64 0, .bool false, .int .i64 0, .bool false]
    have hS1 : SS (W.drew.alloc (.cells #[.int .i64 0, .int .i64 0, .int .i64 0, .int .i64 0, .bool false, .int .i64 0, .bool false] 65)) := (hSd _).2 ⟨a1, z1, B1⟩
    have n1 : (W.drew.alloc (.cells #[.int .i64 0, .int .i64 0, .int .i64 0, .int .i64 0, .bool false, .int .i64 0, .bool false] 65)).heap.size = w.heap.size + 3 := by simp; omega
    have hS2 : SS ((W.drew.alloc (.cells #[.int .i64 0, .int .i64 0, .int .i64 0, .int .i64 0, .bool false, .int .i64 0, .bool false] 65)).alloc (.cells #[.int .i64 0, .int .i64 0, .int .i64 0, .int .i64 0, .bool false, .int .i64 0, .bool false] 65)) := (hSd _).2 ⟨a1.alloc _, z1.alloc _, B1.alloc (by omega) _⟩
    have y2 := y1.alloc (.cells #[.int .i64 0, .int .i64 0, .int .i64 0, .int .i64 0, .bool false, .int .i64 0, .bool false] 65)
    have x2 := Blk.new (W.drew.alloc (.cells #[.int .i64 0, .int .i64 0, .int .i64 0, .int .i64 0, .bool false, .int .i64 0, .bool false] 65)) 65 #[.int .i64 0, .int .i64 0, .int .i64 0, .int .i64 0, .bool false, .int .i64 0, .bool false]
    refine stepTwo (i := 2) (j := 3) (by kernel_rfl) ?_ ?_
    · refine op_alloc rfl rfl (by kernel_rfl) #[.int .i64 0, .int .i64 0, .int .i64 0, .int .i64 0, .bool false, .int .i64 0, .bool false] 65 (by go_simp) ⟨hS1, ?_⟩
      refine stepOne (i := 3) (by kernel_rfl) (op_alloc rfl rfl (by kernel_rfl) #[.int .i64 0, .int .i64 0, .int .i64 0, .int .i64 0, .bool false, .int .i64 0, .bool false] 65 (by go_simp) ⟨hS2, ?_⟩)
      exact hj _ _ _ ⟨by omega, by omega, by omega, y2, x2, hS2⟩
    · refine op_alloc rfl rfl (by kernel_rfl) #[.int .i64 0, .int .i64 0, .int .i64 0, .int .i64 0, .bool false, .int .i64 0, .bool false] 65 (by go_simp) ⟨hS1, ?_⟩
      refine stepOne (i := 2) (by kernel_rfl) (op_alloc rfl rfl (by kernel_rfl) #[.int .i64 0, .int .i64 0, .int .i64 0, .int .i64 0, .bool false, .int .i64 0, .bool false] 65 (by go_simp) ⟨hS2, ?_⟩)
      rw [List.set_comm _ _ (show (6 : Nat) ≠ 5 by decide)]
      exact hj _ _ _ ⟨by omega, by omega, by omega, x2, y2, hS2⟩
  clear hS hS0 hsz a0 z0 B0
  rintro s t W2 ⟨hne, hs, ht, bs, bt, hS2⟩
  simp only [List.set_cons_zero, List.set_cons_succ]
  have hA := (hSd _).1 hS2
  have a1 := hA.1.row_other s #[.int .i64 (S : Int), .int .i64 (N : Int), .int .i64 (P : Int), .int .i64 (G : Int), .bool false, .int .i64 0, .bool false] (by omega)
  have z1 := hA.2.1.row_other s #[.int .i64 (S : Int), .int .i64 (N : Int), .int .i64 (P : Int), .int .i64 (G : Int), .bool false, .int .i64 0, .bool false] (by omega)
  have B1 := below_setRow hA.2.2 (g := s) (by omega) #[.int .i64 (S : Int), .int .i64 (N : Int), .int .i64 (P : Int), .int .i64 (G : Int), .bool false, .int .i64 0, .bool false]
  have hS3 : SS (W2.setRow s #[.int .i64 (S : Int), .int .i64 (N : Int), .int .i64 (P : Int), .int .i64 (G : Int), .bool false, .int .i64 0, .bool false]) := (hSd _).2 ⟨a1, z1, B1⟩
  refine stepOne (i := 4) (by kernel_rfl) (op_store rfl rfl (by kernel_rfl) 65 _ _ rfl s #[.int .i64 (S : Int), .int .i64 (N : Int), .int .i64 (P : Int), .int .i64 (G : Int), .bool false, .int .i64 0, .bool false] rfl rfl 65 #[.int .i64 0, .int .i64 0, .int .i64 0, .int .i64 0, .bool false, .int .i64 0, .bool false] bs (info65 _ rfl) rfl (by simp [Value.oneCell']) ⟨hS3, ?_⟩)
  have bs1 := bs.row #[.int .i64 (S : Int), .int .i64 (N : Int), .int .i64 (P : Int), .int .i64 (G : Int), .bool false, .int .i64 0, .bool false]
  have bt1 := bt.row_other s #[.int .i64 (S : Int), .int .i64 (N : Int), .int .i64 (P : Int), .int .i64 (G : Int), .bool false, .int .i64 0, .bool false] (Ne.symm hne)
  have a2 := a1.row_other t #[.int .i64 (S : Int), .int .i64 (N : Int), .int .i64 (P : Int), .int .i64 (G : Int), .bool false, .int .i64 0, .bool false] (by omega)
  have z2 := z1.row_other t #[.int .i64 (S : Int), .int .i64 (N : Int), .int .i64 (P : Int), .int .i64 (G : Int), .bool false, .int .i64 0, .bool false] (by omega)
  have B2 := below_setRow B1 (g := t) (by omega) #[.int .i64 (S : Int), .int .i64 (N : Int), .int .i64 (P : Int), .int .i64 (G : Int), .bool false, .int .i64 0, .bool false]
  have hS4 : SS ((W2.setRow s #[.int .i64 (S : Int), .int .i64 (N : Int), .int .i64 (P : Int), .int .i64 (G : Int), .bool false, .int .i64 0, .bool false]).setRow t #[.int .i64 (S : Int), .int .i64 (N : Int), .int .i64 (P : Int), .int .i64 (G : Int), .bool false, .int .i64 0, .bool false]) := (hSd _).2 ⟨a2, z2, B2⟩
  refine stepOne (i := 5) (by kernel_rfl) (op_store rfl rfl (by kernel_rfl) 65 _ _ rfl t #[.int .i64 (S : Int), .int .i64 (N : Int), .int .i64 (P : Int), .int .i64 (G : Int), .bool false, .int .i64 0, .bool false] rfl rfl 65 #[.int .i64 0, .int .i64 0, .int .i64 0, .int .i64 0, .bool false, .int .i64 0, .bool false] bt1 (info65 _ rfl) rfl (by simp [Value.oneCell']) ⟨hS4, ?_⟩)
  have bs2 := bs1.row_other t #[.int .i64 (S : Int), .int .i64 (N : Int), .int .i64 (P : Int), .int .i64 (G : Int), .bool false, .int .i64 0, .bool false] hne
  have bt2 := bt1.row #[.int .i64 (S : Int), .int .i64 (N : Int), .int .i64 (P : Int), .int .i64 (G : Int), .bool false, .int .i64 0, .bool false]
  refine wpAnyH_done (by kernel_rfl) ?_ _
  clear hS2 hS3 hS4 hA a1 z1 B1 bs1 bt1 bs bt hSd
  obtain ⟨W, hW⟩ : ∃ W, (W2.setRow s #[.int .i64 (S : Int), .int .i64 (N : Int), .int .i64 (P : Int), .int .i64 (G : Int), .bool false, .int .i64 0, .bool false]).setRow t #[.int .i64 (S : Int), .int .i64 (N : Int), .int .i64 (P : Int), .int .i64 (G : Int), .bool false, .int .i64 0, .bool false] = W := ⟨_, rfl⟩
  rw [hW] at a2 z2 B2 bs2 bt2 ⊢
  clear hW
  have c5 := bs2.cell 5
  have f5 := bs2.frozen 5
  have c6 := bt2.cell 6
  have f6 := bt2.frozen 6
  have hne2 := Ne.symm hne
  have s3 := (bs2.set 5 (.int .i64 (M : Int))).other ⟨t, 6, none⟩ (.bool b) hne
  have t3 := (bt2.other ⟨s, 5, none⟩ (.int .i64 (M : Int)) hne2).set 6 (.bool b)
  simp only [List.setIfInBounds_toArray, List.set_cons_succ, List.set_cons_zero] at s3 t3
  have a3 := (a2.other ⟨s, 5, none⟩ (.int .i64 (M : Int)) (show w.heap.size + 1 ≠ s by omega)).other ⟨t, 6, none⟩ (.bool b) (show w.heap.size + 1 ≠ t by omega)
  have z3 := (z2.other ⟨s, 5, none⟩ (.int .i64 (M : Int)) (show w.heap.size ≠ s by omega)).other ⟨t, 6, none⟩ (.bool b) (show w.heap.size ≠ t by omega)
  have B3 := (B2.setCell (p := ⟨s, 5, none⟩) (show w.heap.size ≤ s by omega) (.int .i64 (M : Int))).setCell (p := ⟨t, 6, none⟩) (show w.heap.size ≤ t by omega) (.bool b)
  clear hs ht
  go_wp2_with (first | (refine wpList_load_row rfl 65 _ rfl (s) rfl 65 _ (0, 0) _ s3 Try.underlying65 rfl (info65 _ rfl) ?_) | (go_at_call 25; with_reducible refine (cA _).mono ?_; rintro e w4 ⟨rfl, hb4⟩; have s4 := s3.below hb4 s3.lt; have t4 := t3.below hb4 t3.lt; have a4 := a3.below hb4 a3.lt; have z4 := z3.below hb4 z3.lt; have B4 := bLater B3 hb4; have k4 := a4.cell 4) | (refine wpList_load_row rfl 65 _ rfl (t) rfl 65 _ (0, 0) _ t4 Try.underlying65 rfl (info65 _ rfl) ?_) | (go_at_call 25; with_reducible refine (cB _).mono ?_; rintro e w5 ⟨rfl, hb5⟩; have t5 := t4.below hb5 t4.lt; have a5 := a4.below hb5 a4.lt; have z5 := z4.below hb5 z4.lt; have B5 := bLater B4 hb5; have k5 := a5.cell 4) | (refine wpList_load_row rfl 65 _ rfl (t) rfl 65 _ (0, 0) _ t5 Try.underlying65 rfl (info65 _ rfl) ?_) | (refine wpList_store_row rfl 65 _ _ rfl (w.heap.size) #[.int .i64 (S : Int), .int .i64 (N : Int), .int .i64 (P : Int), .int .i64 (G : Int), .bool false, .int .i64 0, .bool b] rfl rfl 65 _ z5 (info65 _ rfl) rfl (by simp [Value.oneCell']) ?_; have B6 := below_setRow B5 (g := w.heap.size) (Nat.le_refl _) #[.int .i64 (S : Int), .int .i64 (N : Int), .int .i64 (P : Int), .int .i64 (G : Int), .bool false, .int .i64 0, .bool b]; have z6 := z5.row #[.int .i64 (S : Int), .int .i64 (N : Int), .int .i64 (P : Int), .int .i64 (G : Int), .bool false, .int .i64 0, .bool b]))
  exact bodyPost_ret (v := (.tuple #[.agg #[.int .i64 (S : Int), .int .i64 (N : Int), .int .i64 (P : Int), .int .i64 (G : Int), .bool false, .int .i64 0, .bool b], .bool true])) (results_cell_tmp (fn := Try.f27) Try.results27 _ _ w.heap.size 65 _ (0, 0) _ rfl z6 Try.underlying65 rfl (info65 _ rfl)) rfl ⟨rfl, B6⟩

set_option maxRecDepth 100000 in
set_option maxHeartbeats 4000000 in
theorem decR_s_ne (v S N P G M : Nat) (b : Bool) (X : Int) (k : Bool) (U : Nat) (hU : Hid (U ≠ v)) (w : World) (eN : Int.tmod (v : Int) 4294967296 = (N : Int)) (eS : wrap64 ((v : Int) / 4611686018427387904) = (S : Int))
    (eP : Int.tmod ((v : Int) / 281474976710656) 256 = (P : Int)) (eG : Int.tmod ((v : Int) / 1152921504606846976) 2 = (G : Int)) (eH : ((v : Int) / 2305843009213693952 % 2 == 1) = false)
    (eM : Int.tmod ((v : Int) / 4294967296) 1024 = (M : Int)) (wM : wrap64 (M : Int) = (M : Int)) (eT : ((v : Int) / 2199023255552 % 2 == 1) = b)
    (wN : wrap64 (N : Int) = (N : Int)) (wP : wrap64 (P : Int) = (P : Int)) (wG : wrap64 (G : Int) = (G : Int))
    (cA : ∀ w, Calls Try.prog 25 #[.agg #[.int .i64 (S : Int), .int .i64 (N : Int), .int .i64 (P : Int), .int .i64 (G : Int), .bool false, .int .i64 (M : Int), .bool false]] w fun e w' => e = .returned (.tuple #[.int .u64 X, .bool k]) ∧ Below w.heap.size w w')
    (cB : ∀ w, Calls Try.prog 25 #[.agg #[.int .i64 (S : Int), .int .i64 (N : Int), .int .i64 (P : Int), .int .i64 (G : Int), .bool false, .int .i64 0, .bool b]] w fun e w' => e = .returned (.tuple #[.int .u64 (U : Int), .bool true]) ∧ Below w.heap.size w w') :
    Calls Try.prog 27 #[.int .u64 (v : Int)] w fun e w' => e = .returned (.tuple #[.agg #[.int .i64 0, .int .i64 0, .int .i64 0, .int .i64 0, .bool false, .int .i64 0, .bool false], .bool false]) ∧ Below w.heap.size w w' := by
  have u1 : ((U : Int) == (v : Int)) = false := by have := hU.out; rw [beq_eq_false_iff_ne]; omega
  have u2 : ((U : Int) != (v : Int)) = true := by have := hU.out; rw [bne_iff_ne]; omega
  have z0 := (Blk.new w 65 #[.int .i64 0, .int .i64 0, .int .i64 0, .int .i64 0, .bool false, .int .i64 0, .bool false]).alloc (.cells #[.int .i64 (S : Int), .int .i64 (N : Int), .int .i64 (P : Int), .int .i64 (G : Int), .bool false, .int .i64 0, .bool false] 65)
  have a0 := Blk.new (w.alloc (.cells #[.int .i64 0, .int .i64 0, .int .i64 0, .int .i64 0, .bool false, .int .i64 0, .bool false] 65)) 65 #[.int .i64 (S : Int), .int .i64 (N : Int), .int .i64 (P : Int), .int .i64 (G : Int), .bool false, .int .i64 0, .bool false]
  rw [show (w.alloc (.cells #[.int .i64 0, .int .i64 0, .int .i64 0, .int .i64 0, .bool false, .int .i64 0, .bool false] 65)).heap.size = w.heap.size + 1 by simp] at a0
  have B0 := (one_box w (.cells #[.int .i64 0, .int .i64 0, .int .i64 0, .int .i64 0, .bool false, .int .i64 0, .bool false] 65)).alloc (one_box w _).size (.cells #[.int .i64 (S : Int), .int .i64 (N : Int), .int .i64 (P : Int), .int .i64 (G : Int), .bool false, .int .i64 0, .bool false] 65)
  go_enter Try.func27, Try.ntmps27
  go_wp2
  obtain ⟨W, hW⟩ : ∃ W, (w.alloc (.cells #[.int .i64 0, .int .i64 0, .int .i64 0, .int .i64 0, .bool false, .int .i64 0, .bool false] 65)).alloc (.cells #[.int .i64 (S : Int), .int .i64 (N : Int), .int .i64 (P : Int), .int .i64 (G : Int), .bool false, .int .i64 0, .bool false] 65) = W := ⟨_, rfl⟩
  rw [hW] at z0 a0 B0 ⊢
  have hsz : W.heap.size = w.heap.size + 2 := by rw [← hW]; simp
  clear hW
  obtain ⟨SS, hSd⟩ : ∃ SS : World → Prop, ∀ w', SS w' ↔ (Blk w' (w.heap.size + 1) 65 #[.int .i64 (S : Int), .int .i64 (N : Int), .int .i64 (P : Int), .int .i64 (G : Int), .bool false, .int .i64 0, .bool false] ∧ Blk w' w.heap.size 65 #[.int .i64 0, .int .i64 0, .int .i64 0, .int .i64 0, .bool false, .int .i64 0, .bool false] ∧ Below w.heap.size w w') := ⟨fun w' => Blk w' (w.heap.size + 1) 65 #[.int .i64 (S : Int), .int .i64 (N : Int), .int .i64 (P : Int), .int .i64 (G : Int), .bool false, .int .i64 0, .bool false] ∧ Blk w' w.heap.size 65 #[.int .i64 0, .int .i64 0, .int .i64 0, .int .i64 0, .bool false, .int .i64 0, .bool false] ∧ Below w.heap.size w w', fun _ => Iff.rfl⟩
  have hS0 : SS W.drew := (hSd _).2 ⟨a0, z0, B0.drew⟩
  refine wp_region_held_drew (S := SS) (by kernel_rfl) hS0 (fun hS => ?_)
  refine stepH (i := 0) (d := 28) (v := .agg #[.int .i64 (S : Int), .int .i64 (N : Int), .int .i64 (P : Int), .int .i64 (G : Int), .bool false, .int .i64 0, .bool false]) rfl rfl (by kernel_rfl) (by kernel_rfl) (by kernel_rfl) (fun _ _ _ h => h) (Or.inl ⟨by kernel_rfl, fun w' hw' => load_blk ((hSd w').1 hw').1 65 _ rfl rfl _ Try.underlying65 rfl (info65 _ rfl)⟩) hS ?_
  simp only [List.set_cons_zero, List.set_cons_succ]
  refine stepH (i := 1) (d := 29) (v := .agg #[.int .i64 (S : Int), .int .i64 (N : Int), .int .i64 (P : Int), .int .i64 (G : Int), .bool false, .int .i64 0, .bool false]) rfl rfl (by kernel_rfl) (by kernel_rfl) (by kernel_rfl) (fun _ _ _ h => h) (Or.inl ⟨by kernel_rfl, fun w' hw' => load_blk ((hSd w').1 hw').1 65 _ rfl rfl _ Try.underlying65 rfl (info65 _ rfl)⟩) hS ?_
  simp only [List.set_cons_zero, List.set_cons_succ]
  refine joinH 2 #[true, true, true, true, false, false] 5 6 (fun s t w' => s ≠ t ∧ w.heap.size + 2 ≤ s ∧ w.heap.size + 2 ≤ t ∧ Blk w' s 65 #[.int .i64 0, .int .i64 0, .int .i64 0, .int .i64 0, .bool false, .int .i64 0, .bool false] ∧ Blk w' t 65 #[.int .i64 0, .int .i64 0, .int .i64 0, .int .i64 0, .bool false, .int .i64 0, .bool false] ∧ SS w') ?_ (fun hj => ?_)
  rotate_left
  · have n0 : W.drew.heap.size = w.heap.size + 2 := hsz
    have hA := (hSd _).1 hS
    have a1 := hA.1.alloc (.cells #[.int .i64 0, .int .i64 0, .int .i64 0, .int .i64 0, .bool false, .int .i64 0, .bool false] 65)
    have z1 := hA.2.1.alloc (.cells #[.int .i64 0, .int .i64 0, .int .i64 0, .int .i64 0, .bool false, .int .i64 0, .bool false] 65)
    have B1 := hA.2.2.alloc (o := .cells #[.int .i64 0, .int .i64 0, .int .i64 0, .int .i64 0, .bool false, .int .i64 0, .bool false] 65) (by omega)
    have y1 := Blk.new W.drew 65 #[.int .i64 0, .int .i64 0, .int .i64 0, .int .i64 0, .bool false, .int .i64 0, .bool false]
    have hS1 : SS (W.drew.alloc (.cells #[.int .i64 0, .int .i64 0, .int .i64 0, .int .i64 0, .bool false, .int .i64 0, .bool false] 65)) := (hSd _).2 ⟨a1, z1, B1⟩
    have n1 : (W.drew.alloc (.cells #[.int .i64 0, .int .i64 0, .int .i64 0, .int .i64 0, .bool false, .int .i64 0, .bool false] 65)).heap.size = w.heap.size + 3 := by simp; omega
    have hS2 : SS ((W.drew.alloc (.cells #[.int .i64 0, .int .i64 0, .int .i64 0, .int .i64 0, .bool false, .int .i64 0, .bool false] 65)).alloc (.cells #[.int .i64 0, .int .i64 0, .int .i64 0, .int .i64 0, .bool false, .int .i64 0, .bool false] 65)) := (hSd _).2 ⟨a1.alloc _, z1.alloc _, B1.alloc (by omega) _⟩
    have y2 := y1.alloc (.cells #[.int .i64 0, .int .i64 0, .int .i64 0, .int .i64 0, .bool false, .int .i64 0, .bool false] 65)
    have x2 := Blk.new (W.drew.alloc (.cells #[.int .i64 0, .int .i64 0, .int .i64 0, .int .i64 0, .bool false, .int .i64 0, .bool false] 65)) 65 #[.int .i64 0, .int .i64 0, .int .i64 0, .int .i64 0, .bool false, .int .i64 0, .bool false]
    refine stepTwo (i := 2) (j := 3) (by kernel_rfl) ?_ ?_
    · refine op_alloc rfl rfl (by kernel_rfl) #[.int .i64 0, .int .i64 0, .int .i64 0, .int .i64 0, .bool false, .int .i64 0, .bool false] 65 (by go_simp) ⟨hS1, ?_⟩
      refine stepOne (i := 3) (by kernel_rfl) (op_alloc rfl rfl (by kernel_rfl) #[.int .i64 0, .int .i64 0, .int .i64 0, .int .i64 0, .bool false, .int .i64 0, .bool false] 65 (by go_simp) ⟨hS2, ?_⟩)
      exact hj _ _ _ ⟨by omega, by omega, by omega, y2, x2, hS2⟩
    · refine op_alloc rfl rfl (by kernel_rfl) #[.int .i64 0, .int .i64 0, .int .i64 0, .int .i64 0, .bool false, .int .i64 0, .bool false] 65 (by go_simp) ⟨hS1, ?_⟩
      refine stepOne (i := 2) (by kernel_rfl) (op_alloc rfl rfl (by kernel_rfl) #[.int .i64 0, .int .i64 0, .int .i64 0, .int .i64 0, .bool false, .int .i64 0, .bool false] 65 (by go_simp) ⟨hS2, ?_⟩)
      rw [List.set_comm _ _ (show (6 : Nat) ≠ 5 by decide)]
      exact hj _ _ _ ⟨by omega, by omega, by omega, x2, y2, hS2⟩
  clear hS hS0 hsz a0 z0 B0
  rintro s t W2 ⟨hne, hs, ht, bs, bt, hS2⟩
  simp only [List.set_cons_zero, List.set_cons_succ]
  have hA := (hSd _).1 hS2
  have a1 := hA.1.row_other s #[.int .i64 (S : Int), .int .i64 (N : Int), .int .i64 (P : Int), .int .i64 (G : Int), .bool false, .int .i64 0, .bool false] (by omega)
  have z1 := hA.2.1.row_other s #[.int .i64 (S : Int), .int .i64 (N : Int), .int .i64 (P : Int), .int .i64 (G : Int), .bool false, .int .i64 0, .bool false] (by omega)
  have B1 := below_setRow hA.2.2 (g := s) (by omega) #[.int .i64 (S : Int), .int .i64 (N : Int), .int .i64 (P : Int), .int .i64 (G : Int), .bool false, .int .i64 0, .bool false]
  have hS3 : SS (W2.setRow s #[.int .i64 (S : Int), .int .i64 (N : Int), .int .i64 (P : Int), .int .i64 (G : Int), .bool false, .int .i64 0, .bool false]) := (hSd _).2 ⟨a1, z1, B1⟩
  refine stepOne (i := 4) (by kernel_rfl) (op_store rfl rfl (by kernel_rfl) 65 _ _ rfl s #[.int .i64 (S : Int), .int .i64 (N : Int), .int .i64 (P : Int), .int .i64 (G : Int), .bool false, .int .i64 0, .bool false] rfl rfl 65 #[.int .i64 0, .int .i64 0, .int .i64 0, .int .i64 0, .bool false, .int .i64 0, .bool false] bs (info65 _ rfl) rfl (by simp [Value.oneCell']) ⟨hS3, ?_⟩)
  have bs1 := bs.row #[.int .i64 (S : Int), .int .i64 (N : Int), .int .i64 (P : Int), .int .i64 (G : Int), .bool false, .int .i64 0, .bool false]
  have bt1 := bt.row_other s #[.int .i64 (S : Int), .int .i64 (N : Int), .int .i64 (P : Int), .int .i64 (G : Int), .bool false, .int .i64 0, .bool false] (Ne.symm hne)
  have a2 := a1.row_other t #[.int .i64 (S : Int), .int .i64 (N : Int), .int .i64 (P : Int), .int .i64 (G : Int), .bool false, .int .i64 0, .bool false] (by omega)
  have z2 := z1.row_other t #[.int .i64 (S : Int), .int .i64 (N : Int), .int .i64 (P : Int), .int .i64 (G : Int), .bool false, .int .i64 0, .bool false] (by omega)
  have B2 := below_setRow B1 (g := t) (by omega) #[.int .i64 (S : Int), .int .i64 (N : Int), .int .i64 (P : Int), .int .i64 (G : Int), .bool false, .int .i64 0, .bool false]
  have hS4 : SS ((W2.setRow s #[.int .i64 (S : Int), .int .i64 (N : Int), .int .i64 (P : Int), .int .i64 (G : Int), .bool false, .int .i64 0, .bool false]).setRow t #[.int .i64 (S : Int), .int .i64 (N : Int), .int .i64 (P : Int), .int .i64 (G : Int), .bool false, .int .i64 0, .bool false]) := (hSd _).2 ⟨a2, z2, B2⟩
  refine stepOne (i := 5) (by kernel_rfl) (op_store rfl rfl (by kernel_rfl) 65 _ _ rfl t #[.int .i64 (S : Int), .int .i64 (N : Int), .int .i64 (P : Int), .int .i64 (G : Int), .bool false, .int .i64 0, .bool false] rfl rfl 65 #[.int .i64 0, .int .i64 0, .int .i64 0, .int .i64 0, .bool false, .int .i64 0, .bool false] bt1 (info65 _ rfl) rfl (by simp [Value.oneCell']) ⟨hS4, ?_⟩)
  have bs2 := bs1.row_other t #[.int .i64 (S : Int), .int .i64 (N : Int), .int .i64 (P : Int), .int .i64 (G : Int), .bool false, .int .i64 0, .bool false] hne
  have bt2 := bt1.row #[.int .i64 (S : Int), .int .i64 (N : Int), .int .i64 (P : Int), .int .i64 (G : Int), .bool false, .int .i64 0, .bool false]
  refine wpAnyH_done (by kernel_rfl) ?_ _
  clear hS2 hS3 hS4 hA a1 z1 B1 bs1 bt1 bs bt hSd
  obtain ⟨W, hW⟩ : ∃ W, (W2.setRow s #[.int .i64 (S : Int), .int .i64 (N : Int), .int .i64 (P : Int), .int .i64 (G : Int), .bool false, .int .i64 0, .bool false]).setRow t #[.int .i64 (S : Int), .int .i64 (N : Int), .int .i64 (P : Int), .int .i64 (G : Int), .bool false, .int .i64 0, .bool false] = W := ⟨_, rfl⟩
  rw [hW] at a2 z2 B2 bs2 bt2 ⊢
  clear hW
  have c5 := bs2.cell 5
  have f5 := bs2.frozen 5
  have c6 := bt2.cell 6
  have f6 := bt2.frozen 6
  have hne2 := Ne.symm hne
  have s3 := (bs2.set 5 (.int .i64 (M : Int))).other ⟨t, 6, none⟩ (.bool b) hne
  have t3 := (bt2.other ⟨s, 5, none⟩ (.int .i64 (M : Int)) hne2).set 6 (.bool b)
  simp only [List.setIfInBounds_toArray, List.set_cons_succ, List.set_cons_zero] at s3 t3
  have a3 := (a2.other ⟨s, 5, none⟩ (.int .i64 (M : Int)) (show w.heap.size + 1 ≠ s by omega)).other ⟨t, 6, none⟩ (.bool b) (show w.heap.size + 1 ≠ t by omega)
  have z3 := (z2.other ⟨s, 5, none⟩ (.int .i64 (M : Int)) (show w.heap.size ≠ s by omega)).other ⟨t, 6, none⟩ (.bool b) (show w.heap.size ≠ t by omega)
  have B3 := (B2.setCell (p := ⟨s, 5, none⟩) (show w.heap.size ≤ s by omega) (.int .i64 (M : Int))).setCell (p := ⟨t, 6, none⟩) (show w.heap.size ≤ t by omega) (.bool b)
  clear hs ht
  go_wp2_with (first | (refine wpList_load_row rfl 65 _ rfl (s) rfl 65 _ (0, 0) _ s3 Try.underlying65 rfl (info65 _ rfl) ?_) | (go_at_call 25; with_reducible refine (cA _).mono ?_; rintro e w4 ⟨rfl, hb4⟩; have s4 := s3.below hb4 s3.lt; have t4 := t3.below hb4 t3.lt; have a4 := a3.below hb4 a3.lt; have z4 := z3.below hb4 z3.lt; have B4 := bLater B3 hb4; have k4 := a4.cell 4) | (refine wpList_load_row rfl 65 _ rfl (t) rfl 65 _ (0, 0) _ t4 Try.underlying65 rfl (info65 _ rfl) ?_) | (go_at_call 25; with_reducible refine (cB _).mono ?_; rintro e w5 ⟨rfl, hb5⟩; have t5 := t4.below hb5 t4.lt; have a5 := a4.below hb5 a4.lt; have z5 := z4.below hb5 z4.lt; have B5 := bLater B4 hb5; have k5 := a5.cell 4) | (refine wpList_store_row rfl 65 _ _ rfl (w.heap.size) #[.int .i64 0, .int .i64 0, .int .i64 0, .int .i64 0, .bool false, .int .i64 0, .bool false] rfl rfl 65 _ z5 (info65 _ rfl) rfl (by simp [Value.oneCell']) ?_; have B6 := below_setRow B5 (g := w.heap.size) (Nat.le_refl _) #[.int .i64 0, .int .i64 0, .int .i64 0, .int .i64 0, .bool false, .int .i64 0, .bool false]; have z6 := z5.row #[.int .i64 0, .int .i64 0, .int .i64 0, .int .i64 0, .bool false, .int .i64 0, .bool false]))
  exact bodyPost_ret (v := (.tuple #[.agg #[.int .i64 0, .int .i64 0, .int .i64 0, .int .i64 0, .bool false, .int .i64 0, .bool false], .bool false])) (results_cell_tmp (fn := Try.f27) Try.results27 _ _ w.heap.size 65 _ (0, 0) _ rfl z6 Try.underlying65 rfl (info65 _ rfl)) rfl ⟨rfl, B6⟩

set_option maxRecDepth 100000 in
set_option maxHeartbeats 4000000 in
theorem decR_s_bad (v S N P G M : Nat) (b : Bool) (X : Int) (k : Bool) (w : World) (eN : Int.tmod (v : Int) 4294967296 = (N : Int)) (eS : wrap64 ((v : Int) / 4611686018427387904) = (S : Int))
    (eP : Int.tmod ((v : Int) / 281474976710656) 256 = (P : Int)) (eG : Int.tmod ((v : Int) / 1152921504606846976) 2 = (G : Int)) (eH : ((v : Int) / 2305843009213693952 % 2 == 1) = false)
    (eM : Int.tmod ((v : Int) / 4294967296) 1024 = (M : Int)) (wM : wrap64 (M : Int) = (M : Int)) (eT : ((v : Int) / 2199023255552 % 2 == 1) = b)
    (wN : wrap64 (N : Int) = (N : Int)) (wP : wrap64 (P : Int) = (P : Int)) (wG : wrap64 (G : Int) = (G : Int))
    (cA : ∀ w, Calls Try.prog 25 #[.agg #[.int .i64 (S : Int), .int .i64 (N : Int), .int .i64 (P : Int), .int .i64 (G : Int), .bool false, .int .i64 (M : Int), .bool false]] w fun e w' => e = .returned (.tuple #[.int .u64 X, .bool k]) ∧ Below w.heap.size w w')
    (cB : ∀ w, Calls Try.prog 25 #[.agg #[.int .i64 (S : Int), .int .i64 (N : Int), .int .i64 (P : Int), .int .i64 (G : Int), .bool false, .int .i64 0, .bool b]] w fun e w' => e = .returned (.tuple #[.int .u64 0, .bool false]) ∧ Below w.heap.size w w') :
    Calls Try.prog 27 #[.int .u64 (v : Int)] w fun e w' => e = .returned (.tuple #[.agg #[.int .i64 0, .int .i64 0, .int .i64 0, .int .i64 0, .bool false, .int .i64 0, .bool false], .bool false]) ∧ Below w.heap.size w w' := by
  have z0 := (Blk.new w 65 #[.int .i64 0, .int .i64 0, .int .i64 0, .int .i64 0, .bool false, .int .i64 0, .bool false]).alloc (.cells #[.int .i64 (S : Int), .int .i64 (N : Int), .int .i64 (P : Int), .int .i64 (G : Int), .bool false, .int .i64 0, .bool false] 65)
  have a0 := Blk.new (w.alloc (.cells #[.int .i64 0, .int .i64 0, .int .i64 0, .int .i64 0, .bool false, .int .i64 0, .bool false] 65)) 65 #[.int .i64 (S : Int), .int .i64 (N : Int), .int .i64 (P : Int), .int .i64 (G : Int), .bool false, .int .i64 0, .bool false]
  rw [show (w.alloc (.cells #[.int .i64 0, .int .i64 0, .int .i64 0, .int .i64 0, .bool false, .int .i64 0, .bool false] 65)).heap.size = w.heap.size + 1 by simp] at a0
  have B0 := (one_box w (.cells #[.int .i64 0, .int .i64 0, .int .i64 0, .int .i64 0, .bool false, .int .i64 0, .bool false] 65)).alloc (one_box w _).size (.cells #[.int .i64 (S : Int), .int .i64 (N : Int), .int .i64 (P : Int), .int .i64 (G : Int), .bool false, .int .i64 0, .bool false] 65)
  go_enter Try.func27, Try.ntmps27
  go_wp2
  obtain ⟨W, hW⟩ : ∃ W, (w.alloc (.cells #[.int .i64 0, .int .i64 0, .int .i64 0, .int .i64 0, .bool false, .int .i64 0, .bool false] 65)).alloc (.cells #[.int .i64 (S : Int), .int .i64 (N : Int), .int .i64 (P : Int), .int .i64 (G : Int), .bool false, .int .i64 0, .bool false] 65) = W := ⟨_, rfl⟩
  rw [hW] at z0 a0 B0 ⊢
  have hsz : W.heap.size = w.heap.size + 2 := by rw [← hW]; simp
  clear hW
  obtain ⟨SS, hSd⟩ : ∃ SS : World → Prop, ∀ w', SS w' ↔ (Blk w' (w.heap.size + 1) 65 #[.int .i64 (S : Int), .int .i64 (N : Int), .int .i64 (P : Int), .int .i64 (G : Int), .bool false, .int .i64 0, .bool false] ∧ Blk w' w.heap.size 65 #[.int .i64 0, .int .i64 0, .int .i64 0, .int .i64 0, .bool false, .int .i64 0, .bool false] ∧ Below w.heap.size w w') := ⟨fun w' => Blk w' (w.heap.size + 1) 65 #[.int .i64 (S : Int), .int .i64 (N : Int), .int .i64 (P : Int), .int .i64 (G : Int), .bool false, .int .i64 0, .bool false] ∧ Blk w' w.heap.size 65 #[.int .i64 0, .int .i64 0, .int .i64 0, .int .i64 0, .bool false, .int .i64 0, .bool false] ∧ Below w.heap.size w w', fun _ => Iff.rfl⟩
  have hS0 : SS W.drew := (hSd _).2 ⟨a0, z0, B0.drew⟩
  refine wp_region_held_drew (S := SS) (by kernel_rfl) hS0 (fun hS => ?_)
  refine stepH (i := 0) (d := 28) (v := .agg #[.int .i64 (S : Int), .int .i64 (N : Int), .int .i64 (P : Int), .int .i64 (G : Int), .bool false, .int .i64 0, .bool false]) rfl rfl (by kernel_rfl) (by kernel_rfl) (by kernel_rfl) (fun _ _ _ h => h) (Or.inl ⟨by kernel_rfl, fun w' hw' => load_blk ((hSd w').1 hw').1 65 _ rfl rfl _ Try.underlying65 rfl (info65 _ rfl)⟩) hS ?_
  simp only [List.set_cons_zero, List.set_cons_succ]
  refine stepH (i := 1) (d := 29) (v := .agg #[.int .i64 (S : Int), .int .i64 (N : Int), .int .i64 (P : Int), .int .i64 (G : Int), .bool false, .int .i64 0, .bool false]) rfl rfl (by kernel_rfl) (by kernel_rfl) (by kernel_rfl) (fun _ _ _ h => h) (Or.inl ⟨by kernel_rfl, fun w' hw' => load_blk ((hSd w').1 hw').1 65 _ rfl rfl _ Try.underlying65 rfl (info65 _ rfl)⟩) hS ?_
  simp only [List.set_cons_zero, List.set_cons_succ]
  refine joinH 2 #[true, true, true, true, false, false] 5 6 (fun s t w' => s ≠ t ∧ w.heap.size + 2 ≤ s ∧ w.heap.size + 2 ≤ t ∧ Blk w' s 65 #[.int .i64 0, .int .i64 0, .int .i64 0, .int .i64 0, .bool false, .int .i64 0, .bool false] ∧ Blk w' t 65 #[.int .i64 0, .int .i64 0, .int .i64 0, .int .i64 0, .bool false, .int .i64 0, .bool false] ∧ SS w') ?_ (fun hj => ?_)
  rotate_left
  · have n0 : W.drew.heap.size = w.heap.size + 2 := hsz
    have hA := (hSd _).1 hS
    have a1 := hA.1.alloc (.cells #[.int .i64 0, .int .i64 0, .int .i64 0, .int .i64 0, .bool false, .int .i64 0, .bool false] 65)
    have z1 := hA.2.1.alloc (.cells #[.int .i64 0, .int .i64 0, .int .i64 0, .int .i64 0, .bool false, .int .i64 0, .bool false] 65)
    have B1 := hA.2.2.alloc (o := .cells #[.int .i64 0, .int .i64 0, .int .i64 0, .int .i64 0, .bool false, .int .i64 0, .bool false] 65) (by omega)
    have y1 := Blk.new W.drew 65 #[.int .i64 0, .int .i64 0, .int .i64 0, .int .i64 0, .bool false, .int .i64 0, .bool false]
    have hS1 : SS (W.drew.alloc (.cells #[.int .i64 0, .int .i64 0, .int .i64 0, .int .i64 0, .bool false, .int .i64 0, .bool false] 65)) := (hSd _).2 ⟨a1, z1, B1⟩
    have n1 : (W.drew.alloc (.cells #[.int .i64 0, .int .i64 0, .int .i64 0, .int .i64 0, .bool false, .int .i64 0, .bool false] 65)).heap.size = w.heap.size + 3 := by simp; omega
    have hS2 : SS ((W.drew.alloc (.cells #[.int .i64 0, .int .i64 0, .int .i64 0, .int .i64 0, .bool false, .int .i64 0, .bool false] 65)).alloc (.cells #[.int .i64 0, .int .i64 0, .int .i64 0, .int .i64 0, .bool false, .int .i64 0, .bool false] 65)) := (hSd _).2 ⟨a1.alloc _, z1.alloc _, B1.alloc (by omega) _⟩
    have y2 := y1.alloc (.cells #[.int .i64 0, .int .i64 0, .int .i64 0, .int .i64 0, .bool false, .int .i64 0, .bool false] 65)
    have x2 := Blk.new (W.drew.alloc (.cells #[.int .i64 0, .int .i64 0, .int .i64 0, .int .i64 0, .bool false, .int .i64 0, .bool false] 65)) 65 #[.int .i64 0, .int .i64 0, .int .i64 0, .int .i64 0, .bool false, .int .i64 0, .bool false]
    refine stepTwo (i := 2) (j := 3) (by kernel_rfl) ?_ ?_
    · refine op_alloc rfl rfl (by kernel_rfl) #[.int .i64 0, .int .i64 0, .int .i64 0, .int .i64 0, .bool false, .int .i64 0, .bool false] 65 (by go_simp) ⟨hS1, ?_⟩
      refine stepOne (i := 3) (by kernel_rfl) (op_alloc rfl rfl (by kernel_rfl) #[.int .i64 0, .int .i64 0, .int .i64 0, .int .i64 0, .bool false, .int .i64 0, .bool false] 65 (by go_simp) ⟨hS2, ?_⟩)
      exact hj _ _ _ ⟨by omega, by omega, by omega, y2, x2, hS2⟩
    · refine op_alloc rfl rfl (by kernel_rfl) #[.int .i64 0, .int .i64 0, .int .i64 0, .int .i64 0, .bool false, .int .i64 0, .bool false] 65 (by go_simp) ⟨hS1, ?_⟩
      refine stepOne (i := 2) (by kernel_rfl) (op_alloc rfl rfl (by kernel_rfl) #[.int .i64 0, .int .i64 0, .int .i64 0, .int .i64 0, .bool false, .int .i64 0, .bool false] 65 (by go_simp) ⟨hS2, ?_⟩)
      rw [List.set_comm _ _ (show (6 : Nat) ≠ 5 by decide)]
      exact hj _ _ _ ⟨by omega, by omega, by omega, x2, y2, hS2⟩
  clear hS hS0 hsz a0 z0 B0
  rintro s t W2 ⟨hne, hs, ht, bs, bt, hS2⟩
  simp only [List.set_cons_zero, List.set_cons_succ]
  have hA := (hSd _).1 hS2
  have a1 := hA.1.row_other s #[.int .i64 (S : Int), .int .i64 (N : Int), .int .i64 (P : Int), .int .i64 (G : Int), .bool false, .int .i64 0, .bool false] (by omega)
  have z1 := hA.2.1.row_other s #[.int .i64 (S : Int), .int .i64 (N : Int), .int .i64 (P : Int), .int .i64 (G : Int), .bool false, .int .i64 0, .bool false] (by omega)
  have B1 := below_setRow hA.2.2 (g := s) (by omega) #[.int .i64 (S : Int), .int .i64 (N : Int), .int .i64 (P : Int), .int .i64 (G : Int), .bool false, .int .i64 0, .bool false]
  have hS3 : SS (W2.setRow s #[.int .i64 (S : Int), .int .i64 (N : Int), .int .i64 (P : Int), .int .i64 (G : Int), .bool false, .int .i64 0, .bool false]) := (hSd _).2 ⟨a1, z1, B1⟩
  refine stepOne (i := 4) (by kernel_rfl) (op_store rfl rfl (by kernel_rfl) 65 _ _ rfl s #[.int .i64 (S : Int), .int .i64 (N : Int), .int .i64 (P : Int), .int .i64 (G : Int), .bool false, .int .i64 0, .bool false] rfl rfl 65 #[.int .i64 0, .int .i64 0, .int .i64 0, .int .i64 0, .bool false, .int .i64 0, .bool false] bs (info65 _ rfl) rfl (by simp [Value.oneCell']) ⟨hS3, ?_⟩)
  have bs1 := bs.row #[.int .i64 (S : Int), .int .i64 (N : Int), .int .i64 (P : Int), .int .i64 (G : Int), .bool false, .int .i64 0, .bool false]
  have bt1 := bt.row_other s #[.int .i64 (S : Int), .int .i64 (N : Int), .int .i64 (P : Int), .int .i64 (G : Int), .bool false, .int .i64 0, .bool false] (Ne.symm hne)
  have a2 := a1.row_other t #[.int .i64 (S : Int), .int .i64 (N : Int), .int .i64 (P : Int), .int .i64 (G : Int), .bool false, .int .i64 0, .bool false] (by omega)
  have z2 := z1.row_other t #[.int .i64 (S : Int), .int .i64 (N : Int), .int .i64 (P : Int), .int .i64 (G : Int), .bool false, .int .i64 0, .bool false] (by omega)
  have B2 := below_setRow B1 (g := t) (by omega) #[.int .i64 (S : Int), .int .i64 (N : Int), .int .i64 (P : Int), .int .i64 (G : Int), .bool false, .int .i64 0, .bool false]
  have hS4 : SS ((W2.setRow s #[.int .i64 (S : Int), .int .i64 (N : Int), .int .i64 (P : Int), .int .i64 (G : Int), .bool false, .int .i64 0, .bool false]).setRow t #[.int .i64 (S : Int), .int .i64 (N : Int), .int .i64 (P : Int), .int .i64 (G : Int), .bool false, .int .i64 0, .bool false]) := (hSd _).2 ⟨a2, z2, B2⟩
  refine stepOne (i := 5) (by kernel_rfl) (op_store rfl rfl (by kernel_rfl) 65 _ _ rfl t #[.int .i64 (S : Int), .int .i64 (N : Int), .int .i64 (P : Int), .int .i64 (G : Int), .bool false, .int .i64 0, .bool false] rfl rfl 65 #[.int .i64 0, .int .i64 0, .int .i64 0, .int .i64 0, .bool false, .int .i64 0, .bool false] bt1 (info65 _ rfl) rfl (by simp [Value.oneCell']) ⟨hS4, ?_⟩)
  have bs2 := bs1.row_other t #[.int .i64 (S : Int), .int .i64 (N : Int), .int .i64 (P : Int), .int .i64 (G : Int), .bool false, .int .i64 0, .bool false] hne
  have bt2 := bt1.row #[.int .i64 (S : Int), .int .i64 (N : Int), .int .i64 (P : Int), .int .i64 (G : Int), .bool false, .int .i64 0, .bool false]
  refine wpAnyH_done (by kernel_rfl) ?_ _
  clear hS2 hS3 hS4 hA a1 z1 B1 bs1 bt1 bs bt hSd
  obtain ⟨W, hW⟩ : ∃ W, (W2.setRow s #[.int .i64 (S : Int), .int .i64 (N : Int), .int .i64 (P : Int), .int .i64 (G : Int), .bool false, .int .i64 0, .bool false]).setRow t #[.int .i64 (S : Int), .int .i64 (N : Int), .int .i64 (P : Int), .int .i64 (G : Int), .bool false, .int .i64 0, .bool false] = W := ⟨_, rfl⟩
  rw [hW] at a2 z2 B2 bs2 bt2 ⊢
  clear hW
  have c5 := bs2.cell 5
  have f5 := bs2.frozen 5
  have c6 := bt2.cell 6
  have f6 := bt2.frozen 6
  have hne2 := Ne.symm hne
  have s3 := (bs2.set 5 (.int .i64 (M : Int))).other ⟨t, 6, none⟩ (.bool b) hne
  have t3 := (bt2.other ⟨s, 5, none⟩ (.int .i64 (M : Int)) hne2).set 6 (.bool b)
  simp only [List.setIfInBounds_toArray, List.set_cons_succ, List.set_cons_zero] at s3 t3
  have a3 := (a2.other ⟨s, 5, none⟩ (.int .i64 (M : Int)) (show w.heap.size + 1 ≠ s by omega)).other ⟨t, 6, none⟩ (.bool b) (show w.heap.size + 1 ≠ t by omega)
  have z3 := (z2.other ⟨s, 5, none⟩ (.int .i64 (M : Int)) (show w.heap.size ≠ s by omega)).other ⟨t, 6, none⟩ (.bool b) (show w.heap.size ≠ t by omega)
  have B3 := (B2.setCell (p := ⟨s, 5, none⟩) (show w.heap.size ≤ s by omega) (.int .i64 (M : Int))).setCell (p := ⟨t, 6, none⟩) (show w.heap.size ≤ t by omega) (.bool b)
  clear hs ht
  go_wp2_with (first | (refine wpList_load_row rfl 65 _ rfl (s) rfl 65 _ (0, 0) _ s3 Try.underlying65 rfl (info65 _ rfl) ?_) | (go_at_call 25; with_reducible refine (cA _).mono ?_; rintro e w4 ⟨rfl, hb4⟩; have s4 := s3.below hb4 s3.lt; have t4 := t3.below hb4 t3.lt; have a4 := a3.below hb4 a3.lt; have z4 := z3.below hb4 z3.lt; have B4 := bLater B3 hb4; have k4 := a4.cell 4) | (refine wpList_load_row rfl 65 _ rfl (t) rfl 65 _ (0, 0) _ t4 Try.underlying65 rfl (info65 _ rfl) ?_) | (go_at_call 25; with_reducible refine (cB _).mono ?_; rintro e w5 ⟨rfl, hb5⟩; have t5 := t4.below hb5 t4.lt; have a5 := a4.below hb5 a4.lt; have z5 := z4.below hb5 z4.lt; have B5 := bLater B4 hb5; have k5 := a5.cell 4) | (refine wpList_store_row rfl 65 _ _ rfl (w.heap.size) #[.int .i64 0, .int .i64 0, .int .i64 0, .int .i64 0, .bool false, .int .i64 0, .bool false] rfl rfl 65 _ z5 (info65 _ rfl) rfl (by simp [Value.oneCell']) ?_; have B6 := below_setRow B5 (g := w.heap.size) (Nat.le_refl _) #[.int .i64 0, .int .i64 0, .int .i64 0, .int .i64 0, .bool false, .int .i64 0, .bool false]; have z6 := z5.row #[.int .i64 0, .int .i64 0, .int .i64 0, .int .i64 0, .bool false, .int .i64 0, .bool false]))
  exact bodyPost_ret (v := (.tuple #[.agg #[.int .i64 0, .int .i64 0, .int .i64 0, .int .i64 0, .bool false, .int .i64 0, .bool false], .bool false])) (results_cell_tmp (fn := Try.f27) Try.results27 _ _ w.heap.size 65 _ (0, 0) _ rfl z6 Try.underlying65 rfl (info65 _ rfl)) rfl ⟨rfl, B6⟩
end Go.Proofs.Ytoloccoodnbbdaa
