/- List registers: awake. -/
import Derived.RangeFuncNested
import Derived.RangeFuncBound
import Derived.RangeFuncCalls
import Derived.RangeFuncLeaves
import Derived.Shelf.Abstract
import Derived.Shelf.RegionOpen
import Derived.WalkKit
import Derived.OwnWalkIn
import Derived.TacticsInMore
import Derived.LoopNIn
import Derived.LoopIn
import Derived.WalkSpells
import Derived.WalkLawsBesides
import Derived.Deep.QuietTactic
import Derived.BigQuiet
import Derived.Lib.Hide
import Derived.Deep.WholeRow
import Derived.Laws.Rows
import Derived.Laws.Tables
import Derived.Test.YtoloccoodnbbdaaLrP
import Derived.Test.YtoloccoodnbbdaaLrL
import Derived.Test.YtoloccoodnbbdaaLdO
namespace Go.Proofs.Ytoloccoodnbbdaa
open Go.RowKit Go.Shelf
attribute [local go_sem] Oper.semAt_some

theorem enc_a (w : World) : Calls Try.prog 24 #[.agg #[.int .i64 1, .int .i64 40, .int .i64 160, .int .i64 1, .bool false, .int .i64 0, .bool false]] w fun e w' => e = .returned (.tuple #[.int .u64 5809643519307939880, .int .i64 0]) ∧ Below w.heap.size w w' := by
  have := enc_yes 1 40 160 1 0 false false w (by decide) (by decide) (by decide) (by decide) (by decide) (by decide) (by decide)
  rw [show encN 1 40 160 1 false 0 false = 5809643519307939880 from rfl] at this
  exact this
theorem enc_b (w : World) : Calls Try.prog 24 #[.agg #[.int .i64 2, .int .i64 33, .int .i64 0, .int .i64 0, .bool true, .int .i64 35, .bool false]] w fun e w' => e = .returned (.tuple #[.int .u64 11529215196392325153, .int .i64 0]) ∧ Below w.heap.size w w' := by
  have := enc_yes 2 33 0 0 35 true false w (by decide) (by decide) (by decide) (by decide) (by decide) (by decide) (by decide)
  rw [show encN 2 33 0 0 true 35 false = 11529215196392325153 from rfl] at this
  exact this
theorem may_c (w : World) : Calls Try.prog 29 #[.agg #[.int .i64 2, .int .i64 8192, .int .i64 0, .int .i64 0, .bool false, .int .i64 0, .bool false]] w fun e w' => e = .returned (.int .i64 200) ∧ Below w.heap.size w w' := by
  have := may_any 2 8192 0 0 false 0 false w
  rw [show mayE 2 8192 0 0 false 0 false = 200 by decide] at this
  exact this
theorem list_b (D cap : Nat) (Bs Bf : Nat) (w : World) (hD : Blk w D 65 #[.int .i64 1, .int .i64 40, .int .i64 160, .int .i64 0, .bool false, .int .i64 0, .bool false, .int .i64 0, .int .i64 0, .int .i64 0, .int .i64 0, .bool false, .int .i64 0, .bool false, .int .i64 3, .int .i64 41, .int .i64 0, .int .i64 0, .bool false, .int .i64 0, .bool false]) (hs : Blk w Bs 110 #[.slice (some ⟨D, 0, none⟩) 3 cap]) (hf : Blk w Bf 108 #[.func (.func 60) #[] #[]]) :
    Calls Try.prog 46 #[.func (.func 64) #[] #[.pointer (some ⟨Bs, 0, none⟩), .pointer (some ⟨Bf, 0, none⟩)]] w fun e w' => ∃ v, e = .returned v ∧ RI w' v [1] ∧ Below w.heap.size w w' :=
  (list_free D cap Bs Bf w hD hs hf).mono fun _ _ ⟨v, h1, h2, h3⟩ => ⟨v, h1, RI.of_owns h2, h3⟩
theorem lit1 (w : World) : RI (w.alloc (.cells #[.int .i64 1] 3)) (.slice (some ⟨w.heap.size, 0, none⟩) 1 1) [1] := by
  refine ⟨_, _, rfl, fun h => (by cases h), fun g h => ?_⟩
  cases h
  refine ⟨rfl, fun j hj => ?_⟩
  have hb := (Blk.new w 3 #[.int .i64 1]).cell j
  simp at hj
  subst hj
  exact hb
theorem same_b (v u : Value) (w : World) (hv : RI w v [1]) (hu : RI w u [1]) : Calls Try.prog 32 #[v, u] w fun e w' => e = .returned (.bool true) ∧ ∃ n, w' = w.drewN n := by
  have := same_any [1] [1] v u w (by decide) (by decide) hv hu
  rw [decide_eq_true rfl] at this
  exact this
theorem blk_new1 (w : World) (C D : Array Value) {t u : TypeId} : Blk ((w.alloc (.cells C t)).alloc (.cells D u)) (w.heap.size + 1) u D := by
  have := Blk.new (w.alloc (.cells C t)) u D
  simpa using this
theorem blk_drewN {W : World} {B : Nat} {t : TypeId} {C : Array Value} (h : Blk W B t C) (n : Nat) : Blk (W.drewN n) B t C := h.below (below_drewN (Below.refl W.heap.size W) n) h.lt

set_option maxRecDepth 100000 in
set_option maxHeartbeats 1000000 in
theorem awake20_any (w : World) : Calls Try.prog 28 #[] w fun e w' => e = .returned (.bool true) ∧ Below w.heap.size w w' := by
  have hfd : ∀ w : World, (Instr.field 93 (.agg #[.int .i64 40, .int .i64 160, .int .i64 0, .bool true]) 0).run Try.prog w = .ok (.int .i64 40) w := fun _ => by kernel_rfl
  go_enter Try.func28, Try.ntmps28
  go_wp2_with (first | (go_at_call 24; with_reducible refine (enc_a _).mono ?_; rintro e w1 ⟨rfl, B1⟩) | (go_at_call 24; with_reducible refine (enc_b _).mono ?_; rintro e w2 ⟨rfl, hb2⟩; have B2 := bLater B1 hb2; have z2 := Blk.new w2 65 #[.int .i64 1, .int .i64 40, .int .i64 160, .int .i64 0, .bool false, .int .i64 0, .bool false, .int .i64 0, .int .i64 0, .int .i64 0, .int .i64 0, .bool false, .int .i64 0, .bool false, .int .i64 3, .int .i64 41, .int .i64 0, .int .i64 0, .bool false, .int .i64 0, .bool false]; have B3 := B2.alloc B2.size (.cells #[.int .i64 1, .int .i64 40, .int .i64 160, .int .i64 0, .bool false, .int .i64 0, .bool false, .int .i64 0, .int .i64 0, .int .i64 0, .int .i64 0, .bool false, .int .i64 0, .bool false, .int .i64 3, .int .i64 41, .int .i64 0, .int .i64 0, .bool false, .int .i64 0, .bool false] 65)) | (go_at_call 29; with_reducible refine (may_c _).mono ?_; rintro e w4 ⟨rfl, hb4⟩; have z4 := z2.below hb4 z2.lt; have B4 := bLater B3 hb4) | (go_at_call 47; with_reducible refine (free_any _ _ _ _).mono ?_; rintro e w5 ⟨rfl, rfl⟩; have z5 := (z4.alloc (.cells #[.slice (some ⟨w2.heap.size, 0, none⟩) 3 3] 110)).alloc (.cells #[.func (.func 60) #[] #[]] 108); have s5 := (Blk.new w4 110 #[.slice (some ⟨w2.heap.size, 0, none⟩) 3 3]).alloc (.cells #[.func (.func 60) #[] #[]] 108); have f5 := blk_new1 (t := 110) (u := 108) w4 #[.slice (some ⟨w2.heap.size, 0, none⟩) 3 3] #[.func (.func 60) #[] #[]]; have B5 := (B4.alloc B4.size (.cells #[.slice (some ⟨w2.heap.size, 0, none⟩) 3 3] 110)).alloc (B4.alloc B4.size _).size (.cells #[.func (.func 60) #[] #[]] 108)) | (go_at_call 46; with_reducible refine (list_b w2.heap.size 3 w4.heap.size (w4.heap.size + 1) _ z5 s5 f5).mono ?_; rintro e w6 ⟨v, rfl, hv, hb6⟩; have z6 := (z5.below hb6 z5.lt).alloc (.cells #[.int .i64 1] 3); have B6 := (bLater B5 hb6).alloc (bLater B5 hb6).size (.cells #[.int .i64 1] 3); have rv := hv.below (one_box _ (.cells #[.int .i64 1] 3)); have ru := lit1 w6) | (go_at_call 32; with_reducible refine (same_b _ _ _ rv ru).mono ?_; rintro e w8 ⟨rfl, n8, rfl⟩; have z8 := blk_drewN z6 n8; have B8 := below_drewN B6 n8) | (go_at_call 48; with_reducible refine (used_any w2.heap.size 3 _ z8).mono ?_; rintro e w9 ⟨rfl, hb9⟩; have z9 := z8.below hb9 z8.lt; have B9 := bLater B8 hb9) | (go_at_call 49; with_reducible refine (find_any w2.heap.size 3 _ z9).mono ?_; rintro e w10 ⟨rfl, hb10⟩; have z10 := z9.below hb10 z9.lt; have B10 := bLater B9 hb10) | (go_at_call 50; with_reducible refine (best_any w2.heap.size 3 _ z10).mono ?_; rintro e w11 ⟨rfl, hb11⟩; have B11 := bLater B10 hb11))
  go_ret
  exact ⟨rfl, B11⟩
end Go.Proofs.Ytoloccoodnbbdaa
