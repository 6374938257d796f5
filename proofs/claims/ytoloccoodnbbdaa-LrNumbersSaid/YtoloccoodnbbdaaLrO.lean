/- List registers: loops over those that are let in. -/
import Derived.RangeFuncNested
import Derived.RangeFuncBound
import Derived.RangeFuncCalls
import Derived.RangeFuncLeaves
import Derived.Shelf.Abstract
import Derived.Shelf.RegionOpen
import Derived.WalkKit
import Derived.OwnWalkIn
import Derived.TacticsInMore
import Derived.LoopNIn
import Derived.LoopIn
import Derived.WalkSpells
import Derived.WalkLawsBesides
import Derived.Deep.QuietTactic
import Derived.BigQuiet
import Derived.Lib.Hide
import Derived.Deep.WholeRow
import Derived.Deep.Onto
import Derived.RangeFuncWrites
import Derived.Laws.Rows
import Derived.Test.YtoloccoodnbbdaaLrN
import Derived.Test.YtoloccoodnbbdaaLdO
namespace Go.Proofs.Ytoloccoodnbbdaa
open Go.RowKit Go.Shelf
attribute [local go_sem] Oper.semAt_some

theorem kp_set {p : Nat → Prop} (W : World) (a : Addr) (v : Value) (h : ∀ B, p B → B ≠ a.block) : KP p W (W.setCell a v) := fun B hB => heap_setCell_other W a B v (h B hB)
theorem free_stops (n Bs Bf D cap : Nat) (w : World) (hD : Blk w D 65 #[.int .i64 1, .int .i64 40, .int .i64 160, .int .i64 0, .bool false, .int .i64 0, .bool false, .int .i64 0, .int .i64 0, .int .i64 0, .int .i64 0, .bool false, .int .i64 0, .bool false, .int .i64 3, .int .i64 41, .int .i64 0, .int .i64 0, .bool false, .int .i64 0, .bool false]) (hs : Blk w Bs 110 #[.slice (some ⟨D, 0, none⟩) 3 cap]) (hf : Blk w Bf 108 #[.func (.func 60) #[] #[]]) :
    SeqStopsK Fence.wide n Try.prog 64 #[.pointer (some ⟨Bs, 0, none⟩), .pointer (some ⟨Bf, 0, none⟩)] (fun _ : Unit => #[.int .i64 1]) (KP fun B => B = Bs ∨ B = Bf ∨ B = D) (fun ys => ys = [()]) (fun pre => pre = [()]) 1 w := by
  intro l J Jx W hW hJ _ hY h00
  exact (free_in n l Bs Bf D cap (J []) (J [()]) (Jx [()]) (fun W o h => AbidesFrom.alloc hJ o h) (fun W o h => AbidesFrom.alloc hJ o h) (fun W1 h1 => hY [] () W1 h1 (by decide)) W (hD.below hW hD.lt) (hs.below hW hs.lt) (hf.below hW hf.lt) h00).mono (fun e W' h => ⟨h.1, h.2.elim (fun h => .inl ⟨_, rfl, h⟩) (fun h => .inr ⟨_, rfl, h⟩)⟩)
theorem waits_stops (n Bs Bf D cap : Nat) (w : World) (hD : Blk w D 65 #[.int .i64 1, .int .i64 40, .int .i64 160, .int .i64 0, .bool false, .int .i64 0, .bool false, .int .i64 0, .int .i64 0, .int .i64 0, .int .i64 0, .bool false, .int .i64 0, .bool false, .int .i64 3, .int .i64 41, .int .i64 0, .int .i64 0, .bool false, .int .i64 0, .bool false]) (hs : Blk w Bs 110 #[.slice (some ⟨D, 0, none⟩) 3 cap]) (hf : Blk w Bf 108 #[.func (.func 65) #[] #[]]) :
    SeqStopsK Fence.wide n Try.prog 64 #[.pointer (some ⟨Bs, 0, none⟩), .pointer (some ⟨Bf, 0, none⟩)] (fun _ : Unit => #[.int .i64 0]) (KP fun B => B = Bs ∨ B = Bf ∨ B = D) (fun ys => ys = [()]) (fun pre => pre = [()]) 1 w := by
  intro l J Jx W hW hJ _ hY h00
  exact (waits_in n l Bs Bf D cap (J []) (J [()]) (Jx [()]) (fun W o h => AbidesFrom.alloc hJ o h) (fun W o h => AbidesFrom.alloc hJ o h) (fun W1 h1 => hY [] () W1 h1 (by decide)) W (hD.below hW hD.lt) (hs.below hW hs.lt) (hf.below hW hf.lt) h00).mono (fun e W' h => ⟨h.1, h.2.elim (fun h => .inl ⟨_, rfl, h⟩) (fun h => .inr ⟨_, rfl, h⟩)⟩)
theorem find_stops (n Bs Bf D cap nb : Nat) (w : World) (hD : Blk w D 65 #[.int .i64 1, .int .i64 40, .int .i64 160, .int .i64 0, .bool false, .int .i64 0, .bool false, .int .i64 0, .int .i64 0, .int .i64 0, .int .i64 0, .bool false, .int .i64 0, .bool false, .int .i64 3, .int .i64 41, .int .i64 0, .int .i64 0, .bool false, .int .i64 0, .bool false]) (hs : Blk w Bs 110 #[.slice (some ⟨D, 0, none⟩) 3 cap]) (hf : Blk w Bf 108 #[.func (.func 61) #[] #[.pointer (some ⟨nb, 0, none⟩)]]) (hn : Blk w nb 3 #[.int .i64 41]) :
    SeqStopsK Fence.wide n Try.prog 64 #[.pointer (some ⟨Bs, 0, none⟩), .pointer (some ⟨Bf, 0, none⟩)] (fun _ : Unit => #[.int .i64 2]) (KP fun B => B = Bs ∨ B = Bf ∨ B = D ∨ B = nb) (fun ys => ys = [()]) (fun pre => pre = [()]) 1 w := by
  intro l J Jx W hW hJ _ hY h00
  exact (find_in n l Bs Bf D cap nb (J []) (J [()]) (Jx [()]) (fun W o h => AbidesFrom.alloc hJ o h) (fun W o h => AbidesFrom.alloc hJ o h) (fun W1 h1 => hY [] () W1 h1 (by decide)) W (hD.below hW hD.lt) (hs.below hW hs.lt) (hf.below hW hf.lt) (hn.below hW hn.lt) h00).mono (fun e W' h => ⟨h.1, h.2.elim (fun h => .inl ⟨_, rfl, h⟩) (fun h => .inr ⟨_, rfl, h⟩)⟩)

theorem where_any (va : Option Addr) (vn vc : Nat) (fg : Fn) (fa fb : Array Value) (w : World) : Calls Try.prog 59 #[.slice va vn vc, .func fg fa fb] w fun e w' => e = .returned (.func (.func 64) #[] #[.pointer (some ⟨w.heap.size, 0, none⟩), .pointer (some ⟨w.heap.size + 1, 0, none⟩)]) ∧ (w.alloc (.cells #[.slice va vn vc] 110)).alloc (.cells #[.func fg fa fb] 108) = w' := by
  go_enter Try.func59, Try.ntmps59
  go_wp2
  go_ret
  exact ⟨rfl, rfl⟩
theorem free_any (va : Option Addr) (vn vc : Nat) (w : World) : Calls Try.prog 47 #[.slice va vn vc] w fun e w' => e = .returned (.func (.func 64) #[] #[.pointer (some ⟨w.heap.size, 0, none⟩), .pointer (some ⟨w.heap.size + 1, 0, none⟩)]) ∧ (w.alloc (.cells #[.slice va vn vc] 110)).alloc (.cells #[.func (.func 60) #[] #[]] 108) = w' := by
  go_enter Try.func47, Try.ntmps47
  go_wp2_with (go_at_call 59; refine (where_any _ _ _ _ _ _ _).mono ?_; rintro e w' ⟨rfl, rfl⟩)
  go_ret
  exact ⟨rfl, rfl⟩
theorem waits_any (va : Option Addr) (vn vc : Nat) (w : World) : Calls Try.prog 62 #[.slice va vn vc] w fun e w' => e = .returned (.func (.func 64) #[] #[.pointer (some ⟨w.heap.size, 0, none⟩), .pointer (some ⟨w.heap.size + 1, 0, none⟩)]) ∧ (w.alloc (.cells #[.slice va vn vc] 110)).alloc (.cells #[.func (.func 65) #[] #[]] 108) = w' := by
  go_enter Try.func62, Try.ntmps62
  go_wp2_with (go_at_call 59; refine (where_any _ _ _ _ _ _ _).mono ?_; rintro e w' ⟨rfl, rfl⟩)
  go_ret
  exact ⟨rfl, rfl⟩

set_option maxRecDepth 100000 in
set_option maxHeartbeats 1000000 in
theorem used_any (D cap : Nat) (w : World) (hD : Blk w D 65 #[.int .i64 1, .int .i64 40, .int .i64 160, .int .i64 0, .bool false, .int .i64 0, .bool false, .int .i64 0, .int .i64 0, .int .i64 0, .int .i64 0, .bool false, .int .i64 0, .bool false, .int .i64 3, .int .i64 41, .int .i64 0, .int .i64 0, .bool false, .int .i64 0, .bool false]) : Calls Try.prog 48 #[.slice (some ⟨D, 0, none⟩) 3 cap] w fun e w' => e = .returned (.int .i64 2) ∧ Below w.heap.size w w' := by
  refine (callsIn_wide (n := 9)).1 ?_
  refine callsIn_of_wp_marks Try.func48 rfl trivial ?_ rfl
  simp only [Try.ntmps48, List.size_toArray, List.length_cons, List.length_nil, Nat.reduceAdd, Nat.reduceSub, Array.replicate_succ, Array.replicate_zero, List.push_toArray, List.append_toArray, List.nil_append, List.cons_append]
  gi_wp2_with (refine ⟨trivial, ?_⟩; gi_at_call 47; refine (callsIn_wide.2 (free_any _ _ _ _)).mono ?_; rintro e w' ⟨rfl, rfl⟩)
  obtain ⟨W0, hW0⟩ : ∃ W0, ((w.alloc (.cells #[.int .i64 3] 3)).alloc (.cells #[.slice (some ⟨D, 0, none⟩) 3 cap] 110)).alloc (.cells #[.func (.func 60) #[] #[]] 108) = W0 := ⟨_, rfl⟩
  have hB0 : Below w.heap.size w W0 := by rw [← hW0]; exact ((((Below.refl _ w).alloc (Nat.le_refl _) _).alloc (by simp) _).alloc (by simp; omega) _)
  have hsz : W0.heap.size = w.heap.size + 3 := by rw [← hW0]; simp
  have hb0 : Blk W0 w.heap.size 3 #[.int .i64 3] := by rw [← hW0]; exact ((Blk.new w 3 #[.int .i64 3]).alloc _).alloc _
  have hbs : Blk W0 (w.heap.size + 1) 110 #[.slice (some ⟨D, 0, none⟩) 3 cap] := by rw [← hW0]; have := (Blk.new (w.alloc (.cells #[.int .i64 3] 3)) 110 #[.slice (some ⟨D, 0, none⟩) 3 cap]).alloc (.cells #[.func (.func 60) #[] #[]] 108); simpa using this
  have hbf : Blk W0 (w.heap.size + 1 + 1) 108 #[.func (.func 60) #[] #[]] := by rw [← hW0]; have := Blk.new ((w.alloc (.cells #[.int .i64 3] 3)).alloc (.cells #[.slice (some ⟨D, 0, none⟩) 3 cap] 110)) 108 #[.func (.func 60) #[] #[]]; simpa using this
  have hD0 := hD.below hB0 hD.lt
  have hlt := hD.lt
  rw [hW0]
  clear hW0
  refine wpIn_rangeFunc_ownF rfl (by decide) (gf := 64) (lb := #[.pointer (some ⟨w.heap.size + 1, 0, none⟩), .pointer (some ⟨w.heap.size + 1 + 1, 0, none⟩)]) rfl trivial (enters_of Try.func64 (by kernel_rfl) rfl)
    (free_stops _ (w.heap.size + 1) (w.heap.size + 1 + 1) D cap W0 hD0 hbs hbf) kp_t (kp_b (by rintro B (rfl | rfl | rfl) <;> omega)) (Below.refl _ _) (fun _ => rfl)
    (fun pre W => Blk W w.heap.size 3 #[.int .i64 (3 - (pre.length : Int))] ∧ Below w.heap.size w W)
    (fun _ _ _ => False)
    (OwnFrom.and (Own.from (blk_own _ _ _) _) (ownFrom_below (Nat.le_refl _) (by omega)))
    (fun _ _ _ _ _ hs _ _ => hs)
    ⟨by simpa using hb0, hB0⟩ ?a1 ?assign ?body ?done ?stop
  case assign =>
    intro l x W K hK
    gi_wp2
    exact hK
  case body =>
    rintro l pre x W ⟨b2, hB⟩ hl
    have hp : pre = [] := List.eq_nil_of_length_eq_zero (by omega)
    subst hp
    have c2 := b2.cell 0
    have f2 := b2.frozen 0
    gi_wp2
    exact ⟨KeepsOthers.setCell _ _ _, kp_set _ _ _ (by rintro B (rfl | rfl | rfl) <;> simp <;> omega), b2.set 0 _, hB.setCell (p := ⟨_, 0, none⟩) (Nat.le_refl _) _⟩
  case done =>
    rintro Dd ys W hDd rfl ⟨b2, hB⟩ hK
    have c2 := b2.cell 0
    gi_wp2
    refine ⟨by simp, .inl ⟨_, _, rfl, run_takeDeferred hK, ?_⟩⟩
    exact ⟨_, results_tmp rfl _ _ _, rfl, hB.trans (belowK_b (w := w) (Nat.le_refl _) _ Dd _ _ (by omega) hK rfl rfl)⟩
  case stop =>
    rintro Dd c pre W hDd hpre h _
    exact h.elim

theorem kp_keep {p : Nat → Prop} {W W' : World} (h : Below W.heap.size W W') (hp : ∀ B, p B → B < W.heap.size) : KP p W W' := fun B hB => h.block B (hp B hB)

set_option maxRecDepth 100000 in
set_option maxHeartbeats 1000000 in
theorem find_any (D cap : Nat) (w : World) (hD : Blk w D 65 #[.int .i64 1, .int .i64 40, .int .i64 160, .int .i64 0, .bool false, .int .i64 0, .bool false, .int .i64 0, .int .i64 0, .int .i64 0, .int .i64 0, .bool false, .int .i64 0, .bool false, .int .i64 3, .int .i64 41, .int .i64 0, .int .i64 0, .bool false, .int .i64 0, .bool false]) : Calls Try.prog 49 #[.slice (some ⟨D, 0, none⟩) 3 cap, .int .i64 41] w fun e w' => e = .returned (.int .i64 2) ∧ Below w.heap.size w w' := by
  refine (callsIn_wide (n := 9)).1 ?_
  refine callsIn_of_wp_marks Try.func49 rfl trivial ?_ rfl
  simp only [Try.ntmps49, List.size_toArray, List.length_cons, List.length_nil, Nat.reduceAdd, Nat.reduceSub, Array.replicate_succ, Array.replicate_zero, List.push_toArray, List.append_toArray, List.nil_append, List.cons_append]
  gi_wp2_with (refine ⟨trivial, ?_⟩; gi_at_call 59; refine (callsIn_wide.2 (where_any _ _ _ _ _ _ _)).mono ?_; rintro e w' ⟨rfl, rfl⟩)
  obtain ⟨W0, hW0⟩ : ∃ W0, (((w.alloc (.cells #[.int .i64 41] 3)).alloc (.cells #[.int .i64 0] 3)).alloc (.cells #[.slice (some ⟨D, 0, none⟩) 3 cap] 110)).alloc (.cells #[.func (.func 61) #[] #[.pointer (some ⟨w.heap.size, 0, none⟩)]] 108) = W0 := ⟨_, rfl⟩
  have hB0 : Below w.heap.size w W0 := by rw [← hW0]; exact (((((Below.refl _ w).alloc (Nat.le_refl _) _).alloc (by simp) _).alloc (by simp; omega) _).alloc (by simp; omega) _)
  have hsz : W0.heap.size = w.heap.size + 4 := by rw [← hW0]; simp
  have hbn : Blk W0 w.heap.size 3 #[.int .i64 41] := by rw [← hW0]; exact (((Blk.new w 3 #[.int .i64 41]).alloc _).alloc _).alloc _
  have hb0 : Blk W0 (w.heap.size + 1) 3 #[.int .i64 0] := by rw [← hW0]; have := ((Blk.new (w.alloc (.cells #[.int .i64 41] 3)) 3 #[.int .i64 0]).alloc (.cells #[.slice (some ⟨D, 0, none⟩) 3 cap] 110)).alloc (.cells #[.func (.func 61) #[] #[.pointer (some ⟨w.heap.size, 0, none⟩)]] 108); simpa using this
  have hbs : Blk W0 (w.heap.size + 1 + 1) 110 #[.slice (some ⟨D, 0, none⟩) 3 cap] := by rw [← hW0]; have := (Blk.new ((w.alloc (.cells #[.int .i64 41] 3)).alloc (.cells #[.int .i64 0] 3)) 110 #[.slice (some ⟨D, 0, none⟩) 3 cap]).alloc (.cells #[.func (.func 61) #[] #[.pointer (some ⟨w.heap.size, 0, none⟩)]] 108); simpa using this
  have hbf : Blk W0 (w.heap.size + 1 + 1 + 1) 108 #[.func (.func 61) #[] #[.pointer (some ⟨w.heap.size, 0, none⟩)]] := by rw [← hW0]; have := Blk.new (((w.alloc (.cells #[.int .i64 41] 3)).alloc (.cells #[.int .i64 0] 3)).alloc (.cells #[.slice (some ⟨D, 0, none⟩) 3 cap] 110)) 108 #[.func (.func 61) #[] #[.pointer (some ⟨w.heap.size, 0, none⟩)]]; simpa using this
  have hD0 := hD.below hB0 hD.lt
  have hlt := hD.lt
  rw [hW0]
  clear hW0
  refine wpIn_rangeFunc_ownF rfl (by decide) (gf := 64) (lb := #[.pointer (some ⟨w.heap.size + 1 + 1, 0, none⟩), .pointer (some ⟨w.heap.size + 1 + 1 + 1, 0, none⟩)]) rfl trivial (enters_of Try.func64 (by kernel_rfl) rfl)
    (find_stops _ (w.heap.size + 1 + 1) (w.heap.size + 1 + 1 + 1) D cap w.heap.size W0 hD0 hbs hbf hbn) kp_t (kp_b (by rintro B (rfl | rfl | rfl | rfl) <;> omega)) (Below.refl _ _) (fun _ => rfl)
    (fun pre W => (pre = [] ∧ Blk W (w.heap.size + 1) 3 #[.int .i64 0]) ∧ Below w.heap.size w W)
    (fun c pre W => (c = .ret ∧ ∃ x : Unit, pre = [x] ∧ Blk W (w.heap.size + 1) 3 #[.int .i64 2]) ∧ Below w.heap.size w W)
    (OwnFrom.and (Own.from (own_and (own_pure _) (blk_own _ _ _)) _) (ownFrom_below (Nat.le_refl _) (by omega)))
    (fun c => OwnFrom.and (Own.from (own_and (own_pure _) (own_ex fun x => own_and (own_pure _) (blk_own _ _ _))) _) (ownFrom_below (Nat.le_refl _) (by omega)))
    ⟨⟨rfl, hb0⟩, hB0⟩ ?a1 ?assign ?body ?done ?stop
  case assign =>
    intro l x W K hK
    gi_wp2
    exact hK
  case body =>
    rintro l pre x W ⟨⟨rfl, b2⟩, hB⟩ hl
    have c2 := b2.cell 0
    have f2 := b2.frozen 0
    gi_wp2
    exact ⟨KeepsOthers.setCell _ _ _, ⟨rfl, x, rfl, b2.set 0 _⟩, hB.setCell (p := ⟨_, 0, none⟩) (by simp) _⟩
  case done =>
    rintro Dd ys W hDd rfl ⟨⟨hne, _⟩, hB⟩ hK
    cases hne
  case stop =>
    rintro Dd c pre W hDd hpre ⟨⟨rfl, x, rfl, b2⟩, hB⟩ hK
    gi_wp2
    refine ⟨by simp, .inl ⟨_, _, rfl, run_takeDeferred hK, ?_⟩⟩
    have d2 := (b2.put (.deferred none) hK rfl).cell 0
    refine ⟨.int .i64 2, ?_, rfl, hB.trans (belowK_b (w := w) (Nat.le_refl _) _ Dd _ _ (by omega) hK rfl rfl)⟩
    simp at d2
    simp [results, Try.f49, go_sem, d2]

set_option maxRecDepth 100000 in
set_option maxHeartbeats 1000000 in
theorem list_free (D cap : Nat) (Bs Bf : Nat) (w : World) (hD : Blk w D 65 #[.int .i64 1, .int .i64 40, .int .i64 160, .int .i64 0, .bool false, .int .i64 0, .bool false, .int .i64 0, .int .i64 0, .int .i64 0, .int .i64 0, .bool false, .int .i64 0, .bool false, .int .i64 3, .int .i64 41, .int .i64 0, .int .i64 0, .bool false, .int .i64 0, .bool false]) (hs : Blk w Bs 110 #[.slice (some ⟨D, 0, none⟩) 3 cap]) (hf : Blk w Bf 108 #[.func (.func 60) #[] #[]]) :
    Calls Try.prog 46 #[.func (.func 64) #[] #[.pointer (some ⟨Bs, 0, none⟩), .pointer (some ⟨Bf, 0, none⟩)]] w (OwnInts w.heap.size [1] w) := by
  obtain ⟨i0, hi, hz0, hz1, hz2⟩ := info_parts infoInt
  refine (callsIn_wide (n := 9)).1 ?_
  refine callsIn_of_wp_marks Try.func46 rfl trivial ?_ rfl
  simp only [Try.ntmps46, List.size_toArray, List.length_cons, List.length_nil, Nat.reduceAdd, Nat.reduceSub, Array.replicate_succ, Array.replicate_zero, List.push_toArray, List.append_toArray, List.nil_append, List.cons_append]
  gi_wp2
  obtain ⟨W0, hW0⟩ : ∃ W0, w.alloc (.cells #[.slice none 0 0] 81) = W0 := ⟨_, rfl⟩
  have hB0 : Below w.heap.size w W0 := by rw [← hW0]; exact one_box _ _
  have hsz : W0.heap.size = w.heap.size + 1 := by rw [← hW0]; simp
  have hb1 : Blk W0 w.heap.size 81 #[.slice none 0 0] := by rw [← hW0]; exact Blk.new w 81 #[.slice none 0 0]
  have hD0 := hD.below hB0 hD.lt
  have hs0 := hs.below hB0 hs.lt
  have hf0 := hf.below hB0 hf.lt
  have hlt := hD.lt
  have hlt1 := hs.lt
  have hlt2 := hf.lt
  rw [hW0]
  clear hW0
  refine wpIn_rangeFunc_ownF rfl (by decide) (gf := 64) (lb := #[.pointer (some ⟨Bs, 0, none⟩), .pointer (some ⟨Bf, 0, none⟩)]) rfl trivial (enters_of Try.func64 (by kernel_rfl) rfl)
    (free_stops _ Bs Bf D cap W0 hD0 hs0 hf0) kp_t (kp_b (by rintro B (rfl | rfl | rfl) <;> omega)) (Below.refl _ _) (fun _ => rfl)
    (fun pre W => ((∃ v, Boxed W w.heap.size 81 v ∧ W.ownsRow w.heap.size 3 1 v pre.length (pre.map (fun _ : Unit => Value.int .i64 1)) ∧ True) ∧ (Blk W Bs 110 #[.slice (some ⟨D, 0, none⟩) 3 cap] ∧ Blk W Bf 108 #[.func (.func 60) #[] #[]] ∧ Blk W D 65 #[.int .i64 1, .int .i64 40, .int .i64 160, .int .i64 0, .bool false, .int .i64 0, .bool false, .int .i64 0, .int .i64 0, .int .i64 0, .int .i64 0, .bool false, .int .i64 0, .bool false, .int .i64 3, .int .i64 41, .int .i64 0, .int .i64 0, .bool false, .int .i64 0, .bool false])) ∧ Below w.heap.size w W)
    (fun _ _ _ => False)
    (OwnFrom.and (Own.from (own_and (holdsRow_own w.heap.size w.heap.size 81 3 1 (fun pre : List Unit => pre.length) (fun pre : List Unit => pre.map (fun _ : Unit => Value.int .i64 1)) (fun _ _ => True)) (own_and (blk_own _ _ _) (own_and (blk_own _ _ _) (blk_own _ _ _)))) _) (ownFrom_below (Nat.le_refl _) (by omega)))
    (fun _ _ _ _ _ hs _ _ => hs)
    ⟨⟨⟨_, hb1, World.ownsRow_nil _ _ _ _, trivial⟩, hs0, hf0, hD0⟩, hB0⟩ ?a1 ?assign ?body ?done ?stop
  case assign =>
    intro l x W K hK
    gi_wp2
    exact hK
  case body =>
    rintro l pre x W ⟨⟨⟨v, hv, hrow, _⟩, hs1, hf1, hD1⟩, hB⟩ hlt0
    have hp : pre = [] := List.eq_nil_of_length_eq_zero (by omega)
    subst hp
    have hc := hv.cell
    gi_wp2_with (gi_at_builtin; refine wpListIn_append_own _ rfl (.tmp 7) (.tmp 9) 81 rfl w.heap.size 3 i0 (.int .i64 0) 1 8 Try.underlying81 hi hz0 hz1 hz2 rfl (by decide) v 0 _ rfl (hrow.alloc _) ⟨W.heap.size, 0, none⟩ 1 1 [.int .i64 1] rfl rfl (cell_one_new _ _ _) ?c1 (by unfold maxLen; omega) ?c2 ?c3 ?_)
    case c1 => intro u hu; simp at hu; subst hu; rfl
    case c2 => omega
    case c3 => have := hB.size; rw [World.size_alloc]; omega
    intro v' w1 hown' hgrow _
    obtain ⟨g', cap', rfl⟩ := ownsRow_succ hown'
    obtain ⟨hv1, hv2, hr2, hk2, hb2⟩ := hv.appended (by decide) hrow hB.size (by omega) hown' hgrow
    have s2 := hs1.appended (v' := .slice (some ⟨g', 0, none⟩) (0 + 1) cap') (B := w.heap.size) (by decide) (by omega) hrow hgrow
    have f2 := hf1.appended (v' := .slice (some ⟨g', 0, none⟩) (0 + 1) cap') (B := w.heap.size) (by decide) (by omega) hrow hgrow
    have D2 := hD1.appended (v' := .slice (some ⟨g', 0, none⟩) (0 + 1) cap') (B := w.heap.size) (by decide) (by omega) hrow hgrow
    have hc1 := hv1.cell
    have hfr1 := hv1.frozen
    have hc2 := hv2.cell
    have hkb : KP (fun B => B = Bs ∨ B = Bf ∨ B = D) W (w1.setCell ⟨w.heap.size, 0, none⟩ (.slice (some ⟨g', 0, none⟩) (0 + 1) cap')) := by
      rintro B (rfl | rfl | rfl)
      · exact Eq.trans s2 (Eq.symm hs1)
      · exact Eq.trans f2 (Eq.symm hf1)
      · exact Eq.trans D2 (Eq.symm hD1)
    have hI : ∃ v, Boxed (w1.setCell ⟨w.heap.size, 0, none⟩ (.slice (some ⟨g', 0, none⟩) (0 + 1) cap')) w.heap.size 81 v ∧ (w1.setCell ⟨w.heap.size, 0, none⟩ (.slice (some ⟨g', 0, none⟩) (0 + 1) cap')).ownsRow w.heap.size 3 1 v ([] ++ [x]).length (([] ++ [x]).map (fun _ : Unit => Value.int .i64 1)) ∧ True :=
      ⟨_, hv2, by simpa using hr2, trivial⟩
    have HI := Lib.hid hI
    have HK := Lib.hid hkb
    have H2 := Lib.hid hk2
    have HB2 := Lib.hid hb2
    have HN := Lib.hid (And.intro s2 (And.intro f2 D2))
    clear hI hkb hk2 hb2 s2 f2 D2 hown' hgrow hrow hr2 hv hc hv1 hv2
    gi_wp2
    exact ⟨H2.out, HK.out, ⟨HI.out, HN.out⟩, hB.trans HB2.out⟩
  case done =>
    rintro Dd ys W hDd rfl ⟨⟨⟨v, hv, hrow, _⟩, _⟩, hB⟩ hK
    have hc := hv.cell
    gi_wp2
    refine ⟨by simp, .inl ⟨_, _, rfl, run_takeDeferred hK, ?_⟩⟩
    exact ⟨_, results_tmp rfl _ _ _, v, rfl, ownsRow_putObj hrow _ hK rfl, hB.trans (belowK_b (w := w) (Nat.le_refl _) W Dd _ _ (by omega) hK rfl rfl)⟩
  case stop =>
    rintro Dd c pre W _ _ h _
    exact h.elim
end Go.Proofs.Ytoloccoodnbbdaa
