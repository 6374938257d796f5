/- Banks: those that may be taken. -/
import Derived.RangeFuncNested
import Derived.RangeFuncBound
import Derived.RangeFuncCalls
import Derived.RangeFuncLeaves
import Derived.Shelf.Abstract
import Derived.Shelf.RegionOpen
import Derived.WalkKit
import Derived.OwnWalkIn
import Derived.TacticsInMore
import Derived.LoopNIn
import Derived.LoopIn
import Derived.WalkSpells
import Derived.WalkLawsBesides
import Derived.Deep.QuietTactic
import Derived.BigQuiet
import Derived.Lib.Hide
import Derived.RangeFuncWrites
import Derived.Deep.WholeRow
import Derived.Deep.Onto
import Derived.Laws.Rows
import Derived.Laws.Tables
import Derived.Test.YtoloccoodnbbdaaBkH
import Derived.Test.YtoloccoodnbbdaaBkI
namespace Go.Proofs.Ytoloccoodnbbdaa
open Go.RowKit Go.Shelf
attribute [local go_sem] Oper.semAt_some

theorem fA_one (j : Nat) : (fA j).all (·.oneCell') = true := by
  unfold fA
  split <;> simp [ez, Value.oneCell']
def ReadyP (B : Nat) (w : World) (e : Ending) (w' : World) : Prop := ∃ P1 G g T cap, e = .returned (.func (.func 55) #[] #[.pointer (some ⟨P1, 0, none⟩), .pointer (some ⟨w.heap.size, 0, none⟩)]) ∧
  Blk w' P1 96 #[.func (.func 58) #[] #[.pointer (some ⟨G, 0, none⟩), .pointer (some ⟨T, 0, none⟩)]] ∧ Blk w' w.heap.size 98 #[.bool true, .bool true] ∧ Blk w' G 99 #[.slice (some ⟨g, 0, none⟩) 2 cap] ∧ Blk w' T 44 #[.pointer (some ⟨B, 0, none⟩)] ∧ RowB w' g 56 8 2 fA ∧
  (w.heap.size ≤ P1 ∧ w.heap.size ≤ G ∧ w.heap.size ≤ g ∧ w.heap.size ≤ T) ∧ Below w.heap.size w w'
set_option maxRecDepth 100000 in
set_option maxHeartbeats 1000000 in
theorem ready_any (B D : Nat) (w : World) (h : BP w B D 32 2 fA) : Calls Try.prog 41 #[.pointer (some ⟨B, 0, none⟩), .agg #[.bool true, .bool true]] w (ReadyP B w) := by
  have h2 := h.below (one_box w (.cells #[.bool true, .bool true] 98))
  have z0 := Blk.new w 98 #[.bool true, .bool true]
  have hsf : ∀ (W : World) (a : Addr) (f : Nat) (c : Array Value), (store a (.func (.func f) #[] c)).run Try.prog W = stored Try.prog W a (.func (.func f) #[] c) .plain := fun W a f c => run_store Try.prog W a _ _ rfl
  clear h
  go_enter Try.func41, Try.ntmps41
  go_wp2_with (go_at_call 42; refine (all_any B D 32 2 fA _ h2 (fun j _ => fA_one j) (by omega)).mono ?_; rintro e w1 ⟨G, g, cap, rfl, hG, hT, hl1, hl2, hR, hB⟩; have z1 := z0.below hB z0.lt; have s0 : (w.alloc (.cells #[.bool true, .bool true] 98)).heap.size = w.heap.size + 1 := (by simp))
  have hT2 : Blk w1 (w.heap.size + 1) 44 #[.pointer (some ⟨B, 0, none⟩)] := by rw [← s0]; exact hT
  go_ret
  exact ⟨w1.heap.size, G, g, w.heap.size + 1, cap, rfl, Blk.new w1 96 _, z1.alloc _, hG.alloc _, hT2.alloc _, hR.below (one_box w1 _) hR.lt, ⟨by have := z1.lt; omega, by omega, by omega, by omega⟩, ((one_box w (.cells #[.bool true, .bool true] 98)).trans (hB.mono (by simp))).alloc (by have := z1.lt; omega) _⟩
end Go.Proofs.Ytoloccoodnbbdaa
