/- A region that draws, in a round of a loop over a function. -/
import Derived.RangeFuncNested
import Derived.RangeFuncBound
import Derived.RangeFuncCalls
import Derived.RangeFuncLeaves
import Derived.Shelf.Abstract
import Derived.Shelf.RegionOpen
import Derived.WalkKit
import Derived.OwnWalkIn
import Derived.TacticsInMore
import Derived.LoopNIn
import Derived.LoopIn
import Derived.WalkSpells
import Derived.WalkLawsBesides
import Derived.Deep.QuietTactic
import Derived.BigQuiet
import Derived.Lib.Hide
import Derived.RangeFuncWrites
import Derived.Deep.WholeRow
import Derived.Laws.Rows
import Derived.Laws.Tables
import Derived.OrdersIn
import Derived.Test.YtoloccoodnbbdaaProg
namespace Go.Proofs.Ytoloccoodnbbdaa
open Go.RowKit Go.Shelf
attribute [local go_sem] Oper.semAt_some

theorem oper_lift {P : Program} (l n : Nat) {o : Oper} (hnd : ∀ c, o.op ≠ .defer c) {a : Act} {w : World} {K K' : Act → World → Prop} {Q : Exit → Act → World → Prop} (hK : ∀ a w, K a w → K' a w) (h : o.wp P a w K Q) : o.wpIn (Fence.wide.inRound l) n P a w K' Q := by
  unfold Oper.wpIn
  refine ⟨fun _ _ => trivial, ?_⟩
  rw [show (Fence.wide.inRound l).round = some l from rfl, Oper.semAt_some l _ _ hnd]
  unfold Oper.wp at h
  generalize (execOp a.eval o).run P w = r at h ⊢
  cases r with
  | ok x w' =>
    cases x with
    | value v => exact hK _ _ h
    | skip => exact hK _ _ h
    | defer d => exact hK _ _ h
    | enter f args =>
      refine ⟨fun e => (by cases e), CallsIn.mono (show CallsIn (Fence.wide.inRound l) (n - 1) P f args w' _ from callsIn_wide.2 h) (fun e w'' he => ?_)⟩
      cases e with
      | returned v => exact hK _ _ he
      | panicked c => exact he
      | outgrown => exact he
    | row row args =>
      refine ⟨fun e => (by cases e), fun c cs _ => ?_⟩
      obtain ⟨v, w2, r, s⟩ := h c cs
      exact ⟨v, w2, hK _ _ r, (stepsIn_wide.2 s : StepsIn (Machine.fenced P Fence.wide) P _ _)⟩
    | round l f tmps assign body => exact h.elim
    | _ => exact h.elim
  | halt x w' =>
    cases x with
    | panic v => exact h
    | _ => exact h.elim
theorem ops_lift {P : Program} (l n : Nat) {ops : Array Oper} {Q : Exit → Act → World → Prop} (hnd : ∀ (i : Nat) o, ops[i]? = some o → ∀ c, o.op ≠ .defer c) (hL : ¬ LetsOut Q) : ∀ (is : List Nat) (a : Act) (w : World), wpOps P ops Q is a w → wpOpsIn (Fence.wide.inRound l) n P ops Q is a w
  | [], _, _, h => h
  | i :: rest, a, w, h => by
    simp only [wpOps, wpOpsIn] at h ⊢
    cases ho : ops[i]? with
    | none =>
      simp only [ho] at h ⊢
      exact ops_lift l n hnd hL rest a w h
    | some o =>
      simp only [ho] at h ⊢
      by_cases hw : Region.wanted o (yielded ops a.tmps) = true
      · simp only [hw, if_true] at h ⊢
        rcases h with h | ⟨_, h⟩
        · exact oper_lift l n (hnd i o ho) (fun a w h => ops_lift l n hnd hL rest a w h) h
        · exact absurd h hL
      · simp only [hw, if_false, Bool.false_eq_true] at h ⊢
        exact ⟨fun _ _ => trivial, ops_lift l n hnd hL rest _ w h⟩
def noDefer (ops : Array Oper) : Bool := ops.all fun o => match o.op with | .defer _ => false | _ => true
theorem noDefer_of {ops : Array Oper} (h : noDefer ops = true) : ∀ (i : Nat) o, ops[i]? = some o → ∀ c, o.op ≠ .defer c := by
  intro i o hi c hc
  unfold noDefer at h
  rw [Array.all_eq_true] at h
  obtain ⟨hlt, rfl⟩ := Array.getElem?_eq_some_iff.1 hi
  have := h i hlt
  rw [hc] at this
  cases this
theorem region_lift {P : Program} (l n : Nat) {id : Nat} {ops : Array Oper} {Q : Exit → Act → World → Prop} {a : Act} {w : World} (hnd : noDefer ops = true) (hL : ¬ LetsOut Q) (hm : P.follows .mixedOrders = true)
    (h : wpAny P .any ops Q ops.size (Array.replicate ops.size false) a { w with drawn := w.drawn + 1 }) : (Code.region id ops true).wpIn (Fence.wide.inRound l) n P Q a w :=
  wpIn_region_draw fun t => by
    simp only [Region.schedule, hm, Bool.true_or, if_true]
    exact ops_lift l n (noDefer_of hnd) hL _ _ _ (wpAny_sound ops.size t _ a _ h)
/-- A region that draws and only reads, in a round. -/
theorem region_quiet_round {P : Program} (l n : Nat) {id : Nat} {Q : Exit → Act → World → Prop} {a : Act} {w : World} {ls : List Oper} (hnd : noDefer ls.toArray = true) (hL : ¬ LetsOut Q) (hm : P.follows .mixedOrders = true) (hB : Region.lexB .any ls.toArray = true)
    (h : wpQuiet P ls.toArray (fun w' => ∃ n, w' = w.drewN n) (fun a' => ∀ w', (∃ n, w' = w.drewN n) → Q .normal a' w') ls a) : (Code.region id ls.toArray true).wpIn (Fence.wide.inRound l) n P Q a w := by
  refine region_lift l n hnd hL hm (wpAny_of_quiet (C := fun w' => ∃ n, w' = w.drewN n) (Q := fun a' => ∀ w', (∃ n, w' = w.drewN n) → Q .normal a' w') (fun _ w' hw' h => h w' hw') _ _ _ _ ⟨1, rfl⟩ ?_)
  simp only [Region.lexB, Bool.and_eq_true] at hB
  have := wpAnyQ_lex (C := fun w' => ∃ n, w' = w.drewN n) (md := .any) hB.1 ls 0 (Array.replicate ls.toArray.size false) a (by simp) (by simpa using hB.2) (by simpa using h)
  simpa using this
end Go.Proofs.Ytoloccoodnbbdaa
