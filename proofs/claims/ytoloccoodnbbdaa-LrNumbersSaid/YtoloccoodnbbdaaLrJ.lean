/- Regions that draw: two that are made. -/
import Derived.RangeFuncNested
import Derived.RangeFuncBound
import Derived.RangeFuncCalls
import Derived.RangeFuncLeaves
import Derived.Shelf.Abstract
import Derived.Shelf.RegionOpen
import Derived.WalkKit
import Derived.OwnWalkIn
import Derived.TacticsInMore
import Derived.LoopNIn
import Derived.LoopIn
import Derived.WalkSpells
import Derived.WalkLawsBesides
import Derived.Deep.QuietTactic
import Derived.BigQuiet
import Derived.Lib.Hide
import Derived.Deep.WholeRow
import Derived.Laws.Rows
import Derived.Laws.Tables
import Derived.Test.YtoloccoodnbbdaaLrD
import Derived.Test.YtoloccoodnbbdaaLdI
import Derived.Test.YtoloccoodnbbdaaLdO
import Derived.Test.YtoloccoodnbbdaaHd
namespace Go.Proofs.Ytoloccoodnbbdaa
open Go.RowKit Go.Shelf
attribute [local go_sem] Oper.semAt_some

theorem joinH {P : Program} {md : Region.Mode} {ops : Array Oper} {Q : Exit → Act → World → Prop} {S : World → Prop} {fuel : Nat} {listed : Array Bool} {l : List Value} {ds : List Deferred} {w : World} (fuel' : Nat) (listed' : Array Bool) (i j : Nat) (F : Nat → Nat → World → Prop)
    (hcont : ∀ s t w', F s t w' → wpAnyH P md ops Q S fuel' listed' ⟨((l.set i (.pointer (some ⟨s, 0, none⟩))).set j (.pointer (some ⟨t, 0, none⟩))).toArray, ds⟩ w')
    (h : (∀ s t w', F s t w' → wpAnyH P md ops Q S fuel' listed' ⟨((l.set i (.pointer (some ⟨s, 0, none⟩))).set j (.pointer (some ⟨t, 0, none⟩))).toArray, ds⟩ w') → wpAnyH P md ops Q S fuel listed ⟨l.toArray, ds⟩ w) : wpAnyH P md ops Q S fuel listed ⟨l.toArray, ds⟩ w := h hcont
theorem op_alloc {P : Program} {ops : Array Oper} {Q : Exit → Act → World → Prop} {K : Act → World → Prop} {l : List Value} {ds : List Deferred} {w : World} {i d : Nat} {o : Oper} (ho : ops[i]? = some o) (hd : o.dst = some d) (hw : Region.wanted o (yielded ops l.toArray) = true)
    (cells : Array Value) (ty : TypeId) (hrun : (execOp (Act.eval ⟨l.toArray, ds⟩) o).run P w = .ok (.value (.pointer (some ⟨w.heap.size, 0, none⟩))) (w.alloc (.cells cells ty)))
    (h : K ⟨(l.set d (.pointer (some ⟨w.heap.size, 0, none⟩))).toArray, ds⟩ (w.alloc (.cells cells ty))) : wpOp P ops Q i K ⟨l.toArray, ds⟩ w := by
  unfold wpOp
  simp only [ho, hw, if_true]
  refine .inl ?_
  unfold Oper.wp
  rw [hrun]
  show K _ _
  rw [hd]
  simpa [Act.put] using h
theorem load_blk {P : Program} {ρ : Operand → Value} {o : Oper} {W : World} {g : Nat} {t : TypeId} {C : Array Value} (h : Blk W g t C) (ty : TypeId) (x : Operand) (ho : o.op = .load ty x) (hx : ρ x = .pointer (some ⟨g, 0, none⟩)) (d : TypeDesc)
    (hu : P.underlying ty = some d) (hd : (match d with | .struct _ | .array _ _ => true | _ => false) = true) (hi : (P.info? ty).map (·.size) = some C.size) : (execOp ρ o).run P W = .ok (.value (.agg C)) W := by
  simp only [execOp, ho, hx, Instr.loadAt, Instr.sureAddr, Sem.run_bind, Sem.run_pure, Result.andThen_ok, run_loadVar_row W g t ty C (0, 0) d h hu hd hi]
end Go.Proofs.Ytoloccoodnbbdaa
