/- Steps through a region that draws its order: a load, a comparison, a call. -/
import Derived.WalkKit
import Derived.Deep.RegionHeld3
import Derived.KernelRfl
import Derived.Laws.Rows
import Derived.Laws.Tables
namespace Go.Proofs.Ytoloccoodnbbdaa
open Go.RowKit

theorem exec_load {P : Program} {ρ : Operand → Value} {o : Oper} (ty : TypeId) (x : Operand) (ho : o.op = .load ty x) (a : Addr) (hx : ρ x = .pointer (some a)) {v : Value} {w : World}
    (h : (Instr.loadAt ty (.pointer (some a))).run P w = .ok v w) : (execOp ρ o).run P w = .ok (.value v) w := by
  unfold execOp
  simp only [ho, hx, Sem.run_bind, h, Result.andThen, Sem.run_pure]
theorem exec_bin {P : Program} {ρ : Operand → Value} {o : Oper} (op : BinOp) (t u : TypeId) (x y : Operand) (ho : o.op = .binOp op t x y u) (a b : Value) (ha : ρ x = a) (hb : ρ y = b) {v : Value} {w : World}
    (h1 : (eqGuard op t x y a b).run P w = .ok () w) (h : (binOp op t a b).run P w = .ok v w) : (execOp ρ o).run P w = .ok (.value v) w := by
  unfold execOp
  simp only [ho, ha, hb, Sem.run_bind, h1, h, Result.andThen, Sem.run_pure]
theorem exec_call {P : Program} {ρ : Operand → Value} {o : Oper} (f : Nat) (l : List Operand) (ts : Array TypeId) (ho : o.op = .call { callee := .value (.func f), args := l.toArray, argTypes := ts })
    (hf : ρ (.func f) = .func (.func f) #[] #[]) (eg : ∀ args w, (callFunc f args).run P w = .ok (.enter f args) w) (w : World) : (execOp ρ o).run P w = .ok (.enter f (l.map ρ).toArray) w := by
  unfold execOp
  simp [ho, resolve, hf, invoke, go_sem, eg]
theorem wpAnyH_call {P : Program} {md : Region.Mode} {ops : Array Oper} {Q : Exit → Act → World → Prop} {S : World → Prop} {fuel : Nat} {listed : Array Bool} {a : Act} {w : World} {i : Nat} {o : Oper} {f : Nat} {args : Array Value} {R : Ending → World → Prop}
    (ho : ops[i]? = some o) (hr : Region.ready md ops listed = [i]) (hw : Region.wanted o (yielded ops a.tmps) = true) (he : (execOp a.eval o).run P w = .ok (.enter f args) w) (hc : Calls P f args w R)
    (h : ∀ e w', R e w' → ∃ v, e = .returned v ∧ S w' ∧ wpAnyH P md ops Q S fuel (listed.setIfInBounds i true) (a.put o.dst v) w') : wpAnyH P md ops Q S (fuel + 1) listed a w := by
  refine wpAnyH_all hr (by simp) (fun j hj => ?_)
  obtain rfl : j = i := by simpa using hj
  unfold wpOp
  simp only [ho, hw, if_true]
  refine .inl ?_
  unfold Oper.wp
  rw [he]
  refine hc.mono fun e w' hR => ?_
  obtain ⟨v, rfl, hS, hn⟩ := h e w' hR
  exact ⟨hS, hn⟩

theorem stepH {P : Program} {md : Region.Mode} {ops : Array Oper} {Q : Exit → Act → World → Prop} {S : World → Prop} {fuel : Nat} {listed : Array Bool} {l : List Value} {ds : List Deferred} {w : World} {i d : Nat} {oi : Oper} {v : Value}
    (hi : ops[i]? = some oi) (hd : oi.dst = some d) (hs : Region.noSelect ops = true) (hf : Region.free md ops listed i = true) (hr : (Region.ready md ops listed).contains i = true)
    (hQ : ∀ c a w, Q (.panic c) (a.put oi.dst v) w → Q (.panic c) a w) (hy : YieldsIf P ops S oi v ⟨l.toArray, ds⟩) (hS : S w)
    (h : wpAnyH P md ops Q S fuel (listed.setIfInBounds i true) ⟨(l.set d v).toArray, ds⟩ w) : wpAnyH P md ops Q S (fuel + 1) listed ⟨l.toArray, ds⟩ w := by
  refine wpAnyH_take hi hs hf hr hQ hy hS ?_
  rw [hd]
  simpa [Act.put] using h
theorem stepCall {P : Program} {md : Region.Mode} {ops : Array Oper} {Q : Exit → Act → World → Prop} {S : World → Prop} {fuel : Nat} {listed : Array Bool} {l : List Value} {ds : List Deferred} {w : World} {i d : Nat} {o : Oper} {f : Nat} {args : Array Value} {R : Ending → World → Prop}
    (ho : ops[i]? = some o) (hd : o.dst = some d) (hr : Region.ready md ops listed = [i]) (hw : Region.wanted o (yielded ops l.toArray) = true) (he : (execOp (Act.eval ⟨l.toArray, ds⟩) o).run P w = .ok (.enter f args) w) (hc : Calls P f args w R)
    (h : ∀ e w', R e w' → ∃ v, e = .returned v ∧ S w' ∧ wpAnyH P md ops Q S fuel (listed.setIfInBounds i true) ⟨(l.set d v).toArray, ds⟩ w') : wpAnyH P md ops Q S (fuel + 1) listed ⟨l.toArray, ds⟩ w := by
  refine wpAnyH_call ho hr hw he hc fun e w' hR => ?_
  obtain ⟨v, rfl, hS, hn⟩ := h e w' hR
  refine ⟨v, rfl, hS, ?_⟩
  rw [hd]
  simpa [Act.put] using hn

theorem stepTwo {P : Program} {md : Region.Mode} {ops : Array Oper} {Q : Exit → Act → World → Prop} {S : World → Prop} {fuel : Nat} {listed : Array Bool} {a : Act} {w : World} {i j : Nat}
    (hr : Region.ready md ops listed = [i, j]) (h1 : wpOp P ops Q i (fun a' w' => S w' ∧ wpAnyH P md ops Q S fuel (listed.setIfInBounds i true) a' w') a w)
    (h2 : wpOp P ops Q j (fun a' w' => S w' ∧ wpAnyH P md ops Q S fuel (listed.setIfInBounds j true) a' w') a w) : wpAnyH P md ops Q S (fuel + 1) listed a w := by
  refine wpAnyH_all hr (by simp) (fun k hk => ?_)
  have : k = i ∨ k = j := by simpa using hk
  rcases this with rfl | rfl
  · exact h1
  · exact h2
theorem stepOne {P : Program} {md : Region.Mode} {ops : Array Oper} {Q : Exit → Act → World → Prop} {S : World → Prop} {fuel : Nat} {listed : Array Bool} {a : Act} {w : World} {i : Nat}
    (hr : Region.ready md ops listed = [i]) (h1 : wpOp P ops Q i (fun a' w' => S w' ∧ wpAnyH P md ops Q S fuel (listed.setIfInBounds i true) a' w') a w) : wpAnyH P md ops Q S (fuel + 1) listed a w := by
  refine wpAnyH_all hr (by simp) (fun k hk => ?_)
  obtain rfl : k = i := by simpa using hk
  exact h1
theorem op_store {P : Program} {ops : Array Oper} {Q : Exit → Act → World → Prop} {K : Act → World → Prop} {a : Act} {w : World} {i : Nat} {o : Oper} (ho : ops[i]? = some o) (hd : o.dst = none) (hw : Region.wanted o (yielded ops a.tmps) = true)
    (ty : TypeId) (x y : Operand) (hop : o.op = .store ty x y) (g : Nat) (cells : Array Value) (hx : a.eval x = .pointer (some ⟨g, 0, none⟩)) (hy : a.eval y = .agg cells)
    (t : TypeId) (old : Array Value) (hg : w.heap[g]? = some (.cells old t (0, 0))) (hi : (P.info? ty).map (·.size) = some cells.size)
    (hold : old.size = cells.size) (h1 : cells.all (·.oneCell') = true) (h : K a (w.setRow g cells)) : wpOp P ops Q i K a w := by
  unfold wpOp
  simp only [ho, hw, if_true]
  refine .inl ?_
  refine wp_store_row ty x y hop g cells hx hy t old hg hi hold h1 ?_
  rw [hd]
  exact h
end Go.Proofs.Ytoloccoodnbbdaa
