/- The ladder: what runs. -/
import Derived.RangeFuncNested
import Derived.RangeFuncBound
import Derived.RangeFuncCalls
import Derived.RangeFuncLeaves
import Derived.Shelf.Abstract
import Derived.Shelf.RegionOpen
import Derived.WalkKit
import Derived.OwnWalkIn
import Derived.TacticsInMore
import Derived.LoopNIn
import Derived.LoopIn
import Derived.WalkSpells
import Derived.WalkLawsBesides
import Derived.Deep.QuietTactic
import Derived.BigQuiet
import Derived.Lib.Hide
import Derived.Deep.WholeRow
import Derived.Deep.Onto
import Derived.RangeFuncWrites
import Derived.Test.YtoloccoodnbbdaaLdH
namespace Go.Proofs.Ytoloccoodnbbdaa
open Go.RowKit Go.Shelf
attribute [local go_sem] Oper.semAt_some
/-- A block of cells. -/
def Blk (W : World) (B : Nat) (t : TypeId) (C : Array Value) : Prop := W.heap[B]? = some (.cells C t (0, 0))
theorem Blk.lt {W : World} {B : Nat} {t : TypeId} {C : Array Value} (h : Blk W B t C) : B < W.heap.size := (Array.getElem?_eq_some_iff.1 h).1
theorem Blk.cell {W : World} {B : Nat} {t : TypeId} {C : Array Value} (h : Blk W B t C) (j : Nat) : W.cell? ⟨B, j, none⟩ = C[j]? := cell_of_row W B j C t (0, 0) h
theorem Blk.frozen {W : World} {B : Nat} {t : TypeId} {C : Array Value} (h : Blk W B t C) (j : Nat) : W.frozen? ⟨B, j, none⟩ = false := frozen_of_row W B j C t h
theorem Blk.new (W : World) (t : TypeId) (C : Array Value) : Blk (W.alloc (.cells C t)) W.heap.size t C := heap_alloc_new W _
theorem Blk.alloc {W : World} {B : Nat} {t : TypeId} {C : Array Value} (h : Blk W B t C) (o : Obj) : Blk (W.alloc o) B t C := (heap_alloc_old W o B h.lt).trans h
theorem Blk.set {W : World} {B : Nat} {t : TypeId} {C : Array Value} (h : Blk W B t C) (j : Nat) (v : Value) : Blk (W.setCell ⟨B, j, none⟩ v) B t (C.setIfInBounds j v) := heap_setCell_same W B j C t v h
theorem Blk.other {W : World} {B : Nat} {t : TypeId} {C : Array Value} (h : Blk W B t C) (a : Addr) (v : Value) (hne : B ≠ a.block) : Blk (W.setCell a v) B t C := (heap_setCell_other W a B v hne).trans h
theorem Blk.below {W W' : World} {B n : Nat} {t : TypeId} {C : Array Value} (h : Blk W B t C) (hb : Below n W W') (hlt : B < n) : Blk W' B t C := (hb.block B hlt).trans h
theorem Blk.put {W : World} {B l : Nat} {t : TypeId} {C : Array Value} {o : Obj} (h : Blk W B t C) (o' : Obj) (hl : W.heap[l]? = some o) (ho : o.isCells = false) : Blk (W.putObj l o') B t C :=
  ((grownBy_putObj' W l o').block B h.lt (fun e => by cases e; rw [show W.heap[B]? = _ from h] at hl; cases hl; cases ho)).trans h
theorem Blk.kb {W W' : World} {B : Nat} {t : TypeId} {C : Array Value} (h : Blk W B t C) (hk : KB B W W') : Blk W' B t C := Eq.trans hk h
theorem blk_own {β : Type} (B : Nat) (t : TypeId) (f : β → Array Value) : Own (fun s W => Blk W B t (f s)) := fun s X Y row hs hg hrow =>
  (hg.block B (Blk.lt hs) (fun e => by obtain ⟨o, ho, hc⟩ := hrow B e.symm; rw [show X.heap[B]? = _ from hs] at ho; cases ho; cases hc)).trans hs
theorem own_pure {β : Type} (p : β → Prop) : Own (fun s (_ : World) => p s) := fun _ _ _ _ hs _ _ => hs
theorem own_and {β : Type} {I I' : β → World → Prop} (h : Own I) (h' : Own I') : Own (fun s W => I s W ∧ I' s W) := fun s W W' row hs hg hr => ⟨h s W W' row hs.1 hg hr, h' s W W' row hs.2 hg hr⟩
theorem own_ex {β γ : Type} {I : γ → β → World → Prop} (h : ∀ c, Own (I c)) : Own (fun s W => ∃ c, I c s W) := fun s W W' row hs hg hr => by obtain ⟨c, hc⟩ := hs; exact ⟨c, h c s W W' row hc hg hr⟩
theorem kb_t {B : Nat} {X Y Z : World} (h : KB B X Y) (k : KB B Y Z) : KB B X Z := Eq.trans k h
theorem kb_b {B : Nat} {w : World} (hB : B < w.heap.size) (W : World) (l : Nat) (o o' : Obj) (hl : w.heap.size ≤ l) (h : W.heap[l]? = some o) (_ : o.isCells = false) (_ : o.isWalk = false) : KB B W (W.putObj l o') :=
  (grownBy_putObj' W l o').block B (by have := (Array.getElem?_eq_some_iff.1 h).1; omega) (fun e => by cases e; omega)
theorem kb_set {B : Nat} (W : World) (a : Addr) (v : Value) (h : B ≠ a.block) : KB B W (W.setCell a v) := heap_setCell_other W a B v h

theorem wpListIn_load_row {F : Fence} {n : Nat} {P : Program} {ops : Array Oper} {rest : List Oper} {o : Oper} {a : Act} {w : World} {Q : Exit → Act → World → Prop} (hgd : o.guard = none) (ty : TypeId) (x : Operand) (ho : o.op = .load ty x)
    (g : Nat) (hx : a.eval x = .pointer (some ⟨g, 0, none⟩)) (t : TypeId) (cs : Array Value) (fr : Nat × Nat) (d : TypeDesc) (hg : w.heap[g]? = some (.cells cs t fr))
    (hu : P.underlying ty = some d) (hd : (match d with | .struct _ | .array _ _ => true | _ => false) = true) (hi : (P.info? ty).map (·.size) = some cs.size)
    (h : wpListIn F n P ops Q rest (a.put o.dst (.agg cs)) w) : wpListIn F n P ops Q (o :: rest) a w := by
  refine wpListIn_plain hgd fun K hK => ?_
  unfold Oper.wpIn
  refine ⟨by simp [Oper.about, ho], ?_⟩
  rw [Oper.semAt_eq _ _ _ (by rw [ho]; intro c hc; cases hc)]
  simp only [execOp, ho, hx, Instr.loadAt, Instr.sureAddr, Sem.run_bind, Sem.run_pure, Result.andThen_ok, run_loadVar_row w g t ty cs fr d hg hu hd hi]
  exact hK _ _ h
theorem wpListIn_store_row {F : Fence} {n : Nat} {P : Program} {ops : Array Oper} {rest : List Oper} {o : Oper} {a : Act} {w : World} {Q : Exit → Act → World → Prop} (hgd : o.guard = none) (ty : TypeId) (x y : Operand) (ho : o.op = .store ty x y)
    (g : Nat) (cells : Array Value) (hx : a.eval x = .pointer (some ⟨g, 0, none⟩)) (hy : a.eval y = .agg cells)
    (t : TypeId) (old : Array Value) (hg : w.heap[g]? = some (.cells old t (0, 0))) (hi : (P.info? ty).map (·.size) = some cells.size)
    (hold : old.size = cells.size) (h1 : cells.all (·.oneCell') = true)
    (h : wpListIn F n P ops Q rest (a.put o.dst undef) (w.setRow g cells)) : wpListIn F n P ops Q (o :: rest) a w := by
  refine wpListIn_plain hgd fun K hK => ?_
  unfold Oper.wpIn
  refine ⟨by simp [Oper.about, ho], ?_⟩
  rw [Oper.semAt_eq _ _ _ (by rw [ho]; intro c hc; cases hc)]
  simp only [execOp, ho, hx, hy, Instr.storeAt, Instr.sureAddr, Sem.run_bind, Sem.run_pure, Result.andThen_ok, run_storeVar_row w g t ty old cells hg hi hold h1]
  exact hK _ _ h
theorem Blk.row {W : World} {B : Nat} {t : TypeId} {C : Array Value} (h : Blk W B t C) (D : Array Value) : Blk (W.setRow B D) B t D := setRow_heap W B C D t (0, 0) h
theorem Blk.row_other {W : World} {B : Nat} {t : TypeId} {C : Array Value} (h : Blk W B t C) (g : Nat) (D : Array Value) (hne : B ≠ g) : Blk (W.setRow g D) B t C := (setRow_other W g B D hne).trans h
theorem KeepsOthers.setRow (W : World) (g : Nat) (D : Array Value) {t : TypeId} {C : Array Value} (h : Blk W g t C) : KeepsOthers W (W.setRow g D) :=
  ⟨by rw [setRow_size]; exact Nat.le_refl _, fun k o hk ho => by
    by_cases e : k = g
    · subst e; rw [show W.heap[k]? = _ from h] at hk; cases hk; cases ho
    · exact (setRow_other W g k D e).trans hk⟩

set_option maxHeartbeats 400000 in
theorem all_in (x0 x1 : Nat) (w : World) :
    Calls Try.prog 38 #[lad x0 x1] w fun e w' => e = .returned (.func (.func 53) #[] #[.pointer (some ⟨w.heap.size, 0, none⟩)]) ∧ w.alloc (.cells #[.int .u32 (x0 : Int), .int .u32 (x1 : Int)] 27) = w' := by
  go_enter Try.func38, Try.ntmps38
  go_wp2
  go_ret
  exact ⟨rfl, rfl⟩

theorem all_stops (n Bn x0 x1 : Nat) (h0 : x0 < 2 ^ 32) (h1 : x1 < 2 ^ 32) (P : List I64) (hP : Hid (pairs (fw x0 x1) 64 = P)) (w : World) (hc : Blk w Bn 27 #[.int .u32 (x0 : Int), .int .u32 (x1 : Int)]) :
    SeqStopsK Fence.wide n Try.prog 53 #[.pointer (some ⟨Bn, 0, none⟩)] enc2 (KB Bn) (fun ys => ys = P) (fun pre => pre <+: P) P.length w := by
  have h := hP.out
  intro l J Jx W hW _ _ hY h00
  rw [← h] at hY ⊢
  exact all1_in n l Bn x0 x1 h0 h1 J Jx hY W ((hW.block Bn hc.lt).trans hc) h00

/-- The first one's priority and group, or what stands for none. -/
def runP (ps : List I64) : Int × Int := match ps with | [] => (255, 0) | p :: _ => (prioOf p, grpOf p)

set_option maxRecDepth 100000 in
set_option maxHeartbeats 1000000 in
theorem run_any (x0 x1 : Nat) (h0 : x0 < 2 ^ 32) (h1 : x1 < 2 ^ 32) (P : List I64) (hP : Hid (pairs (fw x0 x1) 64 = P)) (w : World) :
    Calls Try.prog 30 #[lad x0 x1] w fun e w' => e = .returned (.tuple #[.int .i64 (runP P).1, .int .i64 (runP P).2]) ∧ Below w.heap.size w w' := by
  refine (callsIn_wide (n := 9)).1 ?_
  refine callsIn_of_wp_marks Try.func30 rfl trivial ?_ rfl
  simp only [Try.ntmps30, List.size_toArray, List.length_cons, List.length_nil, Nat.reduceAdd, Nat.reduceSub, Array.replicate_succ, Array.replicate_zero, List.push_toArray, List.append_toArray, List.nil_append, List.cons_append]
  gi_wp2_with (refine ⟨trivial, ?_⟩; gi_at_call 38; refine (callsIn_wide.2 (all_in x0 x1 _)).mono ?_; rintro e w' ⟨rfl, rfl⟩)
  obtain ⟨W0, hW0⟩ : ∃ W0, (((w.alloc (.cells #[.int .u32 (x0 : Int), .int .u32 (x1 : Int)] 27)).alloc (.cells #[.int .i64 0] 3)).alloc (.cells #[.int .i64 0] 3)).alloc (.cells #[.int .u32 (x0 : Int), .int .u32 (x1 : Int)] 27) = W0 := ⟨_, rfl⟩
  have hB0 : Below w.heap.size w W0 := by rw [← hW0]; exact (((((Below.refl _ w).alloc (Nat.le_refl _) _).alloc (by simp) _).alloc (by simp; omega) _).alloc (by simp; omega) _)
  have hsz : W0.heap.size = w.heap.size + 4 := by rw [← hW0]; simp
  have hb2 : Blk W0 (w.heap.size + 1) 3 #[.int .i64 0] := by rw [← hW0]; have := (((Blk.new (w.alloc (.cells #[.int .u32 (x0 : Int), .int .u32 (x1 : Int)] 27)) 3 #[.int .i64 0]).alloc (.cells #[.int .i64 0] 3)).alloc (.cells #[.int .u32 (x0 : Int), .int .u32 (x1 : Int)] 27)); simpa using this
  have hb3 : Blk W0 (w.heap.size + 1 + 1) 3 #[.int .i64 0] := by rw [← hW0]; have := ((Blk.new ((w.alloc (.cells #[.int .u32 (x0 : Int), .int .u32 (x1 : Int)] 27)).alloc (.cells #[.int .i64 0] 3)) 3 #[.int .i64 0]).alloc (.cells #[.int .u32 (x0 : Int), .int .u32 (x1 : Int)] 27)); simpa using this
  have hbn : Blk W0 (w.heap.size + 1 + 1 + 1) 27 #[.int .u32 (x0 : Int), .int .u32 (x1 : Int)] := by rw [← hW0]; have := Blk.new (((w.alloc (.cells #[.int .u32 (x0 : Int), .int .u32 (x1 : Int)] 27)).alloc (.cells #[.int .i64 0] 3)).alloc (.cells #[.int .i64 0] 3)) 27 #[.int .u32 (x0 : Int), .int .u32 (x1 : Int)]; simpa using this
  rw [hW0]
  clear hW0
  refine wpIn_rangeFunc_ownF rfl (by decide) (gf := 53) (lb := #[.pointer (some ⟨w.heap.size + 1 + 1 + 1, 0, none⟩)]) rfl trivial (enters_of Try.func53 (by kernel_rfl) rfl)
    (all_stops _ (w.heap.size + 1 + 1 + 1) x0 x1 h0 h1 P hP W0 hbn) kb_t (kb_b (by omega)) (Below.refl _ _) (fun _ => rfl)
    (fun pre W => (pre = [] ∧ Blk W (w.heap.size + 1) 3 #[.int .i64 0] ∧ Blk W (w.heap.size + 1 + 1) 3 #[.int .i64 0]) ∧ Below w.heap.size w W)
    (fun c pre W => (c = .ret ∧ ∃ x, pre = [x] ∧ Blk W (w.heap.size + 1) 3 #[.int .i64 (prioOf x)] ∧ Blk W (w.heap.size + 1 + 1) 3 #[.int .i64 (grpOf x)]) ∧ Below w.heap.size w W)
    (OwnFrom.and (Own.from (own_and (own_pure _) (own_and (blk_own _ _ _) (blk_own _ _ _))) _) (ownFrom_below (Nat.le_refl _) (by omega)))
    (fun c => OwnFrom.and (Own.from (own_and (own_pure _) (own_ex fun x => own_and (own_pure _) (own_and (blk_own _ _ _) (blk_own _ _ _)))) _) (ownFrom_below (Nat.le_refl _) (by omega)))
    ⟨⟨rfl, hb2, hb3⟩, hB0⟩ ?a1 ?assign ?body ?done ?stop
  case assign =>
    intro l x W K hK
    gi_wp2
    exact hK
  case body =>
    rintro l pre x W ⟨⟨rfl, b2, b3⟩, hB⟩ _
    have c2 := b2.cell 0
    have f2 := b2.frozen 0
    have c3 := b3.cell 0
    have f3 := b3.frozen 0
    gi_wp2
    exact ⟨(KeepsOthers.setCell _ _ _).trans (KeepsOthers.setCell _ _ _), ⟨rfl, x, rfl, (b2.set 0 _).other _ _ (by simp), (b3.other _ _ (by simp)).set 0 _⟩,
      (hB.setCell (p := ⟨_, 0, none⟩) (by simp) _).setCell (p := ⟨_, 0, none⟩) (by simp; omega) _⟩
  case done =>
    rintro D ys W hD rfl ⟨⟨hne, b2, b3⟩, hB⟩ hK
    have c2 := b2.cell 0
    have f2 := b2.frozen 0
    have c3 := b3.cell 0
    have f3 := b3.frozen 0
    have HN := Lib.hid hne
    clear hne
    gi_wp2
    have hK' := ((KeepsOthers.setCell W ⟨w.heap.size + 1, 0, none⟩ (.int .i64 255)).trans (KeepsOthers.setCell _ ⟨w.heap.size + 1 + 1, 0, none⟩ (.int .i64 0))).same D _ hK rfl
    have hB' := (hB.setCell (p := ⟨w.heap.size + 1, 0, none⟩) (by simp) (.int .i64 255)).setCell (p := ⟨w.heap.size + 1 + 1, 0, none⟩) (by simp; omega) (.int .i64 0)
    refine ⟨by simp, .inl ⟨_, _, rfl, run_takeDeferred hK', ?_⟩⟩
    have d2 := (((b2.set 0 (.int .i64 255)).other ⟨w.heap.size + 1 + 1, 0, none⟩ (.int .i64 0) (by simp)).put (.deferred none) hK' rfl).cell 0
    have d3 := (((b3.other ⟨w.heap.size + 1, 0, none⟩ (.int .i64 255) (by simp)).set 0 (.int .i64 0)).put (.deferred none) hK' rfl).cell 0
    refine ⟨.tuple #[.int .i64 255, .int .i64 0], ?_, by rw [HN.out]; rfl, hB'.trans (belowK_b (w := w) (Nat.le_refl _) _ D _ _ (by omega) hK' rfl rfl)⟩
    simp at d2 d3
    simp [results, Try.f30, go_sem, d2, d3]
  case stop =>
    rintro D c pre W hD hpre ⟨⟨rfl, x, rfl, b2, b3⟩, hB⟩ hK
    gi_wp2
    refine ⟨by simp, .inl ⟨_, _, rfl, run_takeDeferred hK, ?_⟩⟩
    have d2 := (b2.put (.deferred none) hK rfl).cell 0
    have d3 := (b3.put (.deferred none) hK rfl).cell 0
    have hr : runP P = (prioOf x, grpOf x) := by
      obtain ⟨t, ht⟩ := hpre
      rw [← ht]; rfl
    refine ⟨.tuple #[.int .i64 (prioOf x), .int .i64 (grpOf x)], ?_, by rw [hr], hB.trans (belowK_b (w := w) (Nat.le_refl _) _ D _ _ (by omega) hK rfl rfl)⟩
    simp at d2 d3
    simp [results, Try.f30, go_sem, d2, d3]
end Go.Proofs.Ytoloccoodnbbdaa
