/- Banks: which they have. -/
import Derived.RangeFuncNested
import Derived.RangeFuncBound
import Derived.RangeFuncCalls
import Derived.RangeFuncLeaves
import Derived.Shelf.Abstract
import Derived.Shelf.RegionOpen
import Derived.WalkKit
import Derived.OwnWalkIn
import Derived.TacticsInMore
import Derived.LoopNIn
import Derived.LoopIn
import Derived.WalkSpells
import Derived.WalkLawsBesides
import Derived.Deep.QuietTactic
import Derived.BigQuiet
import Derived.Lib.Hide
import Derived.StillTailTactics
import Derived.Laws.MakeOwn
import Derived.Deep.WholeRow
import Derived.Laws.Rows
import Derived.Laws.Tables
import Derived.Test.YtoloccoodnbbdaaBkA
namespace Go.Proofs.Ytoloccoodnbbdaa
open Go.RowKit Go.Shelf
attribute [local go_sem] Oper.semAt_some

/-- A bank, in memory. -/
def BP (W : World) (B D first n : Nat) (f : Nat → Array Value) : Prop := Blk W B 101 #[.int .i64 (first : Int), .slice (some ⟨D, 0, none⟩) n n] ∧ RowB W D 56 8 n f
theorem BP.below {W W' : World} {B D first n : Nat} {f : Nat → Array Value} (h : BP W B D first n f) (hb : Below W.heap.size W W') : BP W' B D first n f := ⟨h.1.below hb h.1.lt, h.2.below hb h.2.lt⟩

def inB (first n : Nat) (id : Int) : Bool := decide ((first : Int) ≤ id) && decide (id - (first : Int) < (n : Int))
set_option maxRecDepth 100000 in
set_option maxHeartbeats 1000000 in
theorem bhas_any (B D first n : Nat) (f : Nat → Array Value) (id : Int) (w : World) (h : BP w B D first n f) (hf : first ≤ 16384) (hn : n ≤ 16384) (h1 : id ≤ 9223372036854775807) :
    Calls Try.prog 22 #[.pointer (some ⟨B, 0, none⟩), .int .i64 id] w fun e w' => e = .returned (.bool (inB first n id)) ∧ ∃ m, w' = w.drewN m := by
  have c0 := h.1.cell 0
  have c1 := h.1.cell 1
  clear h
  by_cases t1 : (first : Int) ≤ id
  · have d1 : decide ((first : Int) ≤ id) = true := by simpa using t1
    obtain ⟨b, d2⟩ : ∃ b, decide (id - (first : Int) < (n : Int)) = b := ⟨_, rfl⟩
    have hr : inB first n id = b := by unfold inB; rw [d1, d2]; rfl
    rw [hr]
    clear hr
    go_enter Try.func22, Try.ntmps22
    go_wp2
    go_quiet (fail)
    go_wp2
    go_ret
    exact ⟨rfl, nq, rfl⟩
  · have d1 : decide ((first : Int) ≤ id) = false := by simpa using t1
    have hr : inB first n id = false := by unfold inB; rw [d1]; rfl
    rw [hr]
    clear hr
    go_enter Try.func22, Try.ntmps22
    go_wp2
    go_quiet (fail)
    go_wp2
    go_ret
    exact ⟨rfl, nq, rfl⟩
theorem info56s (C : Array Value) (h : C.size = 8) : (Try.prog.info? 56).map (·.size) = some C.size := by rw [h]; kernel_rfl
set_option maxRecDepth 100000 in
set_option maxHeartbeats 1000000 in
theorem bget_no (B D first n : Nat) (f : Nat → Array Value) (id : Int) (w : World) (h : BP w B D first n f) (hf : first ≤ 16384) (hn : n ≤ 16384) (h1 : id ≤ 9223372036854775807) (hi : inB first n id = false) :
    Calls Try.prog 20 #[.pointer (some ⟨B, 0, none⟩), .int .i64 id] w fun e w' => e = .returned (.tuple #[.agg #[.bool false, .bool false, .bool false, .bool false, .bool false, .int .i64 0, .int .i64 0, .string ⟨#[]⟩], .int .i64 90]) ∧ Below w.heap.size w w' := by
  have cH : ∀ w, BP w B D first n f → Calls Try.prog 22 #[.pointer (some ⟨B, 0, none⟩), .int .i64 id] w fun e w' => e = .returned (.bool false) ∧ ∃ m, w' = w.drewN m := fun w h => hi ▸ bhas_any B D first n f id w h hf hn h1
  have h2 := h.below (one_box w (.cells #[.bool false, .bool false, .bool false, .bool false, .bool false, .int .i64 0, .int .i64 0, .string ⟨#[]⟩] 56))
  have z0 := Blk.new w 56 #[.bool false, .bool false, .bool false, .bool false, .bool false, .int .i64 0, .int .i64 0, .string ⟨#[]⟩]
  clear hi h
  go_enter Try.func20, Try.ntmps20
  go_wp2_with (first | (go_at_call 22; refine (cH _ h2).mono ?_; rintro e w1 ⟨rfl, m, rfl⟩; have z1 : Blk ((w.alloc (.cells #[.bool false, .bool false, .bool false, .bool false, .bool false, .int .i64 0, .int .i64 0, .string ⟨#[]⟩] 56)).drewN m) w.heap.size 56 #[.bool false, .bool false, .bool false, .bool false, .bool false, .int .i64 0, .int .i64 0, .string ⟨#[]⟩] := z0) | (refine wpList_store_row rfl 56 _ _ rfl w.heap.size #[.bool false, .bool false, .bool false, .bool false, .bool false, .int .i64 0, .int .i64 0, .string ⟨#[]⟩] rfl rfl 56 _ z1 (info56s _ rfl) rfl (by simp [Value.oneCell']) ?_; have z2 := z1.row #[.bool false, .bool false, .bool false, .bool false, .bool false, .int .i64 0, .int .i64 0, .string ⟨#[]⟩]))
  exact bodyPost_ret (v := .tuple #[.agg #[.bool false, .bool false, .bool false, .bool false, .bool false, .int .i64 0, .int .i64 0, .string ⟨#[]⟩], .int .i64 90]) (results_cell_tmp (fn := Try.f20) Try.results20 _ _ w.heap.size 56 _ (0, 0) _ rfl z2 Try.underlying56 rfl (info56s _ rfl)) rfl ⟨rfl, below_setRow (below_drewN (one_box w _) m) (Nat.le_refl _) _⟩
set_option maxRecDepth 100000 in
set_option maxHeartbeats 1000000 in
theorem bget_yes (B D first n k : Nat) (v0 v1 v2 v3 v4 v5 v6 v7 : Value) (f : Nat → Array Value) (id : Int) (w : World) (h : BP w B D first n f) (hf : first ≤ 16384) (hn : n ≤ 16384) (hk : k < n) (hid : id = (first : Int) + (k : Int)) (hfk : f k = #[v0, v1, v2, v3, v4, v5, v6, v7]) (ho : #[v0, v1, v2, v3, v4, v5, v6, v7].all (·.oneCell') = true) :
    Calls Try.prog 20 #[.pointer (some ⟨B, 0, none⟩), .int .i64 id] w fun e w' => e = .returned (.tuple #[.agg (f k), .int .i64 0]) ∧ Below w.heap.size w w' := by
  have hi : inB first n id = true := by subst hid; unfold inB; simp; omega
  have cH : ∀ w, BP w B D first n f → Calls Try.prog 22 #[.pointer (some ⟨B, 0, none⟩), .int .i64 id] w fun e w' => e = .returned (.bool true) ∧ ∃ m, w' = w.drewN m := fun w h => hi ▸ bhas_any B D first n f id w h hf hn (by omega)
  have h2 := h.below (one_box w (.cells #[.bool false, .bool false, .bool false, .bool false, .bool false, .int .i64 0, .int .i64 0, .string ⟨#[]⟩] 56))
  have z0 := Blk.new w 56 #[.bool false, .bool false, .bool false, .bool false, .bool false, .int .i64 0, .int .i64 0, .string ⟨#[]⟩]
  have hlk : (k : Int) < (n : Int) := by omega
  clear hi h
  subst hid
  rw [hfk]
  have HF := Lib.hid hfk
  clear hfk
  go_enter Try.func20, Try.ntmps20
  go_wp2_with (go_at_call 22; refine (cH _ h2).mono ?_; rintro e w1 ⟨rfl, m, hw1⟩; have b1 : BP w1 B D first n f := (by rw [hw1]; exact h2); have z1 : Blk w1 w.heap.size 56 #[.bool false, .bool false, .bool false, .bool false, .bool false, .int .i64 0, .int .i64 0, .string ⟨#[]⟩] := (by rw [hw1]; exact z0); have B1 : Below w.heap.size w w1 := (by rw [hw1]; exact below_drewN (one_box w _) m); clear hw1)
  clear h2 z0
  have c0 := b1.1.cell 0
  have c1 := b1.1.cell 1
  have q0 : w1.cell? ⟨D, k * 8, none⟩ = some v0 := b1.2.cell hk (i := 0) (by omega) (v := v0) (by rw [HF.out]; rfl)
  have q1 := b1.2.cell hk (i := 1) (by omega) (v := v1) (by rw [HF.out]; rfl)
  have q2 := b1.2.cell hk (i := 2) (by omega) (v := v2) (by rw [HF.out]; rfl)
  have q3 := b1.2.cell hk (i := 3) (by omega) (v := v3) (by rw [HF.out]; rfl)
  have q4 := b1.2.cell hk (i := 4) (by omega) (v := v4) (by rw [HF.out]; rfl)
  have q5 := b1.2.cell hk (i := 5) (by omega) (v := v5) (by rw [HF.out]; rfl)
  have q6 := b1.2.cell hk (i := 6) (by omega) (v := v6) (by rw [HF.out]; rfl)
  have q7 := b1.2.cell hk (i := 7) (by omega) (v := v7) (by rw [HF.out]; rfl)
  have ew : IntKind.i64.wrap ((first : Int) + (k : Int) - (first : Int)) = (k : Int) := by rw [IntKind.wrap_i64]; omega
  go_still_tail 12, (by kernel_rfl)
  change wpList _ _ _ _ _ w1.drew
  have z2 : Blk w1.drew w.heap.size 56 #[.bool false, .bool false, .bool false, .bool false, .bool false, .int .i64 0, .int .i64 0, .string ⟨#[]⟩] := z1
  have B2 : Below w.heap.size w w1.drew := B1.drew
  generalize w1.drew = w2 at z2 B2 ⊢
  go_wp2_with (refine wpList_store_row rfl 56 _ _ rfl w.heap.size #[v0, v1, v2, v3, v4, v5, v6, v7] rfl rfl 56 _ z2 (info56s _ rfl) rfl ho ?_; have z3 := z2.row #[v0, v1, v2, v3, v4, v5, v6, v7])
  exact bodyPost_ret (v := .tuple #[.agg #[v0, v1, v2, v3, v4, v5, v6, v7], .int .i64 0]) (results_cell_tmp (fn := Try.f20) Try.results20 _ _ w.heap.size 56 _ (0, 0) _ rfl z3 Try.underlying56 rfl (info56s _ rfl)) rfl ⟨rfl, below_setRow B2 (Nat.le_refl _) _⟩
end Go.Proofs.Ytoloccoodnbbdaa
