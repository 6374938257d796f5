/- Banks: the example's Put. -/
import Derived.RangeFuncNested
import Derived.RangeFuncBound
import Derived.RangeFuncCalls
import Derived.RangeFuncLeaves
import Derived.Shelf.Abstract
import Derived.Shelf.RegionOpen
import Derived.WalkKit
import Derived.OwnWalkIn
import Derived.TacticsInMore
import Derived.LoopNIn
import Derived.LoopIn
import Derived.WalkSpells
import Derived.WalkLawsBesides
import Derived.Deep.QuietTactic
import Derived.BigQuiet
import Derived.Lib.Hide
import Derived.StillTailTactics
import Derived.Deep.WholeRow
import Derived.Laws.Rows
import Derived.Laws.Tables
import Derived.Test.YtoloccoodnbbdaaBkE
namespace Go.Proofs.Ytoloccoodnbbdaa
open Go.RowKit Go.Shelf
attribute [local go_sem] Oper.semAt_some

theorem real_165 (w : World) : Calls Try.prog 51 #[.int .i64 165] w fun e w' => e = .returned (.int .i64 160) ∧ w = w' := by
  have h : bits .and .i64 165 248 = 160 := by decide +kernel
  go_enter Try.func51, Try.ntmps51
  go_wp2
  go_ret
  exact ⟨rfl, rfl⟩
theorem before_no (w : World) : Calls Try.prog 54 #[.int .i64 160, .int .i64 32, .int .i64 160, .int .i64 32] w fun e w' => e = .returned (.bool false) ∧ w = w' := by
  go_enter Try.func54, Try.ntmps54
  go_wp2
  go_ret
  exact ⟨rfl, rfl⟩
theorem pending_yes (w : World) : Calls Try.prog 63 #[.agg #[.bool false, .bool false, .bool true, .bool false]] w fun e w' => e = .returned (.bool true) ∧ w.alloc (.cells #[.bool false, .bool false, .bool true, .bool false] 52) = w' := by
  go_enter Try.func63, Try.ntmps63
  go_wp2
  go_ret
  exact ⟨rfl, rfl⟩
theorem iready_yes (w : World) : Calls Try.prog 56 #[.agg #[.bool false, .bool false, .bool true, .bool false]] w fun e w' => e = .returned (.bool true) ∧ Below w.heap.size w w' := by
  go_enter Try.func56, Try.ntmps56
  go_wp2_with (go_at_call 63; refine (pending_yes _).mono ?_; rintro e w' ⟨rfl, rfl⟩)
  go_ret
  exact ⟨rfl, (one_box w _).alloc (by simp) _⟩
theorem RowB.other {W : World} {D : Nat} {t : TypeId} {sz n : Nat} {f : Nat → Array Value} (h : RowB W D t sz n f) (a : Addr) (v : Value) (hne : D ≠ a.block) : RowB (W.setCell a v) D t sz n f := by
  obtain ⟨C, h1, h2⟩ := h
  exact ⟨C, h1.other a v hne, h2⟩
theorem RowB.set0 {W : World} {D : Nat} {t : TypeId} {sz n : Nat} {f : Nat → Array Value} (h : RowB W D t sz n f) (hk : 0 < n) {m : Nat} (hm : m < sz) (hs : m < (f 0).size) (v : Value) : RowB (W.setCell ⟨D, m, none⟩ v) D t sz n (fun j => if j = 0 then (f 0).setIfInBounds m v else f j) := by
  have := h.set hk hm hs v
  simpa using this
def xs120 : ByteArray := ⟨#[120]⟩
/-- The example's entries, behind Put. -/
def fA (j : Nat) : Array Value := if j = 0 then #[.bool false, .bool false, .bool true, .bool false, .bool true, .int .i64 1, .int .i64 160, .string ⟨#[]⟩] else ez ⟨#[120]⟩
def PutP (B D : Nat) (w : World) (e : Ending) (w' : World) : Prop := e = .returned (.int .i64 0) ∧ BP w' B D 32 2 fA ∧ ∀ n₀, n₀ ≤ D → n₀ ≤ w.heap.size → Below n₀ w w'
set_option maxRecDepth 100000 in
set_option maxHeartbeats 1000000 in
theorem put_a (B D : Nat) (w : World) (hne : B ≠ D) (h : BP w B D 32 2 (fun _ => ez ⟨#[120]⟩)) : Calls Try.prog 39 #[.pointer (some ⟨B, 0, none⟩), .int .i64 32, .agg #[.bool false, .bool false, .bool true, .bool false, .bool true, .int .i64 1, .int .i64 165, .string ⟨#[]⟩]] w (PutP B D w) := by
  have cH : ∀ w, BP w B D 32 2 (fun _ => ez ⟨#[120]⟩) → Calls Try.prog 22 #[.pointer (some ⟨B, 0, none⟩), .int .i64 32] w fun e w' => e = .returned (.bool true) ∧ Below w.heap.size w w' := fun w h => by
    have := bhas_any B D 32 2 (fun _ => ez ⟨#[120]⟩) 32 w h (by omega) (by omega) (by omega)
    rw [show inB 32 2 32 = true by decide] at this
    exact this.mono fun e w' ⟨h2, m, h3⟩ => ⟨h2, by rw [h3]; exact below_drewN (Below.refl _ _) m⟩
  have h2 := h.below (one_box w (.cells #[.bool false, .bool false, .bool true, .bool false, .bool true, .int .i64 1, .int .i64 165, .string ⟨#[]⟩] 56))
  have z0 := Blk.new w 56 #[.bool false, .bool false, .bool true, .bool false, .bool true, .int .i64 1, .int .i64 165, .string ⟨#[]⟩]
  have b0 := one_box w (.cells #[.bool false, .bool false, .bool true, .bool false, .bool true, .int .i64 1, .int .i64 165, .string ⟨#[]⟩] 56)
  have lB := h.1.lt
  have lD := h.2.lt
  clear h
  go_enter Try.func39, Try.ntmps39
  go_wp2_with (first
    | (go_at_call 22; refine (cH _ h2).mono ?_; rintro e w1 ⟨rfl, hb1⟩; have z1 := z0.below hb1 z0.lt; have h3 := h2.below hb1; have B1 := b0.trans (hb1.mono b0.size); have f6 := z1.frozen 6; have c0 := z1.cell 0; have c1 := z1.cell 1; have c2 := z1.cell 2; have c3 := z1.cell 3; have c4 := z1.cell 4; have c5 := z1.cell 5; have c6 := z1.cell 6; have c7 := z1.cell 7)
    | (go_at_call 51; refine (real_165 _).mono ?_; rintro e w2 ⟨rfl, rfl⟩))
  have z2 := z1.set 6 (.int .i64 160)
  simp only [List.setIfInBounds_toArray, List.set_cons_succ, List.set_cons_zero] at z2
  have h4 : BP (w1.setCell ⟨w.heap.size, 6, none⟩ (.int .i64 160)) B D 32 2 (fun _ => ez ⟨#[120]⟩) := ⟨h3.1.other _ _ (by simp; omega), h3.2.other _ _ (by simp; omega)⟩
  have B2 := B1.setCell (p := ⟨w.heap.size, 6, none⟩) (Nat.le_refl _) (.int .i64 160)
  clear c0 c1 c2 c3 c4 c5 c6 c7 f6 z1 h3 B1 z0 h2 b0
  generalize w1.setCell ⟨w.heap.size, 6, none⟩ (.int .i64 160) = W at z2 h4 B2 ⊢
  have c0 := z2.cell 0
  have c1 := z2.cell 1
  have c2 := z2.cell 2
  have c3 := z2.cell 3
  have c4 := z2.cell 4
  have c5 := z2.cell 5
  have c6 := z2.cell 6
  have c7 := z2.cell 7
  have p0 := h4.1.cell 0
  have p1 := h4.1.cell 1
  have ew : IntKind.i64.wrap (0 : Int) = 0 := by decide
  go_still_tail 12, (by kernel_rfl)
  change wpList _ _ _ _ _ W.drew
  have h5 : BP W.drew B D 32 2 (fun _ => ez ⟨#[120]⟩) := h4
  have B3 : Below w.heap.size w W.drew := B2.drew
  clear c0 c1 c2 c3 c4 c5 c6 c7 p0 p1 ew z2 h4 B2
  generalize W.drew = V at h5 B3 ⊢
  have r0 := h5.2
  have t0 : V.cell? ⟨D, 0, none⟩ = some (.bool false) := by have := r0.cell (j := 0) (by omega) (i := 0) (by omega) (v := .bool false) rfl; simpa using this
  have f0 : V.frozen? ⟨D, 0, none⟩ = false := r0.frozen 0
  have t1 : V.cell? ⟨D, 1, none⟩ = some (.bool false) := by have := r0.cell (j := 0) (by omega) (i := 1) (by omega) (v := .bool false) rfl; simpa using this
  have f1 : V.frozen? ⟨D, 1, none⟩ = false := r0.frozen 1
  have t2 : V.cell? ⟨D, 2, none⟩ = some (.bool false) := by have := r0.cell (j := 0) (by omega) (i := 2) (by omega) (v := .bool false) rfl; simpa using this
  have f2 : V.frozen? ⟨D, 2, none⟩ = false := r0.frozen 2
  have t3 : V.cell? ⟨D, 3, none⟩ = some (.bool false) := by have := r0.cell (j := 0) (by omega) (i := 3) (by omega) (v := .bool false) rfl; simpa using this
  have f3 : V.frozen? ⟨D, 3, none⟩ = false := r0.frozen 3
  have t4 : V.cell? ⟨D, 4, none⟩ = some (.bool false) := by have := r0.cell (j := 0) (by omega) (i := 4) (by omega) (v := .bool false) rfl; simpa using this
  have f4 : V.frozen? ⟨D, 4, none⟩ = false := r0.frozen 4
  have t5 : V.cell? ⟨D, 5, none⟩ = some (.int .i64 0) := by have := r0.cell (j := 0) (by omega) (i := 5) (by omega) (v := .int .i64 0) rfl; simpa using this
  have f5 : V.frozen? ⟨D, 5, none⟩ = false := r0.frozen 5
  have t6 : V.cell? ⟨D, 6, none⟩ = some (.int .i64 0) := by have := r0.cell (j := 0) (by omega) (i := 6) (by omega) (v := .int .i64 0) rfl; simpa using this
  have f6 : V.frozen? ⟨D, 6, none⟩ = false := r0.frozen 6
  have t7 : V.cell? ⟨D, 7, none⟩ = some (.string ⟨#[120]⟩) := by have := r0.cell (j := 0) (by omega) (i := 7) (by omega) (v := .string ⟨#[120]⟩) rfl; simpa using this
  have f7 : V.frozen? ⟨D, 7, none⟩ = false := r0.frozen 7
  have R1 := r0.set0 (by omega) (m := 0) (by omega) (by simp [ez]) (.bool false)
  have R2 := R1.set0 (by omega) (m := 1) (by omega) (by simp [ez]) (.bool false)
  have R3 := R2.set0 (by omega) (m := 2) (by omega) (by simp [ez]) (.bool true)
  have R4 := R3.set0 (by omega) (m := 3) (by omega) (by simp [ez]) (.bool false)
  have R5 := R4.set0 (by omega) (m := 4) (by omega) (by simp [ez]) (.bool true)
  have R6 := R5.set0 (by omega) (m := 5) (by omega) (by simp [ez]) (.int .i64 1)
  have R7 := R6.set0 (by omega) (m := 6) (by omega) (by simp [ez]) (.int .i64 160)
  have R8 := R7.set0 (by omega) (m := 7) (by omega) (by simp [ez]) (.string ⟨#[]⟩)
  have RF := R8.congr (g := fA) (by
    intro j hj
    have : j = 0 ∨ j = 1 := by omega
    rcases this with rfl | rfl
    · rfl
    · rfl)
  have b5 := h5.1
  have BF := ((((((((b5.other ⟨D, 0, none⟩ (.bool false) hne).other ⟨D, 1, none⟩ (.bool false) hne).other ⟨D, 2, none⟩ (.bool true) hne).other ⟨D, 3, none⟩ (.bool false) hne).other ⟨D, 4, none⟩ (.bool true) hne).other ⟨D, 5, none⟩ (.int .i64 1) hne).other ⟨D, 6, none⟩ (.int .i64 160) hne).other ⟨D, 7, none⟩ (.string ⟨#[]⟩) hne)
  have HR := Lib.hid RF
  have HB := Lib.hid BF
  clear R1 R2 R3 R4 R5 R6 R7 R8 RF BF b5 h5 r0
  go_wp2
  go_ret
  exact ⟨rfl, ⟨HB.out, HR.out⟩, fun n₀ hD hn => (((((((((B3.mono hn).setCell (p := ⟨D, 0, none⟩) hD (.bool false)).setCell (p := ⟨D, 1, none⟩) hD (.bool false)).setCell (p := ⟨D, 2, none⟩) hD (.bool true)).setCell (p := ⟨D, 3, none⟩) hD (.bool false)).setCell (p := ⟨D, 4, none⟩) hD (.bool true)).setCell (p := ⟨D, 5, none⟩) hD (.int .i64 1)).setCell (p := ⟨D, 6, none⟩) hD (.int .i64 160)).setCell (p := ⟨D, 7, none⟩) hD (.string ⟨#[]⟩))⟩
end Go.Proofs.Ytoloccoodnbbdaa
