/- Banks: entries in a block. -/
import Derived.RangeFuncNested
import Derived.RangeFuncBound
import Derived.RangeFuncCalls
import Derived.RangeFuncLeaves
import Derived.Shelf.Abstract
import Derived.Shelf.RegionOpen
import Derived.WalkKit
import Derived.OwnWalkIn
import Derived.TacticsInMore
import Derived.LoopNIn
import Derived.LoopIn
import Derived.WalkSpells
import Derived.WalkLawsBesides
import Derived.Deep.QuietTactic
import Derived.BigQuiet
import Derived.Lib.Hide
import Derived.Laws.MakeOwn
import Derived.Deep.WholeRow
import Derived.Laws.Rows
import Derived.Laws.Tables
import Derived.Test.YtoloccoodnbbdaaLdI
import Derived.Test.YtoloccoodnbbdaaHd
import Derived.Test.YtoloccoodnbbdaaLdL
namespace Go.Proofs.Ytoloccoodnbbdaa
open Go.RowKit Go.Shelf
attribute [local go_sem] Oper.semAt_some

/-- The cells of an entry that is new. -/
def ez (x : ByteArray) : Array Value := #[.bool false, .bool false, .bool false, .bool false, .bool false, .int .i64 0, .int .i64 0, .string x]
/-- A block of n rows of sz cells. -/
def RowB (W : World) (D : Nat) (t : TypeId) (sz n : Nat) (f : Nat → Array Value) : Prop := ∃ C, Blk W D t C ∧ n * sz ≤ C.size ∧ ∀ j, j < n → ∀ i, i < sz → C[j * sz + i]? = (f j)[i]?
theorem RowB.below {W W' : World} {D m : Nat} {t : TypeId} {sz n : Nat} {f : Nat → Array Value} (h : RowB W D t sz n f) (hb : Below m W W') (hlt : D < m) : RowB W' D t sz n f := by
  obtain ⟨C, h1, h2⟩ := h
  exact ⟨C, h1.below hb hlt, h2⟩
theorem RowB.lt {W : World} {D : Nat} {t : TypeId} {sz n : Nat} {f : Nat → Array Value} (h : RowB W D t sz n f) : D < W.heap.size := by
  obtain ⟨C, h1, h2⟩ := h
  exact h1.lt
theorem RowB.cell {W : World} {D : Nat} {t : TypeId} {sz n : Nat} {f : Nat → Array Value} (h : RowB W D t sz n f) {j : Nat} (hj : j < n) {i : Nat} (hi : i < sz) {v : Value} (hv : (f j)[i]? = some v) : W.cell? ⟨D, j * sz + i, none⟩ = some v := by
  obtain ⟨C, h1, _, h3⟩ := h
  rw [h1.cell, h3 j hj i hi, hv]
theorem RowB.frozen {W : World} {D : Nat} {t : TypeId} {sz n : Nat} {f : Nat → Array Value} (h : RowB W D t sz n f) (j : Nat) : W.frozen? ⟨D, j, none⟩ = false := by
  obtain ⟨C, h1, _⟩ := h
  exact h1.frozen j
theorem row_uniq {sz a b i j : Nat} (hi : i < sz) (hj : j < sz) (h : a * sz + i = b * sz + j) : a = b ∧ i = j := by
  have h1 : (a * sz + i) / sz = a := by rw [Nat.mul_comm, Nat.mul_add_div (by omega)]; rw [Nat.div_eq_of_lt hi]; rfl
  have h2 : (b * sz + j) / sz = b := by rw [Nat.mul_comm, Nat.mul_add_div (by omega)]; rw [Nat.div_eq_of_lt hj]; rfl
  rw [h] at h1
  have : a = b := h1.symm.trans h2
  subst this
  exact ⟨rfl, by omega⟩
theorem RowB.set {W : World} {D : Nat} {t : TypeId} {sz n : Nat} {f : Nat → Array Value} (h : RowB W D t sz n f) {k : Nat} (hk : k < n) {m : Nat} (hm : m < sz) (hs : m < (f k).size) (v : Value) : RowB (W.setCell ⟨D, k * sz + m, none⟩ v) D t sz n (fun j => if j = k then (f k).setIfInBounds m v else f j) := by
  obtain ⟨C, h1, h2, h3⟩ := h
  refine ⟨_, h1.set _ v, by rw [Array.size_setIfInBounds]; exact h2, fun j hj i hi => ?_⟩
  show (C.setIfInBounds (k * sz + m) v)[j * sz + i]? = (if j = k then (f k).setIfInBounds m v else f j)[i]?
  have hlt : k * sz + m < C.size := by have := Nat.mul_le_mul_right sz (show k + 1 ≤ n by omega); rw [Nat.add_mul] at this; omega
  by_cases e : k * sz + m = j * sz + i
  · obtain ⟨rfl, rfl⟩ := row_uniq hm hi e
    rw [if_pos rfl, Array.getElem?_setIfInBounds_self_of_lt hlt, Array.getElem?_setIfInBounds_self_of_lt hs]
  · rw [Array.getElem?_setIfInBounds_ne e, h3 j hj i hi]
    by_cases ej : j = k
    · subst ej
      rw [if_pos rfl, Array.getElem?_setIfInBounds_ne (fun h => e (by rw [h]))]
    · rw [if_neg ej]
theorem RowB.congr {W : World} {D : Nat} {t : TypeId} {sz n : Nat} {f g : Nat → Array Value} (h : RowB W D t sz n f) (hfg : ∀ j, j < n → f j = g j) : RowB W D t sz n g := by
  obtain ⟨C, h1, h2, h3⟩ := h
  exact ⟨C, h1, h2, fun j hj i hi => by rw [h3 j hj i hi, hfg j hj]⟩

set_option maxRecDepth 100000 in
set_option maxHeartbeats 1000000 in
theorem bnew_no (first n : Int) (x : ByteArray) (w : World) (hmin : -9223372036854775808 ≤ first) (hmax : first ≤ 9223372036854775807) (h : first < 0 ∨ (0 ≤ first ∧ n < 0) ∨ (0 ≤ first ∧ 0 ≤ n ∧ 16384 < first) ∨ (0 ≤ first ∧ 0 ≤ n ∧ first ≤ 16384 ∧ 16384 - first < n)) :
    Calls Try.prog 18 #[.int .i64 first, .int .i64 n, .string x] w fun e w' => e = .returned (.tuple #[.pointer none, .int .i64 1]) ∧ w = w' := by
  rcases h with h | ⟨h0, h⟩ | ⟨h0, h1, h⟩ | ⟨h0, h1, h2, h⟩
  all_goals
    go_enter Try.func18, Try.ntmps18
    go_wp2
    go_ret2
    exact ⟨rfl, rfl⟩

theorem made_get (z : Array Value) (m k : Nat) (hk : k < m) : (madeCells z m)[k]? = some z[k % z.size]! := by
  simp [madeCells, hk]
abbrev e0 : ByteArray := ⟨#[]⟩
theorem info56 : (Try.prog.info? 56).map (fun i => (i.zero, i.size, i.bytes)) = some (some (.agg (ez e0)), 8, 40) := by kernel_rfl
theorem run_mk (n : Nat) (hn : n ≤ 16384) (w : World) : (Instr.makeSlice 99 (.int .i64 (n : Int)) (.int .i64 (n : Int))).run Try.prog w = .ok (.slice (some ⟨w.heap.size, 0, none⟩) n n) (w.alloc (.cells (madeCells (ez e0) (n * 8)) 56)) := by
  obtain ⟨i, hi, hz, hs, hb⟩ := info_parts info56
  have := run_make (P := Try.prog) w 99 56 i (.agg (ez e0)) Try.underlying99 hi hz .i64 .i64 (n : Int) (n : Int) (by omega) (Int.le_refl _) (by rw [hb]; omega) (by omega)
  rw [hs] at this
  simpa [Value.cells] using this
theorem rowb_mk (n : Nat) (w : World) : RowB (w.alloc (.cells (madeCells (ez e0) (n * 8)) 56)) w.heap.size 56 8 n (fun _ => ez e0) := by
  refine ⟨_, Blk.new w 56 _, Nat.le_of_eq (size_madeCells _ _).symm, fun j hj i hi => ?_⟩
  rw [made_get _ _ _ (by have := Nat.mul_le_mul_right 8 (show j + 1 ≤ n by omega); rw [Nat.add_mul] at this; omega)]
  have : (ez e0).size = 8 := rfl
  rw [this, Nat.mul_comm, Nat.mul_add_mod, Nat.mod_eq_of_lt hi]
  rw [Array.getElem?_eq_getElem (by rw [this]; exact hi), getElem!_pos (ez e0) i (by rw [this]; exact hi)]

set_option maxRecDepth 100000 in
set_option maxHeartbeats 1000000 in
theorem bnew_yes (first n : Nat) (x : ByteArray) (w : World) (h1 : first ≤ 16384) (h2 : n ≤ 16384 - first) :
    Calls Try.prog 18 #[.int .i64 (first : Int), .int .i64 (n : Int), .string x] w fun e w' => e = .returned (.tuple #[.pointer (some ⟨w.heap.size + 1, 0, none⟩), .int .i64 0]) ∧ Blk w' (w.heap.size + 1) 101 #[.int .i64 (first : Int), .slice (some ⟨w.heap.size, 0, none⟩) n n] ∧ RowB w' w.heap.size 56 8 n (fun _ => ez x) ∧ Below w.heap.size w w' := by
  have hmk := run_mk n (by omega) w
  have r0 := (rowb_mk n w)
  go_enter Try.func18, Try.ntmps18
  go_wp2
  have D0 : Below w.heap.size w ((w.alloc (.cells (madeCells (ez e0) (n * 8)) 56)).alloc (.cells #[.int .i64 (first : Int), .slice (some ⟨w.heap.size, 0, none⟩) n n] 101)) := ((Below.refl _ _).alloc (Nat.le_refl _) _).alloc (by simp) _
  have B0 : Blk ((w.alloc (.cells (madeCells (ez e0) (n * 8)) 56)).alloc (.cells #[.int .i64 (first : Int), .slice (some ⟨w.heap.size, 0, none⟩) n n] 101)) (w.heap.size + 1) 101 #[.int .i64 (first : Int), .slice (some ⟨w.heap.size, 0, none⟩) n n] := by
    have := Blk.new (w.alloc (.cells (madeCells (ez e0) (n * 8)) 56)) 101 #[.int .i64 (first : Int), .slice (some ⟨w.heap.size, 0, none⟩) n n]
    simpa using this
  have R0 := (r0.below (one_box _ (.cells #[.int .i64 (first : Int), .slice (some ⟨w.heap.size, 0, none⟩) n n] 101)) r0.lt).congr (g := fun j => if j < 0 then ez x else ez e0) (fun j _ => by simp)
  clear hmk
  go_loopw [36] (fun i wr => ∃ k : Nat, k ≤ n ∧ i = .int .i64 (k : Int) ∧ RowB wr w.heap.size 56 8 n (fun j => if j < k then ez x else ez e0) ∧ Blk wr (w.heap.size + 1) 101 #[.int .i64 (first : Int), .slice (some ⟨w.heap.size, 0, none⟩) n n] ∧ Below w.heap.size w wr) (fun i _ => n - (intOf i).toNat)
  case atStart => exact ⟨0, by omega, rfl, R0, B0, D0⟩
  case round =>
    obtain ⟨k, hk, rfl, hR, hB, hD⟩ := hrel
    by_cases hlt : k < n
    · have hlt' : (k : Int) < (n : Int) := by omega
      have c1 := hB.cell 1
      have c7 : wr.cell? ⟨w.heap.size, k * 8 + 7, none⟩ = some (.string e0) := hR.cell hlt (by omega) (by simp [ez])
      have f7 := hR.frozen (k * 8 + 7)
      have hR2 := (hR.set hlt (m := 7) (by omega) (by simp [ez]) (.string x)).congr (g := fun j => if j < k + 1 then ez x else ez e0) (by
        intro j hj
        show (if j = k then ((if k < k then ez x else ez e0).setIfInBounds 7 (.string x)) else if j < k then ez x else ez e0) = if j < k + 1 then ez x else ez e0
        by_cases e : j = k
        · rw [if_pos e, if_neg (by omega), if_pos (by omega)]; rfl
        · rw [if_neg e]
          by_cases e2 : j < k
          · rw [if_pos e2, if_pos (by omega)]
          · rw [if_neg e2, if_neg (by omega)])
      have HR := Lib.hid hR2
      clear hR2
      go_wp2
      exact ⟨⟨k + 1, by omega, by go_num, HR.out, hB.other _ _ (by simp), hD.setCell (p := ⟨_, _, none⟩) (Nat.le_refl _) _⟩, by simp [intOf]; omega⟩
    · obtain rfl : k = n := by omega
      have hlt' : ¬ (k : Int) < (k : Int) := by omega
      have HR := Lib.hid (hR.congr (g := fun _ => ez x) (fun j hj => by simp only [hj, if_true]))
      go_wp2
      go_ret2
      exact ⟨rfl, hB, HR.out, hD⟩
end Go.Proofs.Ytoloccoodnbbdaa
