/- The document's ladder: its entries in a row, what runs, its bits, what is let go. -/
import Derived.RangeFuncNested
import Derived.RangeFuncBound
import Derived.RangeFuncCalls
import Derived.RangeFuncLeaves
import Derived.Shelf.Abstract
import Derived.Shelf.RegionOpen
import Derived.WalkKit
import Derived.OwnWalkIn
import Derived.TacticsInMore
import Derived.LoopNIn
import Derived.LoopIn
import Derived.WalkSpells
import Derived.WalkLawsBesides
import Derived.Deep.QuietTactic
import Derived.BigQuiet
import Derived.Lib.Hide
import Derived.Deep.WholeRow
import Derived.Deep.Onto
import Derived.Test.YtoloccoodnbbdaaLdC
namespace Go.Proofs.Ytoloccoodnbbdaa
open Go.RowKit Go.Shelf
attribute [local go_sem] Oper.semAt_some
/-- Two numbers for each bit that is set, up to the place k. -/
def uptoL (f : Nat → Bool) (k : Nat) : List Int := (List.range k).flatMap fun i => if f i then [8 * ((i / 2 : Nat) : Int), ((i % 2 : Nat) : Int)] else []
theorem uptoL_yes (f : Nat → Bool) (k : Nat) (h : f k = true) : uptoL f (k + 1) = uptoL f k ++ [8 * ((k / 2 : Nat) : Int), ((k % 2 : Nat) : Int)] := by
  simp [uptoL, List.range_succ, List.flatMap_append, h]
theorem uptoL_no (f : Nat → Bool) (k : Nat) (h : f k = false) : uptoL f (k + 1) = uptoL f k := by
  simp [uptoL, List.range_succ, List.flatMap_append, h]
theorem uptoL_len (f : Nat → Bool) (k : Nat) : (uptoL f k).length ≤ 2 * k := by
  induction k with
  | zero => simp [uptoL]
  | succ k ih =>
    cases h : f k with
    | true => rw [uptoL_yes f k h]; simp; omega
    | false => rw [uptoL_no f k h]; omega

/-- A call's result is a slice of its own of these numbers, and nothing that was below n₀ has changed. -/
def OwnInts (n₀ : Nat) (xs : List Int) (w : World) (e : Ending) (w' : World) : Prop :=
  ∃ v, e = .returned v ∧ w'.ownsRow n₀ 3 1 v xs.length (xs.map (Value.int .i64)) ∧ Below n₀ w w'

theorem infoInt : (Try.prog.info? 3).map (fun i => (i.zero, i.size, i.bytes)) = some (some (.int .i64 0), 1, 8) := by kernel_rfl

/-- What an append of two numbers does to the loop's relation. -/
theorem all_app {f : Nat → Bool} {k : Nat} {w1 : World} {B : Nat} {v : Value} (h : f k = true) (a b : Int) (ha : a = 8 * ((k / 2 : Nat) : Int)) (hb : b = ((k % 2 : Nat) : Int))
    (hown : w1.ownsRow B 3 1 v ((uptoL f k).length + 2) ((uptoL f k).map (Value.int .i64) ++ [.int .i64 a, .int .i64 b])) :
    w1.ownsRow B 3 1 v (uptoL f (k + 1)).length ((uptoL f (k + 1)).map (Value.int .i64)) := by
  subst ha hb
  rw [uptoL_yes f k h]
  simpa using hown

/-- A block that lies below the row is as it was behind an append to the row. -/
theorem grown_block {w w1 : World} {B g : Nat} {o : Obj} {v : Value} {n : Nat} {xs : List Value} {e : TypeId} {size : Nat} {x : Obj} (hown : w.ownsRow B e size v n xs) (hlt : g < B) (hg : w.heap[g]? = some x)
    (h : (w.alloc o).grownBy w1 v.ownBlock) : w1.heap[g]? = some x := by
  have hs : g < w.heap.size := (Array.getElem?_eq_some_iff.1 hg).1
  rw [h.block g (by rw [World.size_alloc]; omega) (fun e => by have := (hown.lt g e.symm).1; omega), heap_alloc_old w o g hs]
  exact hg
theorem grown_below {w0 w w1 : World} {B B' : Nat} {o : Obj} {v : Value} {n : Nat} {xs : List Value} {e : TypeId} {size : Nat} (hown : w.ownsRow B' e size v n xs) (hBB : B ≤ B') (hB : B ≤ w.heap.size) (hb : Below B w0 w)
    (h : (w.alloc o).grownBy w1 v.ownBlock) : Below B w0 w1 :=
  (hb.alloc hB o).grown h (by rw [World.size_alloc]; omega) (fun k e => by have := (hown.lt k e).1; omega)

set_option maxRecDepth 100000 in
set_option maxHeartbeats 400000 in
theorem allR_any (f : Nat → Bool) (w : World) :
    Calls Try.prog 35 #[.agg (rv f)] w (OwnInts w.heap.size (uptoL f 64) w) := by
  obtain ⟨i0, hi, hz0, hz1, hz2⟩ := info_parts infoInt
  go_enter Try.func35, Try.ntmps35
  go_wp2_with fail
  obtain ⟨W, hW⟩ : ∃ W, w.alloc (.cells (rv f) 31) = W := ⟨_, rfl⟩
  have hB : Below w.heap.size w W := by rw [← hW]; exact one_box _ _
  have h4 : W.heap[w.heap.size]? = some (.cells (rv f) 31) := by rw [← hW]; exact heap_alloc_new _ _
  rw [hW]
  clear hW
  go_loopw [3, 4] (fun v i wr => ∃ k : Nat, k ≤ 64 ∧ i = .int .i64 (k : Int) ∧ wr.ownsRow (w.heap.size + 1) 3 1 v (uptoL f k).length ((uptoL f k).map (Value.int .i64)) ∧
      wr.heap[w.heap.size]? = some (.cells (rv f) 31) ∧ Below w.heap.size w wr) (fun _ i _ => 64 - (intOf i).toNat)
  case atStart => exact ⟨0, by omega, rfl, World.ownsRow_nil _ _ _ _, h4, hB⟩
  case round =>
    obtain ⟨k, hk, rfl, hown, g4, hBr⟩ := hrel
    have hsz : w.heap.size < wr.heap.size := (Array.getElem?_eq_some_iff.1 g4).1
    by_cases hlt : k < 64
    · have c0 := cell_of_row wr w.heap.size k _ _ _ g4
      rw [rv_get _ _ hlt] at c0
      have hlen := uptoL_len f k
      have hm : (uptoL f k).length + 2 ≤ maxLen := by unfold maxLen; omega
      cases hf : f k with
      | true =>
        rw [hf] at c0
        have HF := Lib.hid hf
        clear hf
        go_wp2_with (at_builtin; refine wpList_append_own _ rfl (.tmp 13) (.tmp 19) 81 rfl (w.heap.size + 1) 3 i0 (.int .i64 0) 1 8 Try.underlying81 hi hz0 hz1 hz2 rfl (by decide) u3 (uptoL f k).length _ rfl (hown.alloc _) ⟨wr.heap.size, 0, none⟩ 2 2 [.int .i64 (8 * ((k : Int) / 2)), .int .i64 ((k : Int) % 2)] rfl rfl (cell_two_new _ _ _ _) ?c1 hm ?c2 ?c3 ?_)
        case c1 => intro u hu; simp at hu; rcases hu with rfl | rfl <;> rfl
        case c2 => omega
        case c3 => rw [World.size_alloc]; omega
        intro v' w1 hown1 hg1 _
        go_wp2
        refine ⟨⟨k + 1, by omega, by go_num, all_app HF.out _ _ (by omega) (by omega) hown1, grown_block hown (by omega) g4 hg1, grown_below hown (by omega) (by omega) hBr hg1⟩, by simp [intOf]; omega⟩
      | false =>
        rw [hf] at c0
        have HF := Lib.hid hf
        clear hf
        go_wp2
        exact ⟨⟨k + 1, by omega, by go_num, by rw [uptoL_no f k HF.out]; exact hown, g4, hBr⟩, by simp [intOf]; omega⟩
    · obtain rfl : k = 64 := by omega
      go_wp2
      go_ret
      exact ⟨_, rfl, hown.mono (by omega), hBr⟩
/-- A slice that reads as these numbers. -/
theorem ints_open {w : World} {n₀ : Nat} {v : Value} {xs : List Int} (h : w.ownsRow n₀ 3 1 v xs.length (xs.map (Value.int .i64))) :
    ∃ a cap, v = .slice a xs.length cap ∧ (a = none → xs = []) ∧ ∀ g, a = some g → g = ⟨g.block, 0, none⟩ ∧ n₀ ≤ g.block ∧ ∀ j, j < xs.length → w.cell? ⟨g.block, j, none⟩ = some (.int .i64 (xs[j]?.getD 0)) := by
  obtain ⟨_, ⟨rfl, hn⟩ | ⟨g, cap, cur, rfl, hg, hc, _, _, hcs, ht⟩⟩ := h
  · have : xs = [] := List.eq_nil_of_length_eq_zero hn
    subst this
    exact ⟨none, 0, rfl, fun _ => rfl, fun _ e => by cases e⟩
  · refine ⟨_, cap, rfl, (by intro e; cases e), fun _ e => ?_⟩
    cases e
    refine ⟨rfl, hg, fun j hj => ?_⟩
    have h1 : cur.toList[j]? = some (.int .i64 (xs[j]?.getD 0)) := by
      have h2 : (cur.toList.take (xs.length * 1))[j]? = cur.toList[j]? := by rw [List.getElem?_take]; simp; omega
      rw [← h2, ht]
      simp [hj]
    rw [cell_of_row w g j cur 3 (0, 0) hc]
    simpa using h1

/-- What runs, of a row of priorities and groups. -/
def runL (xs : List Int) : Int × Int := if xs.length = 0 then (255, 0) else (xs[0]?.getD 0, xs[1]?.getD 0)
theorem uptoL_two (f : Nat → Bool) (k : Nat) : (uptoL f k).length = 0 ∨ 2 ≤ (uptoL f k).length := by
  induction k with
  | zero => simp [uptoL]
  | succ k ih =>
    cases h : f k with
    | true => rw [uptoL_yes f k h]; simp
    | false => rw [uptoL_no f k h]; exact ih

def RunPost (f : Nat → Bool) (w : World) (e : Ending) (w' : World) : Prop :=
  e = .returned (.tuple #[.int .i64 (runL (uptoL f 64)).1, .int .i64 (runL (uptoL f 64)).2]) ∧ Below w.heap.size w w'

set_option maxRecDepth 100000 in
set_option maxHeartbeats 400000 in
theorem runR_any (f : Nat → Bool) (w : World) :
    Calls Try.prog 34 #[.agg (rv f)] w (RunPost f w) := by
  have hc := Lib.hid (allR_any f)
  go_enter Try.func34, Try.ntmps34
  go_wp2_with (first | (refine wpList_load_row rfl 31 _ rfl w.heap.size rfl 31 _ (0, 0) _ (heap_alloc_new _ _) Try.underlying31 rfl (info31 _) ?_) | (go_at_call 35; refine (hc.out _).mono ?_; rintro e w1 ⟨v, rfl, hown, hb⟩; obtain ⟨a, cap, rfl, ha, hcell⟩ := ints_open hown; clear hown))
  · have ht : (((uptoL f 64).length : Int) == 0) = true := by assumption
    have h0 : (uptoL f 64).length = 0 := by simpa using ht
    go_ret2
    exact ⟨by simp [runL, h0], ((Below.refl _ _).alloc (Nat.le_refl _) _).trans (hb.mono (by simp))⟩
  · have ht : (((uptoL f 64).length : Int) == 0) = false := by assumption
    have h0 : ¬ (uptoL f 64).length = 0 := by simpa using ht
    have h2 := (uptoL_two f 64).resolve_left h0
    cases a with
    | none => exact absurd (by rw [ha rfl]; rfl) h0
    | some g =>
      obtain ⟨hg, _, hcc⟩ := hcell g rfl
      have c0 := hcc 0 (by omega)
      have c1 := hcc 1 (by omega)
      have hl0 : (0 : Int) < ((uptoL f 64).length : Int) := by omega
      have hl1 : (1 : Int) < ((uptoL f 64).length : Int) := by omega
      have hbw : Below w.heap.size w w1 := ((Below.refl _ _).alloc (Nat.le_refl _) _).trans (hb.mono (by simp))
      obtain ⟨gb, hgb⟩ : ∃ gb, g.block = gb := ⟨_, rfl⟩
      rw [hgb] at c0 c1 hg
      subst hg
      clear hcc hcell ha hb hc hgb
      have H0 := Lib.hid h0
      clear h0
      go_region
      all_goals
        go_wp2
        go_ret2
        exact ⟨by simp [runL, H0.out], by first | exact hbw | exact hbw.drew⟩
end Go.Proofs.Ytoloccoodnbbdaa
