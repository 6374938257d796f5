/- The document's ladder of 64 bools: Of, Set, Has. -/
import Derived.RangeFuncNested
import Derived.RangeFuncBound
import Derived.RangeFuncCalls
import Derived.RangeFuncLeaves
import Derived.Shelf.Abstract
import Derived.Shelf.RegionOpen
import Derived.WalkKit
import Derived.OwnWalkIn
import Derived.TacticsInMore
import Derived.LoopNIn
import Derived.LoopIn
import Derived.WalkSpells
import Derived.WalkLawsBesides
import Derived.Deep.QuietTactic
import Derived.BigQuiet
import Derived.Lib.Hide
import Derived.Deep.WholeRow
import Derived.Test.YtoloccoodnbbdaaLdB
namespace Go.Proofs.Ytoloccoodnbbdaa
open Go.RowKit Go.Shelf
attribute [local go_sem] Oper.semAt_some
/-- 64 bools as cells. -/
def rv (f : Nat → Bool) : Array Value := ((List.range 64).map fun i => Value.bool (f i)).toArray
theorem rv_size (f : Nat → Bool) : (rv f).size = 64 := by simp [rv]
theorem rv_get (f : Nat → Bool) (i : Nat) (h : i < 64) : (rv f)[i]? = some (.bool (f i)) := by simp [rv, h]
theorem rv_one (f : Nat → Bool) : (rv f).all (·.oneCell') = true := by
  rw [Array.all_eq_true_iff_forall_mem]
  intro v hv
  simp only [rv, List.mem_toArray, List.mem_map] at hv
  obtain ⟨i, _, rfl⟩ := hv
  rfl
theorem rv_set (f : Nat → Bool) (i : Nat) (b : Bool) : (rv f).setIfInBounds i (.bool b) = rv (fun j => if j = i then b else f j) := by
  apply Array.ext_getElem?
  intro j
  by_cases hj : j < 64
  · rw [Array.getElem?_setIfInBounds, rv_get _ _ hj, rv_get _ _ hj]
    by_cases e : i = j
    · subst e; simp [rv_size, hj]
    · have e' : ¬ j = i := fun h => e h.symm
      simp [e, e']
  · have h1 : (rv f).size ≤ j := by rw [rv_size]; omega
    have h2 : (rv fun j => if j = i then b else f j).size ≤ j := by rw [rv_size]; omega
    rw [Array.getElem?_eq_none h2, Array.getElem?_eq_none (by simpa using h1)]
theorem rv_ext {f f' : Nat → Bool} (h : ∀ i, i < 64 → f i = f' i) : rv f = rv f' := by
  unfold rv
  congr 1
  apply List.map_congr_left
  intro i hi
  rw [h i (by simpa using hi)]
theorem zero64 : (#[.bool false, .bool false, .bool false, .bool false, .bool false, .bool false, .bool false, .bool false, .bool false, .bool false, .bool false, .bool false, .bool false, .bool false, .bool false, .bool false, .bool false, .bool false, .bool false, .bool false, .bool false, .bool false, .bool false, .bool false, .bool false, .bool false, .bool false, .bool false, .bool false, .bool false, .bool false, .bool false, .bool false, .bool false, .bool false, .bool false, .bool false, .bool false, .bool false, .bool false, .bool false, .bool false, .bool false, .bool false, .bool false, .bool false, .bool false, .bool false, .bool false, .bool false, .bool false, .bool false, .bool false, .bool false, .bool false, .bool false, .bool false, .bool false, .bool false, .bool false, .bool false, .bool false, .bool false, .bool false] : Array Value) = rv fun _ => false := by kernel_rfl

theorem set_rv (f : Nat → Bool) (g p : Int) (b : Bool) (w : World) :
    Calls Try.prog 11 #[.agg (rv f), .int .i64 g, .int .i64 p, .bool b] w fun e w' => e = .returned (.agg (rv fun j => if j = idx g p then b else f j)) ∧ Below w.heap.size w w' := by
  have := set_any (rv f) (rv_size f) (rv_one f) g p b w
  rwa [rv_set] at this

set_option maxRecDepth 100000 in
set_option maxHeartbeats 400000 in
theorem hasR_any (f : Nat → Bool) (g p : Int) (w : World) :
    Calls Try.prog 16 #[.agg (rv f), .int .i64 g, .int .i64 p] w fun e w' => e = .returned (.bool (f (idx g p))) ∧ Below w.heap.size w w' := by
  have hi := idx_lt g p
  have hi' : (idx g p : Int) < 64 := by omega
  have hv0 := rv_get f (idx g p) hi
  go_enter Try.func16, Try.ntmps16
  go_wp2_with (first | (go_at_call 37; refine (place_any _ _ _).mono ?_; rintro e w1 ⟨rfl, rfl⟩))
  go_ret
  exact ⟨rfl, one_box _ _⟩

/-- The bits of two words, in turn. -/
def fw (x0 x1 : Nat) (i : Nat) : Bool := (word x0 x1 (i % 2)).testBit (i / 2)

theorem natdiv (a k : Nat) : (a : Int) / 2 ^ k = ((a / 2 ^ k : Nat) : Int) := by
  rw [Int.natCast_ediv, Int.natCast_pow]; rfl
theorem halve (a k : Nat) (ha : a < 2 ^ 32) : ((a : Int) / 2 ^ k).tdiv 2 % 4294967296 = ((a / 2 ^ (k + 1) : Nat) : Int) := by
  have h2 : a / 2 ^ k < 2 ^ 32 := Nat.lt_of_le_of_lt (Nat.div_le_self _ _) ha
  rw [natdiv, Nat.pow_succ, ← Nat.div_div_eq_div_mul]
  generalize a / 2 ^ k = n at *
  rw [Int.tdiv_eq_ediv_of_nonneg (by omega)]
  omega
theorem lowest (a k : Nat) : (((a : Int) / 2 ^ k).tmod 2 == 1) = a.testBit k := by
  rw [natdiv, Nat.testBit_eq_decide_div_mod_eq, Bool.eq_iff_iff]
  generalize a / 2 ^ k = n
  rw [Int.tmod_eq_emod_of_nonneg (by omega)]
  simp
  omega
theorem fw_even (a b k : Nat) : fw a b (2 * k) = a.testBit k := by
  have h1 : 2 * k % 2 = 0 := by omega
  have h2 : 2 * k / 2 = k := by omega
  simp [fw, word, h1, h2]
theorem fw_odd (a b k : Nat) : fw a b (2 * k + 1) = b.testBit k := by
  have h1 : (2 * k + 1) % 2 = 1 := by omega
  have h2 : (2 * k + 1) / 2 = k := by omega
  simp [fw, word, h1, h2]
theorem of_round (a b k : Nat) :
    ((rv fun i => decide (i < 2 * k) && fw a b i).setIfInBounds (2 * k) (.bool (((a : Int) / 2 ^ k).tmod 2 == 1))).setIfInBounds (2 * k + 1) (.bool (((b : Int) / 2 ^ k).tmod 2 == 1)) =
      rv fun i => decide (i < 2 * (k + 1)) && fw a b i := by
  rw [lowest, lowest, rv_set, rv_set]
  apply rv_ext
  intro i _
  by_cases h1 : i = 2 * k + 1
  · subst h1; simp [fw_odd]; omega
  · by_cases h0 : i = 2 * k
    · subst h0; simp [fw_even]
    · have : decide (i < 2 * k) = decide (i < 2 * (k + 1)) := by rw [Bool.eq_iff_iff]; simp; omega
      simp [h1, h0, this]
theorem info31 (f : Nat → Bool) : (Try.prog.info? 31).map (·.size) = some (rv f).size := by rw [rv_size]; kernel_rfl

set_option maxRecDepth 100000 in
set_option maxHeartbeats 400000 in
theorem of_any (a b : Nat) (ha : a < 2 ^ 32) (hb : b < 2 ^ 32) (w : World) :
    Calls Try.prog 8 #[.int .u32 a, .int .u32 b] w fun e w' => e = .returned (.agg (rv (fw a b))) ∧ Below w.heap.size w w' := by
  go_enter Try.func8, Try.ntmps8
  go_wp2_with fail
  rw [zero64]
  obtain ⟨W, hW⟩ : ∃ W, (w.alloc (.cells (rv fun _ => false) 31)).alloc (.cells (rv fun _ => false) 31) = W := ⟨_, rfl⟩
  have hB : Below w.heap.size w W := by rw [← hW]; exact two_boxes _ _ _
  have h4 : W.heap[w.heap.size]? = some (.cells (rv fun _ => false) 31) := by rw [← hW]; exact heap_alloc2_old _ _ _
  have h5 : W.heap[w.heap.size + 1]? = some (.cells (rv fun _ => false) 31) := by rw [← hW]; exact heap_alloc2_new _ _ _
  rw [hW]
  clear hW
  go_loopw [0, 1, 6] (fun x y i wr => ∃ k : Nat, k ≤ 32 ∧ i = .int .i64 (k : Int) ∧ x = .int .u32 ((a / 2 ^ k : Nat) : Int) ∧ y = .int .u32 ((b / 2 ^ k : Nat) : Int) ∧
      wr.heap[w.heap.size]? = some (.cells (rv fun _ => false) 31) ∧ wr.heap[w.heap.size + 1]? = some (.cells (rv fun i => decide (i < 2 * k) && fw a b i) 31) ∧ Below w.heap.size w wr) (fun _ _ i _ => 32 - (intOf i).toNat)
  case atStart => exact ⟨0, by omega, rfl, by simp, by simp, h4, by rw [h5]; simp, hB⟩
  case round =>
    obtain ⟨k, hk, rfl, rfl, rfl, g4, g5, hBr⟩ := hrel
    by_cases hlt : k < 32
    · have c0 := cell_of_row wr (w.heap.size + 1) (2 * k) _ _ _ g5
      rw [rv_get _ _ (by omega)] at c0
      have c1 := cell_of_row wr (w.heap.size + 1) (2 * k + 1) _ _ _ g5
      rw [rv_get _ _ (by omega)] at c1
      have f0 := frozen_of_row wr (w.heap.size + 1) (2 * k) _ _ g5
      have f1 := frozen_of_row wr (w.heap.size + 1) (2 * k + 1) _ _ g5
      go_wp2
      refine ⟨⟨k + 1, by omega, by go_num, by rw [halve a k ha], by rw [halve b k hb], ?_, ?_, ?_⟩, by simp [intOf]; omega⟩
      · rw [heap_setCell_other _ _ _ _ (by simp), heap_setCell_other _ _ _ _ (by simp)]; exact g4
      · rw [heap_setCell_same _ _ _ _ 31 _ (heap_setCell_same _ _ _ _ 31 _ g5), of_round]
      · exact (hBr.setCell (p := ⟨_, _, none⟩) (by simp) _).setCell (p := ⟨_, _, none⟩) (by simp) _
    · obtain rfl : k = 32 := by omega
      go_wp2_with (first | (refine wpList_load_row rfl 31 _ rfl (w.heap.size + 1) rfl 31 _ (0, 0) _ g5 Try.underlying31 rfl (info31 _) ?_) | (refine wpList_store_row rfl 31 _ _ rfl w.heap.size _ rfl rfl 31 _ g4 (info31 _) ?_ (rv_one _) ?_; (rw [rv_size, rv_size])))
      have hf : (rv fun i => decide (i < 2 * 32) && fw a b i) = rv (fw a b) := rv_ext fun i hi => by simp; omega
      refine bodyPost_ret (v := .agg (rv (fw a b))) (results_cell_row (fn := Try.f8) rfl _ _ w.heap.size 31 _ (0, 0) _ rfl (setRow_heap _ _ _ _ _ _ g4) Try.underlying31 rfl (info31 _) |>.trans ?_) rfl ⟨rfl, below_setRow hBr (Nat.le_refl _) _⟩
      rw [hf]
end Go.Proofs.Ytoloccoodnbbdaa
