/- The document's ladder: a group's bits, what is let go. -/
import Derived.RangeFuncNested
import Derived.RangeFuncBound
import Derived.RangeFuncCalls
import Derived.RangeFuncLeaves
import Derived.Shelf.Abstract
import Derived.Shelf.RegionOpen
import Derived.WalkKit
import Derived.OwnWalkIn
import Derived.TacticsInMore
import Derived.LoopNIn
import Derived.LoopIn
import Derived.WalkSpells
import Derived.WalkLawsBesides
import Derived.Deep.QuietTactic
import Derived.BigQuiet
import Derived.Lib.Hide
import Derived.Deep.WholeRow
import Derived.Deep.Onto
import Derived.Test.YtoloccoodnbbdaaLdD
namespace Go.Proofs.Ytoloccoodnbbdaa
open Go.RowKit Go.Shelf
attribute [local go_sem] Oper.semAt_some
theorem bits_yes (X j : Nat) (hX : X < 2 ^ 32) (h : X.testBit j = true) : ((((X / 2 ^ (j + 1) : Nat) : Int) * 2 % 4294967296) + 1) % 4294967296 = ((X / 2 ^ j : Nat) : Int) := by
  have h1 : X / 2 ^ j < 2 ^ 32 := Nat.lt_of_le_of_lt (Nat.div_le_self _ _) hX
  rw [Nat.testBit_eq_decide_div_mod_eq] at h
  rw [Nat.pow_succ, ← Nat.div_div_eq_div_mul]
  simp at h
  generalize X / 2 ^ j = n at *
  omega
theorem bits_no (X j : Nat) (hX : X < 2 ^ 32) (h : X.testBit j = false) : (((X / 2 ^ (j + 1) : Nat) : Int) * 2 % 4294967296) = ((X / 2 ^ j : Nat) : Int) := by
  have h1 : X / 2 ^ j < 2 ^ 32 := Nat.lt_of_le_of_lt (Nat.div_le_self _ _) hX
  rw [Nat.testBit_eq_decide_div_mod_eq] at h
  rw [Nat.pow_succ, ← Nat.div_div_eq_div_mul]
  simp at h
  generalize X / 2 ^ j = n at *
  omega

set_option maxRecDepth 100000 in
set_option maxHeartbeats 400000 in
theorem bitsR_any (f : Nat → Bool) (g X : Nat) (hg : g < 2) (hX : X < 2 ^ 32) (hf : ∀ j, j < 32 → f (2 * j + g) = X.testBit j) (w : World) :
    Calls Try.prog 36 #[.agg (rv f), .int .i64 g] w fun e w' => e = .returned (.int .u32 X) ∧ Below w.heap.size w w' := by
  have HF := Lib.hid hf
  clear hf
  have HX := Lib.hid hX
  clear hX
  go_enter Try.func36, Try.ntmps36
  go_wp2_with fail
  obtain ⟨W, hW⟩ : ∃ W, w.alloc (.cells (rv f) 31) = W := ⟨_, rfl⟩
  have hB : Below w.heap.size w W := by rw [← hW]; exact one_box _ _
  have h4 : W.heap[w.heap.size]? = some (.cells (rv f) 31) := by rw [← hW]; exact heap_alloc_new _ _
  rw [hW]
  clear hW
  go_loop [5, 6] (fun n i => ∃ k : Nat, k ≤ 32 ∧ i = .int .i64 ((k : Int) - 1) ∧ n = .int .u32 ((X / 2 ^ k : Nat) : Int)) (fun _ i => (intOf i + 1).toNat)
  case atStart => exact ⟨32, by omega, rfl, by rw [Nat.div_eq_of_lt HX.out]; rfl⟩
  case round =>
    obtain ⟨k, hk, rfl, rfl⟩ := hrel
    by_cases hz : k = 0
    · subst hz
      go_wp2
      go_ret
      exact ⟨by simp, hB⟩
    · obtain ⟨j, rfl⟩ : ∃ j, k = j + 1 := ⟨k - 1, by omega⟩
      have c0 := cell_of_row W w.heap.size (2 * j + g) _ _ _ h4
      rw [rv_get _ _ (by omega), HF.out j (by omega)] at c0
      have hj0 : (0 : Int) ≤ ((j + 1 : Nat) : Int) - 1 := by omega
      cases hb : X.testBit j with
      | true =>
        rw [hb] at c0
        have HB := Lib.hid hb
        clear hb
        go_wp2
        refine ⟨⟨j, by omega, rfl, ?_⟩, by simp [intOf]⟩
        rw [natdiv, ← bits_yes X j HX.out HB.out]
        have h9 : X / 2 ^ (j + 1) < 2147483648 := by
          have h8 := HX.out
          rw [Nat.pow_succ, Nat.mul_comm, ← Nat.div_div_eq_div_mul]
          exact Nat.lt_of_le_of_lt (Nat.div_le_self _ _) (by omega)
        generalize X / 2 ^ (j + 1) = n at *
        rw [show ((n : Int) * 2 % 4294967296 + 1) % 4294967296 = (n : Int) * 2 % 4294967296 + 1 from by omega]
      | false =>
        rw [hb] at c0
        have HB := Lib.hid hb
        clear hb
        go_wp2
        refine ⟨⟨j, by omega, rfl, ?_⟩, by simp [intOf]⟩
        rw [natdiv, ← bits_no X j HX.out HB.out]

theorem results_cell_tmp {P : Program} {fn : Func} {p q : Tmp} {ty : TypeId} (h : fn.results = #[.cell p ty, .tmp q]) (tmps : Array Value) (w : World) (g : Nat) (t : TypeId) (cs : Array Value) (fr : Nat × Nat) (d : TypeDesc)
    (hp : tmps.getD p undef = .pointer (some ⟨g, 0, none⟩)) (hg : w.heap[g]? = some (.cells cs t fr))
    (hu : P.underlying ty = some d) (hd : (match d with | .struct _ | .array _ _ => true | _ => false) = true) (hi : (P.info? ty).map (·.size) = some cs.size) :
    (results fn tmps).run P w = .ok (.tuple #[.agg cs, tmps.getD q undef]) w := by
  have hp' : tmps[p]?.getD undef = .pointer (some ⟨g, 0, none⟩) := by simpa using hp
  simp [results, h, hp', asAddr, run_loadVar_row w g t ty cs fr d hg hu hd hi]

/-- The first place whose bit is set. -/
def firstB (f : Nat → Bool) : Nat → Option Nat
  | 0 => none
  | k + 1 => match firstB f k with | some i => some i | none => if f k then some k else none
theorem firstB_none {f : Nat → Bool} {k : Nat} (h : ∀ j, j < k → f j = false) : firstB f k = none := by
  induction k with
  | zero => rfl
  | succ k ih => simp [firstB, ih (fun j hj => h j (by omega)), h k (by omega)]
theorem firstB_some {f : Nat → Bool} {k : Nat} (h : ∀ j, j < k → f j = false) (hk : f k = true) : ∀ n, k < n → firstB f n = some k := by
  intro n hn
  induction n with
  | zero => omega
  | succ n ih =>
    by_cases e : k = n
    · subst e; simp [firstB, firstB_none h, hk]
    · simp [firstB, ih (by omega)]
/-- What is left when the first one is let go, and whether there was one. -/
def dropF (f : Nat → Bool) : (Nat → Bool) × Bool := match firstB f 64 with
  | some i => (fun j => !decide (j = i) && f j, true)
  | none => (f, false)

theorem dropF_some {f : Nat → Bool} {k : Nat} (h : ∀ j, j < k → f j = false) (hk : f k = true) (h64 : k < 64) : dropF f = (fun j => !decide (j = k) && f j, true) := by
  unfold dropF; rw [firstB_some h hk 64 h64]
theorem dropF_none {f : Nat → Bool} (h : ∀ j, j < 64 → f j = false) : dropF f = (f, false) := by
  unfold dropF; rw [firstB_none h]

set_option maxRecDepth 100000 in
set_option maxHeartbeats 400000 in
theorem dropR_any (f : Nat → Bool) (w : World) :
    Calls Try.prog 14 #[.agg (rv f)] w fun e w' => e = .returned (.tuple #[.agg (rv (dropF f).1), .bool (dropF f).2]) ∧ Below w.heap.size w w' := by
  go_enter Try.func14, Try.ntmps14
  go_wp2_with fail
  rw [zero64]
  obtain ⟨W, hW⟩ : ∃ W, (w.alloc (.cells (rv f) 31)).alloc (.cells (rv fun _ => false) 31) = W := ⟨_, rfl⟩
  have hB : Below w.heap.size w W := by rw [← hW]; exact two_boxes _ _ _
  have h4 : W.heap[w.heap.size]? = some (.cells (rv f) 31) := by rw [← hW]; exact heap_alloc2_old _ _ _
  have h5 : W.heap[w.heap.size + 1]? = some (.cells (rv fun _ => false) 31) := by rw [← hW]; exact heap_alloc2_new _ _ _
  rw [hW]
  clear hW
  go_loop [4] (fun i => ∃ k : Nat, k ≤ 64 ∧ i = .int .i64 (k : Int) ∧ Hid (∀ j, j < k → f j = false)) (fun i => 64 - (intOf i).toNat)
  case atStart => exact ⟨0, by omega, rfl, Lib.hid fun j hj => by omega⟩
  case round =>
    obtain ⟨k, hk, rfl, hp⟩ := hrel
    by_cases hlt : k < 64
    · have c0 := cell_of_row W w.heap.size k _ _ _ h4
      rw [rv_get _ _ hlt] at c0
      have f0 := frozen_of_row W w.heap.size k _ _ h4
      cases hf : f k with
      | true =>
        rw [hf] at c0
        have HF := Lib.hid hf
        clear hf
        have g4 := heap_setCell_same W w.heap.size k _ _ (.bool false) h4
        rw [rv_set, show (rv fun j => if j = k then false else f j) = rv (fun j => !decide (j = k) && f j) from rv_ext fun i _ => by by_cases e : i = k <;> simp [e]] at g4
        have g5 : (W.setCell ⟨w.heap.size, k, none⟩ (.bool false)).heap[w.heap.size + 1]? = some (.cells (rv fun _ => false) 31) := by rw [heap_setCell_other _ _ _ _ (by simp)]; exact h5
        go_wp2_with (first | (refine wpList_load_row rfl 31 _ rfl w.heap.size rfl 31 _ (0, 0) _ g4 Try.underlying31 rfl (info31 _) ?_) | (refine wpList_store_row rfl 31 _ _ rfl (w.heap.size + 1) _ rfl rfl 31 _ g5 (info31 _) ?_ (rv_one _) ?_; (rw [rv_size, rv_size])))
        refine bodyPost_ret (v := .tuple #[.agg (rv fun j => !decide (j = k) && f j), .bool true]) (results_cell_tmp (fn := Try.f14) Try.results14 _ _ (w.heap.size + 1) 31 _ (0, 0) _ rfl (setRow_heap _ _ _ _ _ _ g5) Try.underlying31 rfl (info31 _)) rfl ⟨?_, below_setRow (hB.setCell (p := ⟨_, _, none⟩) (Nat.le_refl _) _) (by omega) _⟩
        rw [dropF_some hp.out HF.out hlt]
      | false =>
        rw [hf] at c0
        have HF := Lib.hid hf
        clear hf
        go_wp2
        refine ⟨⟨k + 1, by omega, by go_num, Lib.hid fun j hj => ?_⟩, by simp [intOf]; omega⟩
        by_cases e : j = k
        · subst e; exact HF.out
        · exact hp.out j (by omega)
    · obtain rfl : k = 64 := by omega
      go_wp2_with (first | (refine wpList_load_row rfl 31 _ rfl w.heap.size rfl 31 _ (0, 0) _ h4 Try.underlying31 rfl (info31 _) ?_) | (refine wpList_store_row rfl 31 _ _ rfl (w.heap.size + 1) _ rfl rfl 31 _ h5 (info31 _) ?_ (rv_one _) ?_; (rw [rv_size, rv_size])))
      refine bodyPost_ret (v := .tuple #[.agg (rv f), .bool false]) (results_cell_tmp (fn := Try.f14) Try.results14 _ _ (w.heap.size + 1) 31 _ (0, 0) _ rfl (setRow_heap _ _ _ _ _ _ h5) Try.underlying31 rfl (info31 _)) rfl ⟨?_, below_setRow hB (by omega) _⟩
      rw [dropF_none hp.out]
end Go.Proofs.Ytoloccoodnbbdaa
