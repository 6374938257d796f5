/- The ladder: the loop over all. -/
import Derived.RangeFuncNested
import Derived.RangeFuncBound
import Derived.RangeFuncCalls
import Derived.RangeFuncLeaves
import Derived.Shelf.Abstract
import Derived.Shelf.RegionOpen
import Derived.WalkKit
import Derived.OwnWalkIn
import Derived.TacticsInMore
import Derived.LoopNIn
import Derived.LoopIn
import Derived.WalkSpells
import Derived.WalkLawsBesides
import Derived.Deep.QuietTactic
import Derived.BigQuiet
import Derived.Lib.Hide
import Derived.Deep.WholeRow
import Derived.Deep.Onto
import Derived.Test.YtoloccoodnbbdaaLdG
namespace Go.Proofs.Ytoloccoodnbbdaa
open Go.RowKit Go.Shelf
attribute [local go_sem] Oper.semAt_some
/-- A place of 64. -/
abbrev I64 := { i : Nat // i < 64 }
/-- What the iterator gives, up to the place k. -/
def pairs (f : Nat → Bool) : Nat → List I64
  | 0 => []
  | k + 1 => pairs f k ++ if h : k < 64 ∧ f k = true then [⟨k, h.1⟩] else []
theorem pairs_yes (f : Nat → Bool) (k : Nat) (hk : k < 64) (h : f k = true) : pairs f (k + 1) = pairs f k ++ [⟨k, hk⟩] := by
  simp [pairs, hk, h]
theorem pairs_no (f : Nat → Bool) (k : Nat) (h : f k = false) : pairs f (k + 1) = pairs f k := by
  simp [pairs, h]
theorem pairs_pre (f : Nat → Bool) {k n : Nat} (h : k ≤ n) : pairs f k <+: pairs f n := by
  obtain ⟨d, rfl⟩ : ∃ d, n = k + d := ⟨n - k, by omega⟩
  clear h
  induction d with
  | zero => exact List.prefix_refl _
  | succ d ih =>
    refine ih.trans ?_
    rw [← Nat.add_assoc]
    exact List.prefix_append _ _
theorem pairs_lt (f : Nat → Bool) {k n : Nat} (hk : k < n) (h64 : k < 64) (h : f k = true) : (pairs f k).length < (pairs f n).length := by
  have := (pairs_pre f (show k + 1 ≤ n by omega)).length_le
  rw [pairs_yes f k h64 h] at this
  simp at this
  omega
def prioOf (p : I64) : Int := 8 * ((p.1 / 2 : Nat) : Int)
def grpOf (p : I64) : Int := ((p.1 % 2 : Nat) : Int)
theorem prio_mk {k g : Nat} (h : 2 * k + g < 64) (hg : g < 2) : prioOf ⟨2 * k + g, h⟩ = 8 * (k : Int) := by
  show 8 * (((2 * k + g) / 2 : Nat) : Int) = _
  omega
theorem grp_mk {k g : Nat} (h : 2 * k + g < 64) (hg : g < 2) : grpOf ⟨2 * k + g, h⟩ = (g : Int) := by
  show (((2 * k + g) % 2 : Nat) : Int) = _
  omega
abbrev enc2 (p : I64) : Array Value := #[.int .i64 (prioOf p), .int .i64 (grpOf p)]
/-- The block is as it was. -/
def KB (B : Nat) (W W' : World) : Prop := W'.heap[B]? = W.heap[B]?

set_option maxRecDepth 100000 in
set_option maxHeartbeats 1000000 in
theorem all1_in (n l Bn x0 x1 : Nat) (h0 : x0 < 2 ^ 32) (h1 : x1 < 2 ^ 32) (J Jx : List I64 → World → Prop)
    (hY : ∀ pre x W, J pre W → pre.length < (pairs (fw x0 x1) 64).length → YieldAt Fence.wide (n - 1) Try.prog l (enc2 x) W fun e W' =>
      (e = .returned (.bool true) ∧ J (pre ++ [x]) W' ∧ KB Bn W W') ∨ (e = .returned (.bool false) ∧ Jx (pre ++ [x]) W'))
    (W : World) (hB : W.heap[Bn]? = some (.cells #[.int .u32 x0, .int .u32 x1] 27)) (h00 : J [] W) :
    CallsIn Fence.wide n Try.prog 53 #[.func (.yield l) #[] #[], .pointer (some ⟨Bn, 0, none⟩)] W fun e W' => (∃ v, e = .returned v) ∧
      ((∃ ys, ys = pairs (fw x0 x1) 64 ∧ J ys W') ∨ (∃ pre, pre <+: pairs (fw x0 x1) 64 ∧ Jx pre W')) := by
  refine callsIn_of_wp Try.func53 rfl trivial ?_ rfl
  simp only [Try.ntmps53, List.size_toArray, List.length_cons, List.length_nil, Nat.reduceAdd, Nat.reduceSub, Array.replicate_succ, Array.replicate_zero, List.push_toArray, List.append_toArray, List.nil_append, List.cons_append]
  gi_wp2
  gi_loopw [5] (fun i wr => ∃ k : Nat, k ≤ 32 ∧ i = .int .i64 (k : Int) ∧ wr.heap[Bn]? = some (.cells #[.int .u32 x0, .int .u32 x1] 27) ∧ J (pairs (fw x0 x1) (2 * k)) wr) (fun i _ => 32 - (intOf i).toNat)
  case atStart => exact ⟨0, by omega, rfl, hB, h00⟩
  case round =>
    obtain ⟨k, hk, rfl, hBr, hJ⟩ := hrel
    by_cases hlt : k < 32
    · have hd1 : decide ((k : Int) < 32) = true := by simp; omega
      gi_wp2
      obtain ⟨wo, rfl⟩ : ∃ wo : World, wo = wr := ⟨_, rfl⟩
      gi_loopw [8] (fun i wr => ∃ g : Nat, g ≤ 2 ∧ i = .int .i64 (g : Int) ∧ wr.heap[Bn]? = some (.cells #[.int .u32 x0, .int .u32 x1] 27) ∧ J (pairs (fw x0 x1) (2 * k + g)) wr) (fun i _ => 2 - (intOf i).toNat)
      case atStart => exact ⟨0, by omega, rfl, hBr, hJ⟩
      case round =>
        obtain ⟨g, hg, rfl, hBi, hJi⟩ := hrel
        by_cases hgl : g < 2
        · have hX : word x0 x1 g < 2 ^ 32 := by unfold word; split <;> assumption
          have c0 : wr.cell? ⟨Bn, g, none⟩ = some (.int .u32 (word x0 x1 g : Nat)) := by
            rw [cell_of_row wr Bn g _ _ _ hBi]
            match g, hgl with
            | 0, _ => rfl
            | 1, _ => rfl
          have htest := test_nat (word x0 x1 g) k hX
          have hff : fw x0 x1 (2 * k + g) = (word x0 x1 g).testBit k := by
            have e1 : (2 * k + g) % 2 = g := by omega
            have e2 : (2 * k + g) / 2 = k := by omega
            simp [fw, e1, e2]
          cases hb : (word x0 x1 g).testBit k with
          | true =>
            rw [hb] at htest hff
            have h64 : 2 * k + g < 64 := by omega
            have hlen := pairs_lt (fw x0 x1) h64 h64 hff
            have HY := Lib.hid hY
            obtain ⟨fn, tmps, assign, body, hy, hR⟩ := hY (pairs (fw x0 x1) (2 * k + g)) ⟨2 * k + g, h64⟩ wr hJi hlen
            dsimp only [enc2] at hy
            rw [show prioOf ⟨2 * k + g, h64⟩ = 8 * (k : Int) from prio_mk h64 hgl, show grpOf ⟨2 * k + g, h64⟩ = (g : Int) from grp_mk h64 hgl] at hy
            have HF := Lib.hid hff
            clear hff hY hlen hb
            gi_wp2
            refine ⟨fun h => (by cases h), hR.mono ?_⟩
            have hpy := pairs_yes (fw x0 x1) (2 * k + g) h64 HF.out
            have HP := Lib.hid hpy
            clear hpy
            rintro e W' (⟨rfl, hJ', hk'⟩ | ⟨rfl, hJx'⟩)
            · have hBn : W'.heap[Bn]? = some (.cells #[.int .u32 x0, .int .u32 x1] 27) := Eq.trans hk' hBi
              gi_wp2
              refine ⟨⟨g + 1, by omega, by go_num, hBn, ?_⟩, by simp [intOf]; omega⟩
              rw [← Nat.add_assoc, HP.out]; exact hJ'
            · gi_wp2
              refine bodyPost_ret (results_none rfl _ _ _) rfl ?_
              refine ⟨⟨_, rfl⟩, .inr ⟨_, ?_, hJx'⟩⟩
              rw [← HP.out]; exact pairs_pre _ (by omega)
          | false =>
            rw [hb] at htest hff
            have HF := Lib.hid hff
            clear hff hb
            gi_wp2
            refine ⟨fun _ h => (by cases h), ?_⟩
            gi_wp2
            refine ⟨⟨g + 1, by omega, by go_num, hBi, ?_⟩, by simp [intOf]; omega⟩
            rw [← Nat.add_assoc, pairs_no _ _ HF.out]; exact hJi
        · obtain rfl : g = 2 := by omega
          gi_wp2
          exact ⟨⟨k + 1, by omega, by go_num, hBi, hJi⟩, by simp [intOf]; omega⟩
    · obtain rfl : k = 32 := by omega
      gi_wp2
      go_end0
      exact ⟨⟨_, rfl⟩, .inl ⟨_, rfl, hJ⟩⟩
end Go.Proofs.Ytoloccoodnbbdaa
