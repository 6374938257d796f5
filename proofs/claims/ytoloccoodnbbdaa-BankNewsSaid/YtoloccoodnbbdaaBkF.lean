/- Banks: one by one. -/
import Derived.RangeFuncNested
import Derived.RangeFuncBound
import Derived.RangeFuncCalls
import Derived.RangeFuncLeaves
import Derived.Shelf.Abstract
import Derived.Shelf.RegionOpen
import Derived.WalkKit
import Derived.OwnWalkIn
import Derived.TacticsInMore
import Derived.LoopNIn
import Derived.LoopIn
import Derived.WalkSpells
import Derived.WalkLawsBesides
import Derived.Deep.QuietTactic
import Derived.BigQuiet
import Derived.Lib.Hide
import Derived.RangeFuncWrites
import Derived.Deep.WholeRow
import Derived.Laws.Rows
import Derived.Laws.Tables
import Derived.Test.YtoloccoodnbbdaaBkE
namespace Go.Proofs.Ytoloccoodnbbdaa
open Go.RowKit Go.Shelf
attribute [local go_sem] Oper.semAt_some

theorem Blk.drew' {W : World} {B : Nat} {t : TypeId} {C : Array Value} (h : Blk W B t C) : W.drew.heap[B]? = some (.cells C t (0, 0)) := h
/-- The blocks of p are as they were. -/
def KP (p : Nat → Prop) (W W' : World) : Prop := ∀ B, p B → W'.heap[B]? = W.heap[B]?
theorem kp_t {p : Nat → Prop} {X Y Z : World} (h : KP p X Y) (k : KP p Y Z) : KP p X Z := fun B hB => (k B hB).trans (h B hB)
theorem kp_b {p : Nat → Prop} {w : World} (hp : ∀ B, p B → B < w.heap.size) (W : World) (l : Nat) (o o' : Obj) (hl : w.heap.size ≤ l) (h : W.heap[l]? = some o) (_ : o.isCells = false) (_ : o.isWalk = false) : KP p W (W.putObj l o') :=
  fun B hB => (grownBy_putObj' W l o').block B (by have := (Array.getElem?_eq_some_iff.1 h).1; have := hp B hB; omega) (fun e => by have := hp B hB; cases e; omega)
theorem AbidesFrom.alloc {β : Type} {B : Nat} {J : β → World → Prop} (h : AbidesFrom B J) {s : β} {W : World} (o : Obj) (hs : J s W) : J s (W.alloc o) :=
  h s W _ none hs (World.grownBy_alloc W o none) (fun r e => by cases e)
theorem AbidesFrom.drew {β : Type} {B : Nat} {J : β → World → Prop} (h : AbidesFrom B J) {s : β} {W : World} (hs : J s W) : J s W.drew :=
  h s W _ none hs ⟨rfl, rfl, rfl, Nat.le_refl _, fun _ _ _ => rfl⟩ (fun r e => by cases e)
theorem two_ways {e : Ending} {A D : Prop} (h : (e = .returned (.bool true) ∧ A) ∨ (e = .returned (.bool false) ∧ D)) : ∃ b, e = .returned (.bool b) ∧ Hid ((b = true ∧ A) ∨ (b = false ∧ D)) := by
  rcases h with ⟨rfl, h⟩ | ⟨rfl, h⟩
  · exact ⟨true, rfl, Lib.hid (.inl ⟨rfl, h⟩)⟩
  · exact ⟨false, rfl, Lib.hid (.inr ⟨rfl, h⟩)⟩
def rangeL : Nat → List Nat
  | 0 => []
  | k + 1 => rangeL k ++ [k]
theorem rangeL_len (k : Nat) : (rangeL k).length = k := by
  induction k with
  | zero => rfl
  | succ k ih => simp [rangeL, ih]
theorem rangeL_pre {k n : Nat} (h : k ≤ n) : rangeL k <+: rangeL n := by
  obtain ⟨d, rfl⟩ : ∃ d, n = k + d := ⟨n - k, by omega⟩
  clear h
  induction d with
  | zero => exact List.prefix_refl _
  | succ d ih => exact ih.trans (by rw [← Nat.add_assoc]; exact List.prefix_append _ _)

set_option maxRecDepth 100000 in
set_option maxHeartbeats 1000000 in
theorem bank_in (n0 l G g cap T B D first n : Nat) (f : Nat → Array Value) (v0 v1 v2 v3 v4 : Nat → Bool) (v5 v6 : Nat → Int) (v7 : Nat → ByteArray) (hf8 : ∀ j, f j = #[.bool (v0 j), .bool (v1 j), .bool (v2 j), .bool (v3 j), .bool (v4 j), .int .i64 (v5 j), .int .i64 (v6 j), .string (v7 j)]) (hff : first ≤ 16384) (hn : n ≤ 16384) (J Jx : List Nat → World → Prop) (hJa : ∀ s W o, J s W → J s (W.alloc o)) (hJd : ∀ s W, J s W → J s W.drew)
    (hY : ∀ pre (x : Nat) W, J pre W → pre.length < n → YieldAt Fence.wide (n0 - 1) Try.prog l #[.int .i64 ((first : Int) + (x : Int)), .agg (f x)] W fun e W' =>
      (e = .returned (.bool true) ∧ J (pre ++ [x]) W' ∧ KP (fun b => b = G ∨ b = g ∨ b = T ∨ b = B) W W') ∨ (e = .returned (.bool false) ∧ Jx (pre ++ [x]) W'))
    (W : World) (hG : Blk W G 99 #[.slice (some ⟨g, 0, none⟩) n cap]) (hT : Blk W T 44 #[.pointer (some ⟨B, 0, none⟩)]) (hB : Blk W B 101 #[.int .i64 (first : Int), .slice (some ⟨D, 0, none⟩) n n]) (hR : RowB W g 56 8 n f) (h00 : J [] W) :
    CallsIn Fence.wide n0 Try.prog 58 #[.func (.yield l) #[] #[], .pointer (some ⟨G, 0, none⟩), .pointer (some ⟨T, 0, none⟩)] W fun e W' => (∃ v, e = .returned v) ∧
      ((∃ ys, ys = rangeL n ∧ J ys W') ∨ (∃ pre, pre <+: rangeL n ∧ Jx pre W')) := by
  have hmo : Try.prog.follows .mixedOrders = true := by kernel_rfl
  refine callsIn_of_wp Try.func58 rfl trivial ?_ rfl
  simp only [Try.ntmps58, List.size_toArray, List.length_cons, List.length_nil, Nat.reduceAdd, Nat.reduceSub, Array.replicate_succ, Array.replicate_zero, List.push_toArray, List.append_toArray, List.nil_append, List.cons_append]
  have c0 := hG.cell 0
  gi_wp2
  gi_loopw [8] (fun i wr => ∃ k : Nat, k ≤ n ∧ i = .int .i64 (k : Int) ∧ (Blk wr G 99 #[.slice (some ⟨g, 0, none⟩) n cap] ∧ Blk wr T 44 #[.pointer (some ⟨B, 0, none⟩)] ∧ Blk wr B 101 #[.int .i64 (first : Int), .slice (some ⟨D, 0, none⟩) n n] ∧ RowB wr g 56 8 n f) ∧ J (rangeL k) wr) (fun i _ => n - (intOf i).toNat)
  case atStart => exact ⟨0, by omega, rfl, ⟨hG, hT, hB, hR⟩, h00⟩
  case round =>
    obtain ⟨k, hk, rfl, ⟨hGr, hTr, hBr, hRr⟩, hJ⟩ := hrel
    by_cases hlt : k < n
    · have hlt' : (k : Int) < (n : Int) := by omega
      have ltT := hTr.lt
      have ltB := hBr.lt
      have cT := hTr.cell 0
      have cB := hBr.cell 0
      have q0 : wr.cell? ⟨g, k * 8, none⟩ = some (.bool (v0 k)) := hRr.cell hlt (i := 0) (by omega) (by rw [hf8]; rfl)
      have q1 : wr.cell? ⟨g, k * 8 + 1, none⟩ = some (.bool (v1 k)) := hRr.cell hlt (by omega) (by rw [hf8]; rfl)
      have q2 : wr.cell? ⟨g, k * 8 + 2, none⟩ = some (.bool (v2 k)) := hRr.cell hlt (by omega) (by rw [hf8]; rfl)
      have q3 : wr.cell? ⟨g, k * 8 + 3, none⟩ = some (.bool (v3 k)) := hRr.cell hlt (by omega) (by rw [hf8]; rfl)
      have q4 : wr.cell? ⟨g, k * 8 + 4, none⟩ = some (.bool (v4 k)) := hRr.cell hlt (by omega) (by rw [hf8]; rfl)
      have q5 : wr.cell? ⟨g, k * 8 + 5, none⟩ = some (.int .i64 (v5 k)) := hRr.cell hlt (by omega) (by rw [hf8]; rfl)
      have q6 : wr.cell? ⟨g, k * 8 + 6, none⟩ = some (.int .i64 (v6 k)) := hRr.cell hlt (by omega) (by rw [hf8]; rfl)
      have q7 : wr.cell? ⟨g, k * 8 + 7, none⟩ = some (.string (v7 k)) := hRr.cell hlt (by omega) (by rw [hf8]; rfl)
      have hJ2 := hJd _ _ (hJa _ _ (.cells #[.bool (v0 k), .bool (v1 k), .bool (v2 k), .bool (v3 k), .bool (v4 k), .int .i64 (v5 k), .int .i64 (v6 k), .string (v7 k)] 56) hJ)
      have hlen : (rangeL k).length < n := by rw [rangeL_len]; exact hlt
      obtain ⟨fn, tmps, assign, body, hy, hRY⟩ := hY (rangeL k) k _ hJ2 hlen
      rw [hf8] at hy
      have HY := Lib.hid hY
      have HF := Lib.hid hf8
      clear hY hf8 hlen
      gi_wp2
      have ew : IntKind.i64.wrap ((first : Int) + (k : Int)) = (first : Int) + (k : Int) := by rw [IntKind.wrap_i64]; omega
      gi_region_with_o ((refine ⟨fun h => (by cases h), hRY.mono ?_⟩; rintro e W' hh; obtain ⟨b, rfl, hb⟩ := two_ways hh; clear hh))
      all_goals
        clear hy hRY
        cases b with
        | true =>
          rcases hb.out with ⟨_, hJ', hk'⟩ | ⟨h, _⟩
          · gi_wp2
            refine ⟨⟨k + 1, by omega, by go_num, ⟨Eq.trans (hk' G (by simp)) ((hGr.alloc _).drew'), Eq.trans (hk' T (by simp)) ((hTr.alloc _).drew'), Eq.trans (hk' B (by simp)) ((hBr.alloc _).drew'), ?_⟩, hJ'⟩, by simp [intOf]; omega⟩
            obtain ⟨C, hC, hC2⟩ := hRr
            exact ⟨C, Eq.trans (hk' g (by simp)) ((hC.alloc _).drew'), hC2⟩
          · cases h
        | false =>
          rcases hb.out with ⟨h, _⟩ | ⟨_, hJx'⟩
          · cases h
          · gi_wp2
            refine bodyPost_ret (results_none rfl _ _ _) rfl ?_
            exact ⟨⟨_, rfl⟩, .inr ⟨_, rangeL_pre (show k + 1 ≤ n by omega), hJx'⟩⟩
    · obtain rfl : k = n := by omega
      gi_wp2
      go_end0
      exact ⟨⟨_, rfl⟩, .inl ⟨_, rfl, hJ⟩⟩
end Go.Proofs.Ytoloccoodnbbdaa
