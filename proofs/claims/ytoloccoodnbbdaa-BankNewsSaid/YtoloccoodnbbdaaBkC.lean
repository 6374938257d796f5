/- Banks: the reference's. -/
import Derived.RangeFuncNested
import Derived.RangeFuncBound
import Derived.RangeFuncCalls
import Derived.RangeFuncLeaves
import Derived.Shelf.Abstract
import Derived.Shelf.RegionOpen
import Derived.WalkKit
import Derived.OwnWalkIn
import Derived.TacticsInMore
import Derived.LoopNIn
import Derived.LoopIn
import Derived.WalkSpells
import Derived.WalkLawsBesides
import Derived.Deep.QuietTactic
import Derived.BigQuiet
import Derived.Lib.Hide
import Derived.RangeFuncBox
import Derived.Laws.MakeOwn
import Derived.Deep.WholeRow
import Derived.Laws.Rows
import Derived.Laws.Tables
import Derived.Test.YtoloccoodnbbdaaBkB
namespace Go.Proofs.Ytoloccoodnbbdaa
open Go.RowKit Go.Shelf
attribute [local go_sem] Oper.semAt_some

set_option maxRecDepth 100000 in
set_option maxHeartbeats 1000000 in
theorem rnew_no (first n : Int) (x : ByteArray) (w : World) (hmin : -9223372036854775808 ≤ first) (hmax : first ≤ 9223372036854775807) (h : first < 0 ∨ (0 ≤ first ∧ n < 0) ∨ (0 ≤ first ∧ 0 ≤ n ∧ 16384 < first) ∨ (0 ≤ first ∧ 0 ≤ n ∧ first ≤ 16384 ∧ 16384 < n) ∨ (0 ≤ first ∧ 0 ≤ n ∧ first ≤ 16384 ∧ n ≤ 16384 ∧ 16384 < first + n)) :
    Calls Try.prog 19 #[.int .i64 first, .int .i64 n, .string x] w fun e w' => e = .returned (.tuple #[.pointer none, .bool false]) ∧ w = w' := by
  rcases h with h | ⟨h0, h⟩ | ⟨h0, h1, h⟩ | ⟨h0, h1, h2, h⟩ | ⟨h0, h1, h2, h3, h⟩
  all_goals
    go_enter Try.func19, Try.ntmps19
    go_wp2
    go_ret2
    exact ⟨rfl, rfl⟩
def zl : List Value := [.bool false, .bool false, .bool false, .bool false, .bool false, .int .i64 0, .int .i64 0]
def lineRow (k : Nat) : List Value := (List.replicate k zl).flatten
theorem lineRow_succ (k : Nat) : lineRow (k + 1) = lineRow k ++ [.bool false, .bool false, .bool false, .bool false, .bool false, .int .i64 0, .int .i64 0] := by
  unfold lineRow
  rw [List.replicate_succ', List.flatten_append]
  rfl
theorem lineRow_len (k : Nat) : (lineRow k).length = k * 7 := by
  unfold lineRow
  simp [zl]
theorem lineRow_get (n j i : Nat) (hj : j < n) (hi : i < 7) : (lineRow n)[j * 7 + i]? = zl[i]? := by
  induction n with
  | zero => omega
  | succ n ih =>
    unfold lineRow
    rw [List.replicate_succ', List.flatten_append]
    by_cases e : j < n
    · rw [List.getElem?_append_left (by have := lineRow_len n; unfold lineRow at this; rw [this]; have := Nat.mul_le_mul_right 7 (show j + 1 ≤ n by omega); omega)]
      exact ih e
    · obtain rfl : j = n := by omega
      have hl := lineRow_len j
      unfold lineRow at hl
      rw [List.getElem?_append_right (by rw [hl]; omega), hl]
      simp
theorem info54 : (Try.prog.info? 54).map (fun i => (i.zero, i.size, i.bytes)) = some (some (.agg #[.bool false, .bool false, .bool false, .bool false, .bool false, .int .i64 0, .int .i64 0]), 7, 24) := by kernel_rfl
theorem info9 : (Try.prog.info? 9).map (fun i => (i.zero, i.size, i.bytes)) = some (some (.string ⟨#[]⟩), 1, 16) := by kernel_rfl
theorem cells_new (w : World) (l : List Value) (t : TypeId) : ∀ j u, l[j]? = some u → (w.alloc (.cells l.toArray t)).cell? ((⟨w.heap.size, 0, none⟩ : Addr).add j) = some u := by
  intro j u h
  have e : ((⟨w.heap.size, 0, none⟩ : Addr).add j) = ⟨w.heap.size, j, none⟩ := by
    unfold Addr.add
    split <;> simp_all
  rw [e, (Blk.new w t l.toArray).cell j]
  simpa using h
theorem Blk.grown {W W' : World} {B : Nat} {t : TypeId} {C : Array Value} {row : Option Nat} (h : Blk W B t C) (hg : W.grownBy W' row) (hne : some B ≠ row) : Blk W' B t C := (hg.block B h.lt hne).trans h
theorem Blk.not_own {W : World} {B : Nat} {t e : TypeId} {C : Array Value} {base size k : Nat} {v : Value} {xs : List Value} (h : Blk W B t C) (hte : t ≠ e) (hr : W.ownsRow base e size v k xs) : some B ≠ v.ownBlock := by
  intro e'
  rcases hr.2 with ⟨rfl, _⟩ | ⟨g, cap, cur, rfl, _, hgb, _⟩
  · cases e'
  · obtain rfl : B = g := by simpa [Value.ownBlock] using e'
    rw [show W.heap[B]? = _ from h] at hgb
    cases hgb
    exact hte rfl
theorem rows_apart {W : World} {base base' e e' size size' k k' : Nat} {v v' : Value} {xs xs' : List Value} (h : W.ownsRow base e size v k xs) (h' : W.ownsRow base' e' size' v' k' xs') (hne : e ≠ e') : v.ownBlock = none ∨ v.ownBlock ≠ v'.ownBlock := by
  rcases h.2 with ⟨rfl, _⟩ | ⟨g, cap, cur, rfl, _, hgb, _⟩
  · exact .inl rfl
  · right
    intro e1
    rcases h'.2 with ⟨rfl, _⟩ | ⟨g', cap', cur', rfl, _, hgb', _⟩
    · cases e1
    · obtain rfl : g = g' := by simpa [Value.ownBlock] using e1
      rw [hgb] at hgb'
      cases hgb'
      exact hne rfl

/-- The reference's bank, new. -/
def RNew (first n : Nat) (x : ByteArray) (w : World) (e : Ending) (w' : World) : Prop := ∃ vL vE, e = .returned (.tuple #[.pointer (some ⟨w.heap.size, 0, none⟩), .bool true]) ∧
      Blk w' w.heap.size 105 #[.int .i64 (first : Int), vL, vE] ∧ w'.ownsRow w.heap.size 54 7 vL n (lineRow n) ∧ w'.ownsRow w.heap.size 9 1 vE n (List.replicate n (.string x)) ∧ Below w.heap.size w w'
theorem below_row {n₀ : Nat} {w W W' : World} {base e size k : Nat} {v : Value} {xs : List Value} (h : Below n₀ w W) (hr : W.ownsRow base e size v k xs) (hb : n₀ ≤ base) (hs : n₀ ≤ W.heap.size) (hg : W.grownBy W' v.ownBlock) : Below n₀ w W' := by
  refine h.grown hg hs (fun g e' => ?_)
  rcases hr.2 with ⟨rfl, _⟩ | ⟨g', cap, cur, rfl, hge, _, _⟩
  · cases e'
  · have : g' = g := by simpa [Value.ownBlock] using e'
    omega
set_option maxRecDepth 100000 in
set_option maxHeartbeats 1000000 in
theorem rnew_yes (first n : Nat) (x : ByteArray) (w : World) (h1 : first ≤ 16384) (h2 : first + n ≤ 16384) :
    Calls Try.prog 19 #[.int .i64 (first : Int), .int .i64 (n : Int), .string x] w (RNew first n x w) := by
  obtain ⟨iL, hiL, hzL, hsL, hbL⟩ := info_parts info54
  obtain ⟨iE, hiE, hzE, hsE, hbE⟩ := info_parts info9
  have B0 := Blk.new w 105 #[.int .i64 (first : Int), .slice none 0 0, .slice none 0 0]
  have D0 := one_box w (.cells #[.int .i64 (first : Int), .slice none 0 0, .slice none 0 0] 105)
  go_enter Try.func19, Try.ntmps19
  go_wp2
  go_loopw [9] (fun i wr => ∃ k : Nat, k ≤ n ∧ i = .int .i64 (k : Int) ∧ (∃ vL vE, Blk wr w.heap.size 105 #[.int .i64 (first : Int), vL, vE] ∧ wr.ownsRow w.heap.size 54 7 vL k (lineRow k) ∧ wr.ownsRow w.heap.size 9 1 vE k (List.replicate k (.string x))) ∧ Below w.heap.size w wr) (fun i _ => n - (intOf i).toNat)
  case atStart => exact ⟨0, by omega, rfl, ⟨_, _, B0, World.ownsRow_nil _ _ _ _, World.ownsRow_nil _ _ _ _⟩, D0⟩
  case round =>
    obtain ⟨k, hk, rfl, ⟨vL, vE, hB, hL, hE⟩, hD⟩ := hrel
    by_cases hlt : k < n
    · have hlt' : (k : Int) < (n : Int) := by omega
      have c1 := hB.cell 1
      have hsz := hD.size
      go_wp2_with (at_builtin; refine wpList_append_own _ rfl (.tmp 42) (.tmp 44) 102 rfl w.heap.size 54 iL _ 7 24 Try.underlying102 hiL hzL hsL hbL rfl (by decide) vL k _ rfl (hL.alloc _) ⟨wr.heap.size, 0, none⟩ 1 1 [.bool false, .bool false, .bool false, .bool false, .bool false, .int .i64 0, .int .i64 0] rfl rfl (cells_new _ _ _) ?c1 (by unfold maxLen; omega) (by omega) (by simp; omega) ?_)
      case c1 => intro u hu; simp at hu; rcases hu with rfl | rfl <;> rfl
      intro vL' w2 hL2 hg2 _
      obtain ⟨gL, capL, rfl⟩ := ownsRow_succ hL2
      have b2 := (hB.alloc (.cells #[.bool false, .bool false, .bool false, .bool false, .bool false, .int .i64 0, .int .i64 0] 54)).grown hg2 (hB.not_own (by decide) hL)
      have e2 := (hE.alloc (.cells #[.bool false, .bool false, .bool false, .bool false, .bool false, .int .i64 0, .int .i64 0] 54)).kept hg2 (rows_apart hE hL (by decide))
      have D2 := below_row (hD.alloc hsz _) (hL.alloc _) (Nat.le_refl _) (by simp; omega) hg2
      have n2 := b2.not_own (by decide) hL2
      have n3 := b2.not_own (by decide) e2
      have c2 := b2.cell 1
      have f2 := b2.frozen 1
      have c3 := b2.cell 2
      have b3 := b2.set 1 (.slice (some ⟨gL, 0, none⟩) (k + 1) capL)
      simp only [List.setIfInBounds_toArray, List.set_cons_succ, List.set_cons_zero] at b3
      have L3 := ownsRow_setCell_other hL2 (a := ⟨w.heap.size, 1, none⟩) (Ne.symm n2) (.slice (some ⟨gL, 0, none⟩) (k + 1) capL)
      have E3 := ownsRow_setCell_other e2 (a := ⟨w.heap.size, 1, none⟩) (Ne.symm n3) (.slice (some ⟨gL, 0, none⟩) (k + 1) capL)
      have D3 := D2.setCell (p := ⟨w.heap.size, 1, none⟩) (Nat.le_refl _) (.slice (some ⟨gL, 0, none⟩) (k + 1) capL)
      have hsz2 := D2.size
      have HL2 := Lib.hid hL2
      have HG2 := Lib.hid hg2
      have HE2 := Lib.hid e2
      have N2 := Lib.hid n2
      have N3 := Lib.hid n3
      clear hL2 hg2 e2 n2 n3 hL hE hB
      go_wp2_with (at_builtin; refine wpList_append_own _ rfl (.tmp 52) (.tmp 54) 103 rfl w.heap.size 9 iE _ 1 16 Try.underlying103 hiE hzE hsE hbE rfl (by decide) vE k _ rfl (E3.alloc _) ⟨w2.heap.size, 0, none⟩ 1 1 [.string x] rfl rfl ?c5 ?c6 (by unfold maxLen; omega) (by omega) (by simp; omega) ?_)
      case c5 =>
        have := cells_new (w2.setCell ⟨w.heap.size, 1, none⟩ (.slice (some ⟨gL, 0, none⟩) (k + 1) capL)) [.string x] 9
        simpa using this
      case c6 => intro u hu; simp at hu; subst hu; rfl
      intro vE' w3 hE3 hg3 _
      obtain ⟨gE, capE, rfl⟩ := ownsRow_succ hE3
      have b4 := (b3.alloc (.cells #[.string x] 9)).grown hg3 (b3.not_own (by decide) E3)
      have L4 := (L3.alloc (.cells #[.string x] 9)).kept hg3 (rows_apart L3 E3 (by decide))
      have D4 := below_row (D3.alloc D3.size _) (E3.alloc _) (Nat.le_refl _) (by simp; omega) hg3
      have n4 := b4.not_own (by decide) hE3
      have n5 := b4.not_own (by decide) L4
      have c4 := b4.cell 2
      have f4 := b4.frozen 2
      have b5 := b4.set 2 (.slice (some ⟨gE, 0, none⟩) (k + 1) capE)
      simp only [List.setIfInBounds_toArray, List.set_cons_succ, List.set_cons_zero] at b5
      have L5 := ownsRow_setCell_other L4 (a := ⟨w.heap.size, 2, none⟩) (Ne.symm n5) (.slice (some ⟨gE, 0, none⟩) (k + 1) capE)
      have E5 := ownsRow_setCell_other hE3 (a := ⟨w.heap.size, 2, none⟩) (Ne.symm n4) (.slice (some ⟨gE, 0, none⟩) (k + 1) capE)
      rw [← lineRow_succ] at L5
      rw [← List.replicate_succ'] at E5
      have D5 := D4.setCell (p := ⟨w.heap.size, 2, none⟩) (Nat.le_refl _) (.slice (some ⟨gE, 0, none⟩) (k + 1) capE)
      have HF := Lib.hid (And.intro b5 (And.intro L5 E5))
      clear hE3 hg3 b4 L4 n4 n5 b5 L5 E5 L3 E3 b3 b2
      go_wp2
      exact ⟨⟨k + 1, by omega, by go_num, ⟨_, _, HF.out⟩, D5⟩, by simp [intOf]; omega⟩
    · obtain rfl : k = n := by omega
      have hlt' : ¬ (k : Int) < (k : Int) := by omega
      have HL := Lib.hid hL
      have HE := Lib.hid hE
      clear hL hE
      go_wp2
      exact bodyPost_ret (v := .tuple #[.pointer (some ⟨w.heap.size, 0, none⟩), .bool true]) (by simp [results, Try.results19, go_sem]) rfl (show RNew _ _ _ _ _ _ from ⟨vL, vE, rfl, hB, HL.out, HE.out, hD⟩)
end Go.Proofs.Ytoloccoodnbbdaa
