/- The ladder: what is let go. -/
import Derived.RangeFuncNested
import Derived.RangeFuncBound
import Derived.RangeFuncCalls
import Derived.RangeFuncLeaves
import Derived.Shelf.Abstract
import Derived.Shelf.RegionOpen
import Derived.WalkKit
import Derived.OwnWalkIn
import Derived.TacticsInMore
import Derived.LoopNIn
import Derived.LoopIn
import Derived.WalkSpells
import Derived.WalkLawsBesides
import Derived.Deep.QuietTactic
import Derived.BigQuiet
import Derived.Lib.Hide
import Derived.Deep.WholeRow
import Derived.Deep.Onto
import Derived.RangeFuncWrites
import Derived.Test.YtoloccoodnbbdaaLdI
namespace Go.Proofs.Ytoloccoodnbbdaa
open Go.RowKit Go.Shelf
attribute [local go_sem] Oper.semAt_some

/-- What is left of the words when the bit at a place is cleared. -/
def dropW (x0 x1 i : Nat) : Nat × Nat := if i % 2 = 0 then (clr 32 x0 (2 ^ (i / 2)), x1) else (x0, clr 32 x1 (2 ^ (i / 2)))
/-- What is let go, of the places in a row. -/
def dropP (x0 x1 : Nat) (P : List I64) : (Nat × Nat) × Bool := match P with | [] => ((x0, x1), false) | p :: _ => (dropW x0 x1 p.1, true)
theorem i64_cases (x : I64) : ∃ k : Nat, k < 32 ∧ prioOf x = 8 * (k : Int) ∧ x.1 / 2 = k ∧ (grpOf x = 0 ∧ x.1 % 2 = 0 ∨ grpOf x = 1 ∧ x.1 % 2 = 1) := by
  refine ⟨x.1 / 2, by have := x.2; omega, rfl, rfl, ?_⟩
  unfold grpOf
  omega
theorem andNot_k (x k : Nat) (hk : k < 32) (h : x < 2 ^ 32) : bits .andNot .u32 (x : Int) (2 ^ k % 4294967296) = ((clr 32 x (2 ^ k) : Nat) : Int) := by
  have hp : 2 ^ k < 4294967296 := by
    have : 2 ^ k < 2 ^ 32 := Nat.pow_lt_pow_right (by decide) hk
    exact this
  have h3 : (2 : Int) ^ k % 4294967296 = ((2 ^ k : Nat) : Int) := by
    rw [show (2 : Int) ^ k = ((2 ^ k : Nat) : Int) from (Int.natCast_pow 2 k).symm]
    generalize 2 ^ k = n at *
    omega
  rw [h3]; exact bits_andNot_nat .u32 x (2 ^ k) h hp rfl

set_option maxRecDepth 100000 in
set_option maxHeartbeats 1000000 in
theorem drop_any (x0 x1 : Nat) (h0 : x0 < 2 ^ 32) (h1 : x1 < 2 ^ 32) (P : List I64) (hP : Hid (pairs (fw x0 x1) 64 = P)) (w : World) :
    Calls Try.prog 13 #[lad x0 x1] w fun e w' => e = .returned (.tuple #[lad (dropP x0 x1 P).1.1 (dropP x0 x1 P).1.2, .bool (dropP x0 x1 P).2]) ∧ Below w.heap.size w w' := by
  refine (callsIn_wide (n := 9)).1 ?_
  refine callsIn_of_wp_marks Try.func13 rfl trivial ?_ rfl
  simp only [Try.ntmps13, List.size_toArray, List.length_cons, List.length_nil, Nat.reduceAdd, Nat.reduceSub, Array.replicate_succ, Array.replicate_zero, List.push_toArray, List.append_toArray, List.nil_append, List.cons_append]
  gi_wp2_with (refine ⟨trivial, ?_⟩; gi_at_call 38; refine (callsIn_wide.2 (all_in x0 x1 _)).mono ?_; rintro e w' ⟨rfl, rfl⟩)
  obtain ⟨W0, hW0⟩ : ∃ W0, (((w.alloc (.cells #[.int .u32 (x0 : Int), .int .u32 (x1 : Int)] 27)).alloc (.cells #[.int .u32 0, .int .u32 0] 27)).alloc (.cells #[.bool false] 4)).alloc (.cells #[.int .u32 (x0 : Int), .int .u32 (x1 : Int)] 27) = W0 := ⟨_, rfl⟩
  have hB0 : Below w.heap.size w W0 := by rw [← hW0]; exact (((((Below.refl _ w).alloc (Nat.le_refl _) _).alloc (by simp) _).alloc (by simp; omega) _).alloc (by simp; omega) _)
  have hsz : W0.heap.size = w.heap.size + 4 := by rw [← hW0]; simp
  have hb0 : Blk W0 (w.heap.size) 27 #[.int .u32 (x0 : Int), .int .u32 (x1 : Int)] := by rw [← hW0]; have := ((((Blk.new w 27 #[.int .u32 (x0 : Int), .int .u32 (x1 : Int)]).alloc (.cells #[.int .u32 0, .int .u32 0] 27)).alloc (.cells #[.bool false] 4)).alloc (.cells #[.int .u32 (x0 : Int), .int .u32 (x1 : Int)] 27)); simpa using this
  have hb1 : Blk W0 (w.heap.size + 1) 27 #[.int .u32 0, .int .u32 0] := by rw [← hW0]; have := (((Blk.new (w.alloc (.cells #[.int .u32 (x0 : Int), .int .u32 (x1 : Int)] 27)) 27 #[.int .u32 0, .int .u32 0]).alloc (.cells #[.bool false] 4)).alloc (.cells #[.int .u32 (x0 : Int), .int .u32 (x1 : Int)] 27)); simpa using this
  have hb2 : Blk W0 (w.heap.size + 1 + 1) 4 #[.bool false] := by rw [← hW0]; have := ((Blk.new ((w.alloc (.cells #[.int .u32 (x0 : Int), .int .u32 (x1 : Int)] 27)).alloc (.cells #[.int .u32 0, .int .u32 0] 27)) 4 #[.bool false]).alloc (.cells #[.int .u32 (x0 : Int), .int .u32 (x1 : Int)] 27)); simpa using this
  have hb3 : Blk W0 (w.heap.size + 1 + 1 + 1) 27 #[.int .u32 (x0 : Int), .int .u32 (x1 : Int)] := by rw [← hW0]; have := (Blk.new (((w.alloc (.cells #[.int .u32 (x0 : Int), .int .u32 (x1 : Int)] 27)).alloc (.cells #[.int .u32 0, .int .u32 0] 27)).alloc (.cells #[.bool false] 4)) 27 #[.int .u32 (x0 : Int), .int .u32 (x1 : Int)]); simpa using this
  rw [hW0]
  clear hW0
  refine wpIn_rangeFunc_ownF rfl (by decide) (gf := 53) (lb := #[.pointer (some ⟨w.heap.size + 1 + 1 + 1, 0, none⟩)]) rfl trivial (enters_of Try.func53 (by kernel_rfl) rfl)
    (all_stops _ (w.heap.size + 1 + 1 + 1) x0 x1 h0 h1 P hP W0 hb3) kb_t (kb_b (by omega)) (Below.refl _ _) (fun _ => rfl)
    (fun pre W => (pre = [] ∧ Blk W w.heap.size 27 #[.int .u32 (x0 : Int), .int .u32 (x1 : Int)] ∧ Blk W (w.heap.size + 1) 27 #[.int .u32 0, .int .u32 0] ∧ Blk W (w.heap.size + 1 + 1) 4 #[.bool false]) ∧ Below w.heap.size w W)
    (fun c pre W => (c = .ret ∧ ∃ x, pre = [x] ∧ Blk W (w.heap.size + 1) 27 #[.int .u32 ((dropW x0 x1 x.1).1 : Nat), .int .u32 ((dropW x0 x1 x.1).2 : Nat)] ∧ Blk W (w.heap.size + 1 + 1) 4 #[.bool true]) ∧ Below w.heap.size w W)
    (OwnFrom.and (Own.from (own_and (own_pure _) (own_and (blk_own _ _ _) (own_and (blk_own _ _ _) (blk_own _ _ _)))) _) (ownFrom_below (Nat.le_refl _) (by omega)))
    (fun c => OwnFrom.and (Own.from (own_and (own_pure _) (own_ex fun x => own_and (own_pure _) (own_and (blk_own _ _ _) (blk_own _ _ _)))) _) (ownFrom_below (Nat.le_refl _) (by omega)))
    ⟨⟨rfl, hb0, hb1, hb2⟩, hB0⟩ ?a1 ?assign ?body ?done ?stop
  case assign =>
    intro l x W K hK
    gi_wp2
    exact hK
  case body =>
    rintro l pre x W ⟨⟨rfl, b1, b2, b3⟩, hB⟩ _
    obtain ⟨k, hk, hp, hxk, ⟨hg, hx2⟩ | ⟨hg, hx2⟩⟩ := i64_cases x
    · have c0 := b1.cell 0
      have f0 := b1.frozen 0
      have g0 : Blk (W.setCell ⟨w.heap.size, 0, none⟩ (.int .u32 (clr 32 x0 (2 ^ k) : Nat))) w.heap.size 27 #[.int .u32 (clr 32 x0 (2 ^ k) : Nat), .int .u32 (x1 : Nat)] := b1.set 0 (.int .u32 (clr 32 x0 (2 ^ k) : Nat))
      have g1 := b2.other ⟨w.heap.size, 0, none⟩ (.int .u32 (clr 32 x0 (2 ^ k) : Nat)) (by simp)
      have g2 := (b3.other ⟨w.heap.size, 0, none⟩ (.int .u32 (clr 32 x0 (2 ^ k) : Nat)) (by simp; omega)).row_other (w.heap.size + 1) #[.int .u32 (clr 32 x0 (2 ^ k) : Nat), .int .u32 (x1 : Nat)] (by omega)
      have c3 := g2.cell 0
      have f3 := g2.frozen 0
      have e0 := andNot_k x0 k hk h0
      gi_wp2_with (first | (refine wpListIn_load_row rfl 27 _ rfl w.heap.size rfl 27 _ (0, 0) _ g0 Try.underlying27 rfl (by kernel_rfl) ?_) | (refine wpListIn_store_row rfl 27 _ _ rfl (w.heap.size + 1) #[.int .u32 (clr 32 x0 (2 ^ k) : Nat), .int .u32 (x1 : Nat)] rfl rfl 27 _ g1 (by kernel_rfl) rfl (by simp [Value.oneCell']) ?_))
      refine ⟨((KeepsOthers.setCell _ _ _).trans (KeepsOthers.setRow _ _ _ g1)).trans (KeepsOthers.setCell _ _ _), ⟨rfl, x, rfl, ?_, g2.set 0 _⟩, (below_setRow (hB.setCell (p := ⟨_, _, none⟩) (Nat.le_refl _) _) (by omega) _).setCell (p := ⟨_, 0, none⟩) (by simp; omega) _⟩
      have hd : dropW x0 x1 x.1 = (clr 32 x0 (2 ^ k), x1) := by simp [dropW, hxk, hx2]
      rw [hd]
      exact (g1.row _).other _ _ (by simp)
    · have c0 := b1.cell 1
      have f0 := b1.frozen 1
      have g0 : Blk (W.setCell ⟨w.heap.size, 1, none⟩ (.int .u32 (clr 32 x1 (2 ^ k) : Nat))) w.heap.size 27 #[.int .u32 (x0 : Nat), .int .u32 (clr 32 x1 (2 ^ k) : Nat)] := b1.set 1 (.int .u32 (clr 32 x1 (2 ^ k) : Nat))
      have g1 := b2.other ⟨w.heap.size, 1, none⟩ (.int .u32 (clr 32 x1 (2 ^ k) : Nat)) (by simp)
      have g2 := (b3.other ⟨w.heap.size, 1, none⟩ (.int .u32 (clr 32 x1 (2 ^ k) : Nat)) (by simp; omega)).row_other (w.heap.size + 1) #[.int .u32 (x0 : Nat), .int .u32 (clr 32 x1 (2 ^ k) : Nat)] (by omega)
      have c3 := g2.cell 0
      have f3 := g2.frozen 0
      have e0 := andNot_k x1 k hk h1
      gi_wp2_with (first | (refine wpListIn_load_row rfl 27 _ rfl w.heap.size rfl 27 _ (0, 0) _ g0 Try.underlying27 rfl (by kernel_rfl) ?_) | (refine wpListIn_store_row rfl 27 _ _ rfl (w.heap.size + 1) #[.int .u32 (x0 : Nat), .int .u32 (clr 32 x1 (2 ^ k) : Nat)] rfl rfl 27 _ g1 (by kernel_rfl) rfl (by simp [Value.oneCell']) ?_))
      refine ⟨((KeepsOthers.setCell _ _ _).trans (KeepsOthers.setRow _ _ _ g1)).trans (KeepsOthers.setCell _ _ _), ⟨rfl, x, rfl, ?_, g2.set 0 _⟩, (below_setRow (hB.setCell (p := ⟨_, _, none⟩) (Nat.le_refl _) _) (by omega) _).setCell (p := ⟨_, 0, none⟩) (by simp; omega) _⟩
      have hd : dropW x0 x1 x.1 = (x0, clr 32 x1 (2 ^ k)) := by simp [dropW, hxk, hx2]
      rw [hd]
      exact (g1.row _).other _ _ (by simp)
  case done =>
    rintro D ys W hD rfl ⟨⟨hne, b1, b2, b3⟩, hB⟩ hK
    have g2 := b3.row_other (w.heap.size + 1) #[.int .u32 (x0 : Int), .int .u32 (x1 : Int)] (by omega)
    have c3 := g2.cell 0
    have f3 := g2.frozen 0
    have HN := Lib.hid hne
    clear hne
    gi_wp2_with (first | (refine wpListIn_load_row rfl 27 _ rfl w.heap.size rfl 27 _ (0, 0) _ b1 Try.underlying27 rfl (by kernel_rfl) ?_) | (refine wpListIn_store_row rfl 27 _ _ rfl (w.heap.size + 1) #[.int .u32 (x0 : Int), .int .u32 (x1 : Int)] rfl rfl 27 _ b2 (by kernel_rfl) rfl (by simp [Value.oneCell']) ?_))
    have hK' := ((KeepsOthers.setRow W (w.heap.size + 1) #[.int .u32 (x0 : Int), .int .u32 (x1 : Int)] b2).trans (KeepsOthers.setCell _ ⟨w.heap.size + 1 + 1, 0, none⟩ (.bool false))).same D _ hK rfl
    have hB' := (below_setRow hB (show w.heap.size ≤ w.heap.size + 1 by omega) #[.int .u32 (x0 : Int), .int .u32 (x1 : Int)]).setCell (p := ⟨w.heap.size + 1 + 1, 0, none⟩) (by simp; omega) (.bool false)
    refine ⟨by simp, .inl ⟨_, _, rfl, run_takeDeferred hK', ?_⟩⟩
    have hd2 := ((b2.row #[.int .u32 (x0 : Int), .int .u32 (x1 : Int)]).other ⟨w.heap.size + 1 + 1, 0, none⟩ (.bool false) (by simp)).put (.deferred none) hK' rfl
    have d20 := hd2.cell 0
    have d21 := hd2.cell 1
    have d3 := ((g2.set 0 (.bool false)).put (.deferred none) hK' rfl).cell 0
    refine ⟨.tuple #[lad x0 x1, .bool false], ?_, by rw [HN.out]; rfl, hB'.trans (belowK_b (w := w) (Nat.le_refl _) _ D _ _ (by omega) hK' rfl rfl)⟩
    simp at d20 d21 d3
    simp [results, Try.f13, go_sem, d20, d21, d3]
  case stop =>
    rintro D c pre W hD hpre ⟨⟨rfl, x, rfl, b2, b3⟩, hB⟩ hK
    gi_wp2
    refine ⟨by simp, .inl ⟨_, _, rfl, run_takeDeferred hK, ?_⟩⟩
    have hd2 := b2.put (.deferred none) hK rfl
    have d20 := hd2.cell 0
    have d21 := hd2.cell 1
    have d3 := (b3.put (.deferred none) hK rfl).cell 0
    have hr : dropP x0 x1 P = (dropW x0 x1 x.1, true) := by
      obtain ⟨t, ht⟩ := hpre
      rw [← ht]; rfl
    refine ⟨.tuple #[lad (dropW x0 x1 x.1).1 (dropW x0 x1 x.1).2, .bool true], ?_, by rw [hr], hB.trans (belowK_b (w := w) (Nat.le_refl _) _ D _ _ (by omega) hK rfl rfl)⟩
    simp at d20 d21 d3
    simp [results, Try.f13, go_sem, d20, d21, d3]
end Go.Proofs.Ytoloccoodnbbdaa
