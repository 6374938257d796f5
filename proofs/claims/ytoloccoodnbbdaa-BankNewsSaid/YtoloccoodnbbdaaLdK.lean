/- The ladder: all that run, in a row. -/
import Derived.RangeFuncNested
import Derived.RangeFuncBound
import Derived.RangeFuncCalls
import Derived.RangeFuncLeaves
import Derived.Shelf.Abstract
import Derived.Shelf.RegionOpen
import Derived.WalkKit
import Derived.OwnWalkIn
import Derived.TacticsInMore
import Derived.LoopNIn
import Derived.LoopIn
import Derived.WalkSpells
import Derived.WalkLawsBesides
import Derived.Deep.QuietTactic
import Derived.BigQuiet
import Derived.Lib.Hide
import Derived.Deep.WholeRow
import Derived.Deep.Onto
import Derived.RangeFuncWrites
import Derived.Test.YtoloccoodnbbdaaLdJ
namespace Go.Proofs.Ytoloccoodnbbdaa
open Go.RowKit Go.Shelf
attribute [local go_sem] Oper.semAt_some

/-- Priorities and groups, in turn. -/
def flat (ps : List I64) : List Int := ps.flatMap fun p => [prioOf p, grpOf p]
theorem flat_snoc (ps : List I64) (p : I64) : flat (ps ++ [p]) = flat ps ++ [prioOf p, grpOf p] := by simp [flat]
theorem flat_len (ps : List I64) : (flat ps).length = 2 * ps.length := by
  induction ps with
  | nil => rfl
  | cons p ps ih => simp only [flat, List.flatMap_cons, List.length_append] at *; simp at *; omega
theorem pairs_len (f : Nat → Bool) (k : Nat) : (pairs f k).length ≤ k := by
  induction k with
  | zero => simp [pairs]
  | succ k ih => simp only [pairs, List.length_append]; split <;> simp <;> omega
theorem Blk.appended {W w1 : World} {n₀ B B' : Nat} {t e : TypeId} {C : Array Value} {size k : Nat} {v v' : Value} {xs : List Value} {tmp : Obj} (h : Blk W B' t C) (hte : t ≠ e) (hne : B' ≠ B)
    (hrow : W.ownsRow n₀ e size v k xs) (hgrow : (W.alloc tmp).grownBy w1 v.ownBlock) : Blk (w1.setCell ⟨B, 0, none⟩ v') B' t C := by
  have h1 : some B' ≠ v.ownBlock := by
    intro e'
    rcases hrow.2 with ⟨rfl, _⟩ | ⟨g, cap, cur, rfl, _, hgb, _⟩
    · cases e'
    · obtain rfl : B' = g := by simpa [Value.ownBlock] using e'
      rw [show W.heap[B']? = _ from h] at hgb
      cases hgb
      exact hte rfl
  have h2 : Blk w1 B' t C := (hgrow.block B' (by rw [World.size_alloc]; have := h.lt; omega) h1).trans (h.alloc tmp)
  exact h2.other _ _ hne

set_option maxRecDepth 100000 in
set_option maxHeartbeats 1000000 in
theorem allL_any (x0 x1 : Nat) (h0 : x0 < 2 ^ 32) (h1 : x1 < 2 ^ 32) (P : List I64) (hP : Hid (pairs (fw x0 x1) 64 = P)) (w : World) :
    Calls Try.prog 33 #[lad x0 x1] w (OwnInts w.heap.size (flat P) w) := by
  have hPl : P.length ≤ 64 := by rw [← hP.out]; exact pairs_len _ _
  obtain ⟨i0, hi, hz0, hz1, hz2⟩ := info_parts infoInt
  refine (callsIn_wide (n := 9)).1 ?_
  refine callsIn_of_wp_marks Try.func33 rfl trivial ?_ rfl
  simp only [Try.ntmps33, List.size_toArray, List.length_cons, List.length_nil, Nat.reduceAdd, Nat.reduceSub, Array.replicate_succ, Array.replicate_zero, List.push_toArray, List.append_toArray, List.nil_append, List.cons_append]
  gi_wp2_with (refine ⟨trivial, ?_⟩; gi_at_call 38; refine (callsIn_wide.2 (all_in x0 x1 _)).mono ?_; rintro e w' ⟨rfl, rfl⟩)
  obtain ⟨W0, hW0⟩ : ∃ W0, ((w.alloc (.cells #[.int .u32 (x0 : Int), .int .u32 (x1 : Int)] 27)).alloc (.cells #[.slice none 0 0] 81)).alloc (.cells #[.int .u32 (x0 : Int), .int .u32 (x1 : Int)] 27) = W0 := ⟨_, rfl⟩
  have hB0 : Below w.heap.size w W0 := by rw [← hW0]; exact ((((Below.refl _ w).alloc (Nat.le_refl _) _).alloc (by simp) _).alloc (by simp; omega) _)
  have hsz : W0.heap.size = w.heap.size + 3 := by rw [← hW0]; simp
  have hb0 : Blk W0 (w.heap.size) 27 #[.int .u32 (x0 : Int), .int .u32 (x1 : Int)] := by rw [← hW0]; have := (((Blk.new w 27 #[.int .u32 (x0 : Int), .int .u32 (x1 : Int)]).alloc (.cells #[.slice none 0 0] 81)).alloc (.cells #[.int .u32 (x0 : Int), .int .u32 (x1 : Int)] 27)); simpa using this
  have hb1 : Blk W0 (w.heap.size + 1) 81 #[.slice none 0 0] := by rw [← hW0]; have := ((Blk.new (w.alloc (.cells #[.int .u32 (x0 : Int), .int .u32 (x1 : Int)] 27)) 81 #[.slice none 0 0]).alloc (.cells #[.int .u32 (x0 : Int), .int .u32 (x1 : Int)] 27)); simpa using this
  have hb2 : Blk W0 (w.heap.size + 1 + 1) 27 #[.int .u32 (x0 : Int), .int .u32 (x1 : Int)] := by rw [← hW0]; have := (Blk.new ((w.alloc (.cells #[.int .u32 (x0 : Int), .int .u32 (x1 : Int)] 27)).alloc (.cells #[.slice none 0 0] 81)) 27 #[.int .u32 (x0 : Int), .int .u32 (x1 : Int)]); simpa using this
  rw [hW0]
  clear hW0
  refine wpIn_rangeFunc_ownF rfl (by decide) (gf := 53) (lb := #[.pointer (some ⟨w.heap.size + 1 + 1, 0, none⟩)]) rfl trivial (enters_of Try.func53 (by kernel_rfl) rfl)
    (all_stops _ (w.heap.size + 1 + 1) x0 x1 h0 h1 P hP W0 hb2) kb_t (kb_b (by omega)) (Below.refl _ _) (fun _ => rfl)
    (fun pre W => ((∃ v, Boxed W (w.heap.size + 1) 81 v ∧ W.ownsRow w.heap.size 3 1 v (flat pre).length ((flat pre).map (Value.int .i64)) ∧ True) ∧ Blk W (w.heap.size + 1 + 1) 27 #[.int .u32 (x0 : Int), .int .u32 (x1 : Int)]) ∧ Below w.heap.size w W)
    (fun _ _ _ => False)
    (OwnFrom.and (Own.from (own_and (holdsRow_own w.heap.size (w.heap.size + 1) 81 3 1 (fun pre => (flat pre).length) (fun pre => (flat pre).map (Value.int .i64)) (fun _ _ => True)) (blk_own _ _ _)) _) (ownFrom_below (Nat.le_refl _) (by omega)))
    (fun _ _ _ _ _ hs _ _ => hs)
    ⟨⟨⟨_, hb1, World.ownsRow_nil _ _ _ _, trivial⟩, hb2⟩, hB0⟩ ?a1 ?assign ?body ?done ?stop
  case assign =>
    intro l x W K hK
    gi_wp2
    exact hK
  case body =>
    rintro l pre x W ⟨⟨⟨v, hv, hrow, _⟩, hbn⟩, hB⟩ hlt
    have hc := hv.cell
    have hfl : (flat pre).length ≤ 126 := by have := flat_len pre; omega
    have hm : (flat pre).length + 2 ≤ maxLen := by unfold maxLen; omega
    gi_wp2_with (gi_at_builtin; refine wpListIn_append_own _ rfl (.tmp 10) (.tmp 13) 81 rfl w.heap.size 3 i0 (.int .i64 0) 1 8 Try.underlying81 hi hz0 hz1 hz2 rfl (by decide) v (flat pre).length _ rfl (hrow.alloc _) ⟨W.heap.size, 0, none⟩ 2 2 [.int .i64 (prioOf x), .int .i64 (grpOf x)] rfl rfl (cell_two_new _ _ _ _) ?c1 hm ?c2 ?c3 ?_)
    case c1 => intro u hu; simp at hu; rcases hu with rfl | rfl <;> rfl
    case c2 => omega
    case c3 => have := hB.size; rw [World.size_alloc]; omega
    intro v' w1 hown' hgrow _
    obtain ⟨g', cap', rfl⟩ := ownsRow_succ hown'
    obtain ⟨hv1, hv2, hr2, hk2, hb2⟩ := hv.appended (by decide) hrow hB.size (by omega) hown' hgrow
    have hbn2 := hbn.appended (v' := .slice (some ⟨g', 0, none⟩) ((flat pre).length + 1 + 1) cap') (B := w.heap.size + 1) (by decide) (by omega) hrow hgrow
    have hc1 := hv1.cell
    have hf1 := hv1.frozen
    have hc2 := hv2.cell
    have hkb : KB (w.heap.size + 1 + 1) W (w1.setCell ⟨w.heap.size + 1, 0, none⟩ (.slice (some ⟨g', 0, none⟩) ((flat pre).length + 1 + 1) cap')) := Eq.trans hbn2 (Eq.symm hbn)
    have hgt : decide ((200 : Int) < ((flat pre).length : Int) + 1 + 1) = false := by simp; omega
    have hfs := flat_snoc pre x
    have hI : ∃ v, Boxed (w1.setCell ⟨w.heap.size + 1, 0, none⟩ (.slice (some ⟨g', 0, none⟩) ((flat pre).length + 1 + 1) cap')) (w.heap.size + 1) 81 v ∧ (w1.setCell ⟨w.heap.size + 1, 0, none⟩ (.slice (some ⟨g', 0, none⟩) ((flat pre).length + 1 + 1) cap')).ownsRow w.heap.size 3 1 v (flat (pre ++ [x])).length ((flat (pre ++ [x])).map (Value.int .i64)) ∧ True :=
      ⟨_, hv2, by rw [hfs]; simpa using hr2, trivial⟩
    have HI := Lib.hid hI
    have HK := Lib.hid hkb
    have H2 := Lib.hid hk2
    have HB2 := Lib.hid hb2
    have HN := Lib.hid hbn2
    clear hfs hI hkb hk2 hb2 hbn2 hown' hgrow hrow hr2 hv hc hv1 hv2
    gi_wp2
    exact ⟨H2.out, HK.out, ⟨HI.out, HN.out⟩, hB.trans HB2.out⟩
  case done =>
    rintro D ys W hD rfl ⟨⟨⟨v, hv, hrow, _⟩, hbn⟩, hB⟩ hK
    have hc := hv.cell
    gi_wp2
    refine ⟨by simp, .inl ⟨_, _, rfl, run_takeDeferred hK, ?_⟩⟩
    exact ⟨_, results_tmp rfl _ _ _, v, rfl, ownsRow_putObj hrow _ hK rfl, hB.trans (belowK_b (w := w) (Nat.le_refl _) W D _ _ (by omega) hK rfl rfl)⟩
  case stop =>
    rintro D c pre W _ _ h _
    exact h.elim
end Go.Proofs.Ytoloccoodnbbdaa
