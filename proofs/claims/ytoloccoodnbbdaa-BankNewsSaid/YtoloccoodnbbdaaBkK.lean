/- Banks: those that may be taken, one by one. -/
import Derived.RangeFuncNested
import Derived.RangeFuncBound
import Derived.RangeFuncCalls
import Derived.RangeFuncLeaves
import Derived.Shelf.Abstract
import Derived.Shelf.RegionOpen
import Derived.WalkKit
import Derived.OwnWalkIn
import Derived.TacticsInMore
import Derived.LoopNIn
import Derived.LoopIn
import Derived.WalkSpells
import Derived.WalkLawsBesides
import Derived.Deep.QuietTactic
import Derived.BigQuiet
import Derived.Lib.Hide
import Derived.RangeFuncWrites
import Derived.Laws.EntriesVeiled
import Derived.Deep.WholeRow
import Derived.Deep.Onto
import Derived.Laws.Rows
import Derived.Laws.Tables
import Derived.Test.YtoloccoodnbbdaaBkJ
namespace Go.Proofs.Ytoloccoodnbbdaa
open Go.RowKit Go.Shelf
attribute [local go_sem] Oper.semAt_some

theorem roundIn_wide {n m : Nat} {P : Program} {l : Nat} {f : FuncId} {tmps : Array Value} {assign body : Code} {w : World} {R : Ending → World → Prop} (h : RoundIn Fence.wide n P l f tmps assign body w R) : RoundIn Fence.wide m P l f tmps assign body w R := ⟨h.1, fun c cs _ => h.2 c cs (room_wide _)⟩
/-- What a round of an outer loop leaves: all is as it was, but for the loop's record and one block. -/
def FrameEx (l C : Nat) (W W' : World) : Prop := W.heap.size ≤ W'.heap.size ∧ ∀ b, b < W.heap.size → b ≠ l → b ≠ C → W'.heap[b]? = W.heap[b]?
theorem FrameEx.refl (l C : Nat) (W : World) : FrameEx l C W W := ⟨Nat.le_refl _, fun _ _ _ _ => rfl⟩
theorem FrameEx.trans {l C : Nat} {X Y Z : World} (h : FrameEx l C X Y) (k : FrameEx l C Y Z) : FrameEx l C X Z := ⟨Nat.le_trans h.1 k.1, fun b hb h1 h2 => (k.2 b (by have := h.1; omega) h1 h2).trans (h.2 b hb h1 h2)⟩
theorem FrameEx.of_below {l C : Nat} {W W' : World} (h : Below W.heap.size W W') : FrameEx l C W W' := ⟨h.size, fun b hb _ _ => h.block b hb⟩
theorem FrameEx.blk {l C B : Nat} {W W' : World} {t : TypeId} {D : Array Value} (h : FrameEx l C W W') (hb : Blk W B t D) (h1 : B ≠ l) (h2 : B ≠ C) : Blk W' B t D := (h.2 B hb.lt h1 h2).trans hb
theorem FrameEx.row {l C D : Nat} {W W' : World} {t : TypeId} {sz n : Nat} {f : Nat → Array Value} (h : FrameEx l C W W') (hb : RowB W D t sz n f) (h1 : D ≠ l) (h2 : D ≠ C) : RowB W' D t sz n f := by
  obtain ⟨E, h3, h4⟩ := hb
  exact ⟨E, h.blk h3 h1 h2, h4⟩
theorem frameEx_own {β : Type} (l C : Nat) (W1 : World) : OwnFrom W1.heap.size (fun (_ : β) W => FrameEx l C W1 W) := fun _ X Y row hs hg hr => ⟨Nat.le_trans hs.1 hg.size, fun b hlt h1 h2 => (hg.block b (by have := hs.1; omega) (fun e => by have := (hr b e.symm).1; omega)).trans (hs.2 b hlt h1 h2)⟩
theorem ownFrom_mono {β : Type} {B B' : Nat} {I : β → World → Prop} (h : OwnFrom B I) (hle : B ≤ B') : OwnFrom B' I := fun s W W' row hs hg hr => h s W W' row hs hg (fun r e => ⟨Nat.le_trans hle (hr r e).1, (hr r e).2⟩)
theorem ownFrom_below' {β : Type} {B : Nat} {I : β → World → Prop} (h : OwnFrom B I) {s : β} {W W' : World} (hs : I s W) (hb : Below W.heap.size W W') : I s W' := h s W W' none hs ⟨hb.os, hb.tape, hb.output, hb.size, fun k hk _ => hb.block k hk⟩ (fun r e => by cases e)
theorem fA_zero : fA 0 = #[.bool false, .bool false, .bool true, .bool false, .bool true, .int .i64 1, .int .i64 160, .string ⟨#[]⟩] := rfl
theorem fA_other {j : Nat} (h : j ≠ 0) : fA j = #[.bool false, .bool false, .bool false, .bool false, .bool false, .int .i64 0, .int .i64 0, .string ⟨#[120]⟩] := by unfold fA; rw [if_neg h]; rfl
theorem bankA_stops (n0 G g cap T B D : Nat) (w : World) (hG : Blk w G 99 #[.slice (some ⟨g, 0, none⟩) 2 cap]) (hT : Blk w T 44 #[.pointer (some ⟨B, 0, none⟩)]) (hB : Blk w B 101 #[.int .i64 32, .slice (some ⟨D, 0, none⟩) 2 2]) (hR : RowB w g 56 8 2 fA) :
    SeqStopsK Fence.wide n0 Try.prog 58 #[.pointer (some ⟨G, 0, none⟩), .pointer (some ⟨T, 0, none⟩)] (fun k : Nat => #[.int .i64 ((32 : Int) + (k : Int)), .agg (fA k)]) (KP fun b => b = G ∨ b = g ∨ b = T ∨ b = B) (fun ys => ys = rangeL 2) (fun pre => pre <+: rangeL 2) 2 w := by
  intro l J Jx W hW hJ _ hY h00
  exact bank_in n0 l G g cap T B D 32 2 fA (fun _ => false) (fun _ => false) (fun j => decide (j = 0)) (fun _ => false) (fun j => decide (j = 0)) (fun j => if j = 0 then 1 else 0) (fun j => if j = 0 then 160 else 0) (fun j => if j = 0 then ⟨#[]⟩ else ⟨#[120]⟩)
    (fun j => by unfold fA; by_cases h : j = 0 <;> simp [h, ez]) (by omega) (by omega) J Jx (fun s W o h => AbidesFrom.alloc hJ o h) (fun s W h => AbidesFrom.drew hJ h)
    hY W (hG.below hW hG.lt) (hT.below hW hT.lt) (hB.below hW hB.lt) (hR.below hW hR.lt) h00

set_option maxRecDepth 100000 in
set_option maxHeartbeats 2000000 in
theorem ready1_in (l C : Nat) (J : Nat → World → Prop) (P1 gr G g T cap B D : Nat) (W : World) (hP : Blk W P1 96 #[.func (.func 58) #[] #[.pointer (some ⟨G, 0, none⟩), .pointer (some ⟨T, 0, none⟩)]]) (hgr : Blk W gr 98 #[.bool true, .bool true])
    (hG : Blk W G 99 #[.slice (some ⟨g, 0, none⟩) 2 cap]) (hT : Blk W T 44 #[.pointer (some ⟨B, 0, none⟩)]) (hB : Blk W B 101 #[.int .i64 32, .slice (some ⟨D, 0, none⟩) 2 2]) (hR : RowB W g 56 8 2 fA) (hl : l < W.heap.size) (hC : C < W.heap.size)
    (n1 : gr ≠ l ∧ G ≠ l ∧ g ≠ l ∧ T ≠ l ∧ B ≠ l) (n2 : gr ≠ C ∧ G ≠ C ∧ g ≠ C ∧ T ≠ C ∧ B ≠ C) (hJ : OwnFrom W.heap.size J)
    (hY : ∀ k W1, J k W1 → k < 2 → YieldAt Fence.wide 0 Try.prog l #[.int .i64 32, .agg #[.bool false, .bool false, .bool true, .bool false, .bool true, .int .i64 1, .int .i64 160, .string ⟨#[]⟩]] W1 fun e W' => e = .returned (.bool true) ∧ J (k + 1) W' ∧ FrameEx l C W1 W')
    (h0 : J 0 W) :
    Calls Try.prog 55 #[.func (.yield l) #[] #[], .pointer (some ⟨P1, 0, none⟩), .pointer (some ⟨gr, 0, none⟩)] W fun e W' => (∃ v, e = .returned v) ∧ J 1 W' := by
  refine (callsIn_wide (n := 9)).1 ?_
  refine callsIn_of_wp_marks Try.func55 rfl trivial ?_ rfl
  simp only [Try.ntmps55, List.size_toArray, List.length_cons, List.length_nil, Nat.reduceAdd, Nat.reduceSub, Array.replicate_succ, Array.replicate_zero, List.push_toArray, List.append_toArray, List.nil_append, List.cons_append]
  obtain ⟨w1, hw1⟩ : ∃ w1, W.alloc (.cells #[.func (.yield l) #[] #[]] 120) = w1 := ⟨_, rfl⟩
  have b1 : Below W.heap.size W w1 := by rw [← hw1]; exact one_box _ _
  have s1 : w1.heap.size = W.heap.size + 1 := by rw [← hw1]; simp
  have y1 : Blk w1 W.heap.size 120 #[.func (.yield l) #[] #[]] := by rw [← hw1]; exact Blk.new W 120 _
  have HW1 := Lib.hid hw1
  clear hw1
  have cP := hP.cell 0
  have ltP := hP.lt
  gi_wp2
  rw [HW1.out]
  have S1 := Lib.hid s1
  have lgr := hgr.lt
  have lG := hG.lt
  have lg := hR.lt
  have lT := hT.lt
  have lB := hB.lt
  refine wpIn_rangeFunc_ownH rfl (by decide) (gf := 58) (lb := #[.pointer (some ⟨G, 0, none⟩), .pointer (some ⟨T, 0, none⟩)]) rfl trivial (enters_of Try.func58 (by kernel_rfl) rfl)
    (bankA_stops _ G g cap T B D w1 (hG.below b1 hG.lt) (hT.below b1 hT.lt) (hB.below b1 hB.lt) (hR.below b1 hR.lt)) kp_t (kp_b (by rintro b (rfl | rfl | rfl | rfl) <;> omega)) (Below.refl _ _) (fun _ => rfl)
    (fun pre W' => J (pre.count 0) W' ∧ FrameEx l C w1 W')
    (fun _ _ _ => False)
    (OwnFrom.and (fun s X Y row hs hg hr => ownFrom_mono hJ (by omega) _ X Y row hs hg hr) (frameEx_own l C w1))
    (fun _ _ _ _ _ hs _ _ => hs)
    ⟨ownFrom_below' hJ h0 b1, FrameEx.refl _ _ _⟩
    (fun j a' W' => ∃ E, w1.heap.size ≤ E ∧ Blk W' E 56 (fA j) ∧ a' = ⟨#[.func (.yield l) #[] #[], .pointer (some ⟨P1, 0, none⟩), .pointer (some ⟨gr, 0, none⟩), .pointer (some ⟨W.heap.size, 0, none⟩), .int .i64 ((32 : Int) + (j : Int)), .pointer (some ⟨E, 0, none⟩), .func (.func 58) #[] #[.pointer (some ⟨G, 0, none⟩), .pointer (some ⟨T, 0, none⟩)], .int .i64 ((32 : Int) + (j : Int)), .agg (fA j), undef, undef, undef, undef, undef, undef, undef, undef, undef, undef, undef, undef, undef, undef, undef, undef, undef, undef, undef, undef, undef, undef, undef], []⟩)
    (fun j _ => Own.from (own_ex fun E => own_and (own_pure _) (own_and (blk_own _ _ (fun _ => fA j)) (own_pure _))) _)
    ?assign ?body ?done ?stop
  case assign =>
    rintro l' pre j V K ⟨hJ', hF⟩ hCont
    have hsz := hF.1
    by_cases hj : j = 0
    · subst hj
      rw [fA_zero]
      gi_wp2
      exact hCont _ _ ((KeepsOthers.alloc _ _).from _) (kp_alloc _ (by rintro b (rfl | rfl | rfl | rfl) <;> omega)) ⟨hJ.alloc _ hJ', hF.trans (FrameEx.of_below (one_box _ _))⟩ ⟨V.heap.size, hF.1, Blk.new V 56 _, rfl⟩
    · have hfx := fA_other hj
      rw [hfx]
      have HFX := Lib.hid hfx
      clear hfx
      gi_wp2
      refine hCont _ _ ((KeepsOthers.alloc _ _).from _) (kp_alloc _ (by rintro b (rfl | rfl | rfl | rfl) <;> omega)) ⟨hJ.alloc _ hJ', hF.trans (FrameEx.of_below (one_box _ _))⟩ ⟨V.heap.size, hF.1, by rw [HFX.out]; exact Blk.new V 56 _, by rw [HFX.out]⟩
  case body =>
    rintro l' pre j a' V hl' ⟨rr, hrr⟩ ⟨hJ', hF⟩ ⟨E, hE, bE, rfl⟩ hlen
    clear hrr
    have hsz := hF.1
    have qY := hF.blk y1 (by omega) (by omega)
    have qg := hF.blk (hgr.below b1 hgr.lt) n1.1 n2.1
    have hcnt : pre.count 0 < 2 := Nat.lt_of_le_of_lt List.count_le_length hlen
    by_cases hj : j = 0
    · subst hj
      rw [fA_zero] at bE ⊢
      have e0 := bE.cell 0
      have e1 := bE.cell 1
      have e2 := bE.cell 2
      have e3 := bE.cell 3
      have e4 := bE.cell 4
      have e5 := bE.cell 5
      have e6 := bE.cell 6
      have e7 := bE.cell 7
      have g1 := qg.cell 1
      rw [show ((32 : Int) + ((0 : Nat) : Int)) = 32 from rfl]
      gi_wp2
      refine ⟨trivial, (CallsIn.inRound l' (callsIn_wide.2 (iready_yes _))).mono ?_⟩
      rintro e V2 ⟨rfl, hb2⟩
      have bE2 := bE.below hb2 bE.lt
      have qY2 := qY.below hb2 qY.lt
      have hJ2 := ownFrom_below' hJ hJ' hb2
      clear e0 e1 e2 e3 e4 e5 e6 e7 g1
      have e0 := bE2.cell 0
      have e1 := bE2.cell 1
      have e2 := bE2.cell 2
      have e3 := bE2.cell 3
      have e4 := bE2.cell 4
      have e5 := bE2.cell 5
      have e6 := bE2.cell 6
      have e7 := bE2.cell 7
      have cY := qY2.cell 0
      obtain ⟨fn, tmps, asg, bd, hy, hRY⟩ := hY _ V2 hJ2 hcnt
      have HY := Lib.hid hY
      clear hY
      gi_wp2
      refine RoundIn.mono (F := Fence.wide.inRound l') (roundIn_wide hRY) ?_
      rintro e V3 ⟨rfl, hJ3, hF3⟩
      gi_wp2
      have hFF := (FrameEx.of_below (l := l) (C := C) hb2).trans hF3
      have hF1 := hF.trans hFF
      refine ⟨⟨hFF.1, fun b o hb ho _ => ?_⟩, fun b hb => ?_, ?_, hF1⟩
      · have hlt := (Array.getElem?_eq_some_iff.1 ho).1
        exact (hFF.2 b hlt (by omega) (by omega)).trans ho
      · have h3 : b < W.heap.size ∧ b ≠ l ∧ b ≠ C := by
          obtain ⟨m1, m2, m3, m4, m5⟩ := n1
          obtain ⟨k1, k2, k3, k4, k5⟩ := n2
          rcases hb with rfl | rfl | rfl | rfl
          · exact ⟨lG, m2, k2⟩
          · exact ⟨lg, m3, k3⟩
          · exact ⟨lT, m4, k4⟩
          · exact ⟨lB, m5, k5⟩
        exact hFF.2 b (by omega) h3.2.1 h3.2.2
      · rw [List.count_append]
        exact hJ3
    · have hfx := fA_other hj
      rw [hfx] at bE ⊢
      have HFX := Lib.hid hfx
      clear hfx
      have e0 := bE.cell 0
      have e1 := bE.cell 1
      have e2 := bE.cell 2
      have e3 := bE.cell 3
      have e4 := bE.cell 4
      have e5 := bE.cell 5
      have e6 := bE.cell 6
      have e7 := bE.cell 7
      have hc0 : (pre ++ [j]).count 0 = pre.count 0 := by rw [List.count_append]; simp [hj]
      have HC := Lib.hid hc0
      clear hc0
      gi_wp2
      refine ⟨trivial, ?_⟩
      gi_wp2
      refine ⟨fun _ h => (by cases h), ?_⟩
      gi_wp2
      exact ⟨KeepsFrom.refl _ _, fun _ _ => rfl, by rw [HC.out]; exact hJ', hF⟩
  case done =>
    rintro Dd ys V hDd rfl ⟨hJ', hF⟩ hKd
    gi_wp2
    refine ⟨by simp, .inl ⟨_, _, rfl, run_takeDeferred hKd, ?_⟩⟩
    refine ⟨_, results_none rfl _ _ _, ⟨_, rfl⟩, ?_⟩
    exact hJ.putObj _ hJ' (by omega) hKd rfl
  case stop =>
    rintro Dd c pre V _ _ h _
    exact h.elim
end Go.Proofs.Ytoloccoodnbbdaa
