/- Banks: alike. -/
import Derived.RangeFuncNested
import Derived.RangeFuncBound
import Derived.RangeFuncCalls
import Derived.RangeFuncLeaves
import Derived.Shelf.Abstract
import Derived.Shelf.RegionOpen
import Derived.WalkKit
import Derived.OwnWalkIn
import Derived.TacticsInMore
import Derived.LoopNIn
import Derived.LoopIn
import Derived.WalkSpells
import Derived.WalkLawsBesides
import Derived.Deep.QuietTactic
import Derived.BigQuiet
import Derived.Lib.Hide
import Derived.RangeFuncWrites
import Derived.Deep.WholeRow
import Derived.Deep.Onto
import Derived.Laws.Rows
import Derived.Laws.Tables
import Derived.Test.YtoloccoodnbbdaaBkF
import Derived.Test.YtoloccoodnbbdaaBkG
namespace Go.Proofs.Ytoloccoodnbbdaa
open Go.RowKit Go.Shelf
attribute [local go_sem] Oper.semAt_some

theorem kp_alloc {p : Nat → Prop} {W : World} (o : Obj) (hp : ∀ b, p b → b < W.heap.size) : KP p W (W.alloc o) := fun b hb => heap_alloc_old W o b (hp b hb)
/-- The blocks below N are as they were in W1, but for one. -/
def Kept (N V : Nat) (W1 W : World) : Prop := N ≤ W.heap.size ∧ ∀ b, b < N → b ≠ V → W.heap[b]? = W1.heap[b]?
theorem Kept.blk {N V B : Nat} {W1 W : World} {t : TypeId} {C : Array Value} (h : Kept N V W1 W) (hb : Blk W1 B t C) (hlt : B < N) (hne : B ≠ V) : Blk W B t C := (h.2 B hlt hne).trans hb
theorem Kept.row {N V D : Nat} {W1 W : World} {t : TypeId} {sz n : Nat} {f : Nat → Array Value} (h : Kept N V W1 W) (hb : RowB W1 D t sz n f) (hlt : D < N) (hne : D ≠ V) : RowB W D t sz n f := by
  obtain ⟨C, h1, h2⟩ := hb
  exact ⟨C, h.blk h1 hlt hne, h2⟩
theorem Kept.refl (V : Nat) (W : World) : Kept W.heap.size V W W := ⟨Nat.le_refl _, fun _ _ _ => rfl⟩
theorem Kept.alloc {N V : Nat} {W1 W : World} (h : Kept N V W1 W) (o : Obj) : Kept N V W1 (W.alloc o) := ⟨by rw [World.size_alloc]; have := h.1; omega, fun b hb hne => (heap_alloc_old W o b (by have := h.1; omega)).trans (h.2 b hb hne)⟩
theorem Kept.below {N V : Nat} {W1 W W' : World} (h : Kept N V W1 W) (hb : Below W.heap.size W W') : Kept N V W1 W' := ⟨Nat.le_trans h.1 hb.size, fun b hlt hne => (hb.block b (by have := h.1; omega)).trans (h.2 b hlt hne)⟩
theorem Kept.set {N V : Nat} {W1 W : World} (h : Kept N V W1 W) (j : Nat) (v : Value) : Kept N V W1 (W.setCell ⟨V, j, none⟩ v) := ⟨by have := h.1; simpa using this, fun b hlt hne => (heap_setCell_other W _ b v hne).trans (h.2 b hlt hne)⟩
theorem kept_own {β : Type} (N V : Nat) (W1 : World) : OwnFrom N (fun (_ : β) W => Kept N V W1 W) := fun _ X Y row hs hg hr => ⟨Nat.le_trans hs.1 hg.size, fun b hlt hne => (hg.block b (by have := hs.1; omega) (fun e => by have := (hr b e.symm).1; omega)).trans (hs.2 b hlt hne)⟩
theorem kept_kp {N V : Nat} {p : Nat → Prop} {W1 W W' : World} (h : Kept N V W1 W) (h' : Kept N V W1 W') (hp : ∀ b, p b → b < N ∧ b ≠ V) : KP p W W' := fun b hb => (h'.2 b (hp b hb).1 (hp b hb).2).trans (h.2 b (hp b hb).1 (hp b hb).2).symm
theorem rangeL_get : ∀ (n k : Nat), k < n → (rangeL n)[k]? = some k
  | 0, k, h => by omega
  | n + 1, k, h => by
    unfold rangeL
    by_cases e : k < n
    · rw [List.getElem?_append_left (by rw [rangeL_len]; exact e)]
      exact rangeL_get n k e
    · obtain rfl : k = n := by omega
      rw [List.getElem?_append_right (by rw [rangeL_len]; omega), rangeL_len]
      simp
theorem rangeL_bad {n j : Nat} {pre : List Nat} (h : pre ++ [j] <+: rangeL n) : j = pre.length := by
  have hl := h.length_le
  rw [rangeL_len] at hl
  simp at hl
  obtain ⟨t, ht⟩ := h
  have h1 : (pre ++ [j] ++ t)[pre.length]? = some pre.length := by rw [ht]; exact rangeL_get n _ (by omega)
  simp at h1
  exact h1
theorem keepsFrom_below {B : Nat} {W W' : World} (h : Below W.heap.size W W') : KeepsFrom B W W' := ⟨h.size, fun k o _ hk _ => (h.block k (Array.getElem?_eq_some_iff.1 hk).1).trans hk⟩
theorem bank_stops (n0 G g cap T B D first n : Nat) (x : ByteArray) (hff : first ≤ 16384) (hn : n ≤ 16384) (w : World) (hG : Blk w G 99 #[.slice (some ⟨g, 0, none⟩) n cap]) (hT : Blk w T 44 #[.pointer (some ⟨B, 0, none⟩)]) (hB : Blk w B 101 #[.int .i64 (first : Int), .slice (some ⟨D, 0, none⟩) n n]) (hR : RowB w g 56 8 n (fun _ => ez x)) :
    SeqStopsK Fence.wide n0 Try.prog 58 #[.pointer (some ⟨G, 0, none⟩), .pointer (some ⟨T, 0, none⟩)] (fun k : Nat => #[.int .i64 ((first : Int) + (k : Int)), .agg #[.bool false, .bool false, .bool false, .bool false, .bool false, .int .i64 0, .int .i64 0, .string x]]) (KP fun b => b = G ∨ b = g ∨ b = T ∨ b = B) (fun ys => ys = rangeL n) (fun pre => pre <+: rangeL n) n w := by
  intro l J Jx W hW hJ _ hY h00
  exact bank_in n0 l G g cap T B D first n (fun _ => ez x) (fun _ => false) (fun _ => false) (fun _ => false) (fun _ => false) (fun _ => false) (fun _ => 0) (fun _ => 0) (fun _ => x) (fun _ => rfl) hff hn J Jx (fun s W o h => AbidesFrom.alloc hJ o h) (fun s W h => AbidesFrom.drew hJ h)
    hY W (hG.below hW hG.lt) (hT.below hW hT.lt) (hB.below hW hB.lt) (hR.below hW hR.lt) h00

set_option maxRecDepth 100000 in
set_option maxHeartbeats 2000000 in
theorem alike_any (B D first n R : Nat) (aL aE : Option Addr) (cL cE : Nat) (x : ByteArray) (w : World) (hff : first ≤ 16384) (hn : n ≤ 3000) (hb : BP w B D first n (fun _ => ez x)) (hr : Blk w R 105 #[.int .i64 (first : Int), .slice aL n cL, .slice aE n cE])
    (hrows : 0 < n → ∃ gL gE, aL = some ⟨gL, 0, none⟩ ∧ aE = some ⟨gE, 0, none⟩ ∧ RowB w gL 54 7 n (fun _ => #[.bool false, .bool false, .bool false, .bool false, .bool false, .int .i64 0, .int .i64 0]) ∧ RowB w gE 9 1 n (fun _ => #[.string x])) :
    Calls Try.prog 21 #[.pointer (some ⟨B, 0, none⟩), .pointer (some ⟨R, 0, none⟩)] w fun e w' => e = .returned (.bool true) ∧ Below w.heap.size w w' := by
  have hmo : Try.prog.follows .mixedOrders = true := by kernel_rfl
  refine (callsIn_wide (n := 9)).1 ?_
  refine callsIn_of_wp_marks Try.func21 rfl trivial ?_ rfl
  simp only [Try.ntmps21, List.size_toArray, List.length_cons, List.length_nil, Nat.reduceAdd, Nat.reduceSub, Array.replicate_succ, Array.replicate_zero, List.push_toArray, List.append_toArray, List.nil_append, List.cons_append]
  obtain ⟨W0, hW0⟩ : ∃ W0, (((w.alloc (.cells #[.pointer (some ⟨B, 0, none⟩)] 44)).alloc (.cells #[.pointer (some ⟨R, 0, none⟩)] 48)).alloc (.cells #[.bool false] 4)).alloc (.cells #[.int .i64 0] 3) = W0 := ⟨_, rfl⟩
  have hB0 : Below w.heap.size w W0 := by rw [← hW0]; exact (((((Below.refl _ w).alloc (Nat.le_refl _) _).alloc (by simp) _).alloc (by simp; omega) _).alloc (by simp; omega) _)
  have hsz : W0.heap.size = w.heap.size + 4 := by rw [← hW0]; simp
  have k0 : Blk W0 (w.heap.size) 44 #[.pointer (some ⟨B, 0, none⟩)] := by rw [← hW0]; exact (((Blk.new w 44 #[.pointer (some ⟨B, 0, none⟩)]).alloc _).alloc _).alloc _
  have k1 : Blk W0 (w.heap.size + 1) 48 #[.pointer (some ⟨R, 0, none⟩)] := by rw [← hW0]; have := ((Blk.new (w.alloc (.cells #[.pointer (some ⟨B, 0, none⟩)] 44)) 48 #[.pointer (some ⟨R, 0, none⟩)]).alloc (.cells #[.bool false] 4)).alloc (.cells #[.int .i64 0] 3); simpa using this
  have k2 : Blk W0 (w.heap.size + 1 + 1) 4 #[.bool false] := by rw [← hW0]; have := (Blk.new ((w.alloc (.cells #[.pointer (some ⟨B, 0, none⟩)] 44)).alloc (.cells #[.pointer (some ⟨R, 0, none⟩)] 48)) 4 #[.bool false]).alloc (.cells #[.int .i64 0] 3); simpa using this
  have k3 : Blk W0 (w.heap.size + 1 + 1 + 1) 3 #[.int .i64 0] := by rw [← hW0]; have := Blk.new (((w.alloc (.cells #[.pointer (some ⟨B, 0, none⟩)] 44)).alloc (.cells #[.pointer (some ⟨R, 0, none⟩)] 48)).alloc (.cells #[.bool false] 4)) 3 #[.int .i64 0]; simpa using this
  have hbW := hb.below hB0
  have hrW := hr.below hB0 hr.lt
  have hltB := hb.1.lt
  have hltD := hb.2.lt
  have hltR := hr.lt
  have HW0 := Lib.hid hW0
  clear hW0
  gi_wp2
  refine ⟨trivial, ?_⟩
  rw [HW0.out]
  refine (callsIn_wide.2 (all_any B D first n _ _ hbW (fun _ _ => by simp [ez, Value.oneCell']) (by omega))).mono ?_
  rintro e w1 ⟨G, g, cap, rfl, hG, hT, hl1, hl2, hRow, hB1⟩
  gi_wp2
  have j0 := k0.below hB1 k0.lt
  have j1 := k1.below hB1 k1.lt
  have j2 := k2.below hB1 k2.lt
  have j3 := k3.below hB1 k3.lt
  have bW1 := hbW.below hB1
  have rW1 := hrW.below hB1 hrW.lt
  have D1 : Below w.heap.size w w1 := hB0.trans (hB1.mono hB0.size)
  have hrows1 : 0 < n → ∃ gL gE, aL = some ⟨gL, 0, none⟩ ∧ aE = some ⟨gE, 0, none⟩ ∧ RowB w1 gL 54 7 n (fun _ => #[.bool false, .bool false, .bool false, .bool false, .bool false, .int .i64 0, .int .i64 0]) ∧ RowB w1 gE 9 1 n (fun _ => #[.string x]) ∧ gL < w.heap.size ∧ gE < w.heap.size := by
    intro h
    obtain ⟨gL, gE, h1, h2, h3, h4⟩ := hrows h
    exact ⟨gL, gE, h1, h2, (h3.below hB0 h3.lt).below hB1 (h3.below hB0 h3.lt).lt, (h4.below hB0 h4.lt).below hB1 (h4.below hB0 h4.lt).lt, h3.lt, h4.lt⟩
  have lN := hB1.size
  rw [hsz] at hl1 hl2 lN hT
  have lG := hG.lt
  have lg := hRow.lt
  clear hrows k0 k1 k2 k3 hbW hrW hb hr HW0
  refine wpIn_rangeFunc_ownH rfl (by decide) (gf := 58) (lb := #[.pointer (some ⟨G, 0, none⟩), .pointer (some ⟨w.heap.size + 4, 0, none⟩)]) rfl trivial (enters_of Try.func58 (by kernel_rfl) rfl)
    (bank_stops _ G g cap (w.heap.size + 4) B D first n x hff (by omega) w1 hG hT bW1.1 hRow) kp_t (kp_b (by rintro b (rfl | rfl | rfl | rfl) <;> omega)) (Below.refl _ _) (fun _ => rfl)
    (fun pre W => Kept w1.heap.size (w.heap.size + 1 + 1 + 1) w1 W ∧ Blk W (w.heap.size + 1 + 1 + 1) 3 #[.int .i64 (pre.length : Int)] ∧ Below w.heap.size w W)
    (fun _ pre _ => ¬ pre <+: rangeL n)
    (OwnFrom.and (kept_own _ _ _) (OwnFrom.and (Own.from (blk_own _ _ _) _) (ownFrom_below (Nat.le_refl _) (by omega))))
    (fun _ => ownFrom_pure _ _)
    ⟨Kept.refl _ _, j3, D1⟩
    (fun j a' W => ∃ E, w1.heap.size ≤ E ∧ Blk W E 56 #[.bool false, .bool false, .bool false, .bool false, .bool false, .int .i64 0, .int .i64 0, .string x] ∧ a' = ⟨#[.pointer (some ⟨B, 0, none⟩), .pointer (some ⟨R, 0, none⟩), .pointer (some ⟨w.heap.size, 0, none⟩), .pointer (some ⟨w.heap.size + 1, 0, none⟩), .pointer (some ⟨w.heap.size + 1 + 1, 0, none⟩), .pointer (some ⟨w.heap.size + 1 + 1 + 1, 0, none⟩), .int .i64 ((first : Int) + (j : Int)), .pointer (some ⟨E, 0, none⟩), undef, undef, .pointer (some ⟨B, 0, none⟩), .func (.func 58) #[] #[.pointer (some ⟨G, 0, none⟩), .pointer (some ⟨w.heap.size + 4, 0, none⟩)], .int .i64 ((first : Int) + (j : Int)), .agg #[.bool false, .bool false, .bool false, .bool false, .bool false, .int .i64 0, .int .i64 0, .string x], undef, undef, undef, undef, undef, undef, undef, undef, undef, undef, undef, undef, undef, undef, undef, undef, undef, undef, undef, undef, undef, undef, undef, undef, undef, undef, undef, undef, undef, undef, undef, undef, undef, undef, undef, undef, undef, undef, undef, undef, undef, undef, undef, undef, undef, undef, undef, undef, undef, undef, undef, undef, undef, undef, undef, undef, undef, undef, undef, undef, undef, undef, undef, undef, undef, undef, undef, undef, undef], []⟩)
    (fun _ _ => Own.from (own_ex fun E => own_and (own_pure _) (own_and (blk_own _ _ (fun _ => #[.bool false, .bool false, .bool false, .bool false, .bool false, .int .i64 0, .int .i64 0, .string x])) (own_pure _))) _)
    ?assign ?body ?done ?stop
  case assign =>
    rintro l pre j W K ⟨hK, hN, hB⟩ hCont
    gi_wp2
    exact hCont _ _ ((KeepsOthers.alloc _ _).from _) (kp_alloc _ (by have := hK.1; rintro b (rfl | rfl | rfl | rfl) <;> omega)) ⟨hK.alloc _, hN.alloc _, hB.alloc hB.size _⟩ ⟨W.heap.size, hK.1, Blk.new W 56 _, rfl⟩
  case body =>
    rintro l pre j a' W hl ⟨rr, hrr⟩ ⟨hK, hN, hB⟩ ⟨E, hE, bE, rfl⟩ hlen
    clear hrr
    obtain ⟨gL, gE, rfl, rfl, hLr, hEr, ltL, ltE⟩ := hrows1 (by omega)
    have q0 := hK.blk j0 (by omega) (by omega)
    have q1 := hK.blk j1 (by omega) (by omega)
    have q2 := hK.blk j2 (by omega) (by omega)
    have qB := hK.blk bW1.1 (by omega) (by omega)
    have qR := hK.blk rW1 (by omega) (by omega)
    have qD := hK.row bW1.2 (by omega) (by omega)
    have qL := hK.row hLr (by omega) (by omega)
    have qE := hK.row hEr (by omega) (by omega)
    obtain ⟨k, hk⟩ : ∃ k, pre.length = k := ⟨_, rfl⟩
    rw [hk] at hN hlen
    have c2 := q0.cell 0
    have c3 := q1.cell 0
    have c4 := q2.cell 0
    have f4 := q2.frozen 0
    have c5 := hN.cell 0
    have f5 := hN.frozen 0
    have r0 := qR.cell 0
    have r1 := qR.cell 1
    have r2 := qR.cell 2
    have e0 := bE.cell 0
    have e1 := bE.cell 1
    have e2 := bE.cell 2
    have e3 := bE.cell 3
    have e4 := bE.cell 4
    have e5 := bE.cell 5
    have e6 := bE.cell 6
    have e7 := bE.cell 7
    have l0 : W.cell? ⟨gL, k * 7, none⟩ = some (.bool false) := qL.cell hlen (i := 0) (by omega) rfl
    have l1 : W.cell? ⟨gL, k * 7 + 1, none⟩ = some (.bool false) := qL.cell hlen (by omega) rfl
    have l2 : W.cell? ⟨gL, k * 7 + 2, none⟩ = some (.bool false) := qL.cell hlen (by omega) rfl
    have l3 : W.cell? ⟨gL, k * 7 + 3, none⟩ = some (.bool false) := qL.cell hlen (by omega) rfl
    have l4 : W.cell? ⟨gL, k * 7 + 4, none⟩ = some (.bool false) := qL.cell hlen (by omega) rfl
    have l5 : W.cell? ⟨gL, k * 7 + 5, none⟩ = some (.int .i64 0) := qL.cell hlen (by omega) rfl
    have l6 : W.cell? ⟨gL, k * 7 + 6, none⟩ = some (.int .i64 0) := qL.cell hlen (by omega) rfl
    have x0 : W.cell? ⟨gE, k, none⟩ = some (.string x) := by have := qE.cell hlen (i := 0) (by omega) (v := .string x) rfl; simpa using this
    have ew : IntKind.i64.wrap ((first : Int) + (k : Int)) = (first : Int) + (k : Int) := by rw [IntKind.wrap_i64]; omega
    have d1 : decide (n ≤ k) = false := by simp; omega
    have dk : k < n := hlen
    have cG : ∀ (W : World) (k : Nat), k < n → BP W B D first n (fun _ => ez x) → Calls Try.prog 20 #[.pointer (some ⟨B, 0, none⟩), .int .i64 ((first : Int) + (k : Int))] W fun e w' => e = .returned (.tuple #[.agg #[.bool false, .bool false, .bool false, .bool false, .bool false, .int .i64 0, .int .i64 0, .string x], .int .i64 0]) ∧ Below W.heap.size W w' := fun W k hk h =>
      bget_yes B D first n k _ _ _ _ _ _ _ _ (fun _ => ez x) _ W h hff (by omega) hk rfl rfl (by simp [Value.oneCell'])
    have cH : ∀ (W : World) (k : Nat), k < n → BP W B D first n (fun _ => ez x) → Calls Try.prog 22 #[.pointer (some ⟨B, 0, none⟩), .int .i64 ((first : Int) + (k : Int))] W fun e w' => e = .returned (.bool true) ∧ Below W.heap.size W w' := fun W k hk h => by
      have h1 : inB first n ((first : Int) + (k : Int)) = true := by unfold inB; simp; omega
      have := bhas_any B D first n (fun _ => ez x) ((first : Int) + (k : Int)) W h hff (by omega) (by omega)
      rw [h1] at this
      exact this.mono fun e w' ⟨h2, m, h3⟩ => ⟨h2, by rw [h3]; exact below_drewN (Below.refl _ _) m⟩
    by_cases hj : j = k
    · subst hj
      have HK := Lib.hid hk
      clear hk
      gi_wp2
      refine region_quiet_round l _ (by kernel_rfl) (fun ⟨_, _, h⟩ => h) hmo (by kernel_rfl) ?_
      repeat (any_goals (first | go_big_quiet_step (fail)))
      refine wpQuiet_nil ?_
      rintro W2 ⟨nq, hw2⟩
      have hB2 : Below W.heap.size W W2 := by rw [hw2]; exact below_drewN (Below.refl _ _) nq
      have hK2 := hK.below hB2
      have hN2 := hN.below hB2 hN.lt
      have bE2 := bE.below hB2 bE.lt
      have u2 := (q0.below hB2 q0.lt).cell 0
      have bp2 : BP W2 B D first n (fun _ => ez x) := ⟨hK2.blk bW1.1 (by omega) (by omega), hK2.row bW1.2 (by omega) (by omega)⟩
      have lE2 := bE2.lt
      have lN2 := hN2.lt
      have lq2 := (q0.below hB2 q0.lt).lt
      have Q0 := q0.below hB2 q0.lt
      clear hw2 c2 c3 c4 f4 c5 f5 r0 r1 r2 e0 e1 e2 e3 e4 e5 e6 e7 l0 l1 l2 l3 l4 l5 l6 x0 ew d1
      gi_wp2_with (first
        | (refine ⟨trivial, ?_⟩; gi_at_call 20; refine (CallsIn.inRound l (callsIn_wide.2 (cG _ j dk bp2))).mono ?_; rintro e W3 ⟨rfl, hB3⟩; have bE3 := bE2.below hB3 bE2.lt; have u3 := (Q0.below hB3 Q0.lt).cell 0; have U3 := Q0.below hB3 Q0.lt; have hN3 := hN2.below hB3 hN2.lt; have g0 := bE3.cell 0; have g1 := bE3.cell 1; have g2 := bE3.cell 2; have g3 := bE3.cell 3; have g4 := bE3.cell 4; have g5 := bE3.cell 5; have g6 := bE3.cell 6; have g7 := bE3.cell 7; have lE3 := bE3.lt; have lq3 := U3.lt; have bp3 := (bp2.below hB3).below (one_box W3 (.cells #[.bool false, .bool false, .bool false, .bool false, .bool false, .int .i64 0, .int .i64 0, .string x] 56)))
        | (refine ⟨trivial, ?_⟩; gi_at_call 22; refine (CallsIn.inRound l (callsIn_wide.2 (cH _ j dk bp3))).mono ?_; rintro e W5 ⟨rfl, hB5⟩; have hN4 := hN3.alloc (.cells #[.bool false, .bool false, .bool false, .bool false, .bool false, .int .i64 0, .int .i64 0, .string x] 56); have hN5 := hN4.below hB5 hN4.lt; have n0 := hN5.cell 0; have n1 := hN5.frozen 0))
      have b23 := hB2.trans (hB3.mono hB2.size)
      have b3a := b23.alloc b23.size (.cells #[.bool false, .bool false, .bool false, .bool false, .bool false, .int .i64 0, .int .i64 0, .string x] 56)
      have b35 := b3a.trans (hB5.mono b3a.size)
      have hK5 := hK.below b35
      have D5 := hB.trans (b35.mono hB.size)
      have e1 : (((pre ++ [j]).length : Nat) : Int) = (j : Int) + 1 := by rw [List.length_append, HK.out]; simp
      exact ⟨(keepsFrom_below b35).trans ((KeepsOthers.setCell _ _ _).from _), kept_kp hK (hK5.set 0 _) (by rintro b (rfl | rfl | rfl | rfl) <;> omega), hK5.set 0 _, by rw [e1]; exact hN5.set 0 _, D5.setCell (p := ⟨_, 0, none⟩) (by simp; omega) _⟩
    · have hbad : ¬ pre ++ [j] <+: rangeL n := fun h => hj ((rangeL_bad h).trans hk)
      have d2 : ((first : Int) + (j : Int) != (first : Int) + (k : Int)) = true := by rw [bne_iff_ne]; omega
      clear cG cH
      gi_wp2
      refine region_quiet_round l _ (by kernel_rfl) (fun ⟨_, _, h⟩ => h) hmo (by kernel_rfl) ?_
      repeat (any_goals (first | go_big_quiet_step (fail)))
      refine wpQuiet_nil ?_
      rintro W2 ⟨nq, hw2⟩
      have hB2 : Below W.heap.size W W2 := by rw [hw2]; exact below_drewN (Below.refl _ _) nq
      have q3 := q2.below hB2 q2.lt
      have v4 := q3.cell 0
      have w4 := q3.frozen 0
      clear hw2 c2 c3 c4 f4 c5 f5 r0 r1 r2 e0 e1 e2 e3 e4 e5 e6 e7 l0 l1 l2 l3 l4 l5 l6 x0 ew d1 d2
      gi_wp2
      exact ⟨(keepsFrom_below hB2).trans ((KeepsOthers.setCell _ _ _).from _), hbad⟩
  case done =>
    rintro Dd ys W hDd rfl ⟨hK, hN, hB⟩ hKd
    rw [rangeL_len] at hN
    have q1 := hK.blk j1 (by omega) (by omega)
    have q2 := hK.blk j2 (by omega) (by omega)
    have qR := hK.blk rW1 (by omega) (by omega)
    have c3 := q1.cell 0
    have c4 := q2.cell 0
    have f4 := q2.frozen 0
    have c5 := hN.cell 0
    have r1 := qR.cell 1
    gi_wp2
    gi_region_o
    gi_wp2
    have hK' : (W.setCell ⟨w.heap.size + 1 + 1, 0, none⟩ (.bool true)).drew.heap[Dd]? = some (.deferred (some [])) := (KeepsOthers.setCell W ⟨w.heap.size + 1 + 1, 0, none⟩ (.bool true)).same Dd _ hKd rfl
    have hB' : Below w.heap.size w (W.setCell ⟨w.heap.size + 1 + 1, 0, none⟩ (.bool true)).drew := (hB.setCell (p := ⟨w.heap.size + 1 + 1, 0, none⟩) (by simp; omega) (.bool true)).drew
    have q4 : Blk (W.setCell ⟨w.heap.size + 1 + 1, 0, none⟩ (.bool true)).drew (w.heap.size + 1 + 1) 4 #[.bool true] := q2.set 0 (.bool true)
    refine ⟨by simp, .inl ⟨_, _, rfl, run_takeDeferred hK', ?_⟩⟩
    have d2 := (q4.put (.deferred none) hK' rfl).cell 0
    refine ⟨.bool true, ?_, rfl, hB'.trans (belowK_b (w := w) (Nat.le_refl _) _ Dd _ _ (by omega) hK' rfl rfl)⟩
    simp at d2
    simp [results, Try.f21, go_sem, d2]
  case stop =>
    rintro Dd c pre W hDd hpre h _
    exact absurd hpre h
end Go.Proofs.Ytoloccoodnbbdaa
