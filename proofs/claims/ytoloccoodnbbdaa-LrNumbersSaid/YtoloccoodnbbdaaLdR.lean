/- The ladder: the law. -/
import Derived.RangeFuncNested
import Derived.RangeFuncBound
import Derived.RangeFuncCalls
import Derived.RangeFuncLeaves
import Derived.Shelf.Abstract
import Derived.Shelf.RegionOpen
import Derived.WalkKit
import Derived.OwnWalkIn
import Derived.TacticsInMore
import Derived.LoopNIn
import Derived.LoopIn
import Derived.WalkSpells
import Derived.WalkLawsBesides
import Derived.Deep.QuietTactic
import Derived.BigQuiet
import Derived.Lib.Hide
import Derived.Deep.WholeRow
import Derived.Deep.Onto
import Derived.RangeFuncWrites
import Derived.Laws.Rows
import Derived.Laws.Tables
import Derived.Deep.RegionHeld3
import Derived.Test.YtoloccoodnbbdaaHd
import Derived.Test.YtoloccoodnbbdaaLdO
import Derived.Test.YtoloccoodnbbdaaLdQ
namespace Go.Proofs.Ytoloccoodnbbdaa
open Go.RowKit Go.Shelf
attribute [local go_sem] Oper.semAt_some

theorem wpList_load_row_w {P : Program} {ops : Array Oper} {rest : List Oper} {o : Oper} {a : Act} {w : World} {Q : Exit → Act → World → Prop} (hw : Region.wanted o (yielded ops a.tmps) = true) (ty : TypeId) (x : Operand) (ho : o.op = .load ty x)
    (g : Nat) (hx : a.eval x = .pointer (some ⟨g, 0, none⟩)) (t : TypeId) (cs : Array Value) (fr : Nat × Nat) (d : TypeDesc) (hg : w.heap[g]? = some (.cells cs t fr))
    (hu : P.underlying ty = some d) (hd : (match d with | .struct _ | .array _ _ => true | _ => false) = true) (hi : (P.info? ty).map (·.size) = some cs.size)
    (h : wpList P ops Q rest (a.put o.dst (.agg cs)) w) : wpList P ops Q (o :: rest) a w :=
  wpList_step fun K hK => by simp only [hw, if_true]; exact wp_load_row ty x ho g hx t cs fr d hg hu hd hi (hK _ _ h)
theorem of_a0 (a : Nat) (ha : a < 2 ^ 32) (w : World) : Calls Try.prog 8 #[.int .u32 (a : Int), .int .u32 0] w fun e w' => e = .returned (.agg (rv (fw a 0))) ∧ Below w.heap.size w w' := of_any a 0 ha (by decide) w
/-- A value reads as acts. -/
def AI (w : World) (v : Value) (L : List (Int × Int × Int)) : Prop :=
  ∃ a cap, v = .slice a L.length cap ∧ (a = none → L = []) ∧ ∀ g, a = some g → ∀ j, j < L.length → g = ⟨g.block, g.off, none⟩ ∧
    ∃ x, L[j]? = some x ∧ w.cell? ⟨g.block, g.off + j * 3, none⟩ = some (.int .i64 x.1) ∧ w.cell? ⟨g.block, g.off + j * 3 + 1, none⟩ = some (.int .i64 x.2.1) ∧ w.cell? ⟨g.block, g.off + j * 3 + 2, none⟩ = some (.int .i64 x.2.2)
set_option maxRecDepth 100000 in
set_option maxHeartbeats 1000000 in
theorem ladderDoes_any (a b : Nat) (ha : a < 2 ^ 32) (hb : b < 2 ^ 32) (L : List (Int × Int × Int)) (hL : L.length < 2 ^ 63) (v : Value) (w : World) (hv : AI w v L) :
    Calls Try.prog 3 #[.int .u32 (a : Int), .int .u32 (b : Int), v] w fun e w' => e = .returned (.bool true) ∧ Below w.heap.size w w' := by
  obtain ⟨p, cap, rfl, hp, hc⟩ := hv
  go_enter Try.func3, Try.ntmps3
  go_wp2_with (first | (go_at_call 6; refine (awake8_any _).mono ?_; rintro e w1 ⟨rfl, hb1⟩; have c0 := (Blk.new w1 83 #[.int .u32 (a : Int), .int .u32 (b : Int), .int .u32 77])) | (go_at_call 7; with_reducible refine (of3 a b 77 w1.heap.size _ _ (((Blk.new _ _ _).cell 0).trans rfl) (((Blk.new _ _ _).cell 1).trans rfl) (((Blk.new _ _ _).cell 2).trans rfl)).mono ?_; rintro e w2 ⟨rfl, hb2⟩; have B2 := (bLater (hb1.alloc hb1.size (.cells #[.int .u32 (a : Int), .int .u32 (b : Int), .int .u32 77] 22)) hb2); have l0 := Blk.new w2 27 #[.int .u32 0, .int .u32 0]; have B3 := B2.alloc B2.size (.cells #[.int .u32 0, .int .u32 0] 27)) | (refine wpList_store_row rfl 27 _ _ rfl (w2.heap.size) #[.int .u32 (a : Int), .int .u32 (b : Int)] rfl rfl 27 _ l0 (info27 _ rfl) rfl (by simp [Value.oneCell']) ?_; have l1 := l0.row #[.int .u32 (a : Int), .int .u32 (b : Int)]; have B4 := below_setRow B3 (g := w2.heap.size) B2.size #[.int .u32 (a : Int), .int .u32 (b : Int)]) | (go_at_call 8; with_reducible refine (of_any a b ha hb _).mono ?_; rintro e w3 ⟨rfl, hb3⟩; have B5 := bLater B4 hb3; have l2 := (l1.below hb3 l1.lt).alloc (.cells #[.bool false, .bool false, .bool false, .bool false, .bool false, .bool false, .bool false, .bool false, .bool false, .bool false, .bool false, .bool false, .bool false, .bool false, .bool false, .bool false, .bool false, .bool false, .bool false, .bool false, .bool false, .bool false, .bool false, .bool false, .bool false, .bool false, .bool false, .bool false, .bool false, .bool false, .bool false, .bool false, .bool false, .bool false, .bool false, .bool false, .bool false, .bool false, .bool false, .bool false, .bool false, .bool false, .bool false, .bool false, .bool false, .bool false, .bool false, .bool false, .bool false, .bool false, .bool false, .bool false, .bool false, .bool false, .bool false, .bool false, .bool false, .bool false, .bool false, .bool false, .bool false, .bool false, .bool false, .bool false] 31); have r0 := Blk.new w3 31 #[.bool false, .bool false, .bool false, .bool false, .bool false, .bool false, .bool false, .bool false, .bool false, .bool false, .bool false, .bool false, .bool false, .bool false, .bool false, .bool false, .bool false, .bool false, .bool false, .bool false, .bool false, .bool false, .bool false, .bool false, .bool false, .bool false, .bool false, .bool false, .bool false, .bool false, .bool false, .bool false, .bool false, .bool false, .bool false, .bool false, .bool false, .bool false, .bool false, .bool false, .bool false, .bool false, .bool false, .bool false, .bool false, .bool false, .bool false, .bool false, .bool false, .bool false, .bool false, .bool false, .bool false, .bool false, .bool false, .bool false, .bool false, .bool false, .bool false, .bool false, .bool false, .bool false, .bool false, .bool false]; have B6 := B5.alloc B5.size (.cells #[.bool false, .bool false, .bool false, .bool false, .bool false, .bool false, .bool false, .bool false, .bool false, .bool false, .bool false, .bool false, .bool false, .bool false, .bool false, .bool false, .bool false, .bool false, .bool false, .bool false, .bool false, .bool false, .bool false, .bool false, .bool false, .bool false, .bool false, .bool false, .bool false, .bool false, .bool false, .bool false, .bool false, .bool false, .bool false, .bool false, .bool false, .bool false, .bool false, .bool false, .bool false, .bool false, .bool false, .bool false, .bool false, .bool false, .bool false, .bool false, .bool false, .bool false, .bool false, .bool false, .bool false, .bool false, .bool false, .bool false, .bool false, .bool false, .bool false, .bool false, .bool false, .bool false, .bool false, .bool false] 31)) | (refine wpList_store_row rfl 31 _ _ rfl (w3.heap.size) (rv (fw a b)) rfl rfl 31 _ r0 (info31 _) (by rw [rv_size]; rfl) (rv_one _) ?_; have r1 := r0.row (rv (fw a b)); have l3 := l2.row_other w3.heap.size (rv (fw a b)) (by have := l1.lt; have := hb3.size; omega); have B7 := below_setRow B6 (g := w3.heap.size) B5.size (rv (fw a b))) | (refine wpList_load_row_w (by kernel_rfl) 27 _ rfl (w2.heap.size) rfl 27 _ (0, 0) _ l3 Try.underlying27 rfl (info27 _ rfl) ?_) | (refine wpList_load_row_w (by kernel_rfl) 31 _ rfl (w3.heap.size) rfl 31 _ (0, 0) _ r1 Try.underlying31 rfl (info31 _) ?_) | (go_at_call 9; with_reducible refine (alike_any a b ha hb _).mono ?_; rintro e w4 ⟨rfl, hb4⟩; have B8 := bLater B7 hb4; have l4 := l3.below hb4 l3.lt; have r4 := r1.below hb4 r1.lt) | (go_at_call 7; with_reducible refine (of1 a w4.heap.size _ _ (((Blk.new _ _ _).cell 0).trans rfl)).mono ?_; rintro e w5 ⟨rfl, hb5⟩; have B9 := bLater (B8.alloc B8.size (.cells #[.int .u32 (a : Int)] 22)) hb5; have l5 := (l4.alloc (.cells #[.int .u32 (a : Int)] 22)).below hb5 (l4.alloc _).lt; have r5 := (r4.alloc (.cells #[.int .u32 (a : Int)] 22)).below hb5 (r4.alloc _).lt) | (go_at_call 8; with_reducible refine (of_a0 a ha _).mono ?_; rintro e w6 ⟨rfl, hb6⟩; have B10 := bLater B9 hb6; have l6 := l5.below hb6 l5.lt; have r6 := r5.below hb6 r5.lt) | (go_at_call 9; with_reducible refine (alike_any a 0 ha (by decide) _).mono ?_; rintro e w7 ⟨rfl, hb7⟩; have B11 := bLater B10 hb7; have l7 := l6.below hb7 l6.lt; have r7 := r6.below hb7 r6.lt))
  have hgl : w.heap.size ≤ w2.heap.size := B2.size
  have hgr : w.heap.size ≤ w3.heap.size := B5.size
  have hlr : w2.heap.size ≠ w3.heap.size := by have := l1.lt; have := hb3.size; omega
  clear B2 B3 B4 B5 B6 B7 B8 B9 B10 l0 l1 l2 l3 l4 l5 l6 r0 r1 r4 r5 r6 hb1 hb2 hb3 hb4 hb5 hb6 hb7 c0
  generalize w2.heap.size = gL at *
  generalize w3.heap.size = gR at *
  go_loopw [10] (fun i wr => ∃ k x0 x1 : Nat, k ≤ L.length ∧ i = .int .i64 (k : Int) ∧ x0 < 2 ^ 32 ∧ x1 < 2 ^ 32 ∧ Blk wr gL 27 #[.int .u32 (x0 : Int), .int .u32 (x1 : Int)] ∧ Blk wr gR 31 (rv (fw x0 x1)) ∧ Below w.heap.size w wr) (fun i _ => L.length - (intOf i).toNat)
  case atStart => exact ⟨0, a, b, by omega, rfl, ha, hb, l7, r7, B11⟩
  case round =>
    obtain ⟨k, x0, x1, hk, rfl, h0, h1, bl, br, hB⟩ := hrel
    by_cases hlt : k < L.length
    · cases p with
      | none => rw [hp rfl] at hlt; simp at hlt
      | some ga =>
        obtain ⟨hga, ⟨d, g, q⟩, -, e0, e1, e2⟩ := hc ga rfl k hlt
        replace e0 := cell_later hB e0
        replace e1 := cell_later hB e1
        replace e2 := cell_later hB e2
        obtain ⟨A, hA⟩ : ∃ A, ga.block = A := ⟨_, rfl⟩
        obtain ⟨F, hF⟩ : ∃ F, ga.off = F := ⟨_, rfl⟩
        rw [hA, hF] at hga e0 e1 e2
        subst hga
        clear hc hp hA hF
        have hlt' : (k : Int) < (L.length : Int) := by omega
        simp only at e0 e1 e2
        have hlL := bl.lt
        have hlR := br.lt
        rcases (show d = 1 ∨ d = 2 ∨ d = 3 ∨ ((d == 1) = false ∧ (d == 2) = false ∧ (d == 3) = false) by simp; omega) with rfl | rfl | rfl | ⟨n1, n2, n3⟩
        · obtain ⟨X, hX⟩ : ∃ X, pushW x0 x1 g q = X := ⟨_, rfl⟩
          have cp := push_any x0 x1 h0 h1 g q
          have cs := set_yes x0 x1 g q
          have hlt2 := pushW_lt x0 x1 h0 h1 g q
          rw [hX] at cp cs hlt2
          have CP := Lib.hid cp
          have CS := Lib.hid cs
          clear cp cs hX
          have al := bl.alloc (.cells #[.int .i64 1, .int .i64 g, .int .i64 q] 35)
          have ar := br.alloc (.cells #[.int .i64 1, .int .i64 g, .int .i64 q] 35)
          have at1 := Blk.new wr 35 #[.int .i64 1, .int .i64 g, .int .i64 q]
          have BA := hB.alloc hB.size (.cells #[.int .i64 1, .int .i64 g, .int .i64 q] 35)
          go_wp2_with (first | (refine wpList_load_row rfl 27 _ rfl (gL) rfl 27 _ (0, 0) _ al Try.underlying27 rfl (info27 _ rfl) ?_) | (go_at_call 10; refine (CP.out _).mono ?_; rintro e w11 ⟨rfl, hb11⟩; have al2 := al.below hb11 al.lt; have ar2 := ar.below hb11 ar.lt; have at2 := at1.below hb11 at1.lt; have BA2 := bLater BA hb11) | (refine wpList_store_row rfl 27 _ _ rfl (gL) #[.int .u32 (X.1 : Int), .int .u32 (X.2 : Int)] rfl rfl 27 _ al2 (info27 _ rfl) rfl (by simp [Value.oneCell']) ?_; have al3 := al2.row #[.int .u32 (X.1 : Int), .int .u32 (X.2 : Int)]; have ar3 := ar2.row_other gL #[.int .u32 (X.1 : Int), .int .u32 (X.2 : Int)] (Ne.symm hlr); have at3 := at2.row_other gL #[.int .u32 (X.1 : Int), .int .u32 (X.2 : Int)] (by omega); have BA3 := below_setRow BA2 hgl #[.int .u32 (X.1 : Int), .int .u32 (X.2 : Int)]; have k1 := (at3.cell 1).trans rfl; have k2 := (at3.cell 2).trans rfl) | (refine wpList_load_row rfl 31 _ rfl (gR) rfl 31 _ (0, 0) _ ar3 Try.underlying31 rfl (info31 _) ?_) | (go_at_call 11; refine (CS.out _).mono ?_; rintro e w12 ⟨rfl, hb12⟩; have al4 := al3.below hb12 al3.lt; have ar4 := ar3.below hb12 ar3.lt; have at4 := at3.below hb12 at3.lt; have BA4 := bLater BA3 hb12) | (refine wpList_store_row rfl 31 _ _ rfl (gR) (rv (fw X.1 X.2)) rfl rfl 31 _ ar4 (info31 _) (by rw [rv_size, rv_size]) (rv_one _) ?_; have al5 := al4.row_other gR (rv (fw X.1 X.2)) hlr; have ar5 := ar4.row (rv (fw X.1 X.2)); have at5 := at4.row_other gR (rv (fw X.1 X.2)) (by omega); have BA5 := below_setRow BA4 hgr (rv (fw X.1 X.2))))
          generalize w12.setRow gR (rv (fw X.1 X.2)) = W at *
          obtain ⟨y0, y1⟩ := X
          obtain ⟨hy0, hy1⟩ := hlt2
          simp only at *
          have ch := has_any y0 y1 hy0 hy1 g q
          rw [hasW_fw] at ch
          have cr := hasR_any (fw y0 y1) g q
          obtain ⟨c, hcc⟩ : ∃ c, fw y0 y1 (idx g q) = c := ⟨_, rfl⟩
          rw [hcc] at ch cr
          have CH := Lib.hid ch
          have CR := Lib.hid cr
          have CA := Lib.hid (alike_any y0 y1 hy0 hy1)
          clear ch cr hcc
          obtain ⟨S, hSd⟩ : ∃ S : World → Prop, ∀ w', S w' ↔ Below W.heap.size W w' := ⟨fun w' => Below W.heap.size W w', fun _ => Iff.rfl⟩
          have sL : ∀ w', S w' → (Instr.loadAt 27 (.pointer (some ⟨gL, 0, none⟩))).run Try.prog w' = .ok (.agg #[.int .u32 (y0 : Int), .int .u32 (y1 : Int)]) w' := fun w' h => by
            simp only [Instr.loadAt, Instr.sureAddr, Sem.run_bind, Sem.run_pure, Result.andThen]
            exact run_loadVar_row w' _ 27 27 _ (0, 0) _ (heap_later ((hSd w').1 h) al5) Try.underlying27 rfl (info27 _ rfl)
          have sR : ∀ w', S w' → (Instr.loadAt 31 (.pointer (some ⟨gR, 0, none⟩))).run Try.prog w' = .ok (.agg (rv (fw y0 y1))) w' := fun w' h => by
            simp only [Instr.loadAt, Instr.sureAddr, Sem.run_bind, Sem.run_pure, Result.andThen]
            exact run_loadVar_row w' _ 31 31 _ (0, 0) _ (heap_later ((hSd w').1 h) ar5) Try.underlying31 rfl (info31 _)
          have s1 : ∀ w', S w' → w'.cell? ⟨wr.heap.size, 1, none⟩ = some (.int .i64 g) := fun w' h => by
            rw [cell_of_row w' _ 1 _ _ _ (heap_later ((hSd w').1 h) at5)]; rfl
          have s2 : ∀ w', S w' → w'.cell? ⟨wr.heap.size, 2, none⟩ = some (.int .i64 q) := fun w' h => by
            rw [cell_of_row w' _ 2 _ _ _ (heap_later ((hSd w').1 h) at5)]; rfl
          have sk : ∀ w' w'', S w' → Below w'.heap.size w' w'' → S w'' := fun w' w'' h hb => (hSd w'').2 (((hSd w').1 h).trans (hb.mono ((hSd w').1 h).size))
          have hS0 : S W.drew := (hSd _).2 (Below.refl _ _).drew
          refine wp_region_held_drew (S := S) (by kernel_rfl) hS0 (fun hS => ?_)
          refine stepH (i := 0) (d := 100) (v := (.agg #[.int .u32 (y0 : Int), .int .u32 (y1 : Int)])) rfl rfl (by kernel_rfl) (by kernel_rfl) (by kernel_rfl) (fun _ _ _ h => h) (Or.inl ⟨by kernel_rfl, fun w' hw' => exec_load 27 _ rfl ⟨gL, 0, none⟩ rfl (sL w' hw')⟩) hS ?_
          simp only [List.set_cons_zero, List.set_cons_succ]
          refine stepH (i := 1) (d := 101) (v := (.agg (rv (fw y0 y1)))) rfl rfl (by kernel_rfl) (by kernel_rfl) (by kernel_rfl) (fun _ _ _ h => h) (Or.inl ⟨by kernel_rfl, fun w' hw' => exec_load 31 _ rfl ⟨gR, 0, none⟩ rfl (sR w' hw')⟩) hS ?_
          simp only [List.set_cons_zero, List.set_cons_succ]
          refine stepCall (i := 2) (d := 102) (f := 9) (args := #[lad y0 y1, .agg (rv (fw y0 y1))]) rfl rfl (by kernel_rfl) (by kernel_rfl) (exec_call 9 [.tmp 100, .tmp 101] _ rfl rfl (enters_of Try.func9 (by kernel_rfl) rfl) _) (CA.out _) ?_
          rintro e w21 ⟨rfl, hb21⟩
          have hS2 := sk _ _ hS hb21
          refine ⟨_, rfl, hS2, ?_⟩
          simp only [List.set_cons_zero, List.set_cons_succ]
          refine stepH (i := 3) (d := 103) (v := (.bool false)) rfl rfl (by kernel_rfl) (by kernel_rfl) (by kernel_rfl) (fun _ _ _ h => h) (Or.inl ⟨by kernel_rfl, fun w' hw' => by kernel_rfl⟩) hS2 ?_
          simp only [List.set_cons_zero, List.set_cons_succ]
          refine stepH (i := 4) (d := 104) (v := (.bool false)) rfl rfl (by kernel_rfl) (by kernel_rfl) (by kernel_rfl) (fun _ _ _ h => h) (Or.inl ⟨by kernel_rfl, fun w' hw' => by kernel_rfl⟩) hS2 ?_
          simp only [List.set_cons_zero, List.set_cons_succ]
          refine stepH (i := 5) (d := 105) (v := (.agg #[.int .u32 (y0 : Int), .int .u32 (y1 : Int)])) rfl rfl (by kernel_rfl) (by kernel_rfl) (by kernel_rfl) (fun _ _ _ h => h) (Or.inl ⟨by kernel_rfl, fun w' hw' => exec_load 27 _ rfl ⟨gL, 0, none⟩ rfl (sL w' hw')⟩) hS2 ?_
          simp only [List.set_cons_zero, List.set_cons_succ]
          refine stepH (i := 6) (d := 106) (v := (.pointer (some ⟨wr.heap.size, 1, none⟩))) rfl rfl (by kernel_rfl) (by kernel_rfl) (by kernel_rfl) (fun _ _ _ h => h) (Or.inl ⟨by kernel_rfl, fun w' hw' => by kernel_rfl⟩) hS2 ?_
          simp only [List.set_cons_zero, List.set_cons_succ]
          refine stepH (i := 7) (d := 107) (v := (.int .i64 g)) rfl rfl (by kernel_rfl) (by kernel_rfl) (by kernel_rfl) (fun _ _ _ h => h) (Or.inl ⟨by kernel_rfl, fun w' hw' => exec_load 3 _ rfl ⟨wr.heap.size, 1, none⟩ rfl (by simp [go_sem, s1 w' hw'])⟩) hS2 ?_
          simp only [List.set_cons_zero, List.set_cons_succ]
          refine stepH (i := 8) (d := 108) (v := (.pointer (some ⟨wr.heap.size, 2, none⟩))) rfl rfl (by kernel_rfl) (by kernel_rfl) (by kernel_rfl) (fun _ _ _ h => h) (Or.inl ⟨by kernel_rfl, fun w' hw' => by kernel_rfl⟩) hS2 ?_
          simp only [List.set_cons_zero, List.set_cons_succ]
          refine stepH (i := 9) (d := 109) (v := (.int .i64 q)) rfl rfl (by kernel_rfl) (by kernel_rfl) (by kernel_rfl) (fun _ _ _ h => h) (Or.inl ⟨by kernel_rfl, fun w' hw' => exec_load 3 _ rfl ⟨wr.heap.size, 2, none⟩ rfl (by simp [go_sem, s2 w' hw'])⟩) hS2 ?_
          simp only [List.set_cons_zero, List.set_cons_succ]
          refine stepH (i := 11) (d := 111) (v := (.agg (rv (fw y0 y1)))) rfl rfl (by kernel_rfl) (by kernel_rfl) (by kernel_rfl) (fun _ _ _ h => h) (Or.inl ⟨by kernel_rfl, fun w' hw' => exec_load 31 _ rfl ⟨gR, 0, none⟩ rfl (sR w' hw')⟩) hS2 ?_
          simp only [List.set_cons_zero, List.set_cons_succ]
          refine stepH (i := 12) (d := 112) (v := (.pointer (some ⟨wr.heap.size, 1, none⟩))) rfl rfl (by kernel_rfl) (by kernel_rfl) (by kernel_rfl) (fun _ _ _ h => h) (Or.inl ⟨by kernel_rfl, fun w' hw' => by kernel_rfl⟩) hS2 ?_
          simp only [List.set_cons_zero, List.set_cons_succ]
          refine stepH (i := 13) (d := 113) (v := (.int .i64 g)) rfl rfl (by kernel_rfl) (by kernel_rfl) (by kernel_rfl) (fun _ _ _ h => h) (Or.inl ⟨by kernel_rfl, fun w' hw' => exec_load 3 _ rfl ⟨wr.heap.size, 1, none⟩ rfl (by simp [go_sem, s1 w' hw'])⟩) hS2 ?_
          simp only [List.set_cons_zero, List.set_cons_succ]
          refine stepH (i := 14) (d := 114) (v := (.pointer (some ⟨wr.heap.size, 2, none⟩))) rfl rfl (by kernel_rfl) (by kernel_rfl) (by kernel_rfl) (fun _ _ _ h => h) (Or.inl ⟨by kernel_rfl, fun w' hw' => by kernel_rfl⟩) hS2 ?_
          simp only [List.set_cons_zero, List.set_cons_succ]
          refine stepH (i := 15) (d := 115) (v := (.int .i64 q)) rfl rfl (by kernel_rfl) (by kernel_rfl) (by kernel_rfl) (fun _ _ _ h => h) (Or.inl ⟨by kernel_rfl, fun w' hw' => exec_load 3 _ rfl ⟨wr.heap.size, 2, none⟩ rfl (by simp [go_sem, s2 w' hw'])⟩) hS2 ?_
          simp only [List.set_cons_zero, List.set_cons_succ]
          refine stepCall (i := 10) (d := 110) (f := 15) (args := #[lad y0 y1, .int .i64 g, .int .i64 q]) rfl rfl (by kernel_rfl) (by kernel_rfl) (exec_call 15 [.tmp 105, .tmp 107, .tmp 109] _ rfl rfl (enters_of Try.func15 (by kernel_rfl) rfl) _) (CH.out _) ?_
          rintro e w22 ⟨rfl, hb22⟩
          have hS3 := sk _ _ hS2 hb22
          refine ⟨_, rfl, hS3, ?_⟩
          simp only [List.set_cons_zero, List.set_cons_succ]
          refine stepCall (i := 16) (d := 116) (f := 16) (args := #[.agg (rv (fw y0 y1)), .int .i64 g, .int .i64 q]) rfl rfl (by kernel_rfl) (by kernel_rfl) (exec_call 16 [.tmp 111, .tmp 113, .tmp 115] _ rfl rfl (enters_of Try.func16 (by kernel_rfl) rfl) _) (CR.out _) ?_
          rintro e w23 ⟨rfl, hb23⟩
          have hS4 := sk _ _ hS3 hb23
          refine ⟨_, rfl, hS4, ?_⟩
          simp only [List.set_cons_zero, List.set_cons_succ]
          refine stepH (i := 17) (d := 117) (v := (.bool false)) rfl rfl (by kernel_rfl) (by kernel_rfl) (by kernel_rfl) (fun _ _ _ h => h) (Or.inl ⟨by kernel_rfl, fun w' hw' => exec_bin .neq 4 4 _ _ rfl (.bool c) (.bool c) rfl rfl (by simp [go_sem]) (by simp [go_sem])⟩) hS4 ?_
          simp only [List.set_cons_zero, List.set_cons_succ]
          refine stepH (i := 18) (d := 118) (v := (.bool false)) rfl rfl (by kernel_rfl) (by kernel_rfl) (by kernel_rfl) (fun _ _ _ h => h) (Or.inl ⟨by kernel_rfl, fun w' hw' => by kernel_rfl⟩) hS4 ?_
          simp only [List.set_cons_zero, List.set_cons_succ]
          refine wpAnyH_done (by kernel_rfl) ?_ _
          have hBW := (hSd _).1 hS4
          have hadd : IntKind.i64.wrap ((k : Int) + 1) = ((k + 1 : Nat) : Int) := by rw [IntKind.wrap_i64]; omega
          go_wp2
          go_roundw
          case rel => exact ⟨k + 1, y0, y1, by omega, by simp, hy0, hy1, heap_later hBW al5, heap_later hBW ar5, BA5.trans (hBW.mono BA5.size)⟩
          case measure => simp [intOf]; omega
        · obtain ⟨X, hX⟩ : ∃ X, clearW x0 x1 g q = X := ⟨_, rfl⟩
          have cp := clear_any x0 x1 h0 h1 g q
          have cs := set_no x0 x1 h0 h1 g q
          have hlt2 := clearW_lt x0 x1 h0 h1 g q
          rw [hX] at cp cs hlt2
          have CP := Lib.hid cp
          have CS := Lib.hid cs
          clear cp cs hX
          have al := bl.alloc (.cells #[.int .i64 2, .int .i64 g, .int .i64 q] 35)
          have ar := br.alloc (.cells #[.int .i64 2, .int .i64 g, .int .i64 q] 35)
          have at1 := Blk.new wr 35 #[.int .i64 2, .int .i64 g, .int .i64 q]
          have BA := hB.alloc hB.size (.cells #[.int .i64 2, .int .i64 g, .int .i64 q] 35)
          go_wp2_with (first | (refine wpList_load_row rfl 27 _ rfl (gL) rfl 27 _ (0, 0) _ al Try.underlying27 rfl (info27 _ rfl) ?_) | (go_at_call 12; refine (CP.out _).mono ?_; rintro e w11 ⟨rfl, hb11⟩; have al2 := al.below hb11 al.lt; have ar2 := ar.below hb11 ar.lt; have at2 := at1.below hb11 at1.lt; have BA2 := bLater BA hb11) | (refine wpList_store_row rfl 27 _ _ rfl (gL) #[.int .u32 (X.1 : Int), .int .u32 (X.2 : Int)] rfl rfl 27 _ al2 (info27 _ rfl) rfl (by simp [Value.oneCell']) ?_; have al3 := al2.row #[.int .u32 (X.1 : Int), .int .u32 (X.2 : Int)]; have ar3 := ar2.row_other gL #[.int .u32 (X.1 : Int), .int .u32 (X.2 : Int)] (Ne.symm hlr); have at3 := at2.row_other gL #[.int .u32 (X.1 : Int), .int .u32 (X.2 : Int)] (by omega); have BA3 := below_setRow BA2 hgl #[.int .u32 (X.1 : Int), .int .u32 (X.2 : Int)]; have k1 := (at3.cell 1).trans rfl; have k2 := (at3.cell 2).trans rfl) | (refine wpList_load_row rfl 31 _ rfl (gR) rfl 31 _ (0, 0) _ ar3 Try.underlying31 rfl (info31 _) ?_) | (go_at_call 11; refine (CS.out _).mono ?_; rintro e w12 ⟨rfl, hb12⟩; have al4 := al3.below hb12 al3.lt; have ar4 := ar3.below hb12 ar3.lt; have at4 := at3.below hb12 at3.lt; have BA4 := bLater BA3 hb12) | (refine wpList_store_row rfl 31 _ _ rfl (gR) (rv (fw X.1 X.2)) rfl rfl 31 _ ar4 (info31 _) (by rw [rv_size, rv_size]) (rv_one _) ?_; have al5 := al4.row_other gR (rv (fw X.1 X.2)) hlr; have ar5 := ar4.row (rv (fw X.1 X.2)); have at5 := at4.row_other gR (rv (fw X.1 X.2)) (by omega); have BA5 := below_setRow BA4 hgr (rv (fw X.1 X.2))))
          generalize w12.setRow gR (rv (fw X.1 X.2)) = W at *
          obtain ⟨y0, y1⟩ := X
          obtain ⟨hy0, hy1⟩ := hlt2
          simp only at *
          have ch := has_any y0 y1 hy0 hy1 g q
          rw [hasW_fw] at ch
          have cr := hasR_any (fw y0 y1) g q
          obtain ⟨c, hcc⟩ : ∃ c, fw y0 y1 (idx g q) = c := ⟨_, rfl⟩
          rw [hcc] at ch cr
          have CH := Lib.hid ch
          have CR := Lib.hid cr
          have CA := Lib.hid (alike_any y0 y1 hy0 hy1)
          clear ch cr hcc
          obtain ⟨S, hSd⟩ : ∃ S : World → Prop, ∀ w', S w' ↔ Below W.heap.size W w' := ⟨fun w' => Below W.heap.size W w', fun _ => Iff.rfl⟩
          have sL : ∀ w', S w' → (Instr.loadAt 27 (.pointer (some ⟨gL, 0, none⟩))).run Try.prog w' = .ok (.agg #[.int .u32 (y0 : Int), .int .u32 (y1 : Int)]) w' := fun w' h => by
            simp only [Instr.loadAt, Instr.sureAddr, Sem.run_bind, Sem.run_pure, Result.andThen]
            exact run_loadVar_row w' _ 27 27 _ (0, 0) _ (heap_later ((hSd w').1 h) al5) Try.underlying27 rfl (info27 _ rfl)
          have sR : ∀ w', S w' → (Instr.loadAt 31 (.pointer (some ⟨gR, 0, none⟩))).run Try.prog w' = .ok (.agg (rv (fw y0 y1))) w' := fun w' h => by
            simp only [Instr.loadAt, Instr.sureAddr, Sem.run_bind, Sem.run_pure, Result.andThen]
            exact run_loadVar_row w' _ 31 31 _ (0, 0) _ (heap_later ((hSd w').1 h) ar5) Try.underlying31 rfl (info31 _)
          have s1 : ∀ w', S w' → w'.cell? ⟨wr.heap.size, 1, none⟩ = some (.int .i64 g) := fun w' h => by
            rw [cell_of_row w' _ 1 _ _ _ (heap_later ((hSd w').1 h) at5)]; rfl
          have s2 : ∀ w', S w' → w'.cell? ⟨wr.heap.size, 2, none⟩ = some (.int .i64 q) := fun w' h => by
            rw [cell_of_row w' _ 2 _ _ _ (heap_later ((hSd w').1 h) at5)]; rfl
          have sk : ∀ w' w'', S w' → Below w'.heap.size w' w'' → S w'' := fun w' w'' h hb => (hSd w'').2 (((hSd w').1 h).trans (hb.mono ((hSd w').1 h).size))
          have hS0 : S W.drew := (hSd _).2 (Below.refl _ _).drew
          refine wp_region_held_drew (S := S) (by kernel_rfl) hS0 (fun hS => ?_)
          refine stepH (i := 0) (d := 100) (v := (.agg #[.int .u32 (y0 : Int), .int .u32 (y1 : Int)])) rfl rfl (by kernel_rfl) (by kernel_rfl) (by kernel_rfl) (fun _ _ _ h => h) (Or.inl ⟨by kernel_rfl, fun w' hw' => exec_load 27 _ rfl ⟨gL, 0, none⟩ rfl (sL w' hw')⟩) hS ?_
          simp only [List.set_cons_zero, List.set_cons_succ]
          refine stepH (i := 1) (d := 101) (v := (.agg (rv (fw y0 y1)))) rfl rfl (by kernel_rfl) (by kernel_rfl) (by kernel_rfl) (fun _ _ _ h => h) (Or.inl ⟨by kernel_rfl, fun w' hw' => exec_load 31 _ rfl ⟨gR, 0, none⟩ rfl (sR w' hw')⟩) hS ?_
          simp only [List.set_cons_zero, List.set_cons_succ]
          refine stepCall (i := 2) (d := 102) (f := 9) (args := #[lad y0 y1, .agg (rv (fw y0 y1))]) rfl rfl (by kernel_rfl) (by kernel_rfl) (exec_call 9 [.tmp 100, .tmp 101] _ rfl rfl (enters_of Try.func9 (by kernel_rfl) rfl) _) (CA.out _) ?_
          rintro e w21 ⟨rfl, hb21⟩
          have hS2 := sk _ _ hS hb21
          refine ⟨_, rfl, hS2, ?_⟩
          simp only [List.set_cons_zero, List.set_cons_succ]
          refine stepH (i := 3) (d := 103) (v := (.bool false)) rfl rfl (by kernel_rfl) (by kernel_rfl) (by kernel_rfl) (fun _ _ _ h => h) (Or.inl ⟨by kernel_rfl, fun w' hw' => by kernel_rfl⟩) hS2 ?_
          simp only [List.set_cons_zero, List.set_cons_succ]
          refine stepH (i := 4) (d := 104) (v := (.bool false)) rfl rfl (by kernel_rfl) (by kernel_rfl) (by kernel_rfl) (fun _ _ _ h => h) (Or.inl ⟨by kernel_rfl, fun w' hw' => by kernel_rfl⟩) hS2 ?_
          simp only [List.set_cons_zero, List.set_cons_succ]
          refine stepH (i := 5) (d := 105) (v := (.agg #[.int .u32 (y0 : Int), .int .u32 (y1 : Int)])) rfl rfl (by kernel_rfl) (by kernel_rfl) (by kernel_rfl) (fun _ _ _ h => h) (Or.inl ⟨by kernel_rfl, fun w' hw' => exec_load 27 _ rfl ⟨gL, 0, none⟩ rfl (sL w' hw')⟩) hS2 ?_
          simp only [List.set_cons_zero, List.set_cons_succ]
          refine stepH (i := 6) (d := 106) (v := (.pointer (some ⟨wr.heap.size, 1, none⟩))) rfl rfl (by kernel_rfl) (by kernel_rfl) (by kernel_rfl) (fun _ _ _ h => h) (Or.inl ⟨by kernel_rfl, fun w' hw' => by kernel_rfl⟩) hS2 ?_
          simp only [List.set_cons_zero, List.set_cons_succ]
          refine stepH (i := 7) (d := 107) (v := (.int .i64 g)) rfl rfl (by kernel_rfl) (by kernel_rfl) (by kernel_rfl) (fun _ _ _ h => h) (Or.inl ⟨by kernel_rfl, fun w' hw' => exec_load 3 _ rfl ⟨wr.heap.size, 1, none⟩ rfl (by simp [go_sem, s1 w' hw'])⟩) hS2 ?_
          simp only [List.set_cons_zero, List.set_cons_succ]
          refine stepH (i := 8) (d := 108) (v := (.pointer (some ⟨wr.heap.size, 2, none⟩))) rfl rfl (by kernel_rfl) (by kernel_rfl) (by kernel_rfl) (fun _ _ _ h => h) (Or.inl ⟨by kernel_rfl, fun w' hw' => by kernel_rfl⟩) hS2 ?_
          simp only [List.set_cons_zero, List.set_cons_succ]
          refine stepH (i := 9) (d := 109) (v := (.int .i64 q)) rfl rfl (by kernel_rfl) (by kernel_rfl) (by kernel_rfl) (fun _ _ _ h => h) (Or.inl ⟨by kernel_rfl, fun w' hw' => exec_load 3 _ rfl ⟨wr.heap.size, 2, none⟩ rfl (by simp [go_sem, s2 w' hw'])⟩) hS2 ?_
          simp only [List.set_cons_zero, List.set_cons_succ]
          refine stepH (i := 11) (d := 111) (v := (.agg (rv (fw y0 y1)))) rfl rfl (by kernel_rfl) (by kernel_rfl) (by kernel_rfl) (fun _ _ _ h => h) (Or.inl ⟨by kernel_rfl, fun w' hw' => exec_load 31 _ rfl ⟨gR, 0, none⟩ rfl (sR w' hw')⟩) hS2 ?_
          simp only [List.set_cons_zero, List.set_cons_succ]
          refine stepH (i := 12) (d := 112) (v := (.pointer (some ⟨wr.heap.size, 1, none⟩))) rfl rfl (by kernel_rfl) (by kernel_rfl) (by kernel_rfl) (fun _ _ _ h => h) (Or.inl ⟨by kernel_rfl, fun w' hw' => by kernel_rfl⟩) hS2 ?_
          simp only [List.set_cons_zero, List.set_cons_succ]
          refine stepH (i := 13) (d := 113) (v := (.int .i64 g)) rfl rfl (by kernel_rfl) (by kernel_rfl) (by kernel_rfl) (fun _ _ _ h => h) (Or.inl ⟨by kernel_rfl, fun w' hw' => exec_load 3 _ rfl ⟨wr.heap.size, 1, none⟩ rfl (by simp [go_sem, s1 w' hw'])⟩) hS2 ?_
          simp only [List.set_cons_zero, List.set_cons_succ]
          refine stepH (i := 14) (d := 114) (v := (.pointer (some ⟨wr.heap.size, 2, none⟩))) rfl rfl (by kernel_rfl) (by kernel_rfl) (by kernel_rfl) (fun _ _ _ h => h) (Or.inl ⟨by kernel_rfl, fun w' hw' => by kernel_rfl⟩) hS2 ?_
          simp only [List.set_cons_zero, List.set_cons_succ]
          refine stepH (i := 15) (d := 115) (v := (.int .i64 q)) rfl rfl (by kernel_rfl) (by kernel_rfl) (by kernel_rfl) (fun _ _ _ h => h) (Or.inl ⟨by kernel_rfl, fun w' hw' => exec_load 3 _ rfl ⟨wr.heap.size, 2, none⟩ rfl (by simp [go_sem, s2 w' hw'])⟩) hS2 ?_
          simp only [List.set_cons_zero, List.set_cons_succ]
          refine stepCall (i := 10) (d := 110) (f := 15) (args := #[lad y0 y1, .int .i64 g, .int .i64 q]) rfl rfl (by kernel_rfl) (by kernel_rfl) (exec_call 15 [.tmp 105, .tmp 107, .tmp 109] _ rfl rfl (enters_of Try.func15 (by kernel_rfl) rfl) _) (CH.out _) ?_
          rintro e w22 ⟨rfl, hb22⟩
          have hS3 := sk _ _ hS2 hb22
          refine ⟨_, rfl, hS3, ?_⟩
          simp only [List.set_cons_zero, List.set_cons_succ]
          refine stepCall (i := 16) (d := 116) (f := 16) (args := #[.agg (rv (fw y0 y1)), .int .i64 g, .int .i64 q]) rfl rfl (by kernel_rfl) (by kernel_rfl) (exec_call 16 [.tmp 111, .tmp 113, .tmp 115] _ rfl rfl (enters_of Try.func16 (by kernel_rfl) rfl) _) (CR.out _) ?_
          rintro e w23 ⟨rfl, hb23⟩
          have hS4 := sk _ _ hS3 hb23
          refine ⟨_, rfl, hS4, ?_⟩
          simp only [List.set_cons_zero, List.set_cons_succ]
          refine stepH (i := 17) (d := 117) (v := (.bool false)) rfl rfl (by kernel_rfl) (by kernel_rfl) (by kernel_rfl) (fun _ _ _ h => h) (Or.inl ⟨by kernel_rfl, fun w' hw' => exec_bin .neq 4 4 _ _ rfl (.bool c) (.bool c) rfl rfl (by simp [go_sem]) (by simp [go_sem])⟩) hS4 ?_
          simp only [List.set_cons_zero, List.set_cons_succ]
          refine stepH (i := 18) (d := 118) (v := (.bool false)) rfl rfl (by kernel_rfl) (by kernel_rfl) (by kernel_rfl) (fun _ _ _ h => h) (Or.inl ⟨by kernel_rfl, fun w' hw' => by kernel_rfl⟩) hS4 ?_
          simp only [List.set_cons_zero, List.set_cons_succ]
          refine wpAnyH_done (by kernel_rfl) ?_ _
          have hBW := (hSd _).1 hS4
          have hadd : IntKind.i64.wrap ((k : Int) + 1) = ((k + 1 : Nat) : Int) := by rw [IntKind.wrap_i64]; omega
          go_wp2
          go_roundw
          case rel => exact ⟨k + 1, y0, y1, by omega, by simp, hy0, hy1, heap_later hBW al5, heap_later hBW ar5, BA5.trans (hBW.mono BA5.size)⟩
          case measure => simp [intOf]; omega
        · obtain ⟨P, hP⟩ : ∃ P, Hid (pairs (fw x0 x1) 64 = P) := ⟨_, Lib.hid rfl⟩
          have cp := drop_any x0 x1 h0 h1 P hP
          have cs := dropR_any (fw x0 x1)
          obtain ⟨d1, d2, d3, d4⟩ := drop_law x0 x1 h0 h1 P hP.out
          rw [d1, d2] at cs
          have hlt2 := And.intro d3 d4
          clear d1 d2 d3 d4
          obtain ⟨X, hX⟩ : ∃ X, (dropP x0 x1 P).1 = X := ⟨_, rfl⟩
          obtain ⟨c, hc2⟩ : ∃ c, (dropP x0 x1 P).2 = c := ⟨_, rfl⟩
          rw [hX, hc2] at cp cs
          rw [hX] at hlt2
          have CP := Lib.hid cp
          have CS := Lib.hid cs
          clear cp cs hX hc2 hP
          have al := bl.alloc (.cells #[.int .i64 3, .int .i64 g, .int .i64 q] 35)
          have ar := br.alloc (.cells #[.int .i64 3, .int .i64 g, .int .i64 q] 35)
          have at1 := Blk.new wr 35 #[.int .i64 3, .int .i64 g, .int .i64 q]
          have BA := hB.alloc hB.size (.cells #[.int .i64 3, .int .i64 g, .int .i64 q] 35)
          go_wp2_with (first | (refine wpList_load_row rfl 27 _ rfl (gL) rfl 27 _ (0, 0) _ al Try.underlying27 rfl (info27 _ rfl) ?_) | (go_at_call 13; refine (CP.out _).mono ?_; rintro e w11 ⟨rfl, hb11⟩; have al2 := (al.below hb11 al.lt).alloc (.cells #[.int .u32 0, .int .u32 0] 27); have ar2 := (ar.below hb11 ar.lt).alloc (.cells #[.int .u32 0, .int .u32 0] 27); have at2 := (at1.below hb11 at1.lt).alloc (.cells #[.int .u32 0, .int .u32 0] 27); have BA2 := (bLater BA hb11).alloc (bLater BA hb11).size (.cells #[.int .u32 0, .int .u32 0] 27); have m2 := Blk.new w11 27 #[.int .u32 0, .int .u32 0]; have q1 := (al.below hb11 al.lt).lt; have q2 := (ar.below hb11 ar.lt).lt; have q3 := (at1.below hb11 at1.lt).lt) | (refine wpList_store_row rfl 27 _ _ rfl (w11.heap.size) #[.int .u32 (X.1 : Int), .int .u32 (X.2 : Int)] rfl rfl 27 _ m2 (info27 _ rfl) rfl (by simp [Value.oneCell']) ?_; have m3 := m2.row #[.int .u32 (X.1 : Int), .int .u32 (X.2 : Int)]; have al3 := al2.row_other w11.heap.size #[.int .u32 (X.1 : Int), .int .u32 (X.2 : Int)] (by omega); have ar3 := ar2.row_other w11.heap.size #[.int .u32 (X.1 : Int), .int .u32 (X.2 : Int)] (by omega); have at3 := at2.row_other w11.heap.size #[.int .u32 (X.1 : Int), .int .u32 (X.2 : Int)] (by omega); have BA3 := below_setRow BA2 (g := w11.heap.size) (by omega) #[.int .u32 (X.1 : Int), .int .u32 (X.2 : Int)]) | (refine wpList_load_row rfl 31 _ rfl (gR) rfl 31 _ (0, 0) _ ar3 Try.underlying31 rfl (info31 _) ?_) | (go_at_call 14; refine (CS.out _).mono ?_; rintro e w12 ⟨rfl, hb12⟩; have al4 := (al3.below hb12 al3.lt).alloc (.cells #[.bool false, .bool false, .bool false, .bool false, .bool false, .bool false, .bool false, .bool false, .bool false, .bool false, .bool false, .bool false, .bool false, .bool false, .bool false, .bool false, .bool false, .bool false, .bool false, .bool false, .bool false, .bool false, .bool false, .bool false, .bool false, .bool false, .bool false, .bool false, .bool false, .bool false, .bool false, .bool false, .bool false, .bool false, .bool false, .bool false, .bool false, .bool false, .bool false, .bool false, .bool false, .bool false, .bool false, .bool false, .bool false, .bool false, .bool false, .bool false, .bool false, .bool false, .bool false, .bool false, .bool false, .bool false, .bool false, .bool false, .bool false, .bool false, .bool false, .bool false, .bool false, .bool false, .bool false, .bool false] 31); have ar4 := (ar3.below hb12 ar3.lt).alloc (.cells #[.bool false, .bool false, .bool false, .bool false, .bool false, .bool false, .bool false, .bool false, .bool false, .bool false, .bool false, .bool false, .bool false, .bool false, .bool false, .bool false, .bool false, .bool false, .bool false, .bool false, .bool false, .bool false, .bool false, .bool false, .bool false, .bool false, .bool false, .bool false, .bool false, .bool false, .bool false, .bool false, .bool false, .bool false, .bool false, .bool false, .bool false, .bool false, .bool false, .bool false, .bool false, .bool false, .bool false, .bool false, .bool false, .bool false, .bool false, .bool false, .bool false, .bool false, .bool false, .bool false, .bool false, .bool false, .bool false, .bool false, .bool false, .bool false, .bool false, .bool false, .bool false, .bool false, .bool false, .bool false] 31); have at4 := (at3.below hb12 at3.lt).alloc (.cells #[.bool false, .bool false, .bool false, .bool false, .bool false, .bool false, .bool false, .bool false, .bool false, .bool false, .bool false, .bool false, .bool false, .bool false, .bool false, .bool false, .bool false, .bool false, .bool false, .bool false, .bool false, .bool false, .bool false, .bool false, .bool false, .bool false, .bool false, .bool false, .bool false, .bool false, .bool false, .bool false, .bool false, .bool false, .bool false, .bool false, .bool false, .bool false, .bool false, .bool false, .bool false, .bool false, .bool false, .bool false, .bool false, .bool false, .bool false, .bool false, .bool false, .bool false, .bool false, .bool false, .bool false, .bool false, .bool false, .bool false, .bool false, .bool false, .bool false, .bool false, .bool false, .bool false, .bool false, .bool false] 31); have m4 := (m3.below hb12 m3.lt).alloc (.cells #[.bool false, .bool false, .bool false, .bool false, .bool false, .bool false, .bool false, .bool false, .bool false, .bool false, .bool false, .bool false, .bool false, .bool false, .bool false, .bool false, .bool false, .bool false, .bool false, .bool false, .bool false, .bool false, .bool false, .bool false, .bool false, .bool false, .bool false, .bool false, .bool false, .bool false, .bool false, .bool false, .bool false, .bool false, .bool false, .bool false, .bool false, .bool false, .bool false, .bool false, .bool false, .bool false, .bool false, .bool false, .bool false, .bool false, .bool false, .bool false, .bool false, .bool false, .bool false, .bool false, .bool false, .bool false, .bool false, .bool false, .bool false, .bool false, .bool false, .bool false, .bool false, .bool false, .bool false, .bool false] 31); have BA4 := (bLater BA3 hb12).alloc (bLater BA3 hb12).size (.cells #[.bool false, .bool false, .bool false, .bool false, .bool false, .bool false, .bool false, .bool false, .bool false, .bool false, .bool false, .bool false, .bool false, .bool false, .bool false, .bool false, .bool false, .bool false, .bool false, .bool false, .bool false, .bool false, .bool false, .bool false, .bool false, .bool false, .bool false, .bool false, .bool false, .bool false, .bool false, .bool false, .bool false, .bool false, .bool false, .bool false, .bool false, .bool false, .bool false, .bool false, .bool false, .bool false, .bool false, .bool false, .bool false, .bool false, .bool false, .bool false, .bool false, .bool false, .bool false, .bool false, .bool false, .bool false, .bool false, .bool false, .bool false, .bool false, .bool false, .bool false, .bool false, .bool false, .bool false, .bool false] 31); have n4 := Blk.new w12 31 #[.bool false, .bool false, .bool false, .bool false, .bool false, .bool false, .bool false, .bool false, .bool false, .bool false, .bool false, .bool false, .bool false, .bool false, .bool false, .bool false, .bool false, .bool false, .bool false, .bool false, .bool false, .bool false, .bool false, .bool false, .bool false, .bool false, .bool false, .bool false, .bool false, .bool false, .bool false, .bool false, .bool false, .bool false, .bool false, .bool false, .bool false, .bool false, .bool false, .bool false, .bool false, .bool false, .bool false, .bool false, .bool false, .bool false, .bool false, .bool false, .bool false, .bool false, .bool false, .bool false, .bool false, .bool false, .bool false, .bool false, .bool false, .bool false, .bool false, .bool false, .bool false, .bool false, .bool false, .bool false]; have q4 := (m3.below hb12 m3.lt).lt) | (refine wpList_store_row rfl 31 _ _ rfl (w12.heap.size) (rv (fw X.1 X.2)) rfl rfl 31 _ n4 (info31 _) (by rw [rv_size]; rfl) (rv_one _) ?_; have n5 := n4.row (rv (fw X.1 X.2)); have m5 := m4.row_other w12.heap.size (rv (fw X.1 X.2)) (by omega); have al5 := al4.row_other w12.heap.size (rv (fw X.1 X.2)) (by omega); have ar5 := ar4.row_other w12.heap.size (rv (fw X.1 X.2)) (by omega); have at5 := at4.row_other w12.heap.size (rv (fw X.1 X.2)) (by omega); have BA5 := below_setRow BA4 (g := w12.heap.size) (by omega) (rv (fw X.1 X.2))))
          have g1 : gL ≠ w11.heap.size := by omega
          have g2 : gL ≠ w12.heap.size := by omega
          have g3 : gR ≠ w11.heap.size := by omega
          have g4 : gR ≠ w12.heap.size := by omega
          have g5 : wr.heap.size ≠ gL := by omega
          have g6 : wr.heap.size ≠ gR := by omega
          generalize (w12.alloc (.cells #[.bool false, .bool false, .bool false, .bool false, .bool false, .bool false, .bool false, .bool false, .bool false, .bool false, .bool false, .bool false, .bool false, .bool false, .bool false, .bool false, .bool false, .bool false, .bool false, .bool false, .bool false, .bool false, .bool false, .bool false, .bool false, .bool false, .bool false, .bool false, .bool false, .bool false, .bool false, .bool false, .bool false, .bool false, .bool false, .bool false, .bool false, .bool false, .bool false, .bool false, .bool false, .bool false, .bool false, .bool false, .bool false, .bool false, .bool false, .bool false, .bool false, .bool false, .bool false, .bool false, .bool false, .bool false, .bool false, .bool false, .bool false, .bool false, .bool false, .bool false, .bool false, .bool false, .bool false, .bool false] 31)).setRow w12.heap.size (rv (fw X.1 X.2)) = W2 at *
          clear al al2 al3 al4 ar ar2 ar3 ar4 at1 at2 at3 at4 m2 m3 m4 n4 BA BA2 BA3 BA4 hb11 hb12
          obtain ⟨y0, y1⟩ := X
          obtain ⟨hy0, hy1⟩ := hlt2
          simp only at *
          generalize w11.heap.size = gM at *
          generalize w12.heap.size = gS at *
          obtain ⟨S, hSd⟩ : ∃ S : World → Prop, ∀ w', S w' ↔ (Blk w' gM 27 #[.int .u32 (y0 : Int), .int .u32 (y1 : Int)] ∧ Blk w' gS 31 (rv (fw y0 y1))) := ⟨fun w' => Blk w' gM 27 #[.int .u32 (y0 : Int), .int .u32 (y1 : Int)] ∧ Blk w' gS 31 (rv (fw y0 y1)), fun _ => Iff.rfl⟩
          have sL : ∀ w', S w' → (Instr.loadAt 27 (.pointer (some ⟨gM, 0, none⟩))).run Try.prog w' = .ok (.agg #[.int .u32 (y0 : Int), .int .u32 (y1 : Int)]) w' := fun w' h => by
            simp only [Instr.loadAt, Instr.sureAddr, Sem.run_bind, Sem.run_pure, Result.andThen]
            exact run_loadVar_row w' _ 27 27 _ (0, 0) _ ((hSd w').1 h).1 Try.underlying27 rfl (info27 _ rfl)
          have sR : ∀ w', S w' → (Instr.loadAt 31 (.pointer (some ⟨gS, 0, none⟩))).run Try.prog w' = .ok (.agg (rv (fw y0 y1))) w' := fun w' h => by
            simp only [Instr.loadAt, Instr.sureAddr, Sem.run_bind, Sem.run_pure, Result.andThen]
            exact run_loadVar_row w' _ 31 31 _ (0, 0) _ ((hSd w').1 h).2 Try.underlying31 rfl (info31 _)
          have hS0 : S W2.drew := (hSd _).2 ⟨m5, n5⟩
          have bl6 : Blk W2.drew gL 27 _ := al5
          have br6 : Blk W2.drew gR 31 _ := ar5
          have bt6 : Blk W2.drew wr.heap.size 35 _ := at5
          have B6 : Below w.heap.size w W2.drew := BA5.drew
          clear al5 ar5 at5 BA5
          refine wp_region_held_drew (S := S) (by kernel_rfl) hS0 (fun hS => ?_)
          refine stepH (i := 0) (d := 98) (v := (.agg #[.int .u32 (y0 : Int), .int .u32 (y1 : Int)])) rfl rfl (by kernel_rfl) (by kernel_rfl) (by kernel_rfl) (fun _ _ _ h => h) (Or.inl ⟨by kernel_rfl, fun w' hw' => exec_load 27 _ rfl ⟨gM, 0, none⟩ rfl (sL w' hw')⟩) hS ?_
          simp only [List.set_cons_zero, List.set_cons_succ]
          refine stepH (i := 1) (d := 99) (v := (.agg (rv (fw y0 y1)))) rfl rfl (by kernel_rfl) (by kernel_rfl) (by kernel_rfl) (fun _ _ _ h => h) (Or.inl ⟨by kernel_rfl, fun w' hw' => exec_load 31 _ rfl ⟨gS, 0, none⟩ rfl (sR w' hw')⟩) hS ?_
          simp only [List.set_cons_zero, List.set_cons_succ]
          have hSa : S (W2.drew.setRow gL #[.int .u32 (y0 : Int), .int .u32 (y1 : Int)]) := (hSd _).2 ⟨((hSd _).1 hS).1.row_other gL _ (Ne.symm g1), ((hSd _).1 hS).2.row_other gL _ (Ne.symm g2)⟩
          have hSb : S (W2.drew.setRow gR (rv (fw y0 y1))) := (hSd _).2 ⟨((hSd _).1 hS).1.row_other gR _ (Ne.symm g3), ((hSd _).1 hS).2.row_other gR _ (Ne.symm g4)⟩
          have hSab : S ((W2.drew.setRow gL #[.int .u32 (y0 : Int), .int .u32 (y1 : Int)]).setRow gR (rv (fw y0 y1))) := (hSd _).2 ⟨((hSd _).1 hSa).1.row_other gR _ (Ne.symm g3), ((hSd _).1 hSa).2.row_other gR _ (Ne.symm g4)⟩
          have hSba : S ((W2.drew.setRow gR (rv (fw y0 y1))).setRow gL #[.int .u32 (y0 : Int), .int .u32 (y1 : Int)]) := (hSd _).2 ⟨((hSd _).1 hSb).1.row_other gL _ (Ne.symm g1), ((hSd _).1 hSb).2.row_other gL _ (Ne.symm g2)⟩
          refine stepOne (i := 2) (by kernel_rfl) ?_
          refine op_store (i := 2) rfl rfl (by kernel_rfl) 27 _ _ rfl gL #[.int .u32 (y0 : Int), .int .u32 (y1 : Int)] rfl rfl 27 _ bl6 (info27 _ rfl) rfl (by simp [Value.oneCell']) ⟨hSa, ?_⟩
          refine stepOne (i := 3) (by kernel_rfl) ?_
          refine op_store (i := 3) rfl rfl (by kernel_rfl) 31 _ _ rfl gR (rv (fw y0 y1)) rfl rfl 31 _ (br6.row_other gL #[.int .u32 (y0 : Int), .int .u32 (y1 : Int)] (Ne.symm hlr)) (info31 _) (by rw [rv_size, rv_size]) (rv_one _) ⟨hSab, ?_⟩
          refine wpAnyH_done (by kernel_rfl) ?_ _
          have al5 := (bl6.row #[.int .u32 (y0 : Int), .int .u32 (y1 : Int)]).row_other gR (rv (fw y0 y1)) hlr
          have ar5 := (br6.row_other gL #[.int .u32 (y0 : Int), .int .u32 (y1 : Int)] (Ne.symm hlr)).row (rv (fw y0 y1))
          have at5 := (bt6.row_other gL #[.int .u32 (y0 : Int), .int .u32 (y1 : Int)] g5).row_other gR (rv (fw y0 y1)) g6
          have BA5 := below_setRow (below_setRow B6 hgl #[.int .u32 (y0 : Int), .int .u32 (y1 : Int)]) hgr (rv (fw y0 y1))
          clear sL sR hSd hS hS0 hSa hSb hSab hSba S m5 n5
          go_wp2_with fail
          generalize (W2.drew.setRow gL #[.int .u32 (y0 : Int), .int .u32 (y1 : Int)]).setRow gR (rv (fw y0 y1)) = W at *
          have ch := has_any y0 y1 hy0 hy1 g q
          rw [hasW_fw] at ch
          have cr := hasR_any (fw y0 y1) g q
          obtain ⟨c, hcc⟩ : ∃ c, fw y0 y1 (idx g q) = c := ⟨_, rfl⟩
          rw [hcc] at ch cr
          have CH := Lib.hid ch
          have CR := Lib.hid cr
          have CA := Lib.hid (alike_any y0 y1 hy0 hy1)
          clear ch cr hcc
          obtain ⟨S, hSd⟩ : ∃ S : World → Prop, ∀ w', S w' ↔ Below W.heap.size W w' := ⟨fun w' => Below W.heap.size W w', fun _ => Iff.rfl⟩
          have sL : ∀ w', S w' → (Instr.loadAt 27 (.pointer (some ⟨gL, 0, none⟩))).run Try.prog w' = .ok (.agg #[.int .u32 (y0 : Int), .int .u32 (y1 : Int)]) w' := fun w' h => by
            simp only [Instr.loadAt, Instr.sureAddr, Sem.run_bind, Sem.run_pure, Result.andThen]
            exact run_loadVar_row w' _ 27 27 _ (0, 0) _ (heap_later ((hSd w').1 h) al5) Try.underlying27 rfl (info27 _ rfl)
          have sR : ∀ w', S w' → (Instr.loadAt 31 (.pointer (some ⟨gR, 0, none⟩))).run Try.prog w' = .ok (.agg (rv (fw y0 y1))) w' := fun w' h => by
            simp only [Instr.loadAt, Instr.sureAddr, Sem.run_bind, Sem.run_pure, Result.andThen]
            exact run_loadVar_row w' _ 31 31 _ (0, 0) _ (heap_later ((hSd w').1 h) ar5) Try.underlying31 rfl (info31 _)
          have s1 : ∀ w', S w' → w'.cell? ⟨wr.heap.size, 1, none⟩ = some (.int .i64 g) := fun w' h => by
            rw [cell_of_row w' _ 1 _ _ _ (heap_later ((hSd w').1 h) at5)]; rfl
          have s2 : ∀ w', S w' → w'.cell? ⟨wr.heap.size, 2, none⟩ = some (.int .i64 q) := fun w' h => by
            rw [cell_of_row w' _ 2 _ _ _ (heap_later ((hSd w').1 h) at5)]; rfl
          have sk : ∀ w' w'', S w' → Below w'.heap.size w' w'' → S w'' := fun w' w'' h hb => (hSd w'').2 (((hSd w').1 h).trans (hb.mono ((hSd w').1 h).size))
          have hS0 : S W.drew := (hSd _).2 (Below.refl _ _).drew
          refine wp_region_held_drew (S := S) (by kernel_rfl) hS0 (fun hS => ?_)
          refine stepH (i := 0) (d := 100) (v := (.agg #[.int .u32 (y0 : Int), .int .u32 (y1 : Int)])) rfl rfl (by kernel_rfl) (by kernel_rfl) (by kernel_rfl) (fun _ _ _ h => h) (Or.inl ⟨by kernel_rfl, fun w' hw' => exec_load 27 _ rfl ⟨gL, 0, none⟩ rfl (sL w' hw')⟩) hS ?_
          simp only [List.set_cons_zero, List.set_cons_succ]
          refine stepH (i := 1) (d := 101) (v := (.agg (rv (fw y0 y1)))) rfl rfl (by kernel_rfl) (by kernel_rfl) (by kernel_rfl) (fun _ _ _ h => h) (Or.inl ⟨by kernel_rfl, fun w' hw' => exec_load 31 _ rfl ⟨gR, 0, none⟩ rfl (sR w' hw')⟩) hS ?_
          simp only [List.set_cons_zero, List.set_cons_succ]
          refine stepCall (i := 2) (d := 102) (f := 9) (args := #[lad y0 y1, .agg (rv (fw y0 y1))]) rfl rfl (by kernel_rfl) (by kernel_rfl) (exec_call 9 [.tmp 100, .tmp 101] _ rfl rfl (enters_of Try.func9 (by kernel_rfl) rfl) _) (CA.out _) ?_
          rintro e w21 ⟨rfl, hb21⟩
          have hS2 := sk _ _ hS hb21
          refine ⟨_, rfl, hS2, ?_⟩
          simp only [List.set_cons_zero, List.set_cons_succ]
          refine stepH (i := 3) (d := 103) (v := (.bool false)) rfl rfl (by kernel_rfl) (by kernel_rfl) (by kernel_rfl) (fun _ _ _ h => h) (Or.inl ⟨by kernel_rfl, fun w' hw' => by kernel_rfl⟩) hS2 ?_
          simp only [List.set_cons_zero, List.set_cons_succ]
          refine stepH (i := 4) (d := 104) (v := (.bool false)) rfl rfl (by kernel_rfl) (by kernel_rfl) (by kernel_rfl) (fun _ _ _ h => h) (Or.inl ⟨by kernel_rfl, fun w' hw' => by kernel_rfl⟩) hS2 ?_
          simp only [List.set_cons_zero, List.set_cons_succ]
          refine stepH (i := 5) (d := 105) (v := (.agg #[.int .u32 (y0 : Int), .int .u32 (y1 : Int)])) rfl rfl (by kernel_rfl) (by kernel_rfl) (by kernel_rfl) (fun _ _ _ h => h) (Or.inl ⟨by kernel_rfl, fun w' hw' => exec_load 27 _ rfl ⟨gL, 0, none⟩ rfl (sL w' hw')⟩) hS2 ?_
          simp only [List.set_cons_zero, List.set_cons_succ]
          refine stepH (i := 6) (d := 106) (v := (.pointer (some ⟨wr.heap.size, 1, none⟩))) rfl rfl (by kernel_rfl) (by kernel_rfl) (by kernel_rfl) (fun _ _ _ h => h) (Or.inl ⟨by kernel_rfl, fun w' hw' => by kernel_rfl⟩) hS2 ?_
          simp only [List.set_cons_zero, List.set_cons_succ]
          refine stepH (i := 7) (d := 107) (v := (.int .i64 g)) rfl rfl (by kernel_rfl) (by kernel_rfl) (by kernel_rfl) (fun _ _ _ h => h) (Or.inl ⟨by kernel_rfl, fun w' hw' => exec_load 3 _ rfl ⟨wr.heap.size, 1, none⟩ rfl (by simp [go_sem, s1 w' hw'])⟩) hS2 ?_
          simp only [List.set_cons_zero, List.set_cons_succ]
          refine stepH (i := 8) (d := 108) (v := (.pointer (some ⟨wr.heap.size, 2, none⟩))) rfl rfl (by kernel_rfl) (by kernel_rfl) (by kernel_rfl) (fun _ _ _ h => h) (Or.inl ⟨by kernel_rfl, fun w' hw' => by kernel_rfl⟩) hS2 ?_
          simp only [List.set_cons_zero, List.set_cons_succ]
          refine stepH (i := 9) (d := 109) (v := (.int .i64 q)) rfl rfl (by kernel_rfl) (by kernel_rfl) (by kernel_rfl) (fun _ _ _ h => h) (Or.inl ⟨by kernel_rfl, fun w' hw' => exec_load 3 _ rfl ⟨wr.heap.size, 2, none⟩ rfl (by simp [go_sem, s2 w' hw'])⟩) hS2 ?_
          simp only [List.set_cons_zero, List.set_cons_succ]
          refine stepH (i := 11) (d := 111) (v := (.agg (rv (fw y0 y1)))) rfl rfl (by kernel_rfl) (by kernel_rfl) (by kernel_rfl) (fun _ _ _ h => h) (Or.inl ⟨by kernel_rfl, fun w' hw' => exec_load 31 _ rfl ⟨gR, 0, none⟩ rfl (sR w' hw')⟩) hS2 ?_
          simp only [List.set_cons_zero, List.set_cons_succ]
          refine stepH (i := 12) (d := 112) (v := (.pointer (some ⟨wr.heap.size, 1, none⟩))) rfl rfl (by kernel_rfl) (by kernel_rfl) (by kernel_rfl) (fun _ _ _ h => h) (Or.inl ⟨by kernel_rfl, fun w' hw' => by kernel_rfl⟩) hS2 ?_
          simp only [List.set_cons_zero, List.set_cons_succ]
          refine stepH (i := 13) (d := 113) (v := (.int .i64 g)) rfl rfl (by kernel_rfl) (by kernel_rfl) (by kernel_rfl) (fun _ _ _ h => h) (Or.inl ⟨by kernel_rfl, fun w' hw' => exec_load 3 _ rfl ⟨wr.heap.size, 1, none⟩ rfl (by simp [go_sem, s1 w' hw'])⟩) hS2 ?_
          simp only [List.set_cons_zero, List.set_cons_succ]
          refine stepH (i := 14) (d := 114) (v := (.pointer (some ⟨wr.heap.size, 2, none⟩))) rfl rfl (by kernel_rfl) (by kernel_rfl) (by kernel_rfl) (fun _ _ _ h => h) (Or.inl ⟨by kernel_rfl, fun w' hw' => by kernel_rfl⟩) hS2 ?_
          simp only [List.set_cons_zero, List.set_cons_succ]
          refine stepH (i := 15) (d := 115) (v := (.int .i64 q)) rfl rfl (by kernel_rfl) (by kernel_rfl) (by kernel_rfl) (fun _ _ _ h => h) (Or.inl ⟨by kernel_rfl, fun w' hw' => exec_load 3 _ rfl ⟨wr.heap.size, 2, none⟩ rfl (by simp [go_sem, s2 w' hw'])⟩) hS2 ?_
          simp only [List.set_cons_zero, List.set_cons_succ]
          refine stepCall (i := 10) (d := 110) (f := 15) (args := #[lad y0 y1, .int .i64 g, .int .i64 q]) rfl rfl (by kernel_rfl) (by kernel_rfl) (exec_call 15 [.tmp 105, .tmp 107, .tmp 109] _ rfl rfl (enters_of Try.func15 (by kernel_rfl) rfl) _) (CH.out _) ?_
          rintro e w22 ⟨rfl, hb22⟩
          have hS3 := sk _ _ hS2 hb22
          refine ⟨_, rfl, hS3, ?_⟩
          simp only [List.set_cons_zero, List.set_cons_succ]
          refine stepCall (i := 16) (d := 116) (f := 16) (args := #[.agg (rv (fw y0 y1)), .int .i64 g, .int .i64 q]) rfl rfl (by kernel_rfl) (by kernel_rfl) (exec_call 16 [.tmp 111, .tmp 113, .tmp 115] _ rfl rfl (enters_of Try.func16 (by kernel_rfl) rfl) _) (CR.out _) ?_
          rintro e w23 ⟨rfl, hb23⟩
          have hS4 := sk _ _ hS3 hb23
          refine ⟨_, rfl, hS4, ?_⟩
          simp only [List.set_cons_zero, List.set_cons_succ]
          refine stepH (i := 17) (d := 117) (v := (.bool false)) rfl rfl (by kernel_rfl) (by kernel_rfl) (by kernel_rfl) (fun _ _ _ h => h) (Or.inl ⟨by kernel_rfl, fun w' hw' => exec_bin .neq 4 4 _ _ rfl (.bool c) (.bool c) rfl rfl (by simp [go_sem]) (by simp [go_sem])⟩) hS4 ?_
          simp only [List.set_cons_zero, List.set_cons_succ]
          refine stepH (i := 18) (d := 118) (v := (.bool false)) rfl rfl (by kernel_rfl) (by kernel_rfl) (by kernel_rfl) (fun _ _ _ h => h) (Or.inl ⟨by kernel_rfl, fun w' hw' => by kernel_rfl⟩) hS4 ?_
          simp only [List.set_cons_zero, List.set_cons_succ]
          refine wpAnyH_done (by kernel_rfl) ?_ _
          have hBW := (hSd _).1 hS4
          have hadd : IntKind.i64.wrap ((k : Int) + 1) = ((k + 1 : Nat) : Int) := by rw [IntKind.wrap_i64]; omega
          go_wp2
          go_roundw
          case rel => exact ⟨k + 1, y0, y1, by omega, by simp, hy0, hy1, heap_later hBW al5, heap_later hBW ar5, BA5.trans (hBW.mono BA5.size)⟩
          case measure => simp [intOf]; omega
        · have al5 := bl.alloc (.cells #[.int .i64 d, .int .i64 g, .int .i64 q] 35)
          have ar5 := br.alloc (.cells #[.int .i64 d, .int .i64 g, .int .i64 q] 35)
          have at5 := Blk.new wr 35 #[.int .i64 d, .int .i64 g, .int .i64 q]
          have BA5 := hB.alloc hB.size (.cells #[.int .i64 d, .int .i64 g, .int .i64 q] 35)
          go_wp2_with fail
          generalize wr.alloc (.cells #[.int .i64 d, .int .i64 g, .int .i64 q] 35) = W at *
          obtain ⟨y0, hy⟩ : ∃ y, y = x0 := ⟨_, rfl⟩
          obtain ⟨y1, hy'⟩ : ∃ y, y = x1 := ⟨_, rfl⟩
          subst hy hy'
          have hy0 := h0
          have hy1 := h1
          have ch := has_any y0 y1 hy0 hy1 g q
          rw [hasW_fw] at ch
          have cr := hasR_any (fw y0 y1) g q
          obtain ⟨c, hcc⟩ : ∃ c, fw y0 y1 (idx g q) = c := ⟨_, rfl⟩
          rw [hcc] at ch cr
          have CH := Lib.hid ch
          have CR := Lib.hid cr
          have CA := Lib.hid (alike_any y0 y1 hy0 hy1)
          clear ch cr hcc
          obtain ⟨S, hSd⟩ : ∃ S : World → Prop, ∀ w', S w' ↔ Below W.heap.size W w' := ⟨fun w' => Below W.heap.size W w', fun _ => Iff.rfl⟩
          have sL : ∀ w', S w' → (Instr.loadAt 27 (.pointer (some ⟨gL, 0, none⟩))).run Try.prog w' = .ok (.agg #[.int .u32 (y0 : Int), .int .u32 (y1 : Int)]) w' := fun w' h => by
            simp only [Instr.loadAt, Instr.sureAddr, Sem.run_bind, Sem.run_pure, Result.andThen]
            exact run_loadVar_row w' _ 27 27 _ (0, 0) _ (heap_later ((hSd w').1 h) al5) Try.underlying27 rfl (info27 _ rfl)
          have sR : ∀ w', S w' → (Instr.loadAt 31 (.pointer (some ⟨gR, 0, none⟩))).run Try.prog w' = .ok (.agg (rv (fw y0 y1))) w' := fun w' h => by
            simp only [Instr.loadAt, Instr.sureAddr, Sem.run_bind, Sem.run_pure, Result.andThen]
            exact run_loadVar_row w' _ 31 31 _ (0, 0) _ (heap_later ((hSd w').1 h) ar5) Try.underlying31 rfl (info31 _)
          have s1 : ∀ w', S w' → w'.cell? ⟨wr.heap.size, 1, none⟩ = some (.int .i64 g) := fun w' h => by
            rw [cell_of_row w' _ 1 _ _ _ (heap_later ((hSd w').1 h) at5)]; rfl
          have s2 : ∀ w', S w' → w'.cell? ⟨wr.heap.size, 2, none⟩ = some (.int .i64 q) := fun w' h => by
            rw [cell_of_row w' _ 2 _ _ _ (heap_later ((hSd w').1 h) at5)]; rfl
          have sk : ∀ w' w'', S w' → Below w'.heap.size w' w'' → S w'' := fun w' w'' h hb => (hSd w'').2 (((hSd w').1 h).trans (hb.mono ((hSd w').1 h).size))
          have hS0 : S W.drew := (hSd _).2 (Below.refl _ _).drew
          refine wp_region_held_drew (S := S) (by kernel_rfl) hS0 (fun hS => ?_)
          refine stepH (i := 0) (d := 100) (v := (.agg #[.int .u32 (y0 : Int), .int .u32 (y1 : Int)])) rfl rfl (by kernel_rfl) (by kernel_rfl) (by kernel_rfl) (fun _ _ _ h => h) (Or.inl ⟨by kernel_rfl, fun w' hw' => exec_load 27 _ rfl ⟨gL, 0, none⟩ rfl (sL w' hw')⟩) hS ?_
          simp only [List.set_cons_zero, List.set_cons_succ]
          refine stepH (i := 1) (d := 101) (v := (.agg (rv (fw y0 y1)))) rfl rfl (by kernel_rfl) (by kernel_rfl) (by kernel_rfl) (fun _ _ _ h => h) (Or.inl ⟨by kernel_rfl, fun w' hw' => exec_load 31 _ rfl ⟨gR, 0, none⟩ rfl (sR w' hw')⟩) hS ?_
          simp only [List.set_cons_zero, List.set_cons_succ]
          refine stepCall (i := 2) (d := 102) (f := 9) (args := #[lad y0 y1, .agg (rv (fw y0 y1))]) rfl rfl (by kernel_rfl) (by kernel_rfl) (exec_call 9 [.tmp 100, .tmp 101] _ rfl rfl (enters_of Try.func9 (by kernel_rfl) rfl) _) (CA.out _) ?_
          rintro e w21 ⟨rfl, hb21⟩
          have hS2 := sk _ _ hS hb21
          refine ⟨_, rfl, hS2, ?_⟩
          simp only [List.set_cons_zero, List.set_cons_succ]
          refine stepH (i := 3) (d := 103) (v := (.bool false)) rfl rfl (by kernel_rfl) (by kernel_rfl) (by kernel_rfl) (fun _ _ _ h => h) (Or.inl ⟨by kernel_rfl, fun w' hw' => by kernel_rfl⟩) hS2 ?_
          simp only [List.set_cons_zero, List.set_cons_succ]
          refine stepH (i := 4) (d := 104) (v := (.bool false)) rfl rfl (by kernel_rfl) (by kernel_rfl) (by kernel_rfl) (fun _ _ _ h => h) (Or.inl ⟨by kernel_rfl, fun w' hw' => by kernel_rfl⟩) hS2 ?_
          simp only [List.set_cons_zero, List.set_cons_succ]
          refine stepH (i := 5) (d := 105) (v := (.agg #[.int .u32 (y0 : Int), .int .u32 (y1 : Int)])) rfl rfl (by kernel_rfl) (by kernel_rfl) (by kernel_rfl) (fun _ _ _ h => h) (Or.inl ⟨by kernel_rfl, fun w' hw' => exec_load 27 _ rfl ⟨gL, 0, none⟩ rfl (sL w' hw')⟩) hS2 ?_
          simp only [List.set_cons_zero, List.set_cons_succ]
          refine stepH (i := 6) (d := 106) (v := (.pointer (some ⟨wr.heap.size, 1, none⟩))) rfl rfl (by kernel_rfl) (by kernel_rfl) (by kernel_rfl) (fun _ _ _ h => h) (Or.inl ⟨by kernel_rfl, fun w' hw' => by kernel_rfl⟩) hS2 ?_
          simp only [List.set_cons_zero, List.set_cons_succ]
          refine stepH (i := 7) (d := 107) (v := (.int .i64 g)) rfl rfl (by kernel_rfl) (by kernel_rfl) (by kernel_rfl) (fun _ _ _ h => h) (Or.inl ⟨by kernel_rfl, fun w' hw' => exec_load 3 _ rfl ⟨wr.heap.size, 1, none⟩ rfl (by simp [go_sem, s1 w' hw'])⟩) hS2 ?_
          simp only [List.set_cons_zero, List.set_cons_succ]
          refine stepH (i := 8) (d := 108) (v := (.pointer (some ⟨wr.heap.size, 2, none⟩))) rfl rfl (by kernel_rfl) (by kernel_rfl) (by kernel_rfl) (fun _ _ _ h => h) (Or.inl ⟨by kernel_rfl, fun w' hw' => by kernel_rfl⟩) hS2 ?_
          simp only [List.set_cons_zero, List.set_cons_succ]
          refine stepH (i := 9) (d := 109) (v := (.int .i64 q)) rfl rfl (by kernel_rfl) (by kernel_rfl) (by kernel_rfl) (fun _ _ _ h => h) (Or.inl ⟨by kernel_rfl, fun w' hw' => exec_load 3 _ rfl ⟨wr.heap.size, 2, none⟩ rfl (by simp [go_sem, s2 w' hw'])⟩) hS2 ?_
          simp only [List.set_cons_zero, List.set_cons_succ]
          refine stepH (i := 11) (d := 111) (v := (.agg (rv (fw y0 y1)))) rfl rfl (by kernel_rfl) (by kernel_rfl) (by kernel_rfl) (fun _ _ _ h => h) (Or.inl ⟨by kernel_rfl, fun w' hw' => exec_load 31 _ rfl ⟨gR, 0, none⟩ rfl (sR w' hw')⟩) hS2 ?_
          simp only [List.set_cons_zero, List.set_cons_succ]
          refine stepH (i := 12) (d := 112) (v := (.pointer (some ⟨wr.heap.size, 1, none⟩))) rfl rfl (by kernel_rfl) (by kernel_rfl) (by kernel_rfl) (fun _ _ _ h => h) (Or.inl ⟨by kernel_rfl, fun w' hw' => by kernel_rfl⟩) hS2 ?_
          simp only [List.set_cons_zero, List.set_cons_succ]
          refine stepH (i := 13) (d := 113) (v := (.int .i64 g)) rfl rfl (by kernel_rfl) (by kernel_rfl) (by kernel_rfl) (fun _ _ _ h => h) (Or.inl ⟨by kernel_rfl, fun w' hw' => exec_load 3 _ rfl ⟨wr.heap.size, 1, none⟩ rfl (by simp [go_sem, s1 w' hw'])⟩) hS2 ?_
          simp only [List.set_cons_zero, List.set_cons_succ]
          refine stepH (i := 14) (d := 114) (v := (.pointer (some ⟨wr.heap.size, 2, none⟩))) rfl rfl (by kernel_rfl) (by kernel_rfl) (by kernel_rfl) (fun _ _ _ h => h) (Or.inl ⟨by kernel_rfl, fun w' hw' => by kernel_rfl⟩) hS2 ?_
          simp only [List.set_cons_zero, List.set_cons_succ]
          refine stepH (i := 15) (d := 115) (v := (.int .i64 q)) rfl rfl (by kernel_rfl) (by kernel_rfl) (by kernel_rfl) (fun _ _ _ h => h) (Or.inl ⟨by kernel_rfl, fun w' hw' => exec_load 3 _ rfl ⟨wr.heap.size, 2, none⟩ rfl (by simp [go_sem, s2 w' hw'])⟩) hS2 ?_
          simp only [List.set_cons_zero, List.set_cons_succ]
          refine stepCall (i := 10) (d := 110) (f := 15) (args := #[lad y0 y1, .int .i64 g, .int .i64 q]) rfl rfl (by kernel_rfl) (by kernel_rfl) (exec_call 15 [.tmp 105, .tmp 107, .tmp 109] _ rfl rfl (enters_of Try.func15 (by kernel_rfl) rfl) _) (CH.out _) ?_
          rintro e w22 ⟨rfl, hb22⟩
          have hS3 := sk _ _ hS2 hb22
          refine ⟨_, rfl, hS3, ?_⟩
          simp only [List.set_cons_zero, List.set_cons_succ]
          refine stepCall (i := 16) (d := 116) (f := 16) (args := #[.agg (rv (fw y0 y1)), .int .i64 g, .int .i64 q]) rfl rfl (by kernel_rfl) (by kernel_rfl) (exec_call 16 [.tmp 111, .tmp 113, .tmp 115] _ rfl rfl (enters_of Try.func16 (by kernel_rfl) rfl) _) (CR.out _) ?_
          rintro e w23 ⟨rfl, hb23⟩
          have hS4 := sk _ _ hS3 hb23
          refine ⟨_, rfl, hS4, ?_⟩
          simp only [List.set_cons_zero, List.set_cons_succ]
          refine stepH (i := 17) (d := 117) (v := (.bool false)) rfl rfl (by kernel_rfl) (by kernel_rfl) (by kernel_rfl) (fun _ _ _ h => h) (Or.inl ⟨by kernel_rfl, fun w' hw' => exec_bin .neq 4 4 _ _ rfl (.bool c) (.bool c) rfl rfl (by simp [go_sem]) (by simp [go_sem])⟩) hS4 ?_
          simp only [List.set_cons_zero, List.set_cons_succ]
          refine stepH (i := 18) (d := 118) (v := (.bool false)) rfl rfl (by kernel_rfl) (by kernel_rfl) (by kernel_rfl) (fun _ _ _ h => h) (Or.inl ⟨by kernel_rfl, fun w' hw' => by kernel_rfl⟩) hS4 ?_
          simp only [List.set_cons_zero, List.set_cons_succ]
          refine wpAnyH_done (by kernel_rfl) ?_ _
          have hBW := (hSd _).1 hS4
          have hadd : IntKind.i64.wrap ((k : Int) + 1) = ((k + 1 : Nat) : Int) := by rw [IntKind.wrap_i64]; omega
          go_wp2
          go_roundw
          case rel => exact ⟨k + 1, y0, y1, by omega, by simp, hy0, hy1, heap_later hBW al5, heap_later hBW ar5, BA5.trans (hBW.mono BA5.size)⟩
          case measure => simp [intOf]; omega
    · have hnl : ¬ ((k : Int) < (L.length : Int)) := by omega
      go_wp2
      go_ret
      exact ⟨rfl, hB⟩
end Go.Proofs.Ytoloccoodnbbdaa
