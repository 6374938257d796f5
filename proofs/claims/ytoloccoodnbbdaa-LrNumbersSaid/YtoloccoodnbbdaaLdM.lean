/- The two ladders are alike. -/
import Derived.RangeFuncNested
import Derived.RangeFuncBound
import Derived.RangeFuncCalls
import Derived.RangeFuncLeaves
import Derived.Shelf.Abstract
import Derived.Shelf.RegionOpen
import Derived.WalkKit
import Derived.OwnWalkIn
import Derived.TacticsInMore
import Derived.LoopNIn
import Derived.LoopIn
import Derived.WalkSpells
import Derived.WalkLawsBesides
import Derived.Deep.QuietTactic
import Derived.BigQuiet
import Derived.Lib.Hide
import Derived.Deep.WholeRow
import Derived.Deep.Onto
import Derived.RangeFuncWrites
import Derived.Deep.RegionHeld3
import Derived.Test.YtoloccoodnbbdaaHd
import Derived.Test.YtoloccoodnbbdaaLdL
namespace Go.Proofs.Ytoloccoodnbbdaa
open Go.RowKit Go.Shelf
attribute [local go_sem] Oper.semAt_some

theorem flat_pairs (f : Nat → Bool) (k : Nat) (hk : k ≤ 64) : flat (pairs f k) = uptoL f k := by
  induction k with
  | zero => rfl
  | succ k ih =>
    cases h : f k with
    | true => rw [pairs_yes f k (by omega) h, flat_snoc, uptoL_yes f k h, ih (by omega)]; rfl
    | false => rw [pairs_no f k h, uptoL_no f k h, ih (by omega)]
theorem runL_flat (P : List I64) : runL (flat P) = runP P := by
  cases P with
  | nil => rfl
  | cons p P => simp [runL, runP, flat]
theorem pop_pairs (x0 x1 k : Nat) (hk : k ≤ 32) : popN x0 k + popN x1 k = (pairs (fw x0 x1) (2 * k)).length := by
  induction k with
  | zero => rfl
  | succ k ih =>
    have e : 2 * (k + 1) = 2 * k + 1 + 1 := by omega
    have h0 := fw_even x0 x1 k
    have h1 := fw_odd x0 x1 k
    rw [e]
    simp only [popN]
    have := ih (by omega)
    cases b0 : x0.testBit k <;> cases b1 : x1.testBit k <;> rw [b0] at h0 <;> rw [b1] at h1
    · rw [pairs_no _ _ h1, pairs_no _ _ h0]; simp; omega
    · rw [pairs_yes _ _ (by omega) h1, pairs_no _ _ h0]; simp; omega
    · rw [pairs_no _ _ h1, pairs_yes _ _ (by omega) h0]; simp; omega
    · rw [pairs_yes _ _ (by omega) h1, pairs_yes _ _ (by omega) h0]; simp; omega
theorem heap_later {w w' : World} {g : Nat} {o : Obj} (hb : Below w.heap.size w w') (h : w.heap[g]? = some o) : w'.heap[g]? = some o :=
  (hb.block g (Array.getElem?_eq_some_iff.1 h).1).trans h
theorem bits0_any (x0 x1 : Nat) (h0 : x0 < 2 ^ 32) (w : World) : Calls Try.prog 36 #[.agg (rv (fw x0 x1)), .int .i64 0] w fun e w' => e = .returned (.int .u32 x0) ∧ Below w.heap.size w w' :=
  bitsR_any (fw x0 x1) 0 x0 (by decide) h0 (fun j _ => fw_even x0 x1 j) w
theorem bits1_any (x0 x1 : Nat) (h1 : x1 < 2 ^ 32) (w : World) : Calls Try.prog 36 #[.agg (rv (fw x0 x1)), .int .i64 1] w fun e w' => e = .returned (.int .u32 x1) ∧ Below w.heap.size w w' :=
  bitsR_any (fw x0 x1) 1 x1 (by decide) h1 (fun j _ => fw_odd x0 x1 j) w

theorem run_half (w : World) (n m : Nat) (h : n = 2 * m) (hm : m ≤ 64) : (binOp .quo 3 (.int .i64 (n : Int)) (.int .i64 2)).run Try.prog w = .ok (.int .i64 (m : Int)) w := by
  subst h
  have : ((2 * m : Nat) : Int).tdiv 2 = (m : Int) := by rw [Int.tdiv_eq_ediv_of_nonneg (by omega)]; omega
  have h2 : IntKind.i64.wrap (m : Int) = (m : Int) := by rw [IntKind.wrap_i64]; omega
  simp [go_sem, this, h2]
set_option maxRecDepth 100000 in
set_option maxHeartbeats 1000000 in
theorem alike_any (x0 x1 : Nat) (h0 : x0 < 2 ^ 32) (h1 : x1 < 2 ^ 32) (w : World) :
    Calls Try.prog 9 #[lad x0 x1, .agg (rv (fw x0 x1))] w fun e w' => e = .returned (.bool true) ∧ Below w.heap.size w w' := by
  obtain ⟨P, hP⟩ : ∃ P, Hid (pairs (fw x0 x1) 64 = P) := ⟨_, Lib.hid rfl⟩
  obtain ⟨f, hf⟩ : ∃ f, fw x0 x1 = f := ⟨_, rfl⟩
  have hfl : uptoL f 64 = flat P := by rw [← flat_pairs f 64 (Nat.le_refl _), ← hf, hP.out]
  have c30 := run_any x0 x1 h0 h1 P hP
  have c34 := runR_any f
  unfold RunPost at c34
  rw [hfl, runL_flat] at c34
  have c35 := allR_any f
  rw [hfl] at c35
  have c360 := bits0_any x0 x1 h0
  have c361 := bits1_any x0 x1 h1
  have c31 := len_any x0 x1 h0 h1
  have hpop : popN x0 32 + popN x1 32 = P.length := by rw [pop_pairs x0 x1 32 (Nat.le_refl _), hP.out]
  rw [hpop] at c31
  have c33 := allL_any x0 x1 h0 h1 P hP
  have hPl : P.length ≤ 64 := by rw [← hP.out]; exact pairs_len _ _
  have hFl := flat_len P
  rw [hf] at c360 c361 ⊢
  clear hpop hfl hf
  obtain ⟨R, hR⟩ : ∃ R, runP P = R := ⟨_, rfl⟩
  rw [hR] at c30 c34
  clear hR
  have C30 := Lib.hid c30
  have C34 := Lib.hid c34
  have C35 := Lib.hid c35
  have C360 := Lib.hid c360
  have C361 := Lib.hid c361
  have C31 := Lib.hid c31
  have C33 := Lib.hid c33
  have HFL := Lib.hid hFl
  have hFb : (flat P).length ≤ 128 := by omega
  clear c30 c34 c35 c360 c361 c31 c33 hP h0 h1 hFl
  have hr0 := heap_alloc2_new w (.cells #[.int .u32 (x0 : Int), .int .u32 (x1 : Int)] 27) (.cells (rv f) 31)
  have hq0 := heap_alloc2_old w (.cells #[.int .u32 (x0 : Int), .int .u32 (x1 : Int)] 27) (.cells (rv f) 31)
  go_enter Try.func9, Try.ntmps9
  go_wp2_with (first | (go_at_call 30; refine (C30.out _).mono ?_; rintro e w1 ⟨rfl, hb1⟩; have hr1 := heap_later hb1 hr0; have hq1 := heap_later hb1 hq0) | (refine wpList_load_row rfl 31 _ rfl (w.heap.size + 1) rfl 31 _ (0, 0) _ (by assumption) Try.underlying31 rfl (info31 _) ?_) | (go_at_call 34; refine (C34.out _).mono ?_; rintro e w2 ⟨rfl, hb2⟩; have hr2 := heap_later hb2 hr1; have hq2 := heap_later hb2 hq1) | (go_at_call 35; refine (C35.out _).mono ?_; rintro e w3 ⟨v, rfl, hv, hb3⟩; have hr3 := heap_later hb3 hr2; have hq3 := heap_later hb3 hq2))
  have hri := RI.of_owns hv
  obtain ⟨a, cap, rfl, hra, hrg⟩ := hri
  have hri : RI w3 (.slice a (flat P).length cap) (flat P) := ⟨a, cap, rfl, hra, hrg⟩
  have hB3 : Below w.heap.size w w3 := (two_boxes _ _ _).trans ((hb1.mono (by simp; omega)).trans ((hb2.mono (by have := hb1.size; simp at this; omega)).trans (hb3.mono (by have := hb1.size; have := hb2.size; simp at *; omega))))
  obtain ⟨S, hSd⟩ : ∃ S : World → Prop, ∀ w', S w' ↔ Below w3.heap.size w3 w' := ⟨fun w' => Below w3.heap.size w3 w', fun _ => Iff.rfl⟩
  have s0 : ∀ w', S w' → w'.cell? ⟨w.heap.size, 0, none⟩ = some (.int .u32 x0) := fun w' h => by
    rw [cell_of_row w' _ 0 _ _ _ (heap_later ((hSd w').1 h) hq3)]; rfl
  have s1 : ∀ w', S w' → w'.cell? ⟨w.heap.size, 1, none⟩ = some (.int .u32 x1) := fun w' h => by
    rw [cell_of_row w' _ 1 _ _ _ (heap_later ((hSd w').1 h) hq3)]; rfl
  have sl : ∀ w', S w' → (Instr.loadAt 31 (.pointer (some ⟨w.heap.size + 1, 0, none⟩))).run Try.prog w' = .ok (.agg (rv f)) w' := fun w' h => by
    simp only [Instr.loadAt, Instr.sureAddr, Sem.run_bind, Sem.run_pure, Result.andThen]
    exact run_loadVar_row w' _ 31 31 (rv f) (0, 0) _ (heap_later ((hSd w').1 h) hr3) Try.underlying31 rfl (info31 _)
  have sk : ∀ w' w'', S w' → Below w'.heap.size w' w'' → S w'' := fun w' w'' h hb => (hSd w'').2 (((hSd w').1 h).trans (hb.mono ((hSd w').1 h).size))
  have hS0 : S w3.drew := (hSd _).2 (Below.refl _ _).drew
  refine wp_region_held_drew (S := S) (by kernel_rfl) hS0 (fun hS => ?_)
  refine stepH (i := 0) (d := 22) (v := (.pointer (some ⟨w.heap.size, 0, none⟩))) rfl rfl (by kernel_rfl) (by kernel_rfl) (by kernel_rfl) (fun _ _ _ h => h) (Or.inl ⟨by kernel_rfl, fun w' hw' => by kernel_rfl⟩) hS ?_
  simp only [List.set_cons_zero, List.set_cons_succ]
  refine stepH (i := 1) (d := 23) (v := (.pointer (some ⟨w.heap.size, 0, none⟩))) rfl rfl (by kernel_rfl) (by kernel_rfl) (by kernel_rfl) (fun _ _ _ h => h) (Or.inl ⟨by kernel_rfl, fun w' hw' => by kernel_rfl⟩) hS ?_
  simp only [List.set_cons_zero, List.set_cons_succ]
  refine stepH (i := 2) (d := 24) (v := (.int .u32 x0)) rfl rfl (by kernel_rfl) (by kernel_rfl) (by kernel_rfl) (fun _ _ _ h => h) (Or.inl ⟨by kernel_rfl, fun w' hw' => exec_load 22 _ rfl ⟨w.heap.size, 0, none⟩ rfl (by simp [go_sem, s0 w' hw'])⟩) hS ?_
  simp only [List.set_cons_zero, List.set_cons_succ]
  refine stepH (i := 3) (d := 25) (v := (.agg (rv f))) rfl rfl (by kernel_rfl) (by kernel_rfl) (by kernel_rfl) (fun _ _ _ h => h) (Or.inl ⟨by kernel_rfl, fun w' hw' => exec_load 31 _ rfl ⟨w.heap.size + 1, 0, none⟩ rfl (sl w' hw')⟩) hS ?_
  simp only [List.set_cons_zero, List.set_cons_succ]
  refine stepCall (i := 4) (d := 26) (f := 36) (args := #[.agg (rv f), .int .i64 0]) rfl rfl (by kernel_rfl) (by kernel_rfl) (exec_call 36 [.tmp 25, .const (.int .i64 0)] _ rfl rfl (enters_of Try.func36 (by kernel_rfl) rfl) _) (C360.out _) ?_
  rintro e w4 ⟨rfl, hb4⟩
  have hS4 := sk _ _ hS hb4
  refine ⟨_, rfl, hS4, ?_⟩
  simp only [List.set_cons_zero, List.set_cons_succ]
  refine stepH (i := 5) (d := 27) (v := (.bool true)) rfl rfl (by kernel_rfl) (by kernel_rfl) (by kernel_rfl) (fun _ _ _ h => h) (Or.inl ⟨by kernel_rfl, fun w' hw' => exec_bin .eql 22 22 _ _ rfl (.int .u32 x0) (.int .u32 x0) rfl rfl (by simp [go_sem]) (by simp [go_sem])⟩) hS4 ?_
  simp only [List.set_cons_zero, List.set_cons_succ]
  refine stepH (i := 6) (d := 28) (v := (.bool true)) rfl rfl (by kernel_rfl) (by kernel_rfl) (by kernel_rfl) (fun _ _ _ h => h) (Or.inl ⟨by kernel_rfl, fun w' hw' => by kernel_rfl⟩) hS4 ?_
  simp only [List.set_cons_zero, List.set_cons_succ]
  refine stepH (i := 7) (d := 29) (v := (.pointer (some ⟨w.heap.size, 0, none⟩))) rfl rfl (by kernel_rfl) (by kernel_rfl) (by kernel_rfl) (fun _ _ _ h => h) (Or.inl ⟨by kernel_rfl, fun w' hw' => by kernel_rfl⟩) hS4 ?_
  simp only [List.set_cons_zero, List.set_cons_succ]
  refine stepH (i := 8) (d := 30) (v := (.pointer (some ⟨w.heap.size, 1, none⟩))) rfl rfl (by kernel_rfl) (by kernel_rfl) (by kernel_rfl) (fun _ _ _ h => h) (Or.inl ⟨by kernel_rfl, fun w' hw' => by kernel_rfl⟩) hS4 ?_
  simp only [List.set_cons_zero, List.set_cons_succ]
  refine stepH (i := 9) (d := 31) (v := (.int .u32 x1)) rfl rfl (by kernel_rfl) (by kernel_rfl) (by kernel_rfl) (fun _ _ _ h => h) (Or.inl ⟨by kernel_rfl, fun w' hw' => exec_load 22 _ rfl ⟨w.heap.size, 1, none⟩ rfl (by simp [go_sem, s1 w' hw'])⟩) hS4 ?_
  simp only [List.set_cons_zero, List.set_cons_succ]
  refine stepH (i := 10) (d := 32) (v := (.agg (rv f))) rfl rfl (by kernel_rfl) (by kernel_rfl) (by kernel_rfl) (fun _ _ _ h => h) (Or.inl ⟨by kernel_rfl, fun w' hw' => exec_load 31 _ rfl ⟨w.heap.size + 1, 0, none⟩ rfl (sl w' hw')⟩) hS4 ?_
  simp only [List.set_cons_zero, List.set_cons_succ]
  refine stepCall (i := 11) (d := 33) (f := 36) (args := #[.agg (rv f), .int .i64 1]) rfl rfl (by kernel_rfl) (by kernel_rfl) (exec_call 36 [.tmp 32, .const (.int .i64 1)] _ rfl rfl (enters_of Try.func36 (by kernel_rfl) rfl) _) (C361.out _) ?_
  rintro e w5 ⟨rfl, hb5⟩
  have hS5 := sk _ _ hS4 hb5
  refine ⟨_, rfl, hS5, ?_⟩
  simp only [List.set_cons_zero, List.set_cons_succ]
  refine stepH (i := 12) (d := 34) (v := (.bool true)) rfl rfl (by kernel_rfl) (by kernel_rfl) (by kernel_rfl) (fun _ _ _ h => h) (Or.inl ⟨by kernel_rfl, fun w' hw' => exec_bin .eql 22 22 _ _ rfl (.int .u32 x1) (.int .u32 x1) rfl rfl (by simp [go_sem]) (by simp [go_sem])⟩) hS5 ?_
  simp only [List.set_cons_zero, List.set_cons_succ]
  refine stepH (i := 13) (d := 35) (v := (.bool true)) rfl rfl (by kernel_rfl) (by kernel_rfl) (by kernel_rfl) (fun _ _ _ h => h) (Or.inl ⟨by kernel_rfl, fun w' hw' => by kernel_rfl⟩) hS5 ?_
  simp only [List.set_cons_zero, List.set_cons_succ]
  refine stepH (i := 14) (d := 36) (v := (.bool true)) rfl rfl (by kernel_rfl) (by kernel_rfl) (by kernel_rfl) (fun _ _ _ h => h) (Or.inl ⟨by kernel_rfl, fun w' hw' => by kernel_rfl⟩) hS5 ?_
  simp only [List.set_cons_zero, List.set_cons_succ]
  refine stepH (i := 15) (d := 37) (v := (.int .i64 R.1)) rfl rfl (by kernel_rfl) (by kernel_rfl) (by kernel_rfl) (fun _ _ _ h => h) (Or.inl ⟨by kernel_rfl, fun w' hw' => by kernel_rfl⟩) hS5 ?_
  simp only [List.set_cons_zero, List.set_cons_succ]
  refine stepH (i := 16) (d := 38) (v := (.int .i64 R.1)) rfl rfl (by kernel_rfl) (by kernel_rfl) (by kernel_rfl) (fun _ _ _ h => h) (Or.inl ⟨by kernel_rfl, fun w' hw' => by kernel_rfl⟩) hS5 ?_
  simp only [List.set_cons_zero, List.set_cons_succ]
  refine stepH (i := 17) (d := 39) (v := (.bool true)) rfl rfl (by kernel_rfl) (by kernel_rfl) (by kernel_rfl) (fun _ _ _ h => h) (Or.inl ⟨by kernel_rfl, fun w' hw' => exec_bin .eql 3 3 _ _ rfl (.int .i64 R.1) (.int .i64 R.1) rfl rfl (by simp [go_sem]) (by simp [go_sem])⟩) hS5 ?_
  simp only [List.set_cons_zero, List.set_cons_succ]
  refine stepH (i := 18) (d := 40) (v := (.bool true)) rfl rfl (by kernel_rfl) (by kernel_rfl) (by kernel_rfl) (fun _ _ _ h => h) (Or.inl ⟨by kernel_rfl, fun w' hw' => by kernel_rfl⟩) hS5 ?_
  simp only [List.set_cons_zero, List.set_cons_succ]
  refine stepH (i := 19) (d := 41) (v := (.bool true)) rfl rfl (by kernel_rfl) (by kernel_rfl) (by kernel_rfl) (fun _ _ _ h => h) (Or.inl ⟨by kernel_rfl, fun w' hw' => by kernel_rfl⟩) hS5 ?_
  simp only [List.set_cons_zero, List.set_cons_succ]
  refine stepH (i := 20) (d := 42) (v := (.int .i64 R.2)) rfl rfl (by kernel_rfl) (by kernel_rfl) (by kernel_rfl) (fun _ _ _ h => h) (Or.inl ⟨by kernel_rfl, fun w' hw' => by kernel_rfl⟩) hS5 ?_
  simp only [List.set_cons_zero, List.set_cons_succ]
  refine stepH (i := 21) (d := 43) (v := (.int .i64 R.2)) rfl rfl (by kernel_rfl) (by kernel_rfl) (by kernel_rfl) (fun _ _ _ h => h) (Or.inl ⟨by kernel_rfl, fun w' hw' => by kernel_rfl⟩) hS5 ?_
  simp only [List.set_cons_zero, List.set_cons_succ]
  refine stepH (i := 22) (d := 44) (v := (.bool true)) rfl rfl (by kernel_rfl) (by kernel_rfl) (by kernel_rfl) (fun _ _ _ h => h) (Or.inl ⟨by kernel_rfl, fun w' hw' => exec_bin .eql 3 3 _ _ rfl (.int .i64 R.2) (.int .i64 R.2) rfl rfl (by simp [go_sem]) (by simp [go_sem])⟩) hS5 ?_
  simp only [List.set_cons_zero, List.set_cons_succ]
  refine stepH (i := 23) (d := 45) (v := (.bool true)) rfl rfl (by kernel_rfl) (by kernel_rfl) (by kernel_rfl) (fun _ _ _ h => h) (Or.inl ⟨by kernel_rfl, fun w' hw' => by kernel_rfl⟩) hS5 ?_
  simp only [List.set_cons_zero, List.set_cons_succ]
  refine stepH (i := 24) (d := 46) (v := (.bool true)) rfl rfl (by kernel_rfl) (by kernel_rfl) (by kernel_rfl) (fun _ _ _ h => h) (Or.inl ⟨by kernel_rfl, fun w' hw' => by kernel_rfl⟩) hS5 ?_
  simp only [List.set_cons_zero, List.set_cons_succ]
  refine stepH (i := 25) (d := 47) (v := (lad x0 x1)) rfl rfl (by kernel_rfl) (by kernel_rfl) (by kernel_rfl) (fun _ _ _ h => h) (Or.inl ⟨by kernel_rfl, fun w' hw' => exec_load 27 _ rfl ⟨w.heap.size, 0, none⟩ rfl (by simp [go_sem, s0 w' hw', s1 w' hw'])⟩) hS5 ?_
  simp only [List.set_cons_zero, List.set_cons_succ]
  refine stepH (i := 27) (d := 49) (v := (.slice a (flat P).length cap)) rfl rfl (by kernel_rfl) (by kernel_rfl) (by kernel_rfl) (fun _ _ _ h => h) (Or.inl ⟨by kernel_rfl, fun w' hw' => by kernel_rfl⟩) hS5 ?_
  simp only [List.set_cons_zero, List.set_cons_succ]
  refine stepH (i := 28) (d := 50) (v := (.int .i64 ((flat P).length : Int))) rfl rfl (by kernel_rfl) (by kernel_rfl) (by kernel_rfl) (fun _ _ _ h => h) (Or.inl ⟨by kernel_rfl, fun w' hw' => by simp [execOp, go_sem]⟩) hS5 ?_
  simp only [List.set_cons_zero, List.set_cons_succ]
  refine stepH (i := 29) (d := 51) (v := (.int .i64 (P.length : Int))) rfl rfl (by kernel_rfl) (by kernel_rfl) (by kernel_rfl) (fun _ _ _ h => h) (Or.inl ⟨by kernel_rfl, fun w' hw' => exec_bin .quo 3 3 _ _ rfl (.int .i64 ((flat P).length : Int)) (.int .i64 2) rfl rfl (by simp [go_sem]) (run_half w' _ _ HFL.out hPl)⟩) hS5 ?_
  simp only [List.set_cons_zero, List.set_cons_succ]
  refine stepCall (i := 26) (d := 48) (f := 31) (args := #[lad x0 x1]) rfl rfl (by kernel_rfl) (by kernel_rfl) (exec_call 31 [.tmp 47] _ rfl rfl (enters_of Try.func31 (by kernel_rfl) rfl) _) (C31.out _) ?_
  rintro e w6 ⟨rfl, hb6⟩
  have hS6 := sk _ _ hS5 hb6
  refine ⟨_, rfl, hS6, ?_⟩
  simp only [List.set_cons_zero, List.set_cons_succ]
  refine stepH (i := 30) (d := 52) (v := (.bool true)) rfl rfl (by kernel_rfl) (by kernel_rfl) (by kernel_rfl) (fun _ _ _ h => h) (Or.inl ⟨by kernel_rfl, fun w' hw' => exec_bin .eql 3 3 _ _ rfl (.int .i64 (P.length : Int)) (.int .i64 (P.length : Int)) rfl rfl (by simp [go_sem]) (by simp [go_sem])⟩) hS6 ?_
  simp only [List.set_cons_zero, List.set_cons_succ]
  refine stepH (i := 31) (d := 53) (v := (.bool true)) rfl rfl (by kernel_rfl) (by kernel_rfl) (by kernel_rfl) (fun _ _ _ h => h) (Or.inl ⟨by kernel_rfl, fun w' hw' => by kernel_rfl⟩) hS6 ?_
  simp only [List.set_cons_zero, List.set_cons_succ]
  refine stepH (i := 32) (d := 54) (v := (.bool true)) rfl rfl (by kernel_rfl) (by kernel_rfl) (by kernel_rfl) (fun _ _ _ h => h) (Or.inl ⟨by kernel_rfl, fun w' hw' => by kernel_rfl⟩) hS6 ?_
  simp only [List.set_cons_zero, List.set_cons_succ]
  refine stepH (i := 33) (d := 55) (v := (lad x0 x1)) rfl rfl (by kernel_rfl) (by kernel_rfl) (by kernel_rfl) (fun _ _ _ h => h) (Or.inl ⟨by kernel_rfl, fun w' hw' => exec_load 27 _ rfl ⟨w.heap.size, 0, none⟩ rfl (by simp [go_sem, s0 w' hw', s1 w' hw'])⟩) hS6 ?_
  simp only [List.set_cons_zero, List.set_cons_succ]
  refine stepH (i := 35) (d := 57) (v := (.slice a (flat P).length cap)) rfl rfl (by kernel_rfl) (by kernel_rfl) (by kernel_rfl) (fun _ _ _ h => h) (Or.inl ⟨by kernel_rfl, fun w' hw' => by kernel_rfl⟩) hS6 ?_
  simp only [List.set_cons_zero, List.set_cons_succ]
  refine stepCall (i := 34) (d := 56) (f := 33) (args := #[lad x0 x1]) rfl rfl (by kernel_rfl) (by kernel_rfl) (exec_call 33 [.tmp 55] _ rfl rfl (enters_of Try.func33 (by kernel_rfl) rfl) _) (C33.out _) ?_
  rintro e w7 ⟨v7, rfl, hv7, hb7⟩
  have hS7 := sk _ _ hS6 hb7
  refine ⟨_, rfl, hS7, ?_⟩
  simp only [List.set_cons_zero, List.set_cons_succ]
  refine stepCall (i := 36) (d := 58) (f := 32) (args := #[v7, .slice a (flat P).length cap]) rfl rfl (by kernel_rfl) (by kernel_rfl) (exec_call 32 [.tmp 56, .tmp 57] _ rfl rfl (enters_of Try.func32 (by kernel_rfl) rfl) _) (same_any (flat P) (flat P) _ _ _ (by omega) (by omega) (RI.of_owns hv7) (hri.below ((hSd _).1 hS7))) ?_
  rintro e w8 ⟨he8, n8, rfl⟩
  rw [decide_eq_true rfl] at he8
  subst he8
  have hS9 := (hSd _).2 (below_drewN ((hSd _).1 hS7) n8)
  refine ⟨_, rfl, hS9, ?_⟩
  simp only [List.set_cons_zero, List.set_cons_succ]
  refine stepH (i := 37) (d := 59) (v := (.bool true)) rfl rfl (by kernel_rfl) (by kernel_rfl) (by kernel_rfl) (fun _ _ _ h => h) (Or.inl ⟨by kernel_rfl, fun w' hw' => by kernel_rfl⟩) hS9 ?_
  simp only [List.set_cons_zero, List.set_cons_succ]
  refine stepH (i := 38) (d := 4) (v := (.bool true)) rfl rfl (by kernel_rfl) (by kernel_rfl) (by kernel_rfl) (fun _ _ _ h => h) (Or.inl ⟨by kernel_rfl, fun w' hw' => by kernel_rfl⟩) hS9 ?_
  simp only [List.set_cons_zero, List.set_cons_succ]
  refine wpAnyH_done (by kernel_rfl) ?_ _
  go_wp2
  go_ret
  exact ⟨rfl, hB3.trans (((hSd _).1 hS9).mono hB3.size)⟩
end Go.Proofs.Ytoloccoodnbbdaa
