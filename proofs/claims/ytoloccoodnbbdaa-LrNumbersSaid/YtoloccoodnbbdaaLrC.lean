/- List registers: which may be. -/
import Derived.RangeFuncNested
import Derived.RangeFuncBound
import Derived.RangeFuncCalls
import Derived.RangeFuncLeaves
import Derived.Shelf.Abstract
import Derived.Shelf.RegionOpen
import Derived.WalkKit
import Derived.OwnWalkIn
import Derived.TacticsInMore
import Derived.LoopNIn
import Derived.LoopIn
import Derived.WalkSpells
import Derived.WalkLawsBesides
import Derived.Deep.QuietTactic
import Derived.BigQuiet
import Derived.Lib.Hide
import Derived.Test.YtoloccoodnbbdaaLrB
import Derived.Test.YtoloccoodnbbdaaHd
import Derived.Test.YtoloccoodnbbdaaLdI
namespace Go.Proofs.Ytoloccoodnbbdaa
open Go.RowKit Go.Shelf
attribute [local go_sem] Oper.semAt_some

def mayE (s n p g : Int) (h : Bool) (m : Int) (t : Bool) : Int := if mayB s n p g h m t then 0 else 200

set_option maxRecDepth 100000 in
set_option maxHeartbeats 4000000 in
theorem may_0 (s n p : Int) (h : Bool) (m : Int) (t : Bool) (w : World) :
    Calls Try.prog 29 #[.agg #[.int .i64 s, .int .i64 n, .int .i64 p, .int .i64 0, .bool h, .int .i64 m, .bool t]] w fun e w' => e = .returned (.int .i64 (mayE s n p 0 h m t)) ∧ Below w.heap.size w w' := by
  go_enter Try.func29, Try.ntmps29
  go_wp2
  · by_cases m0 : 0 ≤ m
    · by_cases m1 : m < 1024
      · have hreal := real_of p (by assumption) (by assumption)
        cases h with
        | true =>
          cases t with
          | true =>
            obtain ⟨S, hSd⟩ : ∃ S : World → Prop, ∀ w', S w' ↔ Blk w' w.heap.size 65 #[.int .i64 s, .int .i64 n, .int .i64 p, .int .i64 0, .bool true, .int .i64 m, .bool true] := ⟨fun w' => Blk w' w.heap.size 65 #[.int .i64 s, .int .i64 n, .int .i64 p, .int .i64 0, .bool true, .int .i64 m, .bool true], fun _ => Iff.rfl⟩
            have s2 : ∀ w', S w' → w'.cell? ⟨w.heap.size, 2, none⟩ = some (.int .i64 p) := fun w' h' => (((hSd w').1 h').cell 2).trans rfl
            have s4 : ∀ w', S w' → w'.cell? ⟨w.heap.size, 4, none⟩ = some (.bool true) := fun w' h' => (((hSd w').1 h').cell 4).trans rfl
            have s5 : ∀ w', S w' → w'.cell? ⟨w.heap.size, 5, none⟩ = some (.int .i64 m) := fun w' h' => (((hSd w').1 h').cell 5).trans rfl
            have s6 : ∀ w', S w' → w'.cell? ⟨w.heap.size, 6, none⟩ = some (.bool true) := fun w' h' => (((hSd w').1 h').cell 6).trans rfl
            have hS0 : S (w.alloc (.cells #[.int .i64 s, .int .i64 n, .int .i64 p, .int .i64 0, .bool true, .int .i64 m, .bool true] 65)).drew := (hSd _).2 (Blk.new w 65 #[.int .i64 s, .int .i64 n, .int .i64 p, .int .i64 0, .bool true, .int .i64 m, .bool true])
            refine wp_region_held_drew (S := S) (by kernel_rfl) hS0 (fun hS => ?_)
            refine stepH (i := 0) (d := 42) (v := (.bool true)) rfl rfl (by kernel_rfl) (by kernel_rfl) (by kernel_rfl) (fun _ _ _ h => h) (Or.inl ⟨by kernel_rfl, fun w' hw' => by kernel_rfl⟩) hS ?_
            simp only [List.set_cons_zero, List.set_cons_succ]
            refine stepH (i := 1) (d := 43) (v := (.bool true)) rfl rfl (by kernel_rfl) (by kernel_rfl) (by kernel_rfl) (fun _ _ _ h => h) (Or.inl ⟨by kernel_rfl, fun w' hw' => by kernel_rfl⟩) hS ?_
            simp only [List.set_cons_zero, List.set_cons_succ]
            refine stepH (i := 2) (d := 44) (v := (.pointer (some ⟨w.heap.size, 5, none⟩))) rfl rfl (by kernel_rfl) (by kernel_rfl) (by kernel_rfl) (fun _ _ _ h => h) (Or.inl ⟨by kernel_rfl, fun w' hw' => by kernel_rfl⟩) hS ?_
            simp only [List.set_cons_zero, List.set_cons_succ]
            refine stepH (i := 3) (d := 45) (v := (.int .i64 m)) rfl rfl (by kernel_rfl) (by kernel_rfl) (by kernel_rfl) (fun _ _ _ h => h) (Or.inl ⟨by kernel_rfl, fun w' hw' => exec_load 3 _ rfl ⟨w.heap.size, 5, none⟩ rfl (by simp [go_sem, s5 w' hw'])⟩) hS ?_
            simp only [List.set_cons_zero, List.set_cons_succ]
            refine stepH (i := 4) (d := 46) (v := (.bool true)) rfl rfl (by kernel_rfl) (by kernel_rfl) (by kernel_rfl) (fun _ _ _ h => h) (Or.inl ⟨by kernel_rfl, fun w' hw' => exec_bin .geq 3 3 _ _ rfl (.int .i64 m) (.int .i64 0) rfl rfl (by simp [go_sem]) (by simp [go_sem]; try omega)⟩) hS ?_
            simp only [List.set_cons_zero, List.set_cons_succ]
            refine stepH (i := 5) (d := 47) (v := (.bool true)) rfl rfl (by kernel_rfl) (by kernel_rfl) (by kernel_rfl) (fun _ _ _ h => h) (Or.inl ⟨by kernel_rfl, fun w' hw' => by kernel_rfl⟩) hS ?_
            simp only [List.set_cons_zero, List.set_cons_succ]
            refine stepH (i := 6) (d := 48) (v := (.bool true)) rfl rfl (by kernel_rfl) (by kernel_rfl) (by kernel_rfl) (fun _ _ _ h => h) (Or.inl ⟨by kernel_rfl, fun w' hw' => by kernel_rfl⟩) hS ?_
            simp only [List.set_cons_zero, List.set_cons_succ]
            refine stepH (i := 7) (d := 49) (v := (.pointer (some ⟨w.heap.size, 5, none⟩))) rfl rfl (by kernel_rfl) (by kernel_rfl) (by kernel_rfl) (fun _ _ _ h => h) (Or.inl ⟨by kernel_rfl, fun w' hw' => by kernel_rfl⟩) hS ?_
            simp only [List.set_cons_zero, List.set_cons_succ]
            refine stepH (i := 8) (d := 50) (v := (.int .i64 m)) rfl rfl (by kernel_rfl) (by kernel_rfl) (by kernel_rfl) (fun _ _ _ h => h) (Or.inl ⟨by kernel_rfl, fun w' hw' => exec_load 3 _ rfl ⟨w.heap.size, 5, none⟩ rfl (by simp [go_sem, s5 w' hw'])⟩) hS ?_
            simp only [List.set_cons_zero, List.set_cons_succ]
            refine stepH (i := 9) (d := 51) (v := (.bool true)) rfl rfl (by kernel_rfl) (by kernel_rfl) (by kernel_rfl) (fun _ _ _ h => h) (Or.inl ⟨by kernel_rfl, fun w' hw' => exec_bin .lss 3 3 _ _ rfl (.int .i64 m) (.int .i64 1024) rfl rfl (by simp [go_sem]) (by simp [go_sem]; try omega)⟩) hS ?_
            simp only [List.set_cons_zero, List.set_cons_succ]
            refine stepH (i := 10) (d := 52) (v := (.bool true)) rfl rfl (by kernel_rfl) (by kernel_rfl) (by kernel_rfl) (fun _ _ _ h => h) (Or.inl ⟨by kernel_rfl, fun w' hw' => by kernel_rfl⟩) hS ?_
            simp only [List.set_cons_zero, List.set_cons_succ]
            refine stepH (i := 11) (d := 53) (v := (.bool true)) rfl rfl (by kernel_rfl) (by kernel_rfl) (by kernel_rfl) (fun _ _ _ h => h) (Or.inl ⟨by kernel_rfl, fun w' hw' => by kernel_rfl⟩) hS ?_
            simp only [List.set_cons_zero, List.set_cons_succ]
            refine stepH (i := 12) (d := 54) (v := (.pointer (some ⟨w.heap.size, 4, none⟩))) rfl rfl (by kernel_rfl) (by kernel_rfl) (by kernel_rfl) (fun _ _ _ h => h) (Or.inl ⟨by kernel_rfl, fun w' hw' => by kernel_rfl⟩) hS ?_
            simp only [List.set_cons_zero, List.set_cons_succ]
            refine stepH (i := 13) (d := 55) (v := (.bool true)) rfl rfl (by kernel_rfl) (by kernel_rfl) (by kernel_rfl) (fun _ _ _ h => h) (Or.inl ⟨by kernel_rfl, fun w' hw' => exec_load 4 _ rfl ⟨w.heap.size, 4, none⟩ rfl (by simp [go_sem, s4 w' hw'])⟩) hS ?_
            simp only [List.set_cons_zero, List.set_cons_succ]
            refine stepH (i := 14) (d := 56) (v := (.bool true)) rfl rfl (by kernel_rfl) (by kernel_rfl) (by kernel_rfl) (fun _ _ _ h => h) (Or.inl ⟨by kernel_rfl, fun w' hw' => by kernel_rfl⟩) hS ?_
            simp only [List.set_cons_zero, List.set_cons_succ]
            refine stepH (i := 15) (d := 57) (v := undef) rfl rfl (by kernel_rfl) (by kernel_rfl) (by kernel_rfl) (fun _ _ _ h => h) (Or.inr ⟨rfl, rfl⟩) hS ?_
            refine stepH (i := 16) (d := 58) (v := undef) rfl rfl (by kernel_rfl) (by kernel_rfl) (by kernel_rfl) (fun _ _ _ h => h) (Or.inr ⟨rfl, rfl⟩) hS ?_
            refine stepH (i := 17) (d := 59) (v := undef) rfl rfl (by kernel_rfl) (by kernel_rfl) (by kernel_rfl) (fun _ _ _ h => h) (Or.inr ⟨rfl, rfl⟩) hS ?_
            refine stepH (i := 18) (d := 60) (v := (.bool true)) rfl rfl (by kernel_rfl) (by kernel_rfl) (by kernel_rfl) (fun _ _ _ h => h) (Or.inl ⟨by kernel_rfl, fun w' hw' => by kernel_rfl⟩) hS ?_
            simp only [List.set_cons_zero, List.set_cons_succ]
            refine stepH (i := 19) (d := 61) (v := (.bool true)) rfl rfl (by kernel_rfl) (by kernel_rfl) (by kernel_rfl) (fun _ _ _ h => h) (Or.inl ⟨by kernel_rfl, fun w' hw' => by kernel_rfl⟩) hS ?_
            simp only [List.set_cons_zero, List.set_cons_succ]
            refine stepH (i := 20) (d := 62) (v := (.bool true)) rfl rfl (by kernel_rfl) (by kernel_rfl) (by kernel_rfl) (fun _ _ _ h => h) (Or.inl ⟨by kernel_rfl, fun w' hw' => by kernel_rfl⟩) hS ?_
            simp only [List.set_cons_zero, List.set_cons_succ]
            refine stepH (i := 21) (d := 63) (v := (.pointer (some ⟨w.heap.size, 4, none⟩))) rfl rfl (by kernel_rfl) (by kernel_rfl) (by kernel_rfl) (fun _ _ _ h => h) (Or.inl ⟨by kernel_rfl, fun w' hw' => by kernel_rfl⟩) hS ?_
            simp only [List.set_cons_zero, List.set_cons_succ]
            refine stepH (i := 22) (d := 64) (v := (.bool true)) rfl rfl (by kernel_rfl) (by kernel_rfl) (by kernel_rfl) (fun _ _ _ h => h) (Or.inl ⟨by kernel_rfl, fun w' hw' => exec_load 4 _ rfl ⟨w.heap.size, 4, none⟩ rfl (by simp [go_sem, s4 w' hw'])⟩) hS ?_
            simp only [List.set_cons_zero, List.set_cons_succ]
            refine stepH (i := 23) (d := 65) (v := (.bool true)) rfl rfl (by kernel_rfl) (by kernel_rfl) (by kernel_rfl) (fun _ _ _ h => h) (Or.inl ⟨by kernel_rfl, fun w' hw' => by kernel_rfl⟩) hS ?_
            simp only [List.set_cons_zero, List.set_cons_succ]
            refine stepH (i := 24) (d := 66) (v := (.pointer (some ⟨w.heap.size, 6, none⟩))) rfl rfl (by kernel_rfl) (by kernel_rfl) (by kernel_rfl) (fun _ _ _ h => h) (Or.inl ⟨by kernel_rfl, fun w' hw' => by kernel_rfl⟩) hS ?_
            simp only [List.set_cons_zero, List.set_cons_succ]
            refine stepH (i := 25) (d := 67) (v := (.bool true)) rfl rfl (by kernel_rfl) (by kernel_rfl) (by kernel_rfl) (fun _ _ _ h => h) (Or.inl ⟨by kernel_rfl, fun w' hw' => exec_load 4 _ rfl ⟨w.heap.size, 6, none⟩ rfl (by simp [go_sem, s6 w' hw'])⟩) hS ?_
            simp only [List.set_cons_zero, List.set_cons_succ]
            refine stepH (i := 26) (d := 68) (v := (.bool true)) rfl rfl (by kernel_rfl) (by kernel_rfl) (by kernel_rfl) (fun _ _ _ h => h) (Or.inl ⟨by kernel_rfl, fun w' hw' => by kernel_rfl⟩) hS ?_
            simp only [List.set_cons_zero, List.set_cons_succ]
            refine stepH (i := 27) (d := 69) (v := (.bool false)) rfl rfl (by kernel_rfl) (by kernel_rfl) (by kernel_rfl) (fun _ _ _ h => h) (Or.inl ⟨by kernel_rfl, fun w' hw' => by kernel_rfl⟩) hS ?_
            simp only [List.set_cons_zero, List.set_cons_succ]
            refine stepH (i := 28) (d := 70) (v := (.bool false)) rfl rfl (by kernel_rfl) (by kernel_rfl) (by kernel_rfl) (fun _ _ _ h => h) (Or.inl ⟨by kernel_rfl, fun w' hw' => by kernel_rfl⟩) hS ?_
            simp only [List.set_cons_zero, List.set_cons_succ]
            refine stepH (i := 29) (d := 71) (v := (.bool false)) rfl rfl (by kernel_rfl) (by kernel_rfl) (by kernel_rfl) (fun _ _ _ h => h) (Or.inl ⟨by kernel_rfl, fun w' hw' => by kernel_rfl⟩) hS ?_
            simp only [List.set_cons_zero, List.set_cons_succ]
            refine stepH (i := 30) (d := 72) (v := undef) rfl rfl (by kernel_rfl) (by kernel_rfl) (by kernel_rfl) (fun _ _ _ h => h) (Or.inr ⟨rfl, rfl⟩) hS ?_
            refine stepH (i := 31) (d := 73) (v := undef) rfl rfl (by kernel_rfl) (by kernel_rfl) (by kernel_rfl) (fun _ _ _ h => h) (Or.inr ⟨rfl, rfl⟩) hS ?_
            refine stepH (i := 32) (d := 74) (v := undef) rfl rfl (by kernel_rfl) (by kernel_rfl) (by kernel_rfl) (fun _ _ _ h => h) (Or.inr ⟨rfl, rfl⟩) hS ?_
            refine stepH (i := 33) (d := 75) (v := undef) rfl rfl (by kernel_rfl) (by kernel_rfl) (by kernel_rfl) (fun _ _ _ h => h) (Or.inr ⟨rfl, rfl⟩) hS ?_
            refine stepH (i := 34) (d := 76) (v := undef) rfl rfl (by kernel_rfl) (by kernel_rfl) (by kernel_rfl) (fun _ _ _ h => h) (Or.inr ⟨rfl, rfl⟩) hS ?_
            refine stepH (i := 35) (d := 77) (v := undef) rfl rfl (by kernel_rfl) (by kernel_rfl) (by kernel_rfl) (fun _ _ _ h => h) (Or.inr ⟨rfl, rfl⟩) hS ?_
            refine stepH (i := 36) (d := 78) (v := (.bool false)) rfl rfl (by kernel_rfl) (by kernel_rfl) (by kernel_rfl) (fun _ _ _ h => h) (Or.inl ⟨by kernel_rfl, fun w' hw' => by kernel_rfl⟩) hS ?_
            simp only [List.set_cons_zero, List.set_cons_succ]
            refine stepH (i := 37) (d := 3) (v := (.bool false)) rfl rfl (by kernel_rfl) (by kernel_rfl) (by kernel_rfl) (fun _ _ _ h => h) (Or.inl ⟨by kernel_rfl, fun w' hw' => by kernel_rfl⟩) hS ?_
            simp only [List.set_cons_zero, List.set_cons_succ]
            refine wpAnyH_done (by kernel_rfl) ?_ _
            clear hSd s2 s4 s5 s6 hS0 hS
            go_wp2
            all_goals (go_ret; refine ⟨congrArg (fun b => Ending.returned (.int .i64 b)) ?_, (one_box _ _).drew⟩)
            all_goals (unfold mayE mayB; grind)
          | false =>
            by_cases p8 : p % 8 = 0
            · obtain ⟨S, hSd⟩ : ∃ S : World → Prop, ∀ w', S w' ↔ Blk w' w.heap.size 65 #[.int .i64 s, .int .i64 n, .int .i64 p, .int .i64 0, .bool true, .int .i64 m, .bool false] := ⟨fun w' => Blk w' w.heap.size 65 #[.int .i64 s, .int .i64 n, .int .i64 p, .int .i64 0, .bool true, .int .i64 m, .bool false], fun _ => Iff.rfl⟩
              have s2 : ∀ w', S w' → w'.cell? ⟨w.heap.size, 2, none⟩ = some (.int .i64 p) := fun w' h' => (((hSd w').1 h').cell 2).trans rfl
              have s4 : ∀ w', S w' → w'.cell? ⟨w.heap.size, 4, none⟩ = some (.bool true) := fun w' h' => (((hSd w').1 h').cell 4).trans rfl
              have s5 : ∀ w', S w' → w'.cell? ⟨w.heap.size, 5, none⟩ = some (.int .i64 m) := fun w' h' => (((hSd w').1 h').cell 5).trans rfl
              have s6 : ∀ w', S w' → w'.cell? ⟨w.heap.size, 6, none⟩ = some (.bool false) := fun w' h' => (((hSd w').1 h').cell 6).trans rfl
              have hS0 : S (w.alloc (.cells #[.int .i64 s, .int .i64 n, .int .i64 p, .int .i64 0, .bool true, .int .i64 m, .bool false] 65)).drew := (hSd _).2 (Blk.new w 65 #[.int .i64 s, .int .i64 n, .int .i64 p, .int .i64 0, .bool true, .int .i64 m, .bool false])
              refine wp_region_held_drew (S := S) (by kernel_rfl) hS0 (fun hS => ?_)
              refine stepH (i := 0) (d := 42) (v := (.bool true)) rfl rfl (by kernel_rfl) (by kernel_rfl) (by kernel_rfl) (fun _ _ _ h => h) (Or.inl ⟨by kernel_rfl, fun w' hw' => by kernel_rfl⟩) hS ?_
              simp only [List.set_cons_zero, List.set_cons_succ]
              refine stepH (i := 1) (d := 43) (v := (.bool true)) rfl rfl (by kernel_rfl) (by kernel_rfl) (by kernel_rfl) (fun _ _ _ h => h) (Or.inl ⟨by kernel_rfl, fun w' hw' => by kernel_rfl⟩) hS ?_
              simp only [List.set_cons_zero, List.set_cons_succ]
              refine stepH (i := 2) (d := 44) (v := (.pointer (some ⟨w.heap.size, 5, none⟩))) rfl rfl (by kernel_rfl) (by kernel_rfl) (by kernel_rfl) (fun _ _ _ h => h) (Or.inl ⟨by kernel_rfl, fun w' hw' => by kernel_rfl⟩) hS ?_
              simp only [List.set_cons_zero, List.set_cons_succ]
              refine stepH (i := 3) (d := 45) (v := (.int .i64 m)) rfl rfl (by kernel_rfl) (by kernel_rfl) (by kernel_rfl) (fun _ _ _ h => h) (Or.inl ⟨by kernel_rfl, fun w' hw' => exec_load 3 _ rfl ⟨w.heap.size, 5, none⟩ rfl (by simp [go_sem, s5 w' hw'])⟩) hS ?_
              simp only [List.set_cons_zero, List.set_cons_succ]
              refine stepH (i := 4) (d := 46) (v := (.bool true)) rfl rfl (by kernel_rfl) (by kernel_rfl) (by kernel_rfl) (fun _ _ _ h => h) (Or.inl ⟨by kernel_rfl, fun w' hw' => exec_bin .geq 3 3 _ _ rfl (.int .i64 m) (.int .i64 0) rfl rfl (by simp [go_sem]) (by simp [go_sem]; try omega)⟩) hS ?_
              simp only [List.set_cons_zero, List.set_cons_succ]
              refine stepH (i := 5) (d := 47) (v := (.bool true)) rfl rfl (by kernel_rfl) (by kernel_rfl) (by kernel_rfl) (fun _ _ _ h => h) (Or.inl ⟨by kernel_rfl, fun w' hw' => by kernel_rfl⟩) hS ?_
              simp only [List.set_cons_zero, List.set_cons_succ]
              refine stepH (i := 6) (d := 48) (v := (.bool true)) rfl rfl (by kernel_rfl) (by kernel_rfl) (by kernel_rfl) (fun _ _ _ h => h) (Or.inl ⟨by kernel_rfl, fun w' hw' => by kernel_rfl⟩) hS ?_
              simp only [List.set_cons_zero, List.set_cons_succ]
              refine stepH (i := 7) (d := 49) (v := (.pointer (some ⟨w.heap.size, 5, none⟩))) rfl rfl (by kernel_rfl) (by kernel_rfl) (by kernel_rfl) (fun _ _ _ h => h) (Or.inl ⟨by kernel_rfl, fun w' hw' => by kernel_rfl⟩) hS ?_
              simp only [List.set_cons_zero, List.set_cons_succ]
              refine stepH (i := 8) (d := 50) (v := (.int .i64 m)) rfl rfl (by kernel_rfl) (by kernel_rfl) (by kernel_rfl) (fun _ _ _ h => h) (Or.inl ⟨by kernel_rfl, fun w' hw' => exec_load 3 _ rfl ⟨w.heap.size, 5, none⟩ rfl (by simp [go_sem, s5 w' hw'])⟩) hS ?_
              simp only [List.set_cons_zero, List.set_cons_succ]
              refine stepH (i := 9) (d := 51) (v := (.bool true)) rfl rfl (by kernel_rfl) (by kernel_rfl) (by kernel_rfl) (fun _ _ _ h => h) (Or.inl ⟨by kernel_rfl, fun w' hw' => exec_bin .lss 3 3 _ _ rfl (.int .i64 m) (.int .i64 1024) rfl rfl (by simp [go_sem]) (by simp [go_sem]; try omega)⟩) hS ?_
              simp only [List.set_cons_zero, List.set_cons_succ]
              refine stepH (i := 10) (d := 52) (v := (.bool true)) rfl rfl (by kernel_rfl) (by kernel_rfl) (by kernel_rfl) (fun _ _ _ h => h) (Or.inl ⟨by kernel_rfl, fun w' hw' => by kernel_rfl⟩) hS ?_
              simp only [List.set_cons_zero, List.set_cons_succ]
              refine stepH (i := 11) (d := 53) (v := (.bool true)) rfl rfl (by kernel_rfl) (by kernel_rfl) (by kernel_rfl) (fun _ _ _ h => h) (Or.inl ⟨by kernel_rfl, fun w' hw' => by kernel_rfl⟩) hS ?_
              simp only [List.set_cons_zero, List.set_cons_succ]
              refine stepH (i := 12) (d := 54) (v := (.pointer (some ⟨w.heap.size, 4, none⟩))) rfl rfl (by kernel_rfl) (by kernel_rfl) (by kernel_rfl) (fun _ _ _ h => h) (Or.inl ⟨by kernel_rfl, fun w' hw' => by kernel_rfl⟩) hS ?_
              simp only [List.set_cons_zero, List.set_cons_succ]
              refine stepH (i := 13) (d := 55) (v := (.bool true)) rfl rfl (by kernel_rfl) (by kernel_rfl) (by kernel_rfl) (fun _ _ _ h => h) (Or.inl ⟨by kernel_rfl, fun w' hw' => exec_load 4 _ rfl ⟨w.heap.size, 4, none⟩ rfl (by simp [go_sem, s4 w' hw'])⟩) hS ?_
              simp only [List.set_cons_zero, List.set_cons_succ]
              refine stepH (i := 14) (d := 56) (v := (.bool true)) rfl rfl (by kernel_rfl) (by kernel_rfl) (by kernel_rfl) (fun _ _ _ h => h) (Or.inl ⟨by kernel_rfl, fun w' hw' => by kernel_rfl⟩) hS ?_
              simp only [List.set_cons_zero, List.set_cons_succ]
              refine stepH (i := 15) (d := 57) (v := undef) rfl rfl (by kernel_rfl) (by kernel_rfl) (by kernel_rfl) (fun _ _ _ h => h) (Or.inr ⟨rfl, rfl⟩) hS ?_
              refine stepH (i := 16) (d := 58) (v := undef) rfl rfl (by kernel_rfl) (by kernel_rfl) (by kernel_rfl) (fun _ _ _ h => h) (Or.inr ⟨rfl, rfl⟩) hS ?_
              refine stepH (i := 17) (d := 59) (v := undef) rfl rfl (by kernel_rfl) (by kernel_rfl) (by kernel_rfl) (fun _ _ _ h => h) (Or.inr ⟨rfl, rfl⟩) hS ?_
              refine stepH (i := 18) (d := 60) (v := (.bool true)) rfl rfl (by kernel_rfl) (by kernel_rfl) (by kernel_rfl) (fun _ _ _ h => h) (Or.inl ⟨by kernel_rfl, fun w' hw' => by kernel_rfl⟩) hS ?_
              simp only [List.set_cons_zero, List.set_cons_succ]
              refine stepH (i := 19) (d := 61) (v := (.bool true)) rfl rfl (by kernel_rfl) (by kernel_rfl) (by kernel_rfl) (fun _ _ _ h => h) (Or.inl ⟨by kernel_rfl, fun w' hw' => by kernel_rfl⟩) hS ?_
              simp only [List.set_cons_zero, List.set_cons_succ]
              refine stepH (i := 20) (d := 62) (v := (.bool true)) rfl rfl (by kernel_rfl) (by kernel_rfl) (by kernel_rfl) (fun _ _ _ h => h) (Or.inl ⟨by kernel_rfl, fun w' hw' => by kernel_rfl⟩) hS ?_
              simp only [List.set_cons_zero, List.set_cons_succ]
              refine stepH (i := 21) (d := 63) (v := (.pointer (some ⟨w.heap.size, 4, none⟩))) rfl rfl (by kernel_rfl) (by kernel_rfl) (by kernel_rfl) (fun _ _ _ h => h) (Or.inl ⟨by kernel_rfl, fun w' hw' => by kernel_rfl⟩) hS ?_
              simp only [List.set_cons_zero, List.set_cons_succ]
              refine stepH (i := 22) (d := 64) (v := (.bool true)) rfl rfl (by kernel_rfl) (by kernel_rfl) (by kernel_rfl) (fun _ _ _ h => h) (Or.inl ⟨by kernel_rfl, fun w' hw' => exec_load 4 _ rfl ⟨w.heap.size, 4, none⟩ rfl (by simp [go_sem, s4 w' hw'])⟩) hS ?_
              simp only [List.set_cons_zero, List.set_cons_succ]
              refine stepH (i := 23) (d := 65) (v := (.bool true)) rfl rfl (by kernel_rfl) (by kernel_rfl) (by kernel_rfl) (fun _ _ _ h => h) (Or.inl ⟨by kernel_rfl, fun w' hw' => by kernel_rfl⟩) hS ?_
              simp only [List.set_cons_zero, List.set_cons_succ]
              refine stepH (i := 24) (d := 66) (v := (.pointer (some ⟨w.heap.size, 6, none⟩))) rfl rfl (by kernel_rfl) (by kernel_rfl) (by kernel_rfl) (fun _ _ _ h => h) (Or.inl ⟨by kernel_rfl, fun w' hw' => by kernel_rfl⟩) hS ?_
              simp only [List.set_cons_zero, List.set_cons_succ]
              refine stepH (i := 25) (d := 67) (v := (.bool false)) rfl rfl (by kernel_rfl) (by kernel_rfl) (by kernel_rfl) (fun _ _ _ h => h) (Or.inl ⟨by kernel_rfl, fun w' hw' => exec_load 4 _ rfl ⟨w.heap.size, 6, none⟩ rfl (by simp [go_sem, s6 w' hw'])⟩) hS ?_
              simp only [List.set_cons_zero, List.set_cons_succ]
              refine stepH (i := 26) (d := 68) (v := (.bool false)) rfl rfl (by kernel_rfl) (by kernel_rfl) (by kernel_rfl) (fun _ _ _ h => h) (Or.inl ⟨by kernel_rfl, fun w' hw' => by kernel_rfl⟩) hS ?_
              simp only [List.set_cons_zero, List.set_cons_succ]
              refine stepH (i := 27) (d := 69) (v := (.bool true)) rfl rfl (by kernel_rfl) (by kernel_rfl) (by kernel_rfl) (fun _ _ _ h => h) (Or.inl ⟨by kernel_rfl, fun w' hw' => by kernel_rfl⟩) hS ?_
              simp only [List.set_cons_zero, List.set_cons_succ]
              refine stepH (i := 28) (d := 70) (v := (.bool true)) rfl rfl (by kernel_rfl) (by kernel_rfl) (by kernel_rfl) (fun _ _ _ h => h) (Or.inl ⟨by kernel_rfl, fun w' hw' => by kernel_rfl⟩) hS ?_
              simp only [List.set_cons_zero, List.set_cons_succ]
              refine stepH (i := 29) (d := 71) (v := (.bool true)) rfl rfl (by kernel_rfl) (by kernel_rfl) (by kernel_rfl) (fun _ _ _ h => h) (Or.inl ⟨by kernel_rfl, fun w' hw' => by kernel_rfl⟩) hS ?_
              simp only [List.set_cons_zero, List.set_cons_succ]
              refine stepH (i := 30) (d := 72) (v := (.pointer (some ⟨w.heap.size, 2, none⟩))) rfl rfl (by kernel_rfl) (by kernel_rfl) (by kernel_rfl) (fun _ _ _ h => h) (Or.inl ⟨by kernel_rfl, fun w' hw' => by kernel_rfl⟩) hS ?_
              simp only [List.set_cons_zero, List.set_cons_succ]
              refine stepH (i := 31) (d := 73) (v := (.int .i64 p)) rfl rfl (by kernel_rfl) (by kernel_rfl) (by kernel_rfl) (fun _ _ _ h => h) (Or.inl ⟨by kernel_rfl, fun w' hw' => exec_load 3 _ rfl ⟨w.heap.size, 2, none⟩ rfl (by simp [go_sem, s2 w' hw'])⟩) hS ?_
              simp only [List.set_cons_zero, List.set_cons_succ]
              refine stepH (i := 32) (d := 74) (v := (.pointer (some ⟨w.heap.size, 2, none⟩))) rfl rfl (by kernel_rfl) (by kernel_rfl) (by kernel_rfl) (fun _ _ _ h => h) (Or.inl ⟨by kernel_rfl, fun w' hw' => by kernel_rfl⟩) hS ?_
              simp only [List.set_cons_zero, List.set_cons_succ]
              refine stepH (i := 33) (d := 75) (v := (.int .i64 p)) rfl rfl (by kernel_rfl) (by kernel_rfl) (by kernel_rfl) (fun _ _ _ h => h) (Or.inl ⟨by kernel_rfl, fun w' hw' => exec_load 3 _ rfl ⟨w.heap.size, 2, none⟩ rfl (by simp [go_sem, s2 w' hw'])⟩) hS ?_
              simp only [List.set_cons_zero, List.set_cons_succ]
              refine stepCall (i := 34) (d := 76) (f := 51) (args := #[.int .i64 p]) rfl rfl (by kernel_rfl) (by kernel_rfl) (exec_call 51 [.tmp 75] _ rfl rfl (enters_of Try.func51 (by kernel_rfl) rfl) _) (real_any p _) ?_
              rintro e w5 ⟨rfl, rfl⟩
              have hS2 := hS
              refine ⟨_, rfl, hS2, ?_⟩
              simp only [List.set_cons_zero, List.set_cons_succ]
              refine stepH (i := 35) (d := 77) (v := (.bool true)) rfl rfl (by kernel_rfl) (by kernel_rfl) (by kernel_rfl) (fun _ _ _ h => h) (Or.inl ⟨by kernel_rfl, fun w' hw' => exec_bin .eql 3 3 _ _ rfl (.int .i64 p) (.int .i64 (bits .and .i64 p 248)) rfl rfl (by simp [go_sem]) (by simp [go_sem]; omega)⟩) hS2 ?_
              simp only [List.set_cons_zero, List.set_cons_succ]
              refine stepH (i := 36) (d := 78) (v := (.bool true)) rfl rfl (by kernel_rfl) (by kernel_rfl) (by kernel_rfl) (fun _ _ _ h => h) (Or.inl ⟨by kernel_rfl, fun w' hw' => by kernel_rfl⟩) hS2 ?_
              simp only [List.set_cons_zero, List.set_cons_succ]
              refine stepH (i := 37) (d := 3) (v := (.bool true)) rfl rfl (by kernel_rfl) (by kernel_rfl) (by kernel_rfl) (fun _ _ _ h => h) (Or.inl ⟨by kernel_rfl, fun w' hw' => by kernel_rfl⟩) hS2 ?_
              simp only [List.set_cons_zero, List.set_cons_succ]
              refine wpAnyH_done (by kernel_rfl) ?_ _
              clear hSd s2 s4 s5 s6 hS0 hS
              go_wp2
              all_goals (go_ret; refine ⟨congrArg (fun b => Ending.returned (.int .i64 b)) ?_, (one_box _ _).drew⟩)
              all_goals (unfold mayE mayB; grind)
            · obtain ⟨S, hSd⟩ : ∃ S : World → Prop, ∀ w', S w' ↔ Blk w' w.heap.size 65 #[.int .i64 s, .int .i64 n, .int .i64 p, .int .i64 0, .bool true, .int .i64 m, .bool false] := ⟨fun w' => Blk w' w.heap.size 65 #[.int .i64 s, .int .i64 n, .int .i64 p, .int .i64 0, .bool true, .int .i64 m, .bool false], fun _ => Iff.rfl⟩
              have s2 : ∀ w', S w' → w'.cell? ⟨w.heap.size, 2, none⟩ = some (.int .i64 p) := fun w' h' => (((hSd w').1 h').cell 2).trans rfl
              have s4 : ∀ w', S w' → w'.cell? ⟨w.heap.size, 4, none⟩ = some (.bool true) := fun w' h' => (((hSd w').1 h').cell 4).trans rfl
              have s5 : ∀ w', S w' → w'.cell? ⟨w.heap.size, 5, none⟩ = some (.int .i64 m) := fun w' h' => (((hSd w').1 h').cell 5).trans rfl
              have s6 : ∀ w', S w' → w'.cell? ⟨w.heap.size, 6, none⟩ = some (.bool false) := fun w' h' => (((hSd w').1 h').cell 6).trans rfl
              have hS0 : S (w.alloc (.cells #[.int .i64 s, .int .i64 n, .int .i64 p, .int .i64 0, .bool true, .int .i64 m, .bool false] 65)).drew := (hSd _).2 (Blk.new w 65 #[.int .i64 s, .int .i64 n, .int .i64 p, .int .i64 0, .bool true, .int .i64 m, .bool false])
              refine wp_region_held_drew (S := S) (by kernel_rfl) hS0 (fun hS => ?_)
              refine stepH (i := 0) (d := 42) (v := (.bool true)) rfl rfl (by kernel_rfl) (by kernel_rfl) (by kernel_rfl) (fun _ _ _ h => h) (Or.inl ⟨by kernel_rfl, fun w' hw' => by kernel_rfl⟩) hS ?_
              simp only [List.set_cons_zero, List.set_cons_succ]
              refine stepH (i := 1) (d := 43) (v := (.bool true)) rfl rfl (by kernel_rfl) (by kernel_rfl) (by kernel_rfl) (fun _ _ _ h => h) (Or.inl ⟨by kernel_rfl, fun w' hw' => by kernel_rfl⟩) hS ?_
              simp only [List.set_cons_zero, List.set_cons_succ]
              refine stepH (i := 2) (d := 44) (v := (.pointer (some ⟨w.heap.size, 5, none⟩))) rfl rfl (by kernel_rfl) (by kernel_rfl) (by kernel_rfl) (fun _ _ _ h => h) (Or.inl ⟨by kernel_rfl, fun w' hw' => by kernel_rfl⟩) hS ?_
              simp only [List.set_cons_zero, List.set_cons_succ]
              refine stepH (i := 3) (d := 45) (v := (.int .i64 m)) rfl rfl (by kernel_rfl) (by kernel_rfl) (by kernel_rfl) (fun _ _ _ h => h) (Or.inl ⟨by kernel_rfl, fun w' hw' => exec_load 3 _ rfl ⟨w.heap.size, 5, none⟩ rfl (by simp [go_sem, s5 w' hw'])⟩) hS ?_
              simp only [List.set_cons_zero, List.set_cons_succ]
              refine stepH (i := 4) (d := 46) (v := (.bool true)) rfl rfl (by kernel_rfl) (by kernel_rfl) (by kernel_rfl) (fun _ _ _ h => h) (Or.inl ⟨by kernel_rfl, fun w' hw' => exec_bin .geq 3 3 _ _ rfl (.int .i64 m) (.int .i64 0) rfl rfl (by simp [go_sem]) (by simp [go_sem]; try omega)⟩) hS ?_
              simp only [List.set_cons_zero, List.set_cons_succ]
              refine stepH (i := 5) (d := 47) (v := (.bool true)) rfl rfl (by kernel_rfl) (by kernel_rfl) (by kernel_rfl) (fun _ _ _ h => h) (Or.inl ⟨by kernel_rfl, fun w' hw' => by kernel_rfl⟩) hS ?_
              simp only [List.set_cons_zero, List.set_cons_succ]
              refine stepH (i := 6) (d := 48) (v := (.bool true)) rfl rfl (by kernel_rfl) (by kernel_rfl) (by kernel_rfl) (fun _ _ _ h => h) (Or.inl ⟨by kernel_rfl, fun w' hw' => by kernel_rfl⟩) hS ?_
              simp only [List.set_cons_zero, List.set_cons_succ]
              refine stepH (i := 7) (d := 49) (v := (.pointer (some ⟨w.heap.size, 5, none⟩))) rfl rfl (by kernel_rfl) (by kernel_rfl) (by kernel_rfl) (fun _ _ _ h => h) (Or.inl ⟨by kernel_rfl, fun w' hw' => by kernel_rfl⟩) hS ?_
              simp only [List.set_cons_zero, List.set_cons_succ]
              refine stepH (i := 8) (d := 50) (v := (.int .i64 m)) rfl rfl (by kernel_rfl) (by kernel_rfl) (by kernel_rfl) (fun _ _ _ h => h) (Or.inl ⟨by kernel_rfl, fun w' hw' => exec_load 3 _ rfl ⟨w.heap.size, 5, none⟩ rfl (by simp [go_sem, s5 w' hw'])⟩) hS ?_
              simp only [List.set_cons_zero, List.set_cons_succ]
              refine stepH (i := 9) (d := 51) (v := (.bool true)) rfl rfl (by kernel_rfl) (by kernel_rfl) (by kernel_rfl) (fun _ _ _ h => h) (Or.inl ⟨by kernel_rfl, fun w' hw' => exec_bin .lss 3 3 _ _ rfl (.int .i64 m) (.int .i64 1024) rfl rfl (by simp [go_sem]) (by simp [go_sem]; try omega)⟩) hS ?_
              simp only [List.set_cons_zero, List.set_cons_succ]
              refine stepH (i := 10) (d := 52) (v := (.bool true)) rfl rfl (by kernel_rfl) (by kernel_rfl) (by kernel_rfl) (fun _ _ _ h => h) (Or.inl ⟨by kernel_rfl, fun w' hw' => by kernel_rfl⟩) hS ?_
              simp only [List.set_cons_zero, List.set_cons_succ]
              refine stepH (i := 11) (d := 53) (v := (.bool true)) rfl rfl (by kernel_rfl) (by kernel_rfl) (by kernel_rfl) (fun _ _ _ h => h) (Or.inl ⟨by kernel_rfl, fun w' hw' => by kernel_rfl⟩) hS ?_
              simp only [List.set_cons_zero, List.set_cons_succ]
              refine stepH (i := 12) (d := 54) (v := (.pointer (some ⟨w.heap.size, 4, none⟩))) rfl rfl (by kernel_rfl) (by kernel_rfl) (by kernel_rfl) (fun _ _ _ h => h) (Or.inl ⟨by kernel_rfl, fun w' hw' => by kernel_rfl⟩) hS ?_
              simp only [List.set_cons_zero, List.set_cons_succ]
              refine stepH (i := 13) (d := 55) (v := (.bool true)) rfl rfl (by kernel_rfl) (by kernel_rfl) (by kernel_rfl) (fun _ _ _ h => h) (Or.inl ⟨by kernel_rfl, fun w' hw' => exec_load 4 _ rfl ⟨w.heap.size, 4, none⟩ rfl (by simp [go_sem, s4 w' hw'])⟩) hS ?_
              simp only [List.set_cons_zero, List.set_cons_succ]
              refine stepH (i := 14) (d := 56) (v := (.bool true)) rfl rfl (by kernel_rfl) (by kernel_rfl) (by kernel_rfl) (fun _ _ _ h => h) (Or.inl ⟨by kernel_rfl, fun w' hw' => by kernel_rfl⟩) hS ?_
              simp only [List.set_cons_zero, List.set_cons_succ]
              refine stepH (i := 15) (d := 57) (v := undef) rfl rfl (by kernel_rfl) (by kernel_rfl) (by kernel_rfl) (fun _ _ _ h => h) (Or.inr ⟨rfl, rfl⟩) hS ?_
              refine stepH (i := 16) (d := 58) (v := undef) rfl rfl (by kernel_rfl) (by kernel_rfl) (by kernel_rfl) (fun _ _ _ h => h) (Or.inr ⟨rfl, rfl⟩) hS ?_
              refine stepH (i := 17) (d := 59) (v := undef) rfl rfl (by kernel_rfl) (by kernel_rfl) (by kernel_rfl) (fun _ _ _ h => h) (Or.inr ⟨rfl, rfl⟩) hS ?_
              refine stepH (i := 18) (d := 60) (v := (.bool true)) rfl rfl (by kernel_rfl) (by kernel_rfl) (by kernel_rfl) (fun _ _ _ h => h) (Or.inl ⟨by kernel_rfl, fun w' hw' => by kernel_rfl⟩) hS ?_
              simp only [List.set_cons_zero, List.set_cons_succ]
              refine stepH (i := 19) (d := 61) (v := (.bool true)) rfl rfl (by kernel_rfl) (by kernel_rfl) (by kernel_rfl) (fun _ _ _ h => h) (Or.inl ⟨by kernel_rfl, fun w' hw' => by kernel_rfl⟩) hS ?_
              simp only [List.set_cons_zero, List.set_cons_succ]
              refine stepH (i := 20) (d := 62) (v := (.bool true)) rfl rfl (by kernel_rfl) (by kernel_rfl) (by kernel_rfl) (fun _ _ _ h => h) (Or.inl ⟨by kernel_rfl, fun w' hw' => by kernel_rfl⟩) hS ?_
              simp only [List.set_cons_zero, List.set_cons_succ]
              refine stepH (i := 21) (d := 63) (v := (.pointer (some ⟨w.heap.size, 4, none⟩))) rfl rfl (by kernel_rfl) (by kernel_rfl) (by kernel_rfl) (fun _ _ _ h => h) (Or.inl ⟨by kernel_rfl, fun w' hw' => by kernel_rfl⟩) hS ?_
              simp only [List.set_cons_zero, List.set_cons_succ]
              refine stepH (i := 22) (d := 64) (v := (.bool true)) rfl rfl (by kernel_rfl) (by kernel_rfl) (by kernel_rfl) (fun _ _ _ h => h) (Or.inl ⟨by kernel_rfl, fun w' hw' => exec_load 4 _ rfl ⟨w.heap.size, 4, none⟩ rfl (by simp [go_sem, s4 w' hw'])⟩) hS ?_
              simp only [List.set_cons_zero, List.set_cons_succ]
              refine stepH (i := 23) (d := 65) (v := (.bool true)) rfl rfl (by kernel_rfl) (by kernel_rfl) (by kernel_rfl) (fun _ _ _ h => h) (Or.inl ⟨by kernel_rfl, fun w' hw' => by kernel_rfl⟩) hS ?_
              simp only [List.set_cons_zero, List.set_cons_succ]
              refine stepH (i := 24) (d := 66) (v := (.pointer (some ⟨w.heap.size, 6, none⟩))) rfl rfl (by kernel_rfl) (by kernel_rfl) (by kernel_rfl) (fun _ _ _ h => h) (Or.inl ⟨by kernel_rfl, fun w' hw' => by kernel_rfl⟩) hS ?_
              simp only [List.set_cons_zero, List.set_cons_succ]
              refine stepH (i := 25) (d := 67) (v := (.bool false)) rfl rfl (by kernel_rfl) (by kernel_rfl) (by kernel_rfl) (fun _ _ _ h => h) (Or.inl ⟨by kernel_rfl, fun w' hw' => exec_load 4 _ rfl ⟨w.heap.size, 6, none⟩ rfl (by simp [go_sem, s6 w' hw'])⟩) hS ?_
              simp only [List.set_cons_zero, List.set_cons_succ]
              refine stepH (i := 26) (d := 68) (v := (.bool false)) rfl rfl (by kernel_rfl) (by kernel_rfl) (by kernel_rfl) (fun _ _ _ h => h) (Or.inl ⟨by kernel_rfl, fun w' hw' => by kernel_rfl⟩) hS ?_
              simp only [List.set_cons_zero, List.set_cons_succ]
              refine stepH (i := 27) (d := 69) (v := (.bool true)) rfl rfl (by kernel_rfl) (by kernel_rfl) (by kernel_rfl) (fun _ _ _ h => h) (Or.inl ⟨by kernel_rfl, fun w' hw' => by kernel_rfl⟩) hS ?_
              simp only [List.set_cons_zero, List.set_cons_succ]
              refine stepH (i := 28) (d := 70) (v := (.bool true)) rfl rfl (by kernel_rfl) (by kernel_rfl) (by kernel_rfl) (fun _ _ _ h => h) (Or.inl ⟨by kernel_rfl, fun w' hw' => by kernel_rfl⟩) hS ?_
              simp only [List.set_cons_zero, List.set_cons_succ]
              refine stepH (i := 29) (d := 71) (v := (.bool true)) rfl rfl (by kernel_rfl) (by kernel_rfl) (by kernel_rfl) (fun _ _ _ h => h) (Or.inl ⟨by kernel_rfl, fun w' hw' => by kernel_rfl⟩) hS ?_
              simp only [List.set_cons_zero, List.set_cons_succ]
              refine stepH (i := 30) (d := 72) (v := (.pointer (some ⟨w.heap.size, 2, none⟩))) rfl rfl (by kernel_rfl) (by kernel_rfl) (by kernel_rfl) (fun _ _ _ h => h) (Or.inl ⟨by kernel_rfl, fun w' hw' => by kernel_rfl⟩) hS ?_
              simp only [List.set_cons_zero, List.set_cons_succ]
              refine stepH (i := 31) (d := 73) (v := (.int .i64 p)) rfl rfl (by kernel_rfl) (by kernel_rfl) (by kernel_rfl) (fun _ _ _ h => h) (Or.inl ⟨by kernel_rfl, fun w' hw' => exec_load 3 _ rfl ⟨w.heap.size, 2, none⟩ rfl (by simp [go_sem, s2 w' hw'])⟩) hS ?_
              simp only [List.set_cons_zero, List.set_cons_succ]
              refine stepH (i := 32) (d := 74) (v := (.pointer (some ⟨w.heap.size, 2, none⟩))) rfl rfl (by kernel_rfl) (by kernel_rfl) (by kernel_rfl) (fun _ _ _ h => h) (Or.inl ⟨by kernel_rfl, fun w' hw' => by kernel_rfl⟩) hS ?_
              simp only [List.set_cons_zero, List.set_cons_succ]
              refine stepH (i := 33) (d := 75) (v := (.int .i64 p)) rfl rfl (by kernel_rfl) (by kernel_rfl) (by kernel_rfl) (fun _ _ _ h => h) (Or.inl ⟨by kernel_rfl, fun w' hw' => exec_load 3 _ rfl ⟨w.heap.size, 2, none⟩ rfl (by simp [go_sem, s2 w' hw'])⟩) hS ?_
              simp only [List.set_cons_zero, List.set_cons_succ]
              refine stepCall (i := 34) (d := 76) (f := 51) (args := #[.int .i64 p]) rfl rfl (by kernel_rfl) (by kernel_rfl) (exec_call 51 [.tmp 75] _ rfl rfl (enters_of Try.func51 (by kernel_rfl) rfl) _) (real_any p _) ?_
              rintro e w5 ⟨rfl, rfl⟩
              have hS2 := hS
              refine ⟨_, rfl, hS2, ?_⟩
              simp only [List.set_cons_zero, List.set_cons_succ]
              refine stepH (i := 35) (d := 77) (v := (.bool false)) rfl rfl (by kernel_rfl) (by kernel_rfl) (by kernel_rfl) (fun _ _ _ h => h) (Or.inl ⟨by kernel_rfl, fun w' hw' => exec_bin .eql 3 3 _ _ rfl (.int .i64 p) (.int .i64 (bits .and .i64 p 248)) rfl rfl (by simp [go_sem]) (by simp [go_sem]; omega)⟩) hS2 ?_
              simp only [List.set_cons_zero, List.set_cons_succ]
              refine stepH (i := 36) (d := 78) (v := (.bool false)) rfl rfl (by kernel_rfl) (by kernel_rfl) (by kernel_rfl) (fun _ _ _ h => h) (Or.inl ⟨by kernel_rfl, fun w' hw' => by kernel_rfl⟩) hS2 ?_
              simp only [List.set_cons_zero, List.set_cons_succ]
              refine stepH (i := 37) (d := 3) (v := (.bool false)) rfl rfl (by kernel_rfl) (by kernel_rfl) (by kernel_rfl) (fun _ _ _ h => h) (Or.inl ⟨by kernel_rfl, fun w' hw' => by kernel_rfl⟩) hS2 ?_
              simp only [List.set_cons_zero, List.set_cons_succ]
              refine wpAnyH_done (by kernel_rfl) ?_ _
              clear hSd s2 s4 s5 s6 hS0 hS
              go_wp2
              all_goals (go_ret; refine ⟨congrArg (fun b => Ending.returned (.int .i64 b)) ?_, (one_box _ _).drew⟩)
              all_goals (unfold mayE mayB; grind)
        | false =>
          by_cases mz : m = 0
          · by_cases p8 : p % 8 = 0
            · obtain ⟨S, hSd⟩ : ∃ S : World → Prop, ∀ w', S w' ↔ Blk w' w.heap.size 65 #[.int .i64 s, .int .i64 n, .int .i64 p, .int .i64 0, .bool false, .int .i64 m, .bool t] := ⟨fun w' => Blk w' w.heap.size 65 #[.int .i64 s, .int .i64 n, .int .i64 p, .int .i64 0, .bool false, .int .i64 m, .bool t], fun _ => Iff.rfl⟩
              have s2 : ∀ w', S w' → w'.cell? ⟨w.heap.size, 2, none⟩ = some (.int .i64 p) := fun w' h' => (((hSd w').1 h').cell 2).trans rfl
              have s4 : ∀ w', S w' → w'.cell? ⟨w.heap.size, 4, none⟩ = some (.bool false) := fun w' h' => (((hSd w').1 h').cell 4).trans rfl
              have s5 : ∀ w', S w' → w'.cell? ⟨w.heap.size, 5, none⟩ = some (.int .i64 m) := fun w' h' => (((hSd w').1 h').cell 5).trans rfl
              have s6 : ∀ w', S w' → w'.cell? ⟨w.heap.size, 6, none⟩ = some (.bool t) := fun w' h' => (((hSd w').1 h').cell 6).trans rfl
              have hS0 : S (w.alloc (.cells #[.int .i64 s, .int .i64 n, .int .i64 p, .int .i64 0, .bool false, .int .i64 m, .bool t] 65)).drew := (hSd _).2 (Blk.new w 65 #[.int .i64 s, .int .i64 n, .int .i64 p, .int .i64 0, .bool false, .int .i64 m, .bool t])
              refine wp_region_held_drew (S := S) (by kernel_rfl) hS0 (fun hS => ?_)
              refine stepH (i := 0) (d := 42) (v := (.bool true)) rfl rfl (by kernel_rfl) (by kernel_rfl) (by kernel_rfl) (fun _ _ _ h => h) (Or.inl ⟨by kernel_rfl, fun w' hw' => by kernel_rfl⟩) hS ?_
              simp only [List.set_cons_zero, List.set_cons_succ]
              refine stepH (i := 1) (d := 43) (v := (.bool true)) rfl rfl (by kernel_rfl) (by kernel_rfl) (by kernel_rfl) (fun _ _ _ h => h) (Or.inl ⟨by kernel_rfl, fun w' hw' => by kernel_rfl⟩) hS ?_
              simp only [List.set_cons_zero, List.set_cons_succ]
              refine stepH (i := 2) (d := 44) (v := (.pointer (some ⟨w.heap.size, 5, none⟩))) rfl rfl (by kernel_rfl) (by kernel_rfl) (by kernel_rfl) (fun _ _ _ h => h) (Or.inl ⟨by kernel_rfl, fun w' hw' => by kernel_rfl⟩) hS ?_
              simp only [List.set_cons_zero, List.set_cons_succ]
              refine stepH (i := 3) (d := 45) (v := (.int .i64 m)) rfl rfl (by kernel_rfl) (by kernel_rfl) (by kernel_rfl) (fun _ _ _ h => h) (Or.inl ⟨by kernel_rfl, fun w' hw' => exec_load 3 _ rfl ⟨w.heap.size, 5, none⟩ rfl (by simp [go_sem, s5 w' hw'])⟩) hS ?_
              simp only [List.set_cons_zero, List.set_cons_succ]
              refine stepH (i := 4) (d := 46) (v := (.bool true)) rfl rfl (by kernel_rfl) (by kernel_rfl) (by kernel_rfl) (fun _ _ _ h => h) (Or.inl ⟨by kernel_rfl, fun w' hw' => exec_bin .geq 3 3 _ _ rfl (.int .i64 m) (.int .i64 0) rfl rfl (by simp [go_sem]) (by simp [go_sem]; try omega)⟩) hS ?_
              simp only [List.set_cons_zero, List.set_cons_succ]
              refine stepH (i := 5) (d := 47) (v := (.bool true)) rfl rfl (by kernel_rfl) (by kernel_rfl) (by kernel_rfl) (fun _ _ _ h => h) (Or.inl ⟨by kernel_rfl, fun w' hw' => by kernel_rfl⟩) hS ?_
              simp only [List.set_cons_zero, List.set_cons_succ]
              refine stepH (i := 6) (d := 48) (v := (.bool true)) rfl rfl (by kernel_rfl) (by kernel_rfl) (by kernel_rfl) (fun _ _ _ h => h) (Or.inl ⟨by kernel_rfl, fun w' hw' => by kernel_rfl⟩) hS ?_
              simp only [List.set_cons_zero, List.set_cons_succ]
              refine stepH (i := 7) (d := 49) (v := (.pointer (some ⟨w.heap.size, 5, none⟩))) rfl rfl (by kernel_rfl) (by kernel_rfl) (by kernel_rfl) (fun _ _ _ h => h) (Or.inl ⟨by kernel_rfl, fun w' hw' => by kernel_rfl⟩) hS ?_
              simp only [List.set_cons_zero, List.set_cons_succ]
              refine stepH (i := 8) (d := 50) (v := (.int .i64 m)) rfl rfl (by kernel_rfl) (by kernel_rfl) (by kernel_rfl) (fun _ _ _ h => h) (Or.inl ⟨by kernel_rfl, fun w' hw' => exec_load 3 _ rfl ⟨w.heap.size, 5, none⟩ rfl (by simp [go_sem, s5 w' hw'])⟩) hS ?_
              simp only [List.set_cons_zero, List.set_cons_succ]
              refine stepH (i := 9) (d := 51) (v := (.bool true)) rfl rfl (by kernel_rfl) (by kernel_rfl) (by kernel_rfl) (fun _ _ _ h => h) (Or.inl ⟨by kernel_rfl, fun w' hw' => exec_bin .lss 3 3 _ _ rfl (.int .i64 m) (.int .i64 1024) rfl rfl (by simp [go_sem]) (by simp [go_sem]; try omega)⟩) hS ?_
              simp only [List.set_cons_zero, List.set_cons_succ]
              refine stepH (i := 10) (d := 52) (v := (.bool true)) rfl rfl (by kernel_rfl) (by kernel_rfl) (by kernel_rfl) (fun _ _ _ h => h) (Or.inl ⟨by kernel_rfl, fun w' hw' => by kernel_rfl⟩) hS ?_
              simp only [List.set_cons_zero, List.set_cons_succ]
              refine stepH (i := 11) (d := 53) (v := (.bool true)) rfl rfl (by kernel_rfl) (by kernel_rfl) (by kernel_rfl) (fun _ _ _ h => h) (Or.inl ⟨by kernel_rfl, fun w' hw' => by kernel_rfl⟩) hS ?_
              simp only [List.set_cons_zero, List.set_cons_succ]
              refine stepH (i := 12) (d := 54) (v := (.pointer (some ⟨w.heap.size, 4, none⟩))) rfl rfl (by kernel_rfl) (by kernel_rfl) (by kernel_rfl) (fun _ _ _ h => h) (Or.inl ⟨by kernel_rfl, fun w' hw' => by kernel_rfl⟩) hS ?_
              simp only [List.set_cons_zero, List.set_cons_succ]
              refine stepH (i := 13) (d := 55) (v := (.bool false)) rfl rfl (by kernel_rfl) (by kernel_rfl) (by kernel_rfl) (fun _ _ _ h => h) (Or.inl ⟨by kernel_rfl, fun w' hw' => exec_load 4 _ rfl ⟨w.heap.size, 4, none⟩ rfl (by simp [go_sem, s4 w' hw'])⟩) hS ?_
              simp only [List.set_cons_zero, List.set_cons_succ]
              refine stepH (i := 14) (d := 56) (v := (.bool false)) rfl rfl (by kernel_rfl) (by kernel_rfl) (by kernel_rfl) (fun _ _ _ h => h) (Or.inl ⟨by kernel_rfl, fun w' hw' => by kernel_rfl⟩) hS ?_
              simp only [List.set_cons_zero, List.set_cons_succ]
              refine stepH (i := 15) (d := 57) (v := (.pointer (some ⟨w.heap.size, 5, none⟩))) rfl rfl (by kernel_rfl) (by kernel_rfl) (by kernel_rfl) (fun _ _ _ h => h) (Or.inl ⟨by kernel_rfl, fun w' hw' => by kernel_rfl⟩) hS ?_
              simp only [List.set_cons_zero, List.set_cons_succ]
              refine stepH (i := 16) (d := 58) (v := (.int .i64 m)) rfl rfl (by kernel_rfl) (by kernel_rfl) (by kernel_rfl) (fun _ _ _ h => h) (Or.inl ⟨by kernel_rfl, fun w' hw' => exec_load 3 _ rfl ⟨w.heap.size, 5, none⟩ rfl (by simp [go_sem, s5 w' hw'])⟩) hS ?_
              simp only [List.set_cons_zero, List.set_cons_succ]
              refine stepH (i := 17) (d := 59) (v := (.bool true)) rfl rfl (by kernel_rfl) (by kernel_rfl) (by kernel_rfl) (fun _ _ _ h => h) (Or.inl ⟨by kernel_rfl, fun w' hw' => exec_bin .eql 3 3 _ _ rfl (.int .i64 m) (.int .i64 0) rfl rfl (by simp [go_sem]) (by simp [go_sem]; try omega)⟩) hS ?_
              simp only [List.set_cons_zero, List.set_cons_succ]
              refine stepH (i := 18) (d := 60) (v := (.bool true)) rfl rfl (by kernel_rfl) (by kernel_rfl) (by kernel_rfl) (fun _ _ _ h => h) (Or.inl ⟨by kernel_rfl, fun w' hw' => by kernel_rfl⟩) hS ?_
              simp only [List.set_cons_zero, List.set_cons_succ]
              refine stepH (i := 19) (d := 61) (v := (.bool true)) rfl rfl (by kernel_rfl) (by kernel_rfl) (by kernel_rfl) (fun _ _ _ h => h) (Or.inl ⟨by kernel_rfl, fun w' hw' => by kernel_rfl⟩) hS ?_
              simp only [List.set_cons_zero, List.set_cons_succ]
              refine stepH (i := 20) (d := 62) (v := (.bool true)) rfl rfl (by kernel_rfl) (by kernel_rfl) (by kernel_rfl) (fun _ _ _ h => h) (Or.inl ⟨by kernel_rfl, fun w' hw' => by kernel_rfl⟩) hS ?_
              simp only [List.set_cons_zero, List.set_cons_succ]
              refine stepH (i := 21) (d := 63) (v := (.pointer (some ⟨w.heap.size, 4, none⟩))) rfl rfl (by kernel_rfl) (by kernel_rfl) (by kernel_rfl) (fun _ _ _ h => h) (Or.inl ⟨by kernel_rfl, fun w' hw' => by kernel_rfl⟩) hS ?_
              simp only [List.set_cons_zero, List.set_cons_succ]
              refine stepH (i := 22) (d := 64) (v := (.bool false)) rfl rfl (by kernel_rfl) (by kernel_rfl) (by kernel_rfl) (fun _ _ _ h => h) (Or.inl ⟨by kernel_rfl, fun w' hw' => exec_load 4 _ rfl ⟨w.heap.size, 4, none⟩ rfl (by simp [go_sem, s4 w' hw'])⟩) hS ?_
              simp only [List.set_cons_zero, List.set_cons_succ]
              refine stepH (i := 23) (d := 65) (v := (.bool false)) rfl rfl (by kernel_rfl) (by kernel_rfl) (by kernel_rfl) (fun _ _ _ h => h) (Or.inl ⟨by kernel_rfl, fun w' hw' => by kernel_rfl⟩) hS ?_
              simp only [List.set_cons_zero, List.set_cons_succ]
              refine stepH (i := 24) (d := 66) (v := undef) rfl rfl (by kernel_rfl) (by kernel_rfl) (by kernel_rfl) (fun _ _ _ h => h) (Or.inr ⟨rfl, rfl⟩) hS ?_
              refine stepH (i := 25) (d := 67) (v := undef) rfl rfl (by kernel_rfl) (by kernel_rfl) (by kernel_rfl) (fun _ _ _ h => h) (Or.inr ⟨rfl, rfl⟩) hS ?_
              refine stepH (i := 26) (d := 68) (v := (.bool false)) rfl rfl (by kernel_rfl) (by kernel_rfl) (by kernel_rfl) (fun _ _ _ h => h) (Or.inl ⟨by kernel_rfl, fun w' hw' => by kernel_rfl⟩) hS ?_
              simp only [List.set_cons_zero, List.set_cons_succ]
              refine stepH (i := 27) (d := 69) (v := (.bool true)) rfl rfl (by kernel_rfl) (by kernel_rfl) (by kernel_rfl) (fun _ _ _ h => h) (Or.inl ⟨by kernel_rfl, fun w' hw' => by kernel_rfl⟩) hS ?_
              simp only [List.set_cons_zero, List.set_cons_succ]
              refine stepH (i := 28) (d := 70) (v := (.bool true)) rfl rfl (by kernel_rfl) (by kernel_rfl) (by kernel_rfl) (fun _ _ _ h => h) (Or.inl ⟨by kernel_rfl, fun w' hw' => by kernel_rfl⟩) hS ?_
              simp only [List.set_cons_zero, List.set_cons_succ]
              refine stepH (i := 29) (d := 71) (v := (.bool true)) rfl rfl (by kernel_rfl) (by kernel_rfl) (by kernel_rfl) (fun _ _ _ h => h) (Or.inl ⟨by kernel_rfl, fun w' hw' => by kernel_rfl⟩) hS ?_
              simp only [List.set_cons_zero, List.set_cons_succ]
              refine stepH (i := 30) (d := 72) (v := (.pointer (some ⟨w.heap.size, 2, none⟩))) rfl rfl (by kernel_rfl) (by kernel_rfl) (by kernel_rfl) (fun _ _ _ h => h) (Or.inl ⟨by kernel_rfl, fun w' hw' => by kernel_rfl⟩) hS ?_
              simp only [List.set_cons_zero, List.set_cons_succ]
              refine stepH (i := 31) (d := 73) (v := (.int .i64 p)) rfl rfl (by kernel_rfl) (by kernel_rfl) (by kernel_rfl) (fun _ _ _ h => h) (Or.inl ⟨by kernel_rfl, fun w' hw' => exec_load 3 _ rfl ⟨w.heap.size, 2, none⟩ rfl (by simp [go_sem, s2 w' hw'])⟩) hS ?_
              simp only [List.set_cons_zero, List.set_cons_succ]
              refine stepH (i := 32) (d := 74) (v := (.pointer (some ⟨w.heap.size, 2, none⟩))) rfl rfl (by kernel_rfl) (by kernel_rfl) (by kernel_rfl) (fun _ _ _ h => h) (Or.inl ⟨by kernel_rfl, fun w' hw' => by kernel_rfl⟩) hS ?_
              simp only [List.set_cons_zero, List.set_cons_succ]
              refine stepH (i := 33) (d := 75) (v := (.int .i64 p)) rfl rfl (by kernel_rfl) (by kernel_rfl) (by kernel_rfl) (fun _ _ _ h => h) (Or.inl ⟨by kernel_rfl, fun w' hw' => exec_load 3 _ rfl ⟨w.heap.size, 2, none⟩ rfl (by simp [go_sem, s2 w' hw'])⟩) hS ?_
              simp only [List.set_cons_zero, List.set_cons_succ]
              refine stepCall (i := 34) (d := 76) (f := 51) (args := #[.int .i64 p]) rfl rfl (by kernel_rfl) (by kernel_rfl) (exec_call 51 [.tmp 75] _ rfl rfl (enters_of Try.func51 (by kernel_rfl) rfl) _) (real_any p _) ?_
              rintro e w5 ⟨rfl, rfl⟩
              have hS2 := hS
              refine ⟨_, rfl, hS2, ?_⟩
              simp only [List.set_cons_zero, List.set_cons_succ]
              refine stepH (i := 35) (d := 77) (v := (.bool true)) rfl rfl (by kernel_rfl) (by kernel_rfl) (by kernel_rfl) (fun _ _ _ h => h) (Or.inl ⟨by kernel_rfl, fun w' hw' => exec_bin .eql 3 3 _ _ rfl (.int .i64 p) (.int .i64 (bits .and .i64 p 248)) rfl rfl (by simp [go_sem]) (by simp [go_sem]; omega)⟩) hS2 ?_
              simp only [List.set_cons_zero, List.set_cons_succ]
              refine stepH (i := 36) (d := 78) (v := (.bool true)) rfl rfl (by kernel_rfl) (by kernel_rfl) (by kernel_rfl) (fun _ _ _ h => h) (Or.inl ⟨by kernel_rfl, fun w' hw' => by kernel_rfl⟩) hS2 ?_
              simp only [List.set_cons_zero, List.set_cons_succ]
              refine stepH (i := 37) (d := 3) (v := (.bool true)) rfl rfl (by kernel_rfl) (by kernel_rfl) (by kernel_rfl) (fun _ _ _ h => h) (Or.inl ⟨by kernel_rfl, fun w' hw' => by kernel_rfl⟩) hS2 ?_
              simp only [List.set_cons_zero, List.set_cons_succ]
              refine wpAnyH_done (by kernel_rfl) ?_ _
              clear hSd s2 s4 s5 s6 hS0 hS
              go_wp2
              all_goals (go_ret; refine ⟨congrArg (fun b => Ending.returned (.int .i64 b)) ?_, (one_box _ _).drew⟩)
              all_goals (unfold mayE mayB; grind)
            · obtain ⟨S, hSd⟩ : ∃ S : World → Prop, ∀ w', S w' ↔ Blk w' w.heap.size 65 #[.int .i64 s, .int .i64 n, .int .i64 p, .int .i64 0, .bool false, .int .i64 m, .bool t] := ⟨fun w' => Blk w' w.heap.size 65 #[.int .i64 s, .int .i64 n, .int .i64 p, .int .i64 0, .bool false, .int .i64 m, .bool t], fun _ => Iff.rfl⟩
              have s2 : ∀ w', S w' → w'.cell? ⟨w.heap.size, 2, none⟩ = some (.int .i64 p) := fun w' h' => (((hSd w').1 h').cell 2).trans rfl
              have s4 : ∀ w', S w' → w'.cell? ⟨w.heap.size, 4, none⟩ = some (.bool false) := fun w' h' => (((hSd w').1 h').cell 4).trans rfl
              have s5 : ∀ w', S w' → w'.cell? ⟨w.heap.size, 5, none⟩ = some (.int .i64 m) := fun w' h' => (((hSd w').1 h').cell 5).trans rfl
              have s6 : ∀ w', S w' → w'.cell? ⟨w.heap.size, 6, none⟩ = some (.bool t) := fun w' h' => (((hSd w').1 h').cell 6).trans rfl
              have hS0 : S (w.alloc (.cells #[.int .i64 s, .int .i64 n, .int .i64 p, .int .i64 0, .bool false, .int .i64 m, .bool t] 65)).drew := (hSd _).2 (Blk.new w 65 #[.int .i64 s, .int .i64 n, .int .i64 p, .int .i64 0, .bool false, .int .i64 m, .bool t])
              refine wp_region_held_drew (S := S) (by kernel_rfl) hS0 (fun hS => ?_)
              refine stepH (i := 0) (d := 42) (v := (.bool true)) rfl rfl (by kernel_rfl) (by kernel_rfl) (by kernel_rfl) (fun _ _ _ h => h) (Or.inl ⟨by kernel_rfl, fun w' hw' => by kernel_rfl⟩) hS ?_
              simp only [List.set_cons_zero, List.set_cons_succ]
              refine stepH (i := 1) (d := 43) (v := (.bool true)) rfl rfl (by kernel_rfl) (by kernel_rfl) (by kernel_rfl) (fun _ _ _ h => h) (Or.inl ⟨by kernel_rfl, fun w' hw' => by kernel_rfl⟩) hS ?_
              simp only [List.set_cons_zero, List.set_cons_succ]
              refine stepH (i := 2) (d := 44) (v := (.pointer (some ⟨w.heap.size, 5, none⟩))) rfl rfl (by kernel_rfl) (by kernel_rfl) (by kernel_rfl) (fun _ _ _ h => h) (Or.inl ⟨by kernel_rfl, fun w' hw' => by kernel_rfl⟩) hS ?_
              simp only [List.set_cons_zero, List.set_cons_succ]
              refine stepH (i := 3) (d := 45) (v := (.int .i64 m)) rfl rfl (by kernel_rfl) (by kernel_rfl) (by kernel_rfl) (fun _ _ _ h => h) (Or.inl ⟨by kernel_rfl, fun w' hw' => exec_load 3 _ rfl ⟨w.heap.size, 5, none⟩ rfl (by simp [go_sem, s5 w' hw'])⟩) hS ?_
              simp only [List.set_cons_zero, List.set_cons_succ]
              refine stepH (i := 4) (d := 46) (v := (.bool true)) rfl rfl (by kernel_rfl) (by kernel_rfl) (by kernel_rfl) (fun _ _ _ h => h) (Or.inl ⟨by kernel_rfl, fun w' hw' => exec_bin .geq 3 3 _ _ rfl (.int .i64 m) (.int .i64 0) rfl rfl (by simp [go_sem]) (by simp [go_sem]; try omega)⟩) hS ?_
              simp only [List.set_cons_zero, List.set_cons_succ]
              refine stepH (i := 5) (d := 47) (v := (.bool true)) rfl rfl (by kernel_rfl) (by kernel_rfl) (by kernel_rfl) (fun _ _ _ h => h) (Or.inl ⟨by kernel_rfl, fun w' hw' => by kernel_rfl⟩) hS ?_
              simp only [List.set_cons_zero, List.set_cons_succ]
              refine stepH (i := 6) (d := 48) (v := (.bool true)) rfl rfl (by kernel_rfl) (by kernel_rfl) (by kernel_rfl) (fun _ _ _ h => h) (Or.inl ⟨by kernel_rfl, fun w' hw' => by kernel_rfl⟩) hS ?_
              simp only [List.set_cons_zero, List.set_cons_succ]
              refine stepH (i := 7) (d := 49) (v := (.pointer (some ⟨w.heap.size, 5, none⟩))) rfl rfl (by kernel_rfl) (by kernel_rfl) (by kernel_rfl) (fun _ _ _ h => h) (Or.inl ⟨by kernel_rfl, fun w' hw' => by kernel_rfl⟩) hS ?_
              simp only [List.set_cons_zero, List.set_cons_succ]
              refine stepH (i := 8) (d := 50) (v := (.int .i64 m)) rfl rfl (by kernel_rfl) (by kernel_rfl) (by kernel_rfl) (fun _ _ _ h => h) (Or.inl ⟨by kernel_rfl, fun w' hw' => exec_load 3 _ rfl ⟨w.heap.size, 5, none⟩ rfl (by simp [go_sem, s5 w' hw'])⟩) hS ?_
              simp only [List.set_cons_zero, List.set_cons_succ]
              refine stepH (i := 9) (d := 51) (v := (.bool true)) rfl rfl (by kernel_rfl) (by kernel_rfl) (by kernel_rfl) (fun _ _ _ h => h) (Or.inl ⟨by kernel_rfl, fun w' hw' => exec_bin .lss 3 3 _ _ rfl (.int .i64 m) (.int .i64 1024) rfl rfl (by simp [go_sem]) (by simp [go_sem]; try omega)⟩) hS ?_
              simp only [List.set_cons_zero, List.set_cons_succ]
              refine stepH (i := 10) (d := 52) (v := (.bool true)) rfl rfl (by kernel_rfl) (by kernel_rfl) (by kernel_rfl) (fun _ _ _ h => h) (Or.inl ⟨by kernel_rfl, fun w' hw' => by kernel_rfl⟩) hS ?_
              simp only [List.set_cons_zero, List.set_cons_succ]
              refine stepH (i := 11) (d := 53) (v := (.bool true)) rfl rfl (by kernel_rfl) (by kernel_rfl) (by kernel_rfl) (fun _ _ _ h => h) (Or.inl ⟨by kernel_rfl, fun w' hw' => by kernel_rfl⟩) hS ?_
              simp only [List.set_cons_zero, List.set_cons_succ]
              refine stepH (i := 12) (d := 54) (v := (.pointer (some ⟨w.heap.size, 4, none⟩))) rfl rfl (by kernel_rfl) (by kernel_rfl) (by kernel_rfl) (fun _ _ _ h => h) (Or.inl ⟨by kernel_rfl, fun w' hw' => by kernel_rfl⟩) hS ?_
              simp only [List.set_cons_zero, List.set_cons_succ]
              refine stepH (i := 13) (d := 55) (v := (.bool false)) rfl rfl (by kernel_rfl) (by kernel_rfl) (by kernel_rfl) (fun _ _ _ h => h) (Or.inl ⟨by kernel_rfl, fun w' hw' => exec_load 4 _ rfl ⟨w.heap.size, 4, none⟩ rfl (by simp [go_sem, s4 w' hw'])⟩) hS ?_
              simp only [List.set_cons_zero, List.set_cons_succ]
              refine stepH (i := 14) (d := 56) (v := (.bool false)) rfl rfl (by kernel_rfl) (by kernel_rfl) (by kernel_rfl) (fun _ _ _ h => h) (Or.inl ⟨by kernel_rfl, fun w' hw' => by kernel_rfl⟩) hS ?_
              simp only [List.set_cons_zero, List.set_cons_succ]
              refine stepH (i := 15) (d := 57) (v := (.pointer (some ⟨w.heap.size, 5, none⟩))) rfl rfl (by kernel_rfl) (by kernel_rfl) (by kernel_rfl) (fun _ _ _ h => h) (Or.inl ⟨by kernel_rfl, fun w' hw' => by kernel_rfl⟩) hS ?_
              simp only [List.set_cons_zero, List.set_cons_succ]
              refine stepH (i := 16) (d := 58) (v := (.int .i64 m)) rfl rfl (by kernel_rfl) (by kernel_rfl) (by kernel_rfl) (fun _ _ _ h => h) (Or.inl ⟨by kernel_rfl, fun w' hw' => exec_load 3 _ rfl ⟨w.heap.size, 5, none⟩ rfl (by simp [go_sem, s5 w' hw'])⟩) hS ?_
              simp only [List.set_cons_zero, List.set_cons_succ]
              refine stepH (i := 17) (d := 59) (v := (.bool true)) rfl rfl (by kernel_rfl) (by kernel_rfl) (by kernel_rfl) (fun _ _ _ h => h) (Or.inl ⟨by kernel_rfl, fun w' hw' => exec_bin .eql 3 3 _ _ rfl (.int .i64 m) (.int .i64 0) rfl rfl (by simp [go_sem]) (by simp [go_sem]; try omega)⟩) hS ?_
              simp only [List.set_cons_zero, List.set_cons_succ]
              refine stepH (i := 18) (d := 60) (v := (.bool true)) rfl rfl (by kernel_rfl) (by kernel_rfl) (by kernel_rfl) (fun _ _ _ h => h) (Or.inl ⟨by kernel_rfl, fun w' hw' => by kernel_rfl⟩) hS ?_
              simp only [List.set_cons_zero, List.set_cons_succ]
              refine stepH (i := 19) (d := 61) (v := (.bool true)) rfl rfl (by kernel_rfl) (by kernel_rfl) (by kernel_rfl) (fun _ _ _ h => h) (Or.inl ⟨by kernel_rfl, fun w' hw' => by kernel_rfl⟩) hS ?_
              simp only [List.set_cons_zero, List.set_cons_succ]
              refine stepH (i := 20) (d := 62) (v := (.bool true)) rfl rfl (by kernel_rfl) (by kernel_rfl) (by kernel_rfl) (fun _ _ _ h => h) (Or.inl ⟨by kernel_rfl, fun w' hw' => by kernel_rfl⟩) hS ?_
              simp only [List.set_cons_zero, List.set_cons_succ]
              refine stepH (i := 21) (d := 63) (v := (.pointer (some ⟨w.heap.size, 4, none⟩))) rfl rfl (by kernel_rfl) (by kernel_rfl) (by kernel_rfl) (fun _ _ _ h => h) (Or.inl ⟨by kernel_rfl, fun w' hw' => by kernel_rfl⟩) hS ?_
              simp only [List.set_cons_zero, List.set_cons_succ]
              refine stepH (i := 22) (d := 64) (v := (.bool false)) rfl rfl (by kernel_rfl) (by kernel_rfl) (by kernel_rfl) (fun _ _ _ h => h) (Or.inl ⟨by kernel_rfl, fun w' hw' => exec_load 4 _ rfl ⟨w.heap.size, 4, none⟩ rfl (by simp [go_sem, s4 w' hw'])⟩) hS ?_
              simp only [List.set_cons_zero, List.set_cons_succ]
              refine stepH (i := 23) (d := 65) (v := (.bool false)) rfl rfl (by kernel_rfl) (by kernel_rfl) (by kernel_rfl) (fun _ _ _ h => h) (Or.inl ⟨by kernel_rfl, fun w' hw' => by kernel_rfl⟩) hS ?_
              simp only [List.set_cons_zero, List.set_cons_succ]
              refine stepH (i := 24) (d := 66) (v := undef) rfl rfl (by kernel_rfl) (by kernel_rfl) (by kernel_rfl) (fun _ _ _ h => h) (Or.inr ⟨rfl, rfl⟩) hS ?_
              refine stepH (i := 25) (d := 67) (v := undef) rfl rfl (by kernel_rfl) (by kernel_rfl) (by kernel_rfl) (fun _ _ _ h => h) (Or.inr ⟨rfl, rfl⟩) hS ?_
              refine stepH (i := 26) (d := 68) (v := (.bool false)) rfl rfl (by kernel_rfl) (by kernel_rfl) (by kernel_rfl) (fun _ _ _ h => h) (Or.inl ⟨by kernel_rfl, fun w' hw' => by kernel_rfl⟩) hS ?_
              simp only [List.set_cons_zero, List.set_cons_succ]
              refine stepH (i := 27) (d := 69) (v := (.bool true)) rfl rfl (by kernel_rfl) (by kernel_rfl) (by kernel_rfl) (fun _ _ _ h => h) (Or.inl ⟨by kernel_rfl, fun w' hw' => by kernel_rfl⟩) hS ?_
              simp only [List.set_cons_zero, List.set_cons_succ]
              refine stepH (i := 28) (d := 70) (v := (.bool true)) rfl rfl (by kernel_rfl) (by kernel_rfl) (by kernel_rfl) (fun _ _ _ h => h) (Or.inl ⟨by kernel_rfl, fun w' hw' => by kernel_rfl⟩) hS ?_
              simp only [List.set_cons_zero, List.set_cons_succ]
              refine stepH (i := 29) (d := 71) (v := (.bool true)) rfl rfl (by kernel_rfl) (by kernel_rfl) (by kernel_rfl) (fun _ _ _ h => h) (Or.inl ⟨by kernel_rfl, fun w' hw' => by kernel_rfl⟩) hS ?_
              simp only [List.set_cons_zero, List.set_cons_succ]
              refine stepH (i := 30) (d := 72) (v := (.pointer (some ⟨w.heap.size, 2, none⟩))) rfl rfl (by kernel_rfl) (by kernel_rfl) (by kernel_rfl) (fun _ _ _ h => h) (Or.inl ⟨by kernel_rfl, fun w' hw' => by kernel_rfl⟩) hS ?_
              simp only [List.set_cons_zero, List.set_cons_succ]
              refine stepH (i := 31) (d := 73) (v := (.int .i64 p)) rfl rfl (by kernel_rfl) (by kernel_rfl) (by kernel_rfl) (fun _ _ _ h => h) (Or.inl ⟨by kernel_rfl, fun w' hw' => exec_load 3 _ rfl ⟨w.heap.size, 2, none⟩ rfl (by simp [go_sem, s2 w' hw'])⟩) hS ?_
              simp only [List.set_cons_zero, List.set_cons_succ]
              refine stepH (i := 32) (d := 74) (v := (.pointer (some ⟨w.heap.size, 2, none⟩))) rfl rfl (by kernel_rfl) (by kernel_rfl) (by kernel_rfl) (fun _ _ _ h => h) (Or.inl ⟨by kernel_rfl, fun w' hw' => by kernel_rfl⟩) hS ?_
              simp only [List.set_cons_zero, List.set_cons_succ]
              refine stepH (i := 33) (d := 75) (v := (.int .i64 p)) rfl rfl (by kernel_rfl) (by kernel_rfl) (by kernel_rfl) (fun _ _ _ h => h) (Or.inl ⟨by kernel_rfl, fun w' hw' => exec_load 3 _ rfl ⟨w.heap.size, 2, none⟩ rfl (by simp [go_sem, s2 w' hw'])⟩) hS ?_
              simp only [List.set_cons_zero, List.set_cons_succ]
              refine stepCall (i := 34) (d := 76) (f := 51) (args := #[.int .i64 p]) rfl rfl (by kernel_rfl) (by kernel_rfl) (exec_call 51 [.tmp 75] _ rfl rfl (enters_of Try.func51 (by kernel_rfl) rfl) _) (real_any p _) ?_
              rintro e w5 ⟨rfl, rfl⟩
              have hS2 := hS
              refine ⟨_, rfl, hS2, ?_⟩
              simp only [List.set_cons_zero, List.set_cons_succ]
              refine stepH (i := 35) (d := 77) (v := (.bool false)) rfl rfl (by kernel_rfl) (by kernel_rfl) (by kernel_rfl) (fun _ _ _ h => h) (Or.inl ⟨by kernel_rfl, fun w' hw' => exec_bin .eql 3 3 _ _ rfl (.int .i64 p) (.int .i64 (bits .and .i64 p 248)) rfl rfl (by simp [go_sem]) (by simp [go_sem]; omega)⟩) hS2 ?_
              simp only [List.set_cons_zero, List.set_cons_succ]
              refine stepH (i := 36) (d := 78) (v := (.bool false)) rfl rfl (by kernel_rfl) (by kernel_rfl) (by kernel_rfl) (fun _ _ _ h => h) (Or.inl ⟨by kernel_rfl, fun w' hw' => by kernel_rfl⟩) hS2 ?_
              simp only [List.set_cons_zero, List.set_cons_succ]
              refine stepH (i := 37) (d := 3) (v := (.bool false)) rfl rfl (by kernel_rfl) (by kernel_rfl) (by kernel_rfl) (fun _ _ _ h => h) (Or.inl ⟨by kernel_rfl, fun w' hw' => by kernel_rfl⟩) hS2 ?_
              simp only [List.set_cons_zero, List.set_cons_succ]
              refine wpAnyH_done (by kernel_rfl) ?_ _
              clear hSd s2 s4 s5 s6 hS0 hS
              go_wp2
              all_goals (go_ret; refine ⟨congrArg (fun b => Ending.returned (.int .i64 b)) ?_, (one_box _ _).drew⟩)
              all_goals (unfold mayE mayB; grind)
          · obtain ⟨S, hSd⟩ : ∃ S : World → Prop, ∀ w', S w' ↔ Blk w' w.heap.size 65 #[.int .i64 s, .int .i64 n, .int .i64 p, .int .i64 0, .bool false, .int .i64 m, .bool t] := ⟨fun w' => Blk w' w.heap.size 65 #[.int .i64 s, .int .i64 n, .int .i64 p, .int .i64 0, .bool false, .int .i64 m, .bool t], fun _ => Iff.rfl⟩
            have s2 : ∀ w', S w' → w'.cell? ⟨w.heap.size, 2, none⟩ = some (.int .i64 p) := fun w' h' => (((hSd w').1 h').cell 2).trans rfl
            have s4 : ∀ w', S w' → w'.cell? ⟨w.heap.size, 4, none⟩ = some (.bool false) := fun w' h' => (((hSd w').1 h').cell 4).trans rfl
            have s5 : ∀ w', S w' → w'.cell? ⟨w.heap.size, 5, none⟩ = some (.int .i64 m) := fun w' h' => (((hSd w').1 h').cell 5).trans rfl
            have s6 : ∀ w', S w' → w'.cell? ⟨w.heap.size, 6, none⟩ = some (.bool t) := fun w' h' => (((hSd w').1 h').cell 6).trans rfl
            have hS0 : S (w.alloc (.cells #[.int .i64 s, .int .i64 n, .int .i64 p, .int .i64 0, .bool false, .int .i64 m, .bool t] 65)).drew := (hSd _).2 (Blk.new w 65 #[.int .i64 s, .int .i64 n, .int .i64 p, .int .i64 0, .bool false, .int .i64 m, .bool t])
            refine wp_region_held_drew (S := S) (by kernel_rfl) hS0 (fun hS => ?_)
            refine stepH (i := 0) (d := 42) (v := (.bool true)) rfl rfl (by kernel_rfl) (by kernel_rfl) (by kernel_rfl) (fun _ _ _ h => h) (Or.inl ⟨by kernel_rfl, fun w' hw' => by kernel_rfl⟩) hS ?_
            simp only [List.set_cons_zero, List.set_cons_succ]
            refine stepH (i := 1) (d := 43) (v := (.bool true)) rfl rfl (by kernel_rfl) (by kernel_rfl) (by kernel_rfl) (fun _ _ _ h => h) (Or.inl ⟨by kernel_rfl, fun w' hw' => by kernel_rfl⟩) hS ?_
            simp only [List.set_cons_zero, List.set_cons_succ]
            refine stepH (i := 2) (d := 44) (v := (.pointer (some ⟨w.heap.size, 5, none⟩))) rfl rfl (by kernel_rfl) (by kernel_rfl) (by kernel_rfl) (fun _ _ _ h => h) (Or.inl ⟨by kernel_rfl, fun w' hw' => by kernel_rfl⟩) hS ?_
            simp only [List.set_cons_zero, List.set_cons_succ]
            refine stepH (i := 3) (d := 45) (v := (.int .i64 m)) rfl rfl (by kernel_rfl) (by kernel_rfl) (by kernel_rfl) (fun _ _ _ h => h) (Or.inl ⟨by kernel_rfl, fun w' hw' => exec_load 3 _ rfl ⟨w.heap.size, 5, none⟩ rfl (by simp [go_sem, s5 w' hw'])⟩) hS ?_
            simp only [List.set_cons_zero, List.set_cons_succ]
            refine stepH (i := 4) (d := 46) (v := (.bool true)) rfl rfl (by kernel_rfl) (by kernel_rfl) (by kernel_rfl) (fun _ _ _ h => h) (Or.inl ⟨by kernel_rfl, fun w' hw' => exec_bin .geq 3 3 _ _ rfl (.int .i64 m) (.int .i64 0) rfl rfl (by simp [go_sem]) (by simp [go_sem]; try omega)⟩) hS ?_
            simp only [List.set_cons_zero, List.set_cons_succ]
            refine stepH (i := 5) (d := 47) (v := (.bool true)) rfl rfl (by kernel_rfl) (by kernel_rfl) (by kernel_rfl) (fun _ _ _ h => h) (Or.inl ⟨by kernel_rfl, fun w' hw' => by kernel_rfl⟩) hS ?_
            simp only [List.set_cons_zero, List.set_cons_succ]
            refine stepH (i := 6) (d := 48) (v := (.bool true)) rfl rfl (by kernel_rfl) (by kernel_rfl) (by kernel_rfl) (fun _ _ _ h => h) (Or.inl ⟨by kernel_rfl, fun w' hw' => by kernel_rfl⟩) hS ?_
            simp only [List.set_cons_zero, List.set_cons_succ]
            refine stepH (i := 7) (d := 49) (v := (.pointer (some ⟨w.heap.size, 5, none⟩))) rfl rfl (by kernel_rfl) (by kernel_rfl) (by kernel_rfl) (fun _ _ _ h => h) (Or.inl ⟨by kernel_rfl, fun w' hw' => by kernel_rfl⟩) hS ?_
            simp only [List.set_cons_zero, List.set_cons_succ]
            refine stepH (i := 8) (d := 50) (v := (.int .i64 m)) rfl rfl (by kernel_rfl) (by kernel_rfl) (by kernel_rfl) (fun _ _ _ h => h) (Or.inl ⟨by kernel_rfl, fun w' hw' => exec_load 3 _ rfl ⟨w.heap.size, 5, none⟩ rfl (by simp [go_sem, s5 w' hw'])⟩) hS ?_
            simp only [List.set_cons_zero, List.set_cons_succ]
            refine stepH (i := 9) (d := 51) (v := (.bool true)) rfl rfl (by kernel_rfl) (by kernel_rfl) (by kernel_rfl) (fun _ _ _ h => h) (Or.inl ⟨by kernel_rfl, fun w' hw' => exec_bin .lss 3 3 _ _ rfl (.int .i64 m) (.int .i64 1024) rfl rfl (by simp [go_sem]) (by simp [go_sem]; try omega)⟩) hS ?_
            simp only [List.set_cons_zero, List.set_cons_succ]
            refine stepH (i := 10) (d := 52) (v := (.bool true)) rfl rfl (by kernel_rfl) (by kernel_rfl) (by kernel_rfl) (fun _ _ _ h => h) (Or.inl ⟨by kernel_rfl, fun w' hw' => by kernel_rfl⟩) hS ?_
            simp only [List.set_cons_zero, List.set_cons_succ]
            refine stepH (i := 11) (d := 53) (v := (.bool true)) rfl rfl (by kernel_rfl) (by kernel_rfl) (by kernel_rfl) (fun _ _ _ h => h) (Or.inl ⟨by kernel_rfl, fun w' hw' => by kernel_rfl⟩) hS ?_
            simp only [List.set_cons_zero, List.set_cons_succ]
            refine stepH (i := 12) (d := 54) (v := (.pointer (some ⟨w.heap.size, 4, none⟩))) rfl rfl (by kernel_rfl) (by kernel_rfl) (by kernel_rfl) (fun _ _ _ h => h) (Or.inl ⟨by kernel_rfl, fun w' hw' => by kernel_rfl⟩) hS ?_
            simp only [List.set_cons_zero, List.set_cons_succ]
            refine stepH (i := 13) (d := 55) (v := (.bool false)) rfl rfl (by kernel_rfl) (by kernel_rfl) (by kernel_rfl) (fun _ _ _ h => h) (Or.inl ⟨by kernel_rfl, fun w' hw' => exec_load 4 _ rfl ⟨w.heap.size, 4, none⟩ rfl (by simp [go_sem, s4 w' hw'])⟩) hS ?_
            simp only [List.set_cons_zero, List.set_cons_succ]
            refine stepH (i := 14) (d := 56) (v := (.bool false)) rfl rfl (by kernel_rfl) (by kernel_rfl) (by kernel_rfl) (fun _ _ _ h => h) (Or.inl ⟨by kernel_rfl, fun w' hw' => by kernel_rfl⟩) hS ?_
            simp only [List.set_cons_zero, List.set_cons_succ]
            refine stepH (i := 15) (d := 57) (v := (.pointer (some ⟨w.heap.size, 5, none⟩))) rfl rfl (by kernel_rfl) (by kernel_rfl) (by kernel_rfl) (fun _ _ _ h => h) (Or.inl ⟨by kernel_rfl, fun w' hw' => by kernel_rfl⟩) hS ?_
            simp only [List.set_cons_zero, List.set_cons_succ]
            refine stepH (i := 16) (d := 58) (v := (.int .i64 m)) rfl rfl (by kernel_rfl) (by kernel_rfl) (by kernel_rfl) (fun _ _ _ h => h) (Or.inl ⟨by kernel_rfl, fun w' hw' => exec_load 3 _ rfl ⟨w.heap.size, 5, none⟩ rfl (by simp [go_sem, s5 w' hw'])⟩) hS ?_
            simp only [List.set_cons_zero, List.set_cons_succ]
            refine stepH (i := 17) (d := 59) (v := (.bool false)) rfl rfl (by kernel_rfl) (by kernel_rfl) (by kernel_rfl) (fun _ _ _ h => h) (Or.inl ⟨by kernel_rfl, fun w' hw' => exec_bin .eql 3 3 _ _ rfl (.int .i64 m) (.int .i64 0) rfl rfl (by simp [go_sem]) (by simp [go_sem]; try omega)⟩) hS ?_
            simp only [List.set_cons_zero, List.set_cons_succ]
            refine stepH (i := 18) (d := 60) (v := (.bool false)) rfl rfl (by kernel_rfl) (by kernel_rfl) (by kernel_rfl) (fun _ _ _ h => h) (Or.inl ⟨by kernel_rfl, fun w' hw' => by kernel_rfl⟩) hS ?_
            simp only [List.set_cons_zero, List.set_cons_succ]
            refine stepH (i := 19) (d := 61) (v := (.bool false)) rfl rfl (by kernel_rfl) (by kernel_rfl) (by kernel_rfl) (fun _ _ _ h => h) (Or.inl ⟨by kernel_rfl, fun w' hw' => by kernel_rfl⟩) hS ?_
            simp only [List.set_cons_zero, List.set_cons_succ]
            refine stepH (i := 20) (d := 62) (v := (.bool false)) rfl rfl (by kernel_rfl) (by kernel_rfl) (by kernel_rfl) (fun _ _ _ h => h) (Or.inl ⟨by kernel_rfl, fun w' hw' => by kernel_rfl⟩) hS ?_
            simp only [List.set_cons_zero, List.set_cons_succ]
            refine stepH (i := 21) (d := 63) (v := undef) rfl rfl (by kernel_rfl) (by kernel_rfl) (by kernel_rfl) (fun _ _ _ h => h) (Or.inr ⟨rfl, rfl⟩) hS ?_
            refine stepH (i := 22) (d := 64) (v := undef) rfl rfl (by kernel_rfl) (by kernel_rfl) (by kernel_rfl) (fun _ _ _ h => h) (Or.inr ⟨rfl, rfl⟩) hS ?_
            refine stepH (i := 23) (d := 65) (v := undef) rfl rfl (by kernel_rfl) (by kernel_rfl) (by kernel_rfl) (fun _ _ _ h => h) (Or.inr ⟨rfl, rfl⟩) hS ?_
            refine stepH (i := 24) (d := 66) (v := undef) rfl rfl (by kernel_rfl) (by kernel_rfl) (by kernel_rfl) (fun _ _ _ h => h) (Or.inr ⟨rfl, rfl⟩) hS ?_
            refine stepH (i := 25) (d := 67) (v := undef) rfl rfl (by kernel_rfl) (by kernel_rfl) (by kernel_rfl) (fun _ _ _ h => h) (Or.inr ⟨rfl, rfl⟩) hS ?_
            refine stepH (i := 26) (d := 68) (v := undef) rfl rfl (by kernel_rfl) (by kernel_rfl) (by kernel_rfl) (fun _ _ _ h => h) (Or.inr ⟨rfl, rfl⟩) hS ?_
            refine stepH (i := 27) (d := 69) (v := undef) rfl rfl (by kernel_rfl) (by kernel_rfl) (by kernel_rfl) (fun _ _ _ h => h) (Or.inr ⟨rfl, rfl⟩) hS ?_
            refine stepH (i := 28) (d := 70) (v := (.bool false)) rfl rfl (by kernel_rfl) (by kernel_rfl) (by kernel_rfl) (fun _ _ _ h => h) (Or.inl ⟨by kernel_rfl, fun w' hw' => by kernel_rfl⟩) hS ?_
            simp only [List.set_cons_zero, List.set_cons_succ]
            refine stepH (i := 29) (d := 71) (v := (.bool false)) rfl rfl (by kernel_rfl) (by kernel_rfl) (by kernel_rfl) (fun _ _ _ h => h) (Or.inl ⟨by kernel_rfl, fun w' hw' => by kernel_rfl⟩) hS ?_
            simp only [List.set_cons_zero, List.set_cons_succ]
            refine stepH (i := 30) (d := 72) (v := undef) rfl rfl (by kernel_rfl) (by kernel_rfl) (by kernel_rfl) (fun _ _ _ h => h) (Or.inr ⟨rfl, rfl⟩) hS ?_
            refine stepH (i := 31) (d := 73) (v := undef) rfl rfl (by kernel_rfl) (by kernel_rfl) (by kernel_rfl) (fun _ _ _ h => h) (Or.inr ⟨rfl, rfl⟩) hS ?_
            refine stepH (i := 32) (d := 74) (v := undef) rfl rfl (by kernel_rfl) (by kernel_rfl) (by kernel_rfl) (fun _ _ _ h => h) (Or.inr ⟨rfl, rfl⟩) hS ?_
            refine stepH (i := 33) (d := 75) (v := undef) rfl rfl (by kernel_rfl) (by kernel_rfl) (by kernel_rfl) (fun _ _ _ h => h) (Or.inr ⟨rfl, rfl⟩) hS ?_
            refine stepH (i := 34) (d := 76) (v := undef) rfl rfl (by kernel_rfl) (by kernel_rfl) (by kernel_rfl) (fun _ _ _ h => h) (Or.inr ⟨rfl, rfl⟩) hS ?_
            refine stepH (i := 35) (d := 77) (v := undef) rfl rfl (by kernel_rfl) (by kernel_rfl) (by kernel_rfl) (fun _ _ _ h => h) (Or.inr ⟨rfl, rfl⟩) hS ?_
            refine stepH (i := 36) (d := 78) (v := (.bool false)) rfl rfl (by kernel_rfl) (by kernel_rfl) (by kernel_rfl) (fun _ _ _ h => h) (Or.inl ⟨by kernel_rfl, fun w' hw' => by kernel_rfl⟩) hS ?_
            simp only [List.set_cons_zero, List.set_cons_succ]
            refine stepH (i := 37) (d := 3) (v := (.bool false)) rfl rfl (by kernel_rfl) (by kernel_rfl) (by kernel_rfl) (fun _ _ _ h => h) (Or.inl ⟨by kernel_rfl, fun w' hw' => by kernel_rfl⟩) hS ?_
            simp only [List.set_cons_zero, List.set_cons_succ]
            refine wpAnyH_done (by kernel_rfl) ?_ _
            clear hSd s2 s4 s5 s6 hS0 hS
            go_wp2
            all_goals (go_ret; refine ⟨congrArg (fun b => Ending.returned (.int .i64 b)) ?_, (one_box _ _).drew⟩)
            all_goals (unfold mayE mayB; grind)
      · obtain ⟨S, hSd⟩ : ∃ S : World → Prop, ∀ w', S w' ↔ Blk w' w.heap.size 65 #[.int .i64 s, .int .i64 n, .int .i64 p, .int .i64 0, .bool h, .int .i64 m, .bool t] := ⟨fun w' => Blk w' w.heap.size 65 #[.int .i64 s, .int .i64 n, .int .i64 p, .int .i64 0, .bool h, .int .i64 m, .bool t], fun _ => Iff.rfl⟩
        have s2 : ∀ w', S w' → w'.cell? ⟨w.heap.size, 2, none⟩ = some (.int .i64 p) := fun w' h' => (((hSd w').1 h').cell 2).trans rfl
        have s4 : ∀ w', S w' → w'.cell? ⟨w.heap.size, 4, none⟩ = some (.bool h) := fun w' h' => (((hSd w').1 h').cell 4).trans rfl
        have s5 : ∀ w', S w' → w'.cell? ⟨w.heap.size, 5, none⟩ = some (.int .i64 m) := fun w' h' => (((hSd w').1 h').cell 5).trans rfl
        have s6 : ∀ w', S w' → w'.cell? ⟨w.heap.size, 6, none⟩ = some (.bool t) := fun w' h' => (((hSd w').1 h').cell 6).trans rfl
        have hS0 : S (w.alloc (.cells #[.int .i64 s, .int .i64 n, .int .i64 p, .int .i64 0, .bool h, .int .i64 m, .bool t] 65)).drew := (hSd _).2 (Blk.new w 65 #[.int .i64 s, .int .i64 n, .int .i64 p, .int .i64 0, .bool h, .int .i64 m, .bool t])
        refine wp_region_held_drew (S := S) (by kernel_rfl) hS0 (fun hS => ?_)
        refine stepH (i := 0) (d := 42) (v := (.bool true)) rfl rfl (by kernel_rfl) (by kernel_rfl) (by kernel_rfl) (fun _ _ _ h => h) (Or.inl ⟨by kernel_rfl, fun w' hw' => by kernel_rfl⟩) hS ?_
        simp only [List.set_cons_zero, List.set_cons_succ]
        refine stepH (i := 1) (d := 43) (v := (.bool true)) rfl rfl (by kernel_rfl) (by kernel_rfl) (by kernel_rfl) (fun _ _ _ h => h) (Or.inl ⟨by kernel_rfl, fun w' hw' => by kernel_rfl⟩) hS ?_
        simp only [List.set_cons_zero, List.set_cons_succ]
        refine stepH (i := 2) (d := 44) (v := (.pointer (some ⟨w.heap.size, 5, none⟩))) rfl rfl (by kernel_rfl) (by kernel_rfl) (by kernel_rfl) (fun _ _ _ h => h) (Or.inl ⟨by kernel_rfl, fun w' hw' => by kernel_rfl⟩) hS ?_
        simp only [List.set_cons_zero, List.set_cons_succ]
        refine stepH (i := 3) (d := 45) (v := (.int .i64 m)) rfl rfl (by kernel_rfl) (by kernel_rfl) (by kernel_rfl) (fun _ _ _ h => h) (Or.inl ⟨by kernel_rfl, fun w' hw' => exec_load 3 _ rfl ⟨w.heap.size, 5, none⟩ rfl (by simp [go_sem, s5 w' hw'])⟩) hS ?_
        simp only [List.set_cons_zero, List.set_cons_succ]
        refine stepH (i := 4) (d := 46) (v := (.bool true)) rfl rfl (by kernel_rfl) (by kernel_rfl) (by kernel_rfl) (fun _ _ _ h => h) (Or.inl ⟨by kernel_rfl, fun w' hw' => exec_bin .geq 3 3 _ _ rfl (.int .i64 m) (.int .i64 0) rfl rfl (by simp [go_sem]) (by simp [go_sem]; try omega)⟩) hS ?_
        simp only [List.set_cons_zero, List.set_cons_succ]
        refine stepH (i := 5) (d := 47) (v := (.bool true)) rfl rfl (by kernel_rfl) (by kernel_rfl) (by kernel_rfl) (fun _ _ _ h => h) (Or.inl ⟨by kernel_rfl, fun w' hw' => by kernel_rfl⟩) hS ?_
        simp only [List.set_cons_zero, List.set_cons_succ]
        refine stepH (i := 6) (d := 48) (v := (.bool true)) rfl rfl (by kernel_rfl) (by kernel_rfl) (by kernel_rfl) (fun _ _ _ h => h) (Or.inl ⟨by kernel_rfl, fun w' hw' => by kernel_rfl⟩) hS ?_
        simp only [List.set_cons_zero, List.set_cons_succ]
        refine stepH (i := 7) (d := 49) (v := (.pointer (some ⟨w.heap.size, 5, none⟩))) rfl rfl (by kernel_rfl) (by kernel_rfl) (by kernel_rfl) (fun _ _ _ h => h) (Or.inl ⟨by kernel_rfl, fun w' hw' => by kernel_rfl⟩) hS ?_
        simp only [List.set_cons_zero, List.set_cons_succ]
        refine stepH (i := 8) (d := 50) (v := (.int .i64 m)) rfl rfl (by kernel_rfl) (by kernel_rfl) (by kernel_rfl) (fun _ _ _ h => h) (Or.inl ⟨by kernel_rfl, fun w' hw' => exec_load 3 _ rfl ⟨w.heap.size, 5, none⟩ rfl (by simp [go_sem, s5 w' hw'])⟩) hS ?_
        simp only [List.set_cons_zero, List.set_cons_succ]
        refine stepH (i := 9) (d := 51) (v := (.bool false)) rfl rfl (by kernel_rfl) (by kernel_rfl) (by kernel_rfl) (fun _ _ _ h => h) (Or.inl ⟨by kernel_rfl, fun w' hw' => exec_bin .lss 3 3 _ _ rfl (.int .i64 m) (.int .i64 1024) rfl rfl (by simp [go_sem]) (by simp [go_sem]; try omega)⟩) hS ?_
        simp only [List.set_cons_zero, List.set_cons_succ]
        refine stepH (i := 10) (d := 52) (v := (.bool false)) rfl rfl (by kernel_rfl) (by kernel_rfl) (by kernel_rfl) (fun _ _ _ h => h) (Or.inl ⟨by kernel_rfl, fun w' hw' => by kernel_rfl⟩) hS ?_
        simp only [List.set_cons_zero, List.set_cons_succ]
        refine stepH (i := 11) (d := 53) (v := (.bool false)) rfl rfl (by kernel_rfl) (by kernel_rfl) (by kernel_rfl) (fun _ _ _ h => h) (Or.inl ⟨by kernel_rfl, fun w' hw' => by kernel_rfl⟩) hS ?_
        simp only [List.set_cons_zero, List.set_cons_succ]
        refine stepH (i := 12) (d := 54) (v := undef) rfl rfl (by kernel_rfl) (by kernel_rfl) (by kernel_rfl) (fun _ _ _ h => h) (Or.inr ⟨rfl, rfl⟩) hS ?_
        refine stepH (i := 13) (d := 55) (v := undef) rfl rfl (by kernel_rfl) (by kernel_rfl) (by kernel_rfl) (fun _ _ _ h => h) (Or.inr ⟨rfl, rfl⟩) hS ?_
        refine stepH (i := 14) (d := 56) (v := undef) rfl rfl (by kernel_rfl) (by kernel_rfl) (by kernel_rfl) (fun _ _ _ h => h) (Or.inr ⟨rfl, rfl⟩) hS ?_
        refine stepH (i := 15) (d := 57) (v := undef) rfl rfl (by kernel_rfl) (by kernel_rfl) (by kernel_rfl) (fun _ _ _ h => h) (Or.inr ⟨rfl, rfl⟩) hS ?_
        refine stepH (i := 16) (d := 58) (v := undef) rfl rfl (by kernel_rfl) (by kernel_rfl) (by kernel_rfl) (fun _ _ _ h => h) (Or.inr ⟨rfl, rfl⟩) hS ?_
        refine stepH (i := 17) (d := 59) (v := undef) rfl rfl (by kernel_rfl) (by kernel_rfl) (by kernel_rfl) (fun _ _ _ h => h) (Or.inr ⟨rfl, rfl⟩) hS ?_
        refine stepH (i := 18) (d := 60) (v := undef) rfl rfl (by kernel_rfl) (by kernel_rfl) (by kernel_rfl) (fun _ _ _ h => h) (Or.inr ⟨rfl, rfl⟩) hS ?_
        refine stepH (i := 19) (d := 61) (v := (.bool false)) rfl rfl (by kernel_rfl) (by kernel_rfl) (by kernel_rfl) (fun _ _ _ h => h) (Or.inl ⟨by kernel_rfl, fun w' hw' => by kernel_rfl⟩) hS ?_
        simp only [List.set_cons_zero, List.set_cons_succ]
        refine stepH (i := 20) (d := 62) (v := (.bool false)) rfl rfl (by kernel_rfl) (by kernel_rfl) (by kernel_rfl) (fun _ _ _ h => h) (Or.inl ⟨by kernel_rfl, fun w' hw' => by kernel_rfl⟩) hS ?_
        simp only [List.set_cons_zero, List.set_cons_succ]
        refine stepH (i := 21) (d := 63) (v := undef) rfl rfl (by kernel_rfl) (by kernel_rfl) (by kernel_rfl) (fun _ _ _ h => h) (Or.inr ⟨rfl, rfl⟩) hS ?_
        refine stepH (i := 22) (d := 64) (v := undef) rfl rfl (by kernel_rfl) (by kernel_rfl) (by kernel_rfl) (fun _ _ _ h => h) (Or.inr ⟨rfl, rfl⟩) hS ?_
        refine stepH (i := 23) (d := 65) (v := undef) rfl rfl (by kernel_rfl) (by kernel_rfl) (by kernel_rfl) (fun _ _ _ h => h) (Or.inr ⟨rfl, rfl⟩) hS ?_
        refine stepH (i := 24) (d := 66) (v := undef) rfl rfl (by kernel_rfl) (by kernel_rfl) (by kernel_rfl) (fun _ _ _ h => h) (Or.inr ⟨rfl, rfl⟩) hS ?_
        refine stepH (i := 25) (d := 67) (v := undef) rfl rfl (by kernel_rfl) (by kernel_rfl) (by kernel_rfl) (fun _ _ _ h => h) (Or.inr ⟨rfl, rfl⟩) hS ?_
        refine stepH (i := 26) (d := 68) (v := undef) rfl rfl (by kernel_rfl) (by kernel_rfl) (by kernel_rfl) (fun _ _ _ h => h) (Or.inr ⟨rfl, rfl⟩) hS ?_
        refine stepH (i := 27) (d := 69) (v := undef) rfl rfl (by kernel_rfl) (by kernel_rfl) (by kernel_rfl) (fun _ _ _ h => h) (Or.inr ⟨rfl, rfl⟩) hS ?_
        refine stepH (i := 28) (d := 70) (v := (.bool false)) rfl rfl (by kernel_rfl) (by kernel_rfl) (by kernel_rfl) (fun _ _ _ h => h) (Or.inl ⟨by kernel_rfl, fun w' hw' => by kernel_rfl⟩) hS ?_
        simp only [List.set_cons_zero, List.set_cons_succ]
        refine stepH (i := 29) (d := 71) (v := (.bool false)) rfl rfl (by kernel_rfl) (by kernel_rfl) (by kernel_rfl) (fun _ _ _ h => h) (Or.inl ⟨by kernel_rfl, fun w' hw' => by kernel_rfl⟩) hS ?_
        simp only [List.set_cons_zero, List.set_cons_succ]
        refine stepH (i := 30) (d := 72) (v := undef) rfl rfl (by kernel_rfl) (by kernel_rfl) (by kernel_rfl) (fun _ _ _ h => h) (Or.inr ⟨rfl, rfl⟩) hS ?_
        refine stepH (i := 31) (d := 73) (v := undef) rfl rfl (by kernel_rfl) (by kernel_rfl) (by kernel_rfl) (fun _ _ _ h => h) (Or.inr ⟨rfl, rfl⟩) hS ?_
        refine stepH (i := 32) (d := 74) (v := undef) rfl rfl (by kernel_rfl) (by kernel_rfl) (by kernel_rfl) (fun _ _ _ h => h) (Or.inr ⟨rfl, rfl⟩) hS ?_
        refine stepH (i := 33) (d := 75) (v := undef) rfl rfl (by kernel_rfl) (by kernel_rfl) (by kernel_rfl) (fun _ _ _ h => h) (Or.inr ⟨rfl, rfl⟩) hS ?_
        refine stepH (i := 34) (d := 76) (v := undef) rfl rfl (by kernel_rfl) (by kernel_rfl) (by kernel_rfl) (fun _ _ _ h => h) (Or.inr ⟨rfl, rfl⟩) hS ?_
        refine stepH (i := 35) (d := 77) (v := undef) rfl rfl (by kernel_rfl) (by kernel_rfl) (by kernel_rfl) (fun _ _ _ h => h) (Or.inr ⟨rfl, rfl⟩) hS ?_
        refine stepH (i := 36) (d := 78) (v := (.bool false)) rfl rfl (by kernel_rfl) (by kernel_rfl) (by kernel_rfl) (fun _ _ _ h => h) (Or.inl ⟨by kernel_rfl, fun w' hw' => by kernel_rfl⟩) hS ?_
        simp only [List.set_cons_zero, List.set_cons_succ]
        refine stepH (i := 37) (d := 3) (v := (.bool false)) rfl rfl (by kernel_rfl) (by kernel_rfl) (by kernel_rfl) (fun _ _ _ h => h) (Or.inl ⟨by kernel_rfl, fun w' hw' => by kernel_rfl⟩) hS ?_
        simp only [List.set_cons_zero, List.set_cons_succ]
        refine wpAnyH_done (by kernel_rfl) ?_ _
        clear hSd s2 s4 s5 s6 hS0 hS
        go_wp2
        all_goals (go_ret; refine ⟨congrArg (fun b => Ending.returned (.int .i64 b)) ?_, (one_box _ _).drew⟩)
        all_goals (unfold mayE mayB; grind)
    · obtain ⟨S, hSd⟩ : ∃ S : World → Prop, ∀ w', S w' ↔ Blk w' w.heap.size 65 #[.int .i64 s, .int .i64 n, .int .i64 p, .int .i64 0, .bool h, .int .i64 m, .bool t] := ⟨fun w' => Blk w' w.heap.size 65 #[.int .i64 s, .int .i64 n, .int .i64 p, .int .i64 0, .bool h, .int .i64 m, .bool t], fun _ => Iff.rfl⟩
      have s2 : ∀ w', S w' → w'.cell? ⟨w.heap.size, 2, none⟩ = some (.int .i64 p) := fun w' h' => (((hSd w').1 h').cell 2).trans rfl
      have s4 : ∀ w', S w' → w'.cell? ⟨w.heap.size, 4, none⟩ = some (.bool h) := fun w' h' => (((hSd w').1 h').cell 4).trans rfl
      have s5 : ∀ w', S w' → w'.cell? ⟨w.heap.size, 5, none⟩ = some (.int .i64 m) := fun w' h' => (((hSd w').1 h').cell 5).trans rfl
      have s6 : ∀ w', S w' → w'.cell? ⟨w.heap.size, 6, none⟩ = some (.bool t) := fun w' h' => (((hSd w').1 h').cell 6).trans rfl
      have hS0 : S (w.alloc (.cells #[.int .i64 s, .int .i64 n, .int .i64 p, .int .i64 0, .bool h, .int .i64 m, .bool t] 65)).drew := (hSd _).2 (Blk.new w 65 #[.int .i64 s, .int .i64 n, .int .i64 p, .int .i64 0, .bool h, .int .i64 m, .bool t])
      refine wp_region_held_drew (S := S) (by kernel_rfl) hS0 (fun hS => ?_)
      refine stepH (i := 0) (d := 42) (v := (.bool true)) rfl rfl (by kernel_rfl) (by kernel_rfl) (by kernel_rfl) (fun _ _ _ h => h) (Or.inl ⟨by kernel_rfl, fun w' hw' => by kernel_rfl⟩) hS ?_
      simp only [List.set_cons_zero, List.set_cons_succ]
      refine stepH (i := 1) (d := 43) (v := (.bool true)) rfl rfl (by kernel_rfl) (by kernel_rfl) (by kernel_rfl) (fun _ _ _ h => h) (Or.inl ⟨by kernel_rfl, fun w' hw' => by kernel_rfl⟩) hS ?_
      simp only [List.set_cons_zero, List.set_cons_succ]
      refine stepH (i := 2) (d := 44) (v := (.pointer (some ⟨w.heap.size, 5, none⟩))) rfl rfl (by kernel_rfl) (by kernel_rfl) (by kernel_rfl) (fun _ _ _ h => h) (Or.inl ⟨by kernel_rfl, fun w' hw' => by kernel_rfl⟩) hS ?_
      simp only [List.set_cons_zero, List.set_cons_succ]
      refine stepH (i := 3) (d := 45) (v := (.int .i64 m)) rfl rfl (by kernel_rfl) (by kernel_rfl) (by kernel_rfl) (fun _ _ _ h => h) (Or.inl ⟨by kernel_rfl, fun w' hw' => exec_load 3 _ rfl ⟨w.heap.size, 5, none⟩ rfl (by simp [go_sem, s5 w' hw'])⟩) hS ?_
      simp only [List.set_cons_zero, List.set_cons_succ]
      refine stepH (i := 4) (d := 46) (v := (.bool false)) rfl rfl (by kernel_rfl) (by kernel_rfl) (by kernel_rfl) (fun _ _ _ h => h) (Or.inl ⟨by kernel_rfl, fun w' hw' => exec_bin .geq 3 3 _ _ rfl (.int .i64 m) (.int .i64 0) rfl rfl (by simp [go_sem]) (by simp [go_sem]; try omega)⟩) hS ?_
      simp only [List.set_cons_zero, List.set_cons_succ]
      refine stepH (i := 5) (d := 47) (v := (.bool false)) rfl rfl (by kernel_rfl) (by kernel_rfl) (by kernel_rfl) (fun _ _ _ h => h) (Or.inl ⟨by kernel_rfl, fun w' hw' => by kernel_rfl⟩) hS ?_
      simp only [List.set_cons_zero, List.set_cons_succ]
      refine stepH (i := 6) (d := 48) (v := (.bool false)) rfl rfl (by kernel_rfl) (by kernel_rfl) (by kernel_rfl) (fun _ _ _ h => h) (Or.inl ⟨by kernel_rfl, fun w' hw' => by kernel_rfl⟩) hS ?_
      simp only [List.set_cons_zero, List.set_cons_succ]
      refine stepH (i := 7) (d := 49) (v := undef) rfl rfl (by kernel_rfl) (by kernel_rfl) (by kernel_rfl) (fun _ _ _ h => h) (Or.inr ⟨rfl, rfl⟩) hS ?_
      refine stepH (i := 8) (d := 50) (v := undef) rfl rfl (by kernel_rfl) (by kernel_rfl) (by kernel_rfl) (fun _ _ _ h => h) (Or.inr ⟨rfl, rfl⟩) hS ?_
      refine stepH (i := 9) (d := 51) (v := undef) rfl rfl (by kernel_rfl) (by kernel_rfl) (by kernel_rfl) (fun _ _ _ h => h) (Or.inr ⟨rfl, rfl⟩) hS ?_
      refine stepH (i := 10) (d := 52) (v := (.bool false)) rfl rfl (by kernel_rfl) (by kernel_rfl) (by kernel_rfl) (fun _ _ _ h => h) (Or.inl ⟨by kernel_rfl, fun w' hw' => by kernel_rfl⟩) hS ?_
      simp only [List.set_cons_zero, List.set_cons_succ]
      refine stepH (i := 11) (d := 53) (v := (.bool false)) rfl rfl (by kernel_rfl) (by kernel_rfl) (by kernel_rfl) (fun _ _ _ h => h) (Or.inl ⟨by kernel_rfl, fun w' hw' => by kernel_rfl⟩) hS ?_
      simp only [List.set_cons_zero, List.set_cons_succ]
      refine stepH (i := 12) (d := 54) (v := undef) rfl rfl (by kernel_rfl) (by kernel_rfl) (by kernel_rfl) (fun _ _ _ h => h) (Or.inr ⟨rfl, rfl⟩) hS ?_
      refine stepH (i := 13) (d := 55) (v := undef) rfl rfl (by kernel_rfl) (by kernel_rfl) (by kernel_rfl) (fun _ _ _ h => h) (Or.inr ⟨rfl, rfl⟩) hS ?_
      refine stepH (i := 14) (d := 56) (v := undef) rfl rfl (by kernel_rfl) (by kernel_rfl) (by kernel_rfl) (fun _ _ _ h => h) (Or.inr ⟨rfl, rfl⟩) hS ?_
      refine stepH (i := 15) (d := 57) (v := undef) rfl rfl (by kernel_rfl) (by kernel_rfl) (by kernel_rfl) (fun _ _ _ h => h) (Or.inr ⟨rfl, rfl⟩) hS ?_
      refine stepH (i := 16) (d := 58) (v := undef) rfl rfl (by kernel_rfl) (by kernel_rfl) (by kernel_rfl) (fun _ _ _ h => h) (Or.inr ⟨rfl, rfl⟩) hS ?_
      refine stepH (i := 17) (d := 59) (v := undef) rfl rfl (by kernel_rfl) (by kernel_rfl) (by kernel_rfl) (fun _ _ _ h => h) (Or.inr ⟨rfl, rfl⟩) hS ?_
      refine stepH (i := 18) (d := 60) (v := undef) rfl rfl (by kernel_rfl) (by kernel_rfl) (by kernel_rfl) (fun _ _ _ h => h) (Or.inr ⟨rfl, rfl⟩) hS ?_
      refine stepH (i := 19) (d := 61) (v := (.bool false)) rfl rfl (by kernel_rfl) (by kernel_rfl) (by kernel_rfl) (fun _ _ _ h => h) (Or.inl ⟨by kernel_rfl, fun w' hw' => by kernel_rfl⟩) hS ?_
      simp only [List.set_cons_zero, List.set_cons_succ]
      refine stepH (i := 20) (d := 62) (v := (.bool false)) rfl rfl (by kernel_rfl) (by kernel_rfl) (by kernel_rfl) (fun _ _ _ h => h) (Or.inl ⟨by kernel_rfl, fun w' hw' => by kernel_rfl⟩) hS ?_
      simp only [List.set_cons_zero, List.set_cons_succ]
      refine stepH (i := 21) (d := 63) (v := undef) rfl rfl (by kernel_rfl) (by kernel_rfl) (by kernel_rfl) (fun _ _ _ h => h) (Or.inr ⟨rfl, rfl⟩) hS ?_
      refine stepH (i := 22) (d := 64) (v := undef) rfl rfl (by kernel_rfl) (by kernel_rfl) (by kernel_rfl) (fun _ _ _ h => h) (Or.inr ⟨rfl, rfl⟩) hS ?_
      refine stepH (i := 23) (d := 65) (v := undef) rfl rfl (by kernel_rfl) (by kernel_rfl) (by kernel_rfl) (fun _ _ _ h => h) (Or.inr ⟨rfl, rfl⟩) hS ?_
      refine stepH (i := 24) (d := 66) (v := undef) rfl rfl (by kernel_rfl) (by kernel_rfl) (by kernel_rfl) (fun _ _ _ h => h) (Or.inr ⟨rfl, rfl⟩) hS ?_
      refine stepH (i := 25) (d := 67) (v := undef) rfl rfl (by kernel_rfl) (by kernel_rfl) (by kernel_rfl) (fun _ _ _ h => h) (Or.inr ⟨rfl, rfl⟩) hS ?_
      refine stepH (i := 26) (d := 68) (v := undef) rfl rfl (by kernel_rfl) (by kernel_rfl) (by kernel_rfl) (fun _ _ _ h => h) (Or.inr ⟨rfl, rfl⟩) hS ?_
      refine stepH (i := 27) (d := 69) (v := undef) rfl rfl (by kernel_rfl) (by kernel_rfl) (by kernel_rfl) (fun _ _ _ h => h) (Or.inr ⟨rfl, rfl⟩) hS ?_
      refine stepH (i := 28) (d := 70) (v := (.bool false)) rfl rfl (by kernel_rfl) (by kernel_rfl) (by kernel_rfl) (fun _ _ _ h => h) (Or.inl ⟨by kernel_rfl, fun w' hw' => by kernel_rfl⟩) hS ?_
      simp only [List.set_cons_zero, List.set_cons_succ]
      refine stepH (i := 29) (d := 71) (v := (.bool false)) rfl rfl (by kernel_rfl) (by kernel_rfl) (by kernel_rfl) (fun _ _ _ h => h) (Or.inl ⟨by kernel_rfl, fun w' hw' => by kernel_rfl⟩) hS ?_
      simp only [List.set_cons_zero, List.set_cons_succ]
      refine stepH (i := 30) (d := 72) (v := undef) rfl rfl (by kernel_rfl) (by kernel_rfl) (by kernel_rfl) (fun _ _ _ h => h) (Or.inr ⟨rfl, rfl⟩) hS ?_
      refine stepH (i := 31) (d := 73) (v := undef) rfl rfl (by kernel_rfl) (by kernel_rfl) (by kernel_rfl) (fun _ _ _ h => h) (Or.inr ⟨rfl, rfl⟩) hS ?_
      refine stepH (i := 32) (d := 74) (v := undef) rfl rfl (by kernel_rfl) (by kernel_rfl) (by kernel_rfl) (fun _ _ _ h => h) (Or.inr ⟨rfl, rfl⟩) hS ?_
      refine stepH (i := 33) (d := 75) (v := undef) rfl rfl (by kernel_rfl) (by kernel_rfl) (by kernel_rfl) (fun _ _ _ h => h) (Or.inr ⟨rfl, rfl⟩) hS ?_
      refine stepH (i := 34) (d := 76) (v := undef) rfl rfl (by kernel_rfl) (by kernel_rfl) (by kernel_rfl) (fun _ _ _ h => h) (Or.inr ⟨rfl, rfl⟩) hS ?_
      refine stepH (i := 35) (d := 77) (v := undef) rfl rfl (by kernel_rfl) (by kernel_rfl) (by kernel_rfl) (fun _ _ _ h => h) (Or.inr ⟨rfl, rfl⟩) hS ?_
      refine stepH (i := 36) (d := 78) (v := (.bool false)) rfl rfl (by kernel_rfl) (by kernel_rfl) (by kernel_rfl) (fun _ _ _ h => h) (Or.inl ⟨by kernel_rfl, fun w' hw' => by kernel_rfl⟩) hS ?_
      simp only [List.set_cons_zero, List.set_cons_succ]
      refine stepH (i := 37) (d := 3) (v := (.bool false)) rfl rfl (by kernel_rfl) (by kernel_rfl) (by kernel_rfl) (fun _ _ _ h => h) (Or.inl ⟨by kernel_rfl, fun w' hw' => by kernel_rfl⟩) hS ?_
      simp only [List.set_cons_zero, List.set_cons_succ]
      refine wpAnyH_done (by kernel_rfl) ?_ _
      clear hSd s2 s4 s5 s6 hS0 hS
      go_wp2
      all_goals (go_ret; refine ⟨congrArg (fun b => Ending.returned (.int .i64 b)) ?_, (one_box _ _).drew⟩)
      all_goals (unfold mayE mayB; grind)
  all_goals (
     obtain ⟨S, hSd⟩ : ∃ S : World → Prop, ∀ w', S w' ↔ Blk w' w.heap.size 65 #[.int .i64 s, .int .i64 n, .int .i64 p, .int .i64 0, .bool h, .int .i64 m, .bool t] := ⟨fun w' => Blk w' w.heap.size 65 #[.int .i64 s, .int .i64 n, .int .i64 p, .int .i64 0, .bool h, .int .i64 m, .bool t], fun _ => Iff.rfl⟩
     have s2 : ∀ w', S w' → w'.cell? ⟨w.heap.size, 2, none⟩ = some (.int .i64 p) := fun w' h' => (((hSd w').1 h').cell 2).trans rfl
     have s4 : ∀ w', S w' → w'.cell? ⟨w.heap.size, 4, none⟩ = some (.bool h) := fun w' h' => (((hSd w').1 h').cell 4).trans rfl
     have s5 : ∀ w', S w' → w'.cell? ⟨w.heap.size, 5, none⟩ = some (.int .i64 m) := fun w' h' => (((hSd w').1 h').cell 5).trans rfl
     have s6 : ∀ w', S w' → w'.cell? ⟨w.heap.size, 6, none⟩ = some (.bool t) := fun w' h' => (((hSd w').1 h').cell 6).trans rfl
     have hS0 : S (w.alloc (.cells #[.int .i64 s, .int .i64 n, .int .i64 p, .int .i64 0, .bool h, .int .i64 m, .bool t] 65)).drew := (hSd _).2 (Blk.new w 65 #[.int .i64 s, .int .i64 n, .int .i64 p, .int .i64 0, .bool h, .int .i64 m, .bool t])
     refine wp_region_held_drew (S := S) (by kernel_rfl) hS0 (fun hS => ?_)
     refine stepH (i := 0) (d := 42) (v := (.bool false)) rfl rfl (by kernel_rfl) (by kernel_rfl) (by kernel_rfl) (fun _ _ _ h => h) (Or.inl ⟨by kernel_rfl, fun w' hw' => by kernel_rfl⟩) hS ?_
     simp only [List.set_cons_zero, List.set_cons_succ]
     refine stepH (i := 1) (d := 43) (v := (.bool false)) rfl rfl (by kernel_rfl) (by kernel_rfl) (by kernel_rfl) (fun _ _ _ h => h) (Or.inl ⟨by kernel_rfl, fun w' hw' => by kernel_rfl⟩) hS ?_
     simp only [List.set_cons_zero, List.set_cons_succ]
     refine stepH (i := 2) (d := 44) (v := undef) rfl rfl (by kernel_rfl) (by kernel_rfl) (by kernel_rfl) (fun _ _ _ h => h) (Or.inr ⟨rfl, rfl⟩) hS ?_
     refine stepH (i := 3) (d := 45) (v := undef) rfl rfl (by kernel_rfl) (by kernel_rfl) (by kernel_rfl) (fun _ _ _ h => h) (Or.inr ⟨rfl, rfl⟩) hS ?_
     refine stepH (i := 4) (d := 46) (v := undef) rfl rfl (by kernel_rfl) (by kernel_rfl) (by kernel_rfl) (fun _ _ _ h => h) (Or.inr ⟨rfl, rfl⟩) hS ?_
     refine stepH (i := 5) (d := 47) (v := (.bool false)) rfl rfl (by kernel_rfl) (by kernel_rfl) (by kernel_rfl) (fun _ _ _ h => h) (Or.inl ⟨by kernel_rfl, fun w' hw' => by kernel_rfl⟩) hS ?_
     simp only [List.set_cons_zero, List.set_cons_succ]
     refine stepH (i := 6) (d := 48) (v := (.bool false)) rfl rfl (by kernel_rfl) (by kernel_rfl) (by kernel_rfl) (fun _ _ _ h => h) (Or.inl ⟨by kernel_rfl, fun w' hw' => by kernel_rfl⟩) hS ?_
     simp only [List.set_cons_zero, List.set_cons_succ]
     refine stepH (i := 7) (d := 49) (v := undef) rfl rfl (by kernel_rfl) (by kernel_rfl) (by kernel_rfl) (fun _ _ _ h => h) (Or.inr ⟨rfl, rfl⟩) hS ?_
     refine stepH (i := 8) (d := 50) (v := undef) rfl rfl (by kernel_rfl) (by kernel_rfl) (by kernel_rfl) (fun _ _ _ h => h) (Or.inr ⟨rfl, rfl⟩) hS ?_
     refine stepH (i := 9) (d := 51) (v := undef) rfl rfl (by kernel_rfl) (by kernel_rfl) (by kernel_rfl) (fun _ _ _ h => h) (Or.inr ⟨rfl, rfl⟩) hS ?_
     refine stepH (i := 10) (d := 52) (v := (.bool false)) rfl rfl (by kernel_rfl) (by kernel_rfl) (by kernel_rfl) (fun _ _ _ h => h) (Or.inl ⟨by kernel_rfl, fun w' hw' => by kernel_rfl⟩) hS ?_
     simp only [List.set_cons_zero, List.set_cons_succ]
     refine stepH (i := 11) (d := 53) (v := (.bool false)) rfl rfl (by kernel_rfl) (by kernel_rfl) (by kernel_rfl) (fun _ _ _ h => h) (Or.inl ⟨by kernel_rfl, fun w' hw' => by kernel_rfl⟩) hS ?_
     simp only [List.set_cons_zero, List.set_cons_succ]
     refine stepH (i := 12) (d := 54) (v := undef) rfl rfl (by kernel_rfl) (by kernel_rfl) (by kernel_rfl) (fun _ _ _ h => h) (Or.inr ⟨rfl, rfl⟩) hS ?_
     refine stepH (i := 13) (d := 55) (v := undef) rfl rfl (by kernel_rfl) (by kernel_rfl) (by kernel_rfl) (fun _ _ _ h => h) (Or.inr ⟨rfl, rfl⟩) hS ?_
     refine stepH (i := 14) (d := 56) (v := undef) rfl rfl (by kernel_rfl) (by kernel_rfl) (by kernel_rfl) (fun _ _ _ h => h) (Or.inr ⟨rfl, rfl⟩) hS ?_
     refine stepH (i := 15) (d := 57) (v := undef) rfl rfl (by kernel_rfl) (by kernel_rfl) (by kernel_rfl) (fun _ _ _ h => h) (Or.inr ⟨rfl, rfl⟩) hS ?_
     refine stepH (i := 16) (d := 58) (v := undef) rfl rfl (by kernel_rfl) (by kernel_rfl) (by kernel_rfl) (fun _ _ _ h => h) (Or.inr ⟨rfl, rfl⟩) hS ?_
     refine stepH (i := 17) (d := 59) (v := undef) rfl rfl (by kernel_rfl) (by kernel_rfl) (by kernel_rfl) (fun _ _ _ h => h) (Or.inr ⟨rfl, rfl⟩) hS ?_
     refine stepH (i := 18) (d := 60) (v := undef) rfl rfl (by kernel_rfl) (by kernel_rfl) (by kernel_rfl) (fun _ _ _ h => h) (Or.inr ⟨rfl, rfl⟩) hS ?_
     refine stepH (i := 19) (d := 61) (v := (.bool false)) rfl rfl (by kernel_rfl) (by kernel_rfl) (by kernel_rfl) (fun _ _ _ h => h) (Or.inl ⟨by kernel_rfl, fun w' hw' => by kernel_rfl⟩) hS ?_
     simp only [List.set_cons_zero, List.set_cons_succ]
     refine stepH (i := 20) (d := 62) (v := (.bool false)) rfl rfl (by kernel_rfl) (by kernel_rfl) (by kernel_rfl) (fun _ _ _ h => h) (Or.inl ⟨by kernel_rfl, fun w' hw' => by kernel_rfl⟩) hS ?_
     simp only [List.set_cons_zero, List.set_cons_succ]
     refine stepH (i := 21) (d := 63) (v := undef) rfl rfl (by kernel_rfl) (by kernel_rfl) (by kernel_rfl) (fun _ _ _ h => h) (Or.inr ⟨rfl, rfl⟩) hS ?_
     refine stepH (i := 22) (d := 64) (v := undef) rfl rfl (by kernel_rfl) (by kernel_rfl) (by kernel_rfl) (fun _ _ _ h => h) (Or.inr ⟨rfl, rfl⟩) hS ?_
     refine stepH (i := 23) (d := 65) (v := undef) rfl rfl (by kernel_rfl) (by kernel_rfl) (by kernel_rfl) (fun _ _ _ h => h) (Or.inr ⟨rfl, rfl⟩) hS ?_
     refine stepH (i := 24) (d := 66) (v := undef) rfl rfl (by kernel_rfl) (by kernel_rfl) (by kernel_rfl) (fun _ _ _ h => h) (Or.inr ⟨rfl, rfl⟩) hS ?_
     refine stepH (i := 25) (d := 67) (v := undef) rfl rfl (by kernel_rfl) (by kernel_rfl) (by kernel_rfl) (fun _ _ _ h => h) (Or.inr ⟨rfl, rfl⟩) hS ?_
     refine stepH (i := 26) (d := 68) (v := undef) rfl rfl (by kernel_rfl) (by kernel_rfl) (by kernel_rfl) (fun _ _ _ h => h) (Or.inr ⟨rfl, rfl⟩) hS ?_
     refine stepH (i := 27) (d := 69) (v := undef) rfl rfl (by kernel_rfl) (by kernel_rfl) (by kernel_rfl) (fun _ _ _ h => h) (Or.inr ⟨rfl, rfl⟩) hS ?_
     refine stepH (i := 28) (d := 70) (v := (.bool false)) rfl rfl (by kernel_rfl) (by kernel_rfl) (by kernel_rfl) (fun _ _ _ h => h) (Or.inl ⟨by kernel_rfl, fun w' hw' => by kernel_rfl⟩) hS ?_
     simp only [List.set_cons_zero, List.set_cons_succ]
     refine stepH (i := 29) (d := 71) (v := (.bool false)) rfl rfl (by kernel_rfl) (by kernel_rfl) (by kernel_rfl) (fun _ _ _ h => h) (Or.inl ⟨by kernel_rfl, fun w' hw' => by kernel_rfl⟩) hS ?_
     simp only [List.set_cons_zero, List.set_cons_succ]
     refine stepH (i := 30) (d := 72) (v := undef) rfl rfl (by kernel_rfl) (by kernel_rfl) (by kernel_rfl) (fun _ _ _ h => h) (Or.inr ⟨rfl, rfl⟩) hS ?_
     refine stepH (i := 31) (d := 73) (v := undef) rfl rfl (by kernel_rfl) (by kernel_rfl) (by kernel_rfl) (fun _ _ _ h => h) (Or.inr ⟨rfl, rfl⟩) hS ?_
     refine stepH (i := 32) (d := 74) (v := undef) rfl rfl (by kernel_rfl) (by kernel_rfl) (by kernel_rfl) (fun _ _ _ h => h) (Or.inr ⟨rfl, rfl⟩) hS ?_
     refine stepH (i := 33) (d := 75) (v := undef) rfl rfl (by kernel_rfl) (by kernel_rfl) (by kernel_rfl) (fun _ _ _ h => h) (Or.inr ⟨rfl, rfl⟩) hS ?_
     refine stepH (i := 34) (d := 76) (v := undef) rfl rfl (by kernel_rfl) (by kernel_rfl) (by kernel_rfl) (fun _ _ _ h => h) (Or.inr ⟨rfl, rfl⟩) hS ?_
     refine stepH (i := 35) (d := 77) (v := undef) rfl rfl (by kernel_rfl) (by kernel_rfl) (by kernel_rfl) (fun _ _ _ h => h) (Or.inr ⟨rfl, rfl⟩) hS ?_
     refine stepH (i := 36) (d := 78) (v := (.bool false)) rfl rfl (by kernel_rfl) (by kernel_rfl) (by kernel_rfl) (fun _ _ _ h => h) (Or.inl ⟨by kernel_rfl, fun w' hw' => by kernel_rfl⟩) hS ?_
     simp only [List.set_cons_zero, List.set_cons_succ]
     refine stepH (i := 37) (d := 3) (v := (.bool false)) rfl rfl (by kernel_rfl) (by kernel_rfl) (by kernel_rfl) (fun _ _ _ h => h) (Or.inl ⟨by kernel_rfl, fun w' hw' => by kernel_rfl⟩) hS ?_
     simp only [List.set_cons_zero, List.set_cons_succ]
     refine wpAnyH_done (by kernel_rfl) ?_ _
     clear hSd s2 s4 s5 s6 hS0 hS
     go_wp2
     all_goals (go_ret; refine ⟨congrArg (fun b => Ending.returned (.int .i64 b)) ?_, (one_box _ _).drew⟩)
     all_goals (unfold mayE mayB; grind))

set_option maxRecDepth 100000 in
set_option maxHeartbeats 4000000 in
theorem may_1 (s n p : Int) (h : Bool) (m : Int) (t : Bool) (w : World) :
    Calls Try.prog 29 #[.agg #[.int .i64 s, .int .i64 n, .int .i64 p, .int .i64 1, .bool h, .int .i64 m, .bool t]] w fun e w' => e = .returned (.int .i64 (mayE s n p 1 h m t)) ∧ Below w.heap.size w w' := by
  go_enter Try.func29, Try.ntmps29
  go_wp2
  · by_cases m0 : 0 ≤ m
    · by_cases m1 : m < 1024
      · have hreal := real_of p (by assumption) (by assumption)
        cases h with
        | true =>
          cases t with
          | true =>
            obtain ⟨S, hSd⟩ : ∃ S : World → Prop, ∀ w', S w' ↔ Blk w' w.heap.size 65 #[.int .i64 s, .int .i64 n, .int .i64 p, .int .i64 1, .bool true, .int .i64 m, .bool true] := ⟨fun w' => Blk w' w.heap.size 65 #[.int .i64 s, .int .i64 n, .int .i64 p, .int .i64 1, .bool true, .int .i64 m, .bool true], fun _ => Iff.rfl⟩
            have s2 : ∀ w', S w' → w'.cell? ⟨w.heap.size, 2, none⟩ = some (.int .i64 p) := fun w' h' => (((hSd w').1 h').cell 2).trans rfl
            have s4 : ∀ w', S w' → w'.cell? ⟨w.heap.size, 4, none⟩ = some (.bool true) := fun w' h' => (((hSd w').1 h').cell 4).trans rfl
            have s5 : ∀ w', S w' → w'.cell? ⟨w.heap.size, 5, none⟩ = some (.int .i64 m) := fun w' h' => (((hSd w').1 h').cell 5).trans rfl
            have s6 : ∀ w', S w' → w'.cell? ⟨w.heap.size, 6, none⟩ = some (.bool true) := fun w' h' => (((hSd w').1 h').cell 6).trans rfl
            have hS0 : S (w.alloc (.cells #[.int .i64 s, .int .i64 n, .int .i64 p, .int .i64 1, .bool true, .int .i64 m, .bool true] 65)).drew := (hSd _).2 (Blk.new w 65 #[.int .i64 s, .int .i64 n, .int .i64 p, .int .i64 1, .bool true, .int .i64 m, .bool true])
            refine wp_region_held_drew (S := S) (by kernel_rfl) hS0 (fun hS => ?_)
            refine stepH (i := 0) (d := 42) (v := (.bool true)) rfl rfl (by kernel_rfl) (by kernel_rfl) (by kernel_rfl) (fun _ _ _ h => h) (Or.inl ⟨by kernel_rfl, fun w' hw' => by kernel_rfl⟩) hS ?_
            simp only [List.set_cons_zero, List.set_cons_succ]
            refine stepH (i := 1) (d := 43) (v := (.bool true)) rfl rfl (by kernel_rfl) (by kernel_rfl) (by kernel_rfl) (fun _ _ _ h => h) (Or.inl ⟨by kernel_rfl, fun w' hw' => by kernel_rfl⟩) hS ?_
            simp only [List.set_cons_zero, List.set_cons_succ]
            refine stepH (i := 2) (d := 44) (v := (.pointer (some ⟨w.heap.size, 5, none⟩))) rfl rfl (by kernel_rfl) (by kernel_rfl) (by kernel_rfl) (fun _ _ _ h => h) (Or.inl ⟨by kernel_rfl, fun w' hw' => by kernel_rfl⟩) hS ?_
            simp only [List.set_cons_zero, List.set_cons_succ]
            refine stepH (i := 3) (d := 45) (v := (.int .i64 m)) rfl rfl (by kernel_rfl) (by kernel_rfl) (by kernel_rfl) (fun _ _ _ h => h) (Or.inl ⟨by kernel_rfl, fun w' hw' => exec_load 3 _ rfl ⟨w.heap.size, 5, none⟩ rfl (by simp [go_sem, s5 w' hw'])⟩) hS ?_
            simp only [List.set_cons_zero, List.set_cons_succ]
            refine stepH (i := 4) (d := 46) (v := (.bool true)) rfl rfl (by kernel_rfl) (by kernel_rfl) (by kernel_rfl) (fun _ _ _ h => h) (Or.inl ⟨by kernel_rfl, fun w' hw' => exec_bin .geq 3 3 _ _ rfl (.int .i64 m) (.int .i64 0) rfl rfl (by simp [go_sem]) (by simp [go_sem]; try omega)⟩) hS ?_
            simp only [List.set_cons_zero, List.set_cons_succ]
            refine stepH (i := 5) (d := 47) (v := (.bool true)) rfl rfl (by kernel_rfl) (by kernel_rfl) (by kernel_rfl) (fun _ _ _ h => h) (Or.inl ⟨by kernel_rfl, fun w' hw' => by kernel_rfl⟩) hS ?_
            simp only [List.set_cons_zero, List.set_cons_succ]
            refine stepH (i := 6) (d := 48) (v := (.bool true)) rfl rfl (by kernel_rfl) (by kernel_rfl) (by kernel_rfl) (fun _ _ _ h => h) (Or.inl ⟨by kernel_rfl, fun w' hw' => by kernel_rfl⟩) hS ?_
            simp only [List.set_cons_zero, List.set_cons_succ]
            refine stepH (i := 7) (d := 49) (v := (.pointer (some ⟨w.heap.size, 5, none⟩))) rfl rfl (by kernel_rfl) (by kernel_rfl) (by kernel_rfl) (fun _ _ _ h => h) (Or.inl ⟨by kernel_rfl, fun w' hw' => by kernel_rfl⟩) hS ?_
            simp only [List.set_cons_zero, List.set_cons_succ]
            refine stepH (i := 8) (d := 50) (v := (.int .i64 m)) rfl rfl (by kernel_rfl) (by kernel_rfl) (by kernel_rfl) (fun _ _ _ h => h) (Or.inl ⟨by kernel_rfl, fun w' hw' => exec_load 3 _ rfl ⟨w.heap.size, 5, none⟩ rfl (by simp [go_sem, s5 w' hw'])⟩) hS ?_
            simp only [List.set_cons_zero, List.set_cons_succ]
            refine stepH (i := 9) (d := 51) (v := (.bool true)) rfl rfl (by kernel_rfl) (by kernel_rfl) (by kernel_rfl) (fun _ _ _ h => h) (Or.inl ⟨by kernel_rfl, fun w' hw' => exec_bin .lss 3 3 _ _ rfl (.int .i64 m) (.int .i64 1024) rfl rfl (by simp [go_sem]) (by simp [go_sem]; try omega)⟩) hS ?_
            simp only [List.set_cons_zero, List.set_cons_succ]
            refine stepH (i := 10) (d := 52) (v := (.bool true)) rfl rfl (by kernel_rfl) (by kernel_rfl) (by kernel_rfl) (fun _ _ _ h => h) (Or.inl ⟨by kernel_rfl, fun w' hw' => by kernel_rfl⟩) hS ?_
            simp only [List.set_cons_zero, List.set_cons_succ]
            refine stepH (i := 11) (d := 53) (v := (.bool true)) rfl rfl (by kernel_rfl) (by kernel_rfl) (by kernel_rfl) (fun _ _ _ h => h) (Or.inl ⟨by kernel_rfl, fun w' hw' => by kernel_rfl⟩) hS ?_
            simp only [List.set_cons_zero, List.set_cons_succ]
            refine stepH (i := 12) (d := 54) (v := (.pointer (some ⟨w.heap.size, 4, none⟩))) rfl rfl (by kernel_rfl) (by kernel_rfl) (by kernel_rfl) (fun _ _ _ h => h) (Or.inl ⟨by kernel_rfl, fun w' hw' => by kernel_rfl⟩) hS ?_
            simp only [List.set_cons_zero, List.set_cons_succ]
            refine stepH (i := 13) (d := 55) (v := (.bool true)) rfl rfl (by kernel_rfl) (by kernel_rfl) (by kernel_rfl) (fun _ _ _ h => h) (Or.inl ⟨by kernel_rfl, fun w' hw' => exec_load 4 _ rfl ⟨w.heap.size, 4, none⟩ rfl (by simp [go_sem, s4 w' hw'])⟩) hS ?_
            simp only [List.set_cons_zero, List.set_cons_succ]
            refine stepH (i := 14) (d := 56) (v := (.bool true)) rfl rfl (by kernel_rfl) (by kernel_rfl) (by kernel_rfl) (fun _ _ _ h => h) (Or.inl ⟨by kernel_rfl, fun w' hw' => by kernel_rfl⟩) hS ?_
            simp only [List.set_cons_zero, List.set_cons_succ]
            refine stepH (i := 15) (d := 57) (v := undef) rfl rfl (by kernel_rfl) (by kernel_rfl) (by kernel_rfl) (fun _ _ _ h => h) (Or.inr ⟨rfl, rfl⟩) hS ?_
            refine stepH (i := 16) (d := 58) (v := undef) rfl rfl (by kernel_rfl) (by kernel_rfl) (by kernel_rfl) (fun _ _ _ h => h) (Or.inr ⟨rfl, rfl⟩) hS ?_
            refine stepH (i := 17) (d := 59) (v := undef) rfl rfl (by kernel_rfl) (by kernel_rfl) (by kernel_rfl) (fun _ _ _ h => h) (Or.inr ⟨rfl, rfl⟩) hS ?_
            refine stepH (i := 18) (d := 60) (v := (.bool true)) rfl rfl (by kernel_rfl) (by kernel_rfl) (by kernel_rfl) (fun _ _ _ h => h) (Or.inl ⟨by kernel_rfl, fun w' hw' => by kernel_rfl⟩) hS ?_
            simp only [List.set_cons_zero, List.set_cons_succ]
            refine stepH (i := 19) (d := 61) (v := (.bool true)) rfl rfl (by kernel_rfl) (by kernel_rfl) (by kernel_rfl) (fun _ _ _ h => h) (Or.inl ⟨by kernel_rfl, fun w' hw' => by kernel_rfl⟩) hS ?_
            simp only [List.set_cons_zero, List.set_cons_succ]
            refine stepH (i := 20) (d := 62) (v := (.bool true)) rfl rfl (by kernel_rfl) (by kernel_rfl) (by kernel_rfl) (fun _ _ _ h => h) (Or.inl ⟨by kernel_rfl, fun w' hw' => by kernel_rfl⟩) hS ?_
            simp only [List.set_cons_zero, List.set_cons_succ]
            refine stepH (i := 21) (d := 63) (v := (.pointer (some ⟨w.heap.size, 4, none⟩))) rfl rfl (by kernel_rfl) (by kernel_rfl) (by kernel_rfl) (fun _ _ _ h => h) (Or.inl ⟨by kernel_rfl, fun w' hw' => by kernel_rfl⟩) hS ?_
            simp only [List.set_cons_zero, List.set_cons_succ]
            refine stepH (i := 22) (d := 64) (v := (.bool true)) rfl rfl (by kernel_rfl) (by kernel_rfl) (by kernel_rfl) (fun _ _ _ h => h) (Or.inl ⟨by kernel_rfl, fun w' hw' => exec_load 4 _ rfl ⟨w.heap.size, 4, none⟩ rfl (by simp [go_sem, s4 w' hw'])⟩) hS ?_
            simp only [List.set_cons_zero, List.set_cons_succ]
            refine stepH (i := 23) (d := 65) (v := (.bool true)) rfl rfl (by kernel_rfl) (by kernel_rfl) (by kernel_rfl) (fun _ _ _ h => h) (Or.inl ⟨by kernel_rfl, fun w' hw' => by kernel_rfl⟩) hS ?_
            simp only [List.set_cons_zero, List.set_cons_succ]
            refine stepH (i := 24) (d := 66) (v := (.pointer (some ⟨w.heap.size, 6, none⟩))) rfl rfl (by kernel_rfl) (by kernel_rfl) (by kernel_rfl) (fun _ _ _ h => h) (Or.inl ⟨by kernel_rfl, fun w' hw' => by kernel_rfl⟩) hS ?_
            simp only [List.set_cons_zero, List.set_cons_succ]
            refine stepH (i := 25) (d := 67) (v := (.bool true)) rfl rfl (by kernel_rfl) (by kernel_rfl) (by kernel_rfl) (fun _ _ _ h => h) (Or.inl ⟨by kernel_rfl, fun w' hw' => exec_load 4 _ rfl ⟨w.heap.size, 6, none⟩ rfl (by simp [go_sem, s6 w' hw'])⟩) hS ?_
            simp only [List.set_cons_zero, List.set_cons_succ]
            refine stepH (i := 26) (d := 68) (v := (.bool true)) rfl rfl (by kernel_rfl) (by kernel_rfl) (by kernel_rfl) (fun _ _ _ h => h) (Or.inl ⟨by kernel_rfl, fun w' hw' => by kernel_rfl⟩) hS ?_
            simp only [List.set_cons_zero, List.set_cons_succ]
            refine stepH (i := 27) (d := 69) (v := (.bool false)) rfl rfl (by kernel_rfl) (by kernel_rfl) (by kernel_rfl) (fun _ _ _ h => h) (Or.inl ⟨by kernel_rfl, fun w' hw' => by kernel_rfl⟩) hS ?_
            simp only [List.set_cons_zero, List.set_cons_succ]
            refine stepH (i := 28) (d := 70) (v := (.bool false)) rfl rfl (by kernel_rfl) (by kernel_rfl) (by kernel_rfl) (fun _ _ _ h => h) (Or.inl ⟨by kernel_rfl, fun w' hw' => by kernel_rfl⟩) hS ?_
            simp only [List.set_cons_zero, List.set_cons_succ]
            refine stepH (i := 29) (d := 71) (v := (.bool false)) rfl rfl (by kernel_rfl) (by kernel_rfl) (by kernel_rfl) (fun _ _ _ h => h) (Or.inl ⟨by kernel_rfl, fun w' hw' => by kernel_rfl⟩) hS ?_
            simp only [List.set_cons_zero, List.set_cons_succ]
            refine stepH (i := 30) (d := 72) (v := undef) rfl rfl (by kernel_rfl) (by kernel_rfl) (by kernel_rfl) (fun _ _ _ h => h) (Or.inr ⟨rfl, rfl⟩) hS ?_
            refine stepH (i := 31) (d := 73) (v := undef) rfl rfl (by kernel_rfl) (by kernel_rfl) (by kernel_rfl) (fun _ _ _ h => h) (Or.inr ⟨rfl, rfl⟩) hS ?_
            refine stepH (i := 32) (d := 74) (v := undef) rfl rfl (by kernel_rfl) (by kernel_rfl) (by kernel_rfl) (fun _ _ _ h => h) (Or.inr ⟨rfl, rfl⟩) hS ?_
            refine stepH (i := 33) (d := 75) (v := undef) rfl rfl (by kernel_rfl) (by kernel_rfl) (by kernel_rfl) (fun _ _ _ h => h) (Or.inr ⟨rfl, rfl⟩) hS ?_
            refine stepH (i := 34) (d := 76) (v := undef) rfl rfl (by kernel_rfl) (by kernel_rfl) (by kernel_rfl) (fun _ _ _ h => h) (Or.inr ⟨rfl, rfl⟩) hS ?_
            refine stepH (i := 35) (d := 77) (v := undef) rfl rfl (by kernel_rfl) (by kernel_rfl) (by kernel_rfl) (fun _ _ _ h => h) (Or.inr ⟨rfl, rfl⟩) hS ?_
            refine stepH (i := 36) (d := 78) (v := (.bool false)) rfl rfl (by kernel_rfl) (by kernel_rfl) (by kernel_rfl) (fun _ _ _ h => h) (Or.inl ⟨by kernel_rfl, fun w' hw' => by kernel_rfl⟩) hS ?_
            simp only [List.set_cons_zero, List.set_cons_succ]
            refine stepH (i := 37) (d := 3) (v := (.bool false)) rfl rfl (by kernel_rfl) (by kernel_rfl) (by kernel_rfl) (fun _ _ _ h => h) (Or.inl ⟨by kernel_rfl, fun w' hw' => by kernel_rfl⟩) hS ?_
            simp only [List.set_cons_zero, List.set_cons_succ]
            refine wpAnyH_done (by kernel_rfl) ?_ _
            clear hSd s2 s4 s5 s6 hS0 hS
            go_wp2
            all_goals (go_ret; refine ⟨congrArg (fun b => Ending.returned (.int .i64 b)) ?_, (one_box _ _).drew⟩)
            all_goals (unfold mayE mayB; grind)
          | false =>
            by_cases p8 : p % 8 = 0
            · obtain ⟨S, hSd⟩ : ∃ S : World → Prop, ∀ w', S w' ↔ Blk w' w.heap.size 65 #[.int .i64 s, .int .i64 n, .int .i64 p, .int .i64 1, .bool true, .int .i64 m, .bool false] := ⟨fun w' => Blk w' w.heap.size 65 #[.int .i64 s, .int .i64 n, .int .i64 p, .int .i64 1, .bool true, .int .i64 m, .bool false], fun _ => Iff.rfl⟩
              have s2 : ∀ w', S w' → w'.cell? ⟨w.heap.size, 2, none⟩ = some (.int .i64 p) := fun w' h' => (((hSd w').1 h').cell 2).trans rfl
              have s4 : ∀ w', S w' → w'.cell? ⟨w.heap.size, 4, none⟩ = some (.bool true) := fun w' h' => (((hSd w').1 h').cell 4).trans rfl
              have s5 : ∀ w', S w' → w'.cell? ⟨w.heap.size, 5, none⟩ = some (.int .i64 m) := fun w' h' => (((hSd w').1 h').cell 5).trans rfl
              have s6 : ∀ w', S w' → w'.cell? ⟨w.heap.size, 6, none⟩ = some (.bool false) := fun w' h' => (((hSd w').1 h').cell 6).trans rfl
              have hS0 : S (w.alloc (.cells #[.int .i64 s, .int .i64 n, .int .i64 p, .int .i64 1, .bool true, .int .i64 m, .bool false] 65)).drew := (hSd _).2 (Blk.new w 65 #[.int .i64 s, .int .i64 n, .int .i64 p, .int .i64 1, .bool true, .int .i64 m, .bool false])
              refine wp_region_held_drew (S := S) (by kernel_rfl) hS0 (fun hS => ?_)
              refine stepH (i := 0) (d := 42) (v := (.bool true)) rfl rfl (by kernel_rfl) (by kernel_rfl) (by kernel_rfl) (fun _ _ _ h => h) (Or.inl ⟨by kernel_rfl, fun w' hw' => by kernel_rfl⟩) hS ?_
              simp only [List.set_cons_zero, List.set_cons_succ]
              refine stepH (i := 1) (d := 43) (v := (.bool true)) rfl rfl (by kernel_rfl) (by kernel_rfl) (by kernel_rfl) (fun _ _ _ h => h) (Or.inl ⟨by kernel_rfl, fun w' hw' => by kernel_rfl⟩) hS ?_
              simp only [List.set_cons_zero, List.set_cons_succ]
              refine stepH (i := 2) (d := 44) (v := (.pointer (some ⟨w.heap.size, 5, none⟩))) rfl rfl (by kernel_rfl) (by kernel_rfl) (by kernel_rfl) (fun _ _ _ h => h) (Or.inl ⟨by kernel_rfl, fun w' hw' => by kernel_rfl⟩) hS ?_
              simp only [List.set_cons_zero, List.set_cons_succ]
              refine stepH (i := 3) (d := 45) (v := (.int .i64 m)) rfl rfl (by kernel_rfl) (by kernel_rfl) (by kernel_rfl) (fun _ _ _ h => h) (Or.inl ⟨by kernel_rfl, fun w' hw' => exec_load 3 _ rfl ⟨w.heap.size, 5, none⟩ rfl (by simp [go_sem, s5 w' hw'])⟩) hS ?_
              simp only [List.set_cons_zero, List.set_cons_succ]
              refine stepH (i := 4) (d := 46) (v := (.bool true)) rfl rfl (by kernel_rfl) (by kernel_rfl) (by kernel_rfl) (fun _ _ _ h => h) (Or.inl ⟨by kernel_rfl, fun w' hw' => exec_bin .geq 3 3 _ _ rfl (.int .i64 m) (.int .i64 0) rfl rfl (by simp [go_sem]) (by simp [go_sem]; try omega)⟩) hS ?_
              simp only [List.set_cons_zero, List.set_cons_succ]
              refine stepH (i := 5) (d := 47) (v := (.bool true)) rfl rfl (by kernel_rfl) (by kernel_rfl) (by kernel_rfl) (fun _ _ _ h => h) (Or.inl ⟨by kernel_rfl, fun w' hw' => by kernel_rfl⟩) hS ?_
              simp only [List.set_cons_zero, List.set_cons_succ]
              refine stepH (i := 6) (d := 48) (v := (.bool true)) rfl rfl (by kernel_rfl) (by kernel_rfl) (by kernel_rfl) (fun _ _ _ h => h) (Or.inl ⟨by kernel_rfl, fun w' hw' => by kernel_rfl⟩) hS ?_
              simp only [List.set_cons_zero, List.set_cons_succ]
              refine stepH (i := 7) (d := 49) (v := (.pointer (some ⟨w.heap.size, 5, none⟩))) rfl rfl (by kernel_rfl) (by kernel_rfl) (by kernel_rfl) (fun _ _ _ h => h) (Or.inl ⟨by kernel_rfl, fun w' hw' => by kernel_rfl⟩) hS ?_
              simp only [List.set_cons_zero, List.set_cons_succ]
              refine stepH (i := 8) (d := 50) (v := (.int .i64 m)) rfl rfl (by kernel_rfl) (by kernel_rfl) (by kernel_rfl) (fun _ _ _ h => h) (Or.inl ⟨by kernel_rfl, fun w' hw' => exec_load 3 _ rfl ⟨w.heap.size, 5, none⟩ rfl (by simp [go_sem, s5 w' hw'])⟩) hS ?_
              simp only [List.set_cons_zero, List.set_cons_succ]
              refine stepH (i := 9) (d := 51) (v := (.bool true)) rfl rfl (by kernel_rfl) (by kernel_rfl) (by kernel_rfl) (fun _ _ _ h => h) (Or.inl ⟨by kernel_rfl, fun w' hw' => exec_bin .lss 3 3 _ _ rfl (.int .i64 m) (.int .i64 1024) rfl rfl (by simp [go_sem]) (by simp [go_sem]; try omega)⟩) hS ?_
              simp only [List.set_cons_zero, List.set_cons_succ]
              refine stepH (i := 10) (d := 52) (v := (.bool true)) rfl rfl (by kernel_rfl) (by kernel_rfl) (by kernel_rfl) (fun _ _ _ h => h) (Or.inl ⟨by kernel_rfl, fun w' hw' => by kernel_rfl⟩) hS ?_
              simp only [List.set_cons_zero, List.set_cons_succ]
              refine stepH (i := 11) (d := 53) (v := (.bool true)) rfl rfl (by kernel_rfl) (by kernel_rfl) (by kernel_rfl) (fun _ _ _ h => h) (Or.inl ⟨by kernel_rfl, fun w' hw' => by kernel_rfl⟩) hS ?_
              simp only [List.set_cons_zero, List.set_cons_succ]
              refine stepH (i := 12) (d := 54) (v := (.pointer (some ⟨w.heap.size, 4, none⟩))) rfl rfl (by kernel_rfl) (by kernel_rfl) (by kernel_rfl) (fun _ _ _ h => h) (Or.inl ⟨by kernel_rfl, fun w' hw' => by kernel_rfl⟩) hS ?_
              simp only [List.set_cons_zero, List.set_cons_succ]
              refine stepH (i := 13) (d := 55) (v := (.bool true)) rfl rfl (by kernel_rfl) (by kernel_rfl) (by kernel_rfl) (fun _ _ _ h => h) (Or.inl ⟨by kernel_rfl, fun w' hw' => exec_load 4 _ rfl ⟨w.heap.size, 4, none⟩ rfl (by simp [go_sem, s4 w' hw'])⟩) hS ?_
              simp only [List.set_cons_zero, List.set_cons_succ]
              refine stepH (i := 14) (d := 56) (v := (.bool true)) rfl rfl (by kernel_rfl) (by kernel_rfl) (by kernel_rfl) (fun _ _ _ h => h) (Or.inl ⟨by kernel_rfl, fun w' hw' => by kernel_rfl⟩) hS ?_
              simp only [List.set_cons_zero, List.set_cons_succ]
              refine stepH (i := 15) (d := 57) (v := undef) rfl rfl (by kernel_rfl) (by kernel_rfl) (by kernel_rfl) (fun _ _ _ h => h) (Or.inr ⟨rfl, rfl⟩) hS ?_
              refine stepH (i := 16) (d := 58) (v := undef) rfl rfl (by kernel_rfl) (by kernel_rfl) (by kernel_rfl) (fun _ _ _ h => h) (Or.inr ⟨rfl, rfl⟩) hS ?_
              refine stepH (i := 17) (d := 59) (v := undef) rfl rfl (by kernel_rfl) (by kernel_rfl) (by kernel_rfl) (fun _ _ _ h => h) (Or.inr ⟨rfl, rfl⟩) hS ?_
              refine stepH (i := 18) (d := 60) (v := (.bool true)) rfl rfl (by kernel_rfl) (by kernel_rfl) (by kernel_rfl) (fun _ _ _ h => h) (Or.inl ⟨by kernel_rfl, fun w' hw' => by kernel_rfl⟩) hS ?_
              simp only [List.set_cons_zero, List.set_cons_succ]
              refine stepH (i := 19) (d := 61) (v := (.bool true)) rfl rfl (by kernel_rfl) (by kernel_rfl) (by kernel_rfl) (fun _ _ _ h => h) (Or.inl ⟨by kernel_rfl, fun w' hw' => by kernel_rfl⟩) hS ?_
              simp only [List.set_cons_zero, List.set_cons_succ]
              refine stepH (i := 20) (d := 62) (v := (.bool true)) rfl rfl (by kernel_rfl) (by kernel_rfl) (by kernel_rfl) (fun _ _ _ h => h) (Or.inl ⟨by kernel_rfl, fun w' hw' => by kernel_rfl⟩) hS ?_
              simp only [List.set_cons_zero, List.set_cons_succ]
              refine stepH (i := 21) (d := 63) (v := (.pointer (some ⟨w.heap.size, 4, none⟩))) rfl rfl (by kernel_rfl) (by kernel_rfl) (by kernel_rfl) (fun _ _ _ h => h) (Or.inl ⟨by kernel_rfl, fun w' hw' => by kernel_rfl⟩) hS ?_
              simp only [List.set_cons_zero, List.set_cons_succ]
              refine stepH (i := 22) (d := 64) (v := (.bool true)) rfl rfl (by kernel_rfl) (by kernel_rfl) (by kernel_rfl) (fun _ _ _ h => h) (Or.inl ⟨by kernel_rfl, fun w' hw' => exec_load 4 _ rfl ⟨w.heap.size, 4, none⟩ rfl (by simp [go_sem, s4 w' hw'])⟩) hS ?_
              simp only [List.set_cons_zero, List.set_cons_succ]
              refine stepH (i := 23) (d := 65) (v := (.bool true)) rfl rfl (by kernel_rfl) (by kernel_rfl) (by kernel_rfl) (fun _ _ _ h => h) (Or.inl ⟨by kernel_rfl, fun w' hw' => by kernel_rfl⟩) hS ?_
              simp only [List.set_cons_zero, List.set_cons_succ]
              refine stepH (i := 24) (d := 66) (v := (.pointer (some ⟨w.heap.size, 6, none⟩))) rfl rfl (by kernel_rfl) (by kernel_rfl) (by kernel_rfl) (fun _ _ _ h => h) (Or.inl ⟨by kernel_rfl, fun w' hw' => by kernel_rfl⟩) hS ?_
              simp only [List.set_cons_zero, List.set_cons_succ]
              refine stepH (i := 25) (d := 67) (v := (.bool false)) rfl rfl (by kernel_rfl) (by kernel_rfl) (by kernel_rfl) (fun _ _ _ h => h) (Or.inl ⟨by kernel_rfl, fun w' hw' => exec_load 4 _ rfl ⟨w.heap.size, 6, none⟩ rfl (by simp [go_sem, s6 w' hw'])⟩) hS ?_
              simp only [List.set_cons_zero, List.set_cons_succ]
              refine stepH (i := 26) (d := 68) (v := (.bool false)) rfl rfl (by kernel_rfl) (by kernel_rfl) (by kernel_rfl) (fun _ _ _ h => h) (Or.inl ⟨by kernel_rfl, fun w' hw' => by kernel_rfl⟩) hS ?_
              simp only [List.set_cons_zero, List.set_cons_succ]
              refine stepH (i := 27) (d := 69) (v := (.bool true)) rfl rfl (by kernel_rfl) (by kernel_rfl) (by kernel_rfl) (fun _ _ _ h => h) (Or.inl ⟨by kernel_rfl, fun w' hw' => by kernel_rfl⟩) hS ?_
              simp only [List.set_cons_zero, List.set_cons_succ]
              refine stepH (i := 28) (d := 70) (v := (.bool true)) rfl rfl (by kernel_rfl) (by kernel_rfl) (by kernel_rfl) (fun _ _ _ h => h) (Or.inl ⟨by kernel_rfl, fun w' hw' => by kernel_rfl⟩) hS ?_
              simp only [List.set_cons_zero, List.set_cons_succ]
              refine stepH (i := 29) (d := 71) (v := (.bool true)) rfl rfl (by kernel_rfl) (by kernel_rfl) (by kernel_rfl) (fun _ _ _ h => h) (Or.inl ⟨by kernel_rfl, fun w' hw' => by kernel_rfl⟩) hS ?_
              simp only [List.set_cons_zero, List.set_cons_succ]
              refine stepH (i := 30) (d := 72) (v := (.pointer (some ⟨w.heap.size, 2, none⟩))) rfl rfl (by kernel_rfl) (by kernel_rfl) (by kernel_rfl) (fun _ _ _ h => h) (Or.inl ⟨by kernel_rfl, fun w' hw' => by kernel_rfl⟩) hS ?_
              simp only [List.set_cons_zero, List.set_cons_succ]
              refine stepH (i := 31) (d := 73) (v := (.int .i64 p)) rfl rfl (by kernel_rfl) (by kernel_rfl) (by kernel_rfl) (fun _ _ _ h => h) (Or.inl ⟨by kernel_rfl, fun w' hw' => exec_load 3 _ rfl ⟨w.heap.size, 2, none⟩ rfl (by simp [go_sem, s2 w' hw'])⟩) hS ?_
              simp only [List.set_cons_zero, List.set_cons_succ]
              refine stepH (i := 32) (d := 74) (v := (.pointer (some ⟨w.heap.size, 2, none⟩))) rfl rfl (by kernel_rfl) (by kernel_rfl) (by kernel_rfl) (fun _ _ _ h => h) (Or.inl ⟨by kernel_rfl, fun w' hw' => by kernel_rfl⟩) hS ?_
              simp only [List.set_cons_zero, List.set_cons_succ]
              refine stepH (i := 33) (d := 75) (v := (.int .i64 p)) rfl rfl (by kernel_rfl) (by kernel_rfl) (by kernel_rfl) (fun _ _ _ h => h) (Or.inl ⟨by kernel_rfl, fun w' hw' => exec_load 3 _ rfl ⟨w.heap.size, 2, none⟩ rfl (by simp [go_sem, s2 w' hw'])⟩) hS ?_
              simp only [List.set_cons_zero, List.set_cons_succ]
              refine stepCall (i := 34) (d := 76) (f := 51) (args := #[.int .i64 p]) rfl rfl (by kernel_rfl) (by kernel_rfl) (exec_call 51 [.tmp 75] _ rfl rfl (enters_of Try.func51 (by kernel_rfl) rfl) _) (real_any p _) ?_
              rintro e w5 ⟨rfl, rfl⟩
              have hS2 := hS
              refine ⟨_, rfl, hS2, ?_⟩
              simp only [List.set_cons_zero, List.set_cons_succ]
              refine stepH (i := 35) (d := 77) (v := (.bool true)) rfl rfl (by kernel_rfl) (by kernel_rfl) (by kernel_rfl) (fun _ _ _ h => h) (Or.inl ⟨by kernel_rfl, fun w' hw' => exec_bin .eql 3 3 _ _ rfl (.int .i64 p) (.int .i64 (bits .and .i64 p 248)) rfl rfl (by simp [go_sem]) (by simp [go_sem]; omega)⟩) hS2 ?_
              simp only [List.set_cons_zero, List.set_cons_succ]
              refine stepH (i := 36) (d := 78) (v := (.bool true)) rfl rfl (by kernel_rfl) (by kernel_rfl) (by kernel_rfl) (fun _ _ _ h => h) (Or.inl ⟨by kernel_rfl, fun w' hw' => by kernel_rfl⟩) hS2 ?_
              simp only [List.set_cons_zero, List.set_cons_succ]
              refine stepH (i := 37) (d := 3) (v := (.bool true)) rfl rfl (by kernel_rfl) (by kernel_rfl) (by kernel_rfl) (fun _ _ _ h => h) (Or.inl ⟨by kernel_rfl, fun w' hw' => by kernel_rfl⟩) hS2 ?_
              simp only [List.set_cons_zero, List.set_cons_succ]
              refine wpAnyH_done (by kernel_rfl) ?_ _
              clear hSd s2 s4 s5 s6 hS0 hS
              go_wp2
              all_goals (go_ret; refine ⟨congrArg (fun b => Ending.returned (.int .i64 b)) ?_, (one_box _ _).drew⟩)
              all_goals (unfold mayE mayB; grind)
            · obtain ⟨S, hSd⟩ : ∃ S : World → Prop, ∀ w', S w' ↔ Blk w' w.heap.size 65 #[.int .i64 s, .int .i64 n, .int .i64 p, .int .i64 1, .bool true, .int .i64 m, .bool false] := ⟨fun w' => Blk w' w.heap.size 65 #[.int .i64 s, .int .i64 n, .int .i64 p, .int .i64 1, .bool true, .int .i64 m, .bool false], fun _ => Iff.rfl⟩
              have s2 : ∀ w', S w' → w'.cell? ⟨w.heap.size, 2, none⟩ = some (.int .i64 p) := fun w' h' => (((hSd w').1 h').cell 2).trans rfl
              have s4 : ∀ w', S w' → w'.cell? ⟨w.heap.size, 4, none⟩ = some (.bool true) := fun w' h' => (((hSd w').1 h').cell 4).trans rfl
              have s5 : ∀ w', S w' → w'.cell? ⟨w.heap.size, 5, none⟩ = some (.int .i64 m) := fun w' h' => (((hSd w').1 h').cell 5).trans rfl
              have s6 : ∀ w', S w' → w'.cell? ⟨w.heap.size, 6, none⟩ = some (.bool false) := fun w' h' => (((hSd w').1 h').cell 6).trans rfl
              have hS0 : S (w.alloc (.cells #[.int .i64 s, .int .i64 n, .int .i64 p, .int .i64 1, .bool true, .int .i64 m, .bool false] 65)).drew := (hSd _).2 (Blk.new w 65 #[.int .i64 s, .int .i64 n, .int .i64 p, .int .i64 1, .bool true, .int .i64 m, .bool false])
              refine wp_region_held_drew (S := S) (by kernel_rfl) hS0 (fun hS => ?_)
              refine stepH (i := 0) (d := 42) (v := (.bool true)) rfl rfl (by kernel_rfl) (by kernel_rfl) (by kernel_rfl) (fun _ _ _ h => h) (Or.inl ⟨by kernel_rfl, fun w' hw' => by kernel_rfl⟩) hS ?_
              simp only [List.set_cons_zero, List.set_cons_succ]
              refine stepH (i := 1) (d := 43) (v := (.bool true)) rfl rfl (by kernel_rfl) (by kernel_rfl) (by kernel_rfl) (fun _ _ _ h => h) (Or.inl ⟨by kernel_rfl, fun w' hw' => by kernel_rfl⟩) hS ?_
              simp only [List.set_cons_zero, List.set_cons_succ]
              refine stepH (i := 2) (d := 44) (v := (.pointer (some ⟨w.heap.size, 5, none⟩))) rfl rfl (by kernel_rfl) (by kernel_rfl) (by kernel_rfl) (fun _ _ _ h => h) (Or.inl ⟨by kernel_rfl, fun w' hw' => by kernel_rfl⟩) hS ?_
              simp only [List.set_cons_zero, List.set_cons_succ]
              refine stepH (i := 3) (d := 45) (v := (.int .i64 m)) rfl rfl (by kernel_rfl) (by kernel_rfl) (by kernel_rfl) (fun _ _ _ h => h) (Or.inl ⟨by kernel_rfl, fun w' hw' => exec_load 3 _ rfl ⟨w.heap.size, 5, none⟩ rfl (by simp [go_sem, s5 w' hw'])⟩) hS ?_
              simp only [List.set_cons_zero, List.set_cons_succ]
              refine stepH (i := 4) (d := 46) (v := (.bool true)) rfl rfl (by kernel_rfl) (by kernel_rfl) (by kernel_rfl) (fun _ _ _ h => h) (Or.inl ⟨by kernel_rfl, fun w' hw' => exec_bin .geq 3 3 _ _ rfl (.int .i64 m) (.int .i64 0) rfl rfl (by simp [go_sem]) (by simp [go_sem]; try omega)⟩) hS ?_
              simp only [List.set_cons_zero, List.set_cons_succ]
              refine stepH (i := 5) (d := 47) (v := (.bool true)) rfl rfl (by kernel_rfl) (by kernel_rfl) (by kernel_rfl) (fun _ _ _ h => h) (Or.inl ⟨by kernel_rfl, fun w' hw' => by kernel_rfl⟩) hS ?_
              simp only [List.set_cons_zero, List.set_cons_succ]
              refine stepH (i := 6) (d := 48) (v := (.bool true)) rfl rfl (by kernel_rfl) (by kernel_rfl) (by kernel_rfl) (fun _ _ _ h => h) (Or.inl ⟨by kernel_rfl, fun w' hw' => by kernel_rfl⟩) hS ?_
              simp only [List.set_cons_zero, List.set_cons_succ]
              refine stepH (i := 7) (d := 49) (v := (.pointer (some ⟨w.heap.size, 5, none⟩))) rfl rfl (by kernel_rfl) (by kernel_rfl) (by kernel_rfl) (fun _ _ _ h => h) (Or.inl ⟨by kernel_rfl, fun w' hw' => by kernel_rfl⟩) hS ?_
              simp only [List.set_cons_zero, List.set_cons_succ]
              refine stepH (i := 8) (d := 50) (v := (.int .i64 m)) rfl rfl (by kernel_rfl) (by kernel_rfl) (by kernel_rfl) (fun _ _ _ h => h) (Or.inl ⟨by kernel_rfl, fun w' hw' => exec_load 3 _ rfl ⟨w.heap.size, 5, none⟩ rfl (by simp [go_sem, s5 w' hw'])⟩) hS ?_
              simp only [List.set_cons_zero, List.set_cons_succ]
              refine stepH (i := 9) (d := 51) (v := (.bool true)) rfl rfl (by kernel_rfl) (by kernel_rfl) (by kernel_rfl) (fun _ _ _ h => h) (Or.inl ⟨by kernel_rfl, fun w' hw' => exec_bin .lss 3 3 _ _ rfl (.int .i64 m) (.int .i64 1024) rfl rfl (by simp [go_sem]) (by simp [go_sem]; try omega)⟩) hS ?_
              simp only [List.set_cons_zero, List.set_cons_succ]
              refine stepH (i := 10) (d := 52) (v := (.bool true)) rfl rfl (by kernel_rfl) (by kernel_rfl) (by kernel_rfl) (fun _ _ _ h => h) (Or.inl ⟨by kernel_rfl, fun w' hw' => by kernel_rfl⟩) hS ?_
              simp only [List.set_cons_zero, List.set_cons_succ]
              refine stepH (i := 11) (d := 53) (v := (.bool true)) rfl rfl (by kernel_rfl) (by kernel_rfl) (by kernel_rfl) (fun _ _ _ h => h) (Or.inl ⟨by kernel_rfl, fun w' hw' => by kernel_rfl⟩) hS ?_
              simp only [List.set_cons_zero, List.set_cons_succ]
              refine stepH (i := 12) (d := 54) (v := (.pointer (some ⟨w.heap.size, 4, none⟩))) rfl rfl (by kernel_rfl) (by kernel_rfl) (by kernel_rfl) (fun _ _ _ h => h) (Or.inl ⟨by kernel_rfl, fun w' hw' => by kernel_rfl⟩) hS ?_
              simp only [List.set_cons_zero, List.set_cons_succ]
              refine stepH (i := 13) (d := 55) (v := (.bool true)) rfl rfl (by kernel_rfl) (by kernel_rfl) (by kernel_rfl) (fun _ _ _ h => h) (Or.inl ⟨by kernel_rfl, fun w' hw' => exec_load 4 _ rfl ⟨w.heap.size, 4, none⟩ rfl (by simp [go_sem, s4 w' hw'])⟩) hS ?_
              simp only [List.set_cons_zero, List.set_cons_succ]
              refine stepH (i := 14) (d := 56) (v := (.bool true)) rfl rfl (by kernel_rfl) (by kernel_rfl) (by kernel_rfl) (fun _ _ _ h => h) (Or.inl ⟨by kernel_rfl, fun w' hw' => by kernel_rfl⟩) hS ?_
              simp only [List.set_cons_zero, List.set_cons_succ]
              refine stepH (i := 15) (d := 57) (v := undef) rfl rfl (by kernel_rfl) (by kernel_rfl) (by kernel_rfl) (fun _ _ _ h => h) (Or.inr ⟨rfl, rfl⟩) hS ?_
              refine stepH (i := 16) (d := 58) (v := undef) rfl rfl (by kernel_rfl) (by kernel_rfl) (by kernel_rfl) (fun _ _ _ h => h) (Or.inr ⟨rfl, rfl⟩) hS ?_
              refine stepH (i := 17) (d := 59) (v := undef) rfl rfl (by kernel_rfl) (by kernel_rfl) (by kernel_rfl) (fun _ _ _ h => h) (Or.inr ⟨rfl, rfl⟩) hS ?_
              refine stepH (i := 18) (d := 60) (v := (.bool true)) rfl rfl (by kernel_rfl) (by kernel_rfl) (by kernel_rfl) (fun _ _ _ h => h) (Or.inl ⟨by kernel_rfl, fun w' hw' => by kernel_rfl⟩) hS ?_
              simp only [List.set_cons_zero, List.set_cons_succ]
              refine stepH (i := 19) (d := 61) (v := (.bool true)) rfl rfl (by kernel_rfl) (by kernel_rfl) (by kernel_rfl) (fun _ _ _ h => h) (Or.inl ⟨by kernel_rfl, fun w' hw' => by kernel_rfl⟩) hS ?_
              simp only [List.set_cons_zero, List.set_cons_succ]
              refine stepH (i := 20) (d := 62) (v := (.bool true)) rfl rfl (by kernel_rfl) (by kernel_rfl) (by kernel_rfl) (fun _ _ _ h => h) (Or.inl ⟨by kernel_rfl, fun w' hw' => by kernel_rfl⟩) hS ?_
              simp only [List.set_cons_zero, List.set_cons_succ]
              refine stepH (i := 21) (d := 63) (v := (.pointer (some ⟨w.heap.size, 4, none⟩))) rfl rfl (by kernel_rfl) (by kernel_rfl) (by kernel_rfl) (fun _ _ _ h => h) (Or.inl ⟨by kernel_rfl, fun w' hw' => by kernel_rfl⟩) hS ?_
              simp only [List.set_cons_zero, List.set_cons_succ]
              refine stepH (i := 22) (d := 64) (v := (.bool true)) rfl rfl (by kernel_rfl) (by kernel_rfl) (by kernel_rfl) (fun _ _ _ h => h) (Or.inl ⟨by kernel_rfl, fun w' hw' => exec_load 4 _ rfl ⟨w.heap.size, 4, none⟩ rfl (by simp [go_sem, s4 w' hw'])⟩) hS ?_
              simp only [List.set_cons_zero, List.set_cons_succ]
              refine stepH (i := 23) (d := 65) (v := (.bool true)) rfl rfl (by kernel_rfl) (by kernel_rfl) (by kernel_rfl) (fun _ _ _ h => h) (Or.inl ⟨by kernel_rfl, fun w' hw' => by kernel_rfl⟩) hS ?_
              simp only [List.set_cons_zero, List.set_cons_succ]
              refine stepH (i := 24) (d := 66) (v := (.pointer (some ⟨w.heap.size, 6, none⟩))) rfl rfl (by kernel_rfl) (by kernel_rfl) (by kernel_rfl) (fun _ _ _ h => h) (Or.inl ⟨by kernel_rfl, fun w' hw' => by kernel_rfl⟩) hS ?_
              simp only [List.set_cons_zero, List.set_cons_succ]
              refine stepH (i := 25) (d := 67) (v := (.bool false)) rfl rfl (by kernel_rfl) (by kernel_rfl) (by kernel_rfl) (fun _ _ _ h => h) (Or.inl ⟨by kernel_rfl, fun w' hw' => exec_load 4 _ rfl ⟨w.heap.size, 6, none⟩ rfl (by simp [go_sem, s6 w' hw'])⟩) hS ?_
              simp only [List.set_cons_zero, List.set_cons_succ]
              refine stepH (i := 26) (d := 68) (v := (.bool false)) rfl rfl (by kernel_rfl) (by kernel_rfl) (by kernel_rfl) (fun _ _ _ h => h) (Or.inl ⟨by kernel_rfl, fun w' hw' => by kernel_rfl⟩) hS ?_
              simp only [List.set_cons_zero, List.set_cons_succ]
              refine stepH (i := 27) (d := 69) (v := (.bool true)) rfl rfl (by kernel_rfl) (by kernel_rfl) (by kernel_rfl) (fun _ _ _ h => h) (Or.inl ⟨by kernel_rfl, fun w' hw' => by kernel_rfl⟩) hS ?_
              simp only [List.set_cons_zero, List.set_cons_succ]
              refine stepH (i := 28) (d := 70) (v := (.bool true)) rfl rfl (by kernel_rfl) (by kernel_rfl) (by kernel_rfl) (fun _ _ _ h => h) (Or.inl ⟨by kernel_rfl, fun w' hw' => by kernel_rfl⟩) hS ?_
              simp only [List.set_cons_zero, List.set_cons_succ]
              refine stepH (i := 29) (d := 71) (v := (.bool true)) rfl rfl (by kernel_rfl) (by kernel_rfl) (by kernel_rfl) (fun _ _ _ h => h) (Or.inl ⟨by kernel_rfl, fun w' hw' => by kernel_rfl⟩) hS ?_
              simp only [List.set_cons_zero, List.set_cons_succ]
              refine stepH (i := 30) (d := 72) (v := (.pointer (some ⟨w.heap.size, 2, none⟩))) rfl rfl (by kernel_rfl) (by kernel_rfl) (by kernel_rfl) (fun _ _ _ h => h) (Or.inl ⟨by kernel_rfl, fun w' hw' => by kernel_rfl⟩) hS ?_
              simp only [List.set_cons_zero, List.set_cons_succ]
              refine stepH (i := 31) (d := 73) (v := (.int .i64 p)) rfl rfl (by kernel_rfl) (by kernel_rfl) (by kernel_rfl) (fun _ _ _ h => h) (Or.inl ⟨by kernel_rfl, fun w' hw' => exec_load 3 _ rfl ⟨w.heap.size, 2, none⟩ rfl (by simp [go_sem, s2 w' hw'])⟩) hS ?_
              simp only [List.set_cons_zero, List.set_cons_succ]
              refine stepH (i := 32) (d := 74) (v := (.pointer (some ⟨w.heap.size, 2, none⟩))) rfl rfl (by kernel_rfl) (by kernel_rfl) (by kernel_rfl) (fun _ _ _ h => h) (Or.inl ⟨by kernel_rfl, fun w' hw' => by kernel_rfl⟩) hS ?_
              simp only [List.set_cons_zero, List.set_cons_succ]
              refine stepH (i := 33) (d := 75) (v := (.int .i64 p)) rfl rfl (by kernel_rfl) (by kernel_rfl) (by kernel_rfl) (fun _ _ _ h => h) (Or.inl ⟨by kernel_rfl, fun w' hw' => exec_load 3 _ rfl ⟨w.heap.size, 2, none⟩ rfl (by simp [go_sem, s2 w' hw'])⟩) hS ?_
              simp only [List.set_cons_zero, List.set_cons_succ]
              refine stepCall (i := 34) (d := 76) (f := 51) (args := #[.int .i64 p]) rfl rfl (by kernel_rfl) (by kernel_rfl) (exec_call 51 [.tmp 75] _ rfl rfl (enters_of Try.func51 (by kernel_rfl) rfl) _) (real_any p _) ?_
              rintro e w5 ⟨rfl, rfl⟩
              have hS2 := hS
              refine ⟨_, rfl, hS2, ?_⟩
              simp only [List.set_cons_zero, List.set_cons_succ]
              refine stepH (i := 35) (d := 77) (v := (.bool false)) rfl rfl (by kernel_rfl) (by kernel_rfl) (by kernel_rfl) (fun _ _ _ h => h) (Or.inl ⟨by kernel_rfl, fun w' hw' => exec_bin .eql 3 3 _ _ rfl (.int .i64 p) (.int .i64 (bits .and .i64 p 248)) rfl rfl (by simp [go_sem]) (by simp [go_sem]; omega)⟩) hS2 ?_
              simp only [List.set_cons_zero, List.set_cons_succ]
              refine stepH (i := 36) (d := 78) (v := (.bool false)) rfl rfl (by kernel_rfl) (by kernel_rfl) (by kernel_rfl) (fun _ _ _ h => h) (Or.inl ⟨by kernel_rfl, fun w' hw' => by kernel_rfl⟩) hS2 ?_
              simp only [List.set_cons_zero, List.set_cons_succ]
              refine stepH (i := 37) (d := 3) (v := (.bool false)) rfl rfl (by kernel_rfl) (by kernel_rfl) (by kernel_rfl) (fun _ _ _ h => h) (Or.inl ⟨by kernel_rfl, fun w' hw' => by kernel_rfl⟩) hS2 ?_
              simp only [List.set_cons_zero, List.set_cons_succ]
              refine wpAnyH_done (by kernel_rfl) ?_ _
              clear hSd s2 s4 s5 s6 hS0 hS
              go_wp2
              all_goals (go_ret; refine ⟨congrArg (fun b => Ending.returned (.int .i64 b)) ?_, (one_box _ _).drew⟩)
              all_goals (unfold mayE mayB; grind)
        | false =>
          by_cases mz : m = 0
          · by_cases p8 : p % 8 = 0
            · obtain ⟨S, hSd⟩ : ∃ S : World → Prop, ∀ w', S w' ↔ Blk w' w.heap.size 65 #[.int .i64 s, .int .i64 n, .int .i64 p, .int .i64 1, .bool false, .int .i64 m, .bool t] := ⟨fun w' => Blk w' w.heap.size 65 #[.int .i64 s, .int .i64 n, .int .i64 p, .int .i64 1, .bool false, .int .i64 m, .bool t], fun _ => Iff.rfl⟩
              have s2 : ∀ w', S w' → w'.cell? ⟨w.heap.size, 2, none⟩ = some (.int .i64 p) := fun w' h' => (((hSd w').1 h').cell 2).trans rfl
              have s4 : ∀ w', S w' → w'.cell? ⟨w.heap.size, 4, none⟩ = some (.bool false) := fun w' h' => (((hSd w').1 h').cell 4).trans rfl
              have s5 : ∀ w', S w' → w'.cell? ⟨w.heap.size, 5, none⟩ = some (.int .i64 m) := fun w' h' => (((hSd w').1 h').cell 5).trans rfl
              have s6 : ∀ w', S w' → w'.cell? ⟨w.heap.size, 6, none⟩ = some (.bool t) := fun w' h' => (((hSd w').1 h').cell 6).trans rfl
              have hS0 : S (w.alloc (.cells #[.int .i64 s, .int .i64 n, .int .i64 p, .int .i64 1, .bool false, .int .i64 m, .bool t] 65)).drew := (hSd _).2 (Blk.new w 65 #[.int .i64 s, .int .i64 n, .int .i64 p, .int .i64 1, .bool false, .int .i64 m, .bool t])
              refine wp_region_held_drew (S := S) (by kernel_rfl) hS0 (fun hS => ?_)
              refine stepH (i := 0) (d := 42) (v := (.bool true)) rfl rfl (by kernel_rfl) (by kernel_rfl) (by kernel_rfl) (fun _ _ _ h => h) (Or.inl ⟨by kernel_rfl, fun w' hw' => by kernel_rfl⟩) hS ?_
              simp only [List.set_cons_zero, List.set_cons_succ]
              refine stepH (i := 1) (d := 43) (v := (.bool true)) rfl rfl (by kernel_rfl) (by kernel_rfl) (by kernel_rfl) (fun _ _ _ h => h) (Or.inl ⟨by kernel_rfl, fun w' hw' => by kernel_rfl⟩) hS ?_
              simp only [List.set_cons_zero, List.set_cons_succ]
              refine stepH (i := 2) (d := 44) (v := (.pointer (some ⟨w.heap.size, 5, none⟩))) rfl rfl (by kernel_rfl) (by kernel_rfl) (by kernel_rfl) (fun _ _ _ h => h) (Or.inl ⟨by kernel_rfl, fun w' hw' => by kernel_rfl⟩) hS ?_
              simp only [List.set_cons_zero, List.set_cons_succ]
              refine stepH (i := 3) (d := 45) (v := (.int .i64 m)) rfl rfl (by kernel_rfl) (by kernel_rfl) (by kernel_rfl) (fun _ _ _ h => h) (Or.inl ⟨by kernel_rfl, fun w' hw' => exec_load 3 _ rfl ⟨w.heap.size, 5, none⟩ rfl (by simp [go_sem, s5 w' hw'])⟩) hS ?_
              simp only [List.set_cons_zero, List.set_cons_succ]
              refine stepH (i := 4) (d := 46) (v := (.bool true)) rfl rfl (by kernel_rfl) (by kernel_rfl) (by kernel_rfl) (fun _ _ _ h => h) (Or.inl ⟨by kernel_rfl, fun w' hw' => exec_bin .geq 3 3 _ _ rfl (.int .i64 m) (.int .i64 0) rfl rfl (by simp [go_sem]) (by simp [go_sem]; try omega)⟩) hS ?_
              simp only [List.set_cons_zero, List.set_cons_succ]
              refine stepH (i := 5) (d := 47) (v := (.bool true)) rfl rfl (by kernel_rfl) (by kernel_rfl) (by kernel_rfl) (fun _ _ _ h => h) (Or.inl ⟨by kernel_rfl, fun w' hw' => by kernel_rfl⟩) hS ?_
              simp only [List.set_cons_zero, List.set_cons_succ]
              refine stepH (i := 6) (d := 48) (v := (.bool true)) rfl rfl (by kernel_rfl) (by kernel_rfl) (by kernel_rfl) (fun _ _ _ h => h) (Or.inl ⟨by kernel_rfl, fun w' hw' => by kernel_rfl⟩) hS ?_
              simp only [List.set_cons_zero, List.set_cons_succ]
              refine stepH (i := 7) (d := 49) (v := (.pointer (some ⟨w.heap.size, 5, none⟩))) rfl rfl (by kernel_rfl) (by kernel_rfl) (by kernel_rfl) (fun _ _ _ h => h) (Or.inl ⟨by kernel_rfl, fun w' hw' => by kernel_rfl⟩) hS ?_
              simp only [List.set_cons_zero, List.set_cons_succ]
              refine stepH (i := 8) (d := 50) (v := (.int .i64 m)) rfl rfl (by kernel_rfl) (by kernel_rfl) (by kernel_rfl) (fun _ _ _ h => h) (Or.inl ⟨by kernel_rfl, fun w' hw' => exec_load 3 _ rfl ⟨w.heap.size, 5, none⟩ rfl (by simp [go_sem, s5 w' hw'])⟩) hS ?_
              simp only [List.set_cons_zero, List.set_cons_succ]
              refine stepH (i := 9) (d := 51) (v := (.bool true)) rfl rfl (by kernel_rfl) (by kernel_rfl) (by kernel_rfl) (fun _ _ _ h => h) (Or.inl ⟨by kernel_rfl, fun w' hw' => exec_bin .lss 3 3 _ _ rfl (.int .i64 m) (.int .i64 1024) rfl rfl (by simp [go_sem]) (by simp [go_sem]; try omega)⟩) hS ?_
              simp only [List.set_cons_zero, List.set_cons_succ]
              refine stepH (i := 10) (d := 52) (v := (.bool true)) rfl rfl (by kernel_rfl) (by kernel_rfl) (by kernel_rfl) (fun _ _ _ h => h) (Or.inl ⟨by kernel_rfl, fun w' hw' => by kernel_rfl⟩) hS ?_
              simp only [List.set_cons_zero, List.set_cons_succ]
              refine stepH (i := 11) (d := 53) (v := (.bool true)) rfl rfl (by kernel_rfl) (by kernel_rfl) (by kernel_rfl) (fun _ _ _ h => h) (Or.inl ⟨by kernel_rfl, fun w' hw' => by kernel_rfl⟩) hS ?_
              simp only [List.set_cons_zero, List.set_cons_succ]
              refine stepH (i := 12) (d := 54) (v := (.pointer (some ⟨w.heap.size, 4, none⟩))) rfl rfl (by kernel_rfl) (by kernel_rfl) (by kernel_rfl) (fun _ _ _ h => h) (Or.inl ⟨by kernel_rfl, fun w' hw' => by kernel_rfl⟩) hS ?_
              simp only [List.set_cons_zero, List.set_cons_succ]
              refine stepH (i := 13) (d := 55) (v := (.bool false)) rfl rfl (by kernel_rfl) (by kernel_rfl) (by kernel_rfl) (fun _ _ _ h => h) (Or.inl ⟨by kernel_rfl, fun w' hw' => exec_load 4 _ rfl ⟨w.heap.size, 4, none⟩ rfl (by simp [go_sem, s4 w' hw'])⟩) hS ?_
              simp only [List.set_cons_zero, List.set_cons_succ]
              refine stepH (i := 14) (d := 56) (v := (.bool false)) rfl rfl (by kernel_rfl) (by kernel_rfl) (by kernel_rfl) (fun _ _ _ h => h) (Or.inl ⟨by kernel_rfl, fun w' hw' => by kernel_rfl⟩) hS ?_
              simp only [List.set_cons_zero, List.set_cons_succ]
              refine stepH (i := 15) (d := 57) (v := (.pointer (some ⟨w.heap.size, 5, none⟩))) rfl rfl (by kernel_rfl) (by kernel_rfl) (by kernel_rfl) (fun _ _ _ h => h) (Or.inl ⟨by kernel_rfl, fun w' hw' => by kernel_rfl⟩) hS ?_
              simp only [List.set_cons_zero, List.set_cons_succ]
              refine stepH (i := 16) (d := 58) (v := (.int .i64 m)) rfl rfl (by kernel_rfl) (by kernel_rfl) (by kernel_rfl) (fun _ _ _ h => h) (Or.inl ⟨by kernel_rfl, fun w' hw' => exec_load 3 _ rfl ⟨w.heap.size, 5, none⟩ rfl (by simp [go_sem, s5 w' hw'])⟩) hS ?_
              simp only [List.set_cons_zero, List.set_cons_succ]
              refine stepH (i := 17) (d := 59) (v := (.bool true)) rfl rfl (by kernel_rfl) (by kernel_rfl) (by kernel_rfl) (fun _ _ _ h => h) (Or.inl ⟨by kernel_rfl, fun w' hw' => exec_bin .eql 3 3 _ _ rfl (.int .i64 m) (.int .i64 0) rfl rfl (by simp [go_sem]) (by simp [go_sem]; try omega)⟩) hS ?_
              simp only [List.set_cons_zero, List.set_cons_succ]
              refine stepH (i := 18) (d := 60) (v := (.bool true)) rfl rfl (by kernel_rfl) (by kernel_rfl) (by kernel_rfl) (fun _ _ _ h => h) (Or.inl ⟨by kernel_rfl, fun w' hw' => by kernel_rfl⟩) hS ?_
              simp only [List.set_cons_zero, List.set_cons_succ]
              refine stepH (i := 19) (d := 61) (v := (.bool true)) rfl rfl (by kernel_rfl) (by kernel_rfl) (by kernel_rfl) (fun _ _ _ h => h) (Or.inl ⟨by kernel_rfl, fun w' hw' => by kernel_rfl⟩) hS ?_
              simp only [List.set_cons_zero, List.set_cons_succ]
              refine stepH (i := 20) (d := 62) (v := (.bool true)) rfl rfl (by kernel_rfl) (by kernel_rfl) (by kernel_rfl) (fun _ _ _ h => h) (Or.inl ⟨by kernel_rfl, fun w' hw' => by kernel_rfl⟩) hS ?_
              simp only [List.set_cons_zero, List.set_cons_succ]
              refine stepH (i := 21) (d := 63) (v := (.pointer (some ⟨w.heap.size, 4, none⟩))) rfl rfl (by kernel_rfl) (by kernel_rfl) (by kernel_rfl) (fun _ _ _ h => h) (Or.inl ⟨by kernel_rfl, fun w' hw' => by kernel_rfl⟩) hS ?_
              simp only [List.set_cons_zero, List.set_cons_succ]
              refine stepH (i := 22) (d := 64) (v := (.bool false)) rfl rfl (by kernel_rfl) (by kernel_rfl) (by kernel_rfl) (fun _ _ _ h => h) (Or.inl ⟨by kernel_rfl, fun w' hw' => exec_load 4 _ rfl ⟨w.heap.size, 4, none⟩ rfl (by simp [go_sem, s4 w' hw'])⟩) hS ?_
              simp only [List.set_cons_zero, List.set_cons_succ]
              refine stepH (i := 23) (d := 65) (v := (.bool false)) rfl rfl (by kernel_rfl) (by kernel_rfl) (by kernel_rfl) (fun _ _ _ h => h) (Or.inl ⟨by kernel_rfl, fun w' hw' => by kernel_rfl⟩) hS ?_
              simp only [List.set_cons_zero, List.set_cons_succ]
              refine stepH (i := 24) (d := 66) (v := undef) rfl rfl (by kernel_rfl) (by kernel_rfl) (by kernel_rfl) (fun _ _ _ h => h) (Or.inr ⟨rfl, rfl⟩) hS ?_
              refine stepH (i := 25) (d := 67) (v := undef) rfl rfl (by kernel_rfl) (by kernel_rfl) (by kernel_rfl) (fun _ _ _ h => h) (Or.inr ⟨rfl, rfl⟩) hS ?_
              refine stepH (i := 26) (d := 68) (v := (.bool false)) rfl rfl (by kernel_rfl) (by kernel_rfl) (by kernel_rfl) (fun _ _ _ h => h) (Or.inl ⟨by kernel_rfl, fun w' hw' => by kernel_rfl⟩) hS ?_
              simp only [List.set_cons_zero, List.set_cons_succ]
              refine stepH (i := 27) (d := 69) (v := (.bool true)) rfl rfl (by kernel_rfl) (by kernel_rfl) (by kernel_rfl) (fun _ _ _ h => h) (Or.inl ⟨by kernel_rfl, fun w' hw' => by kernel_rfl⟩) hS ?_
              simp only [List.set_cons_zero, List.set_cons_succ]
              refine stepH (i := 28) (d := 70) (v := (.bool true)) rfl rfl (by kernel_rfl) (by kernel_rfl) (by kernel_rfl) (fun _ _ _ h => h) (Or.inl ⟨by kernel_rfl, fun w' hw' => by kernel_rfl⟩) hS ?_
              simp only [List.set_cons_zero, List.set_cons_succ]
              refine stepH (i := 29) (d := 71) (v := (.bool true)) rfl rfl (by kernel_rfl) (by kernel_rfl) (by kernel_rfl) (fun _ _ _ h => h) (Or.inl ⟨by kernel_rfl, fun w' hw' => by kernel_rfl⟩) hS ?_
              simp only [List.set_cons_zero, List.set_cons_succ]
              refine stepH (i := 30) (d := 72) (v := (.pointer (some ⟨w.heap.size, 2, none⟩))) rfl rfl (by kernel_rfl) (by kernel_rfl) (by kernel_rfl) (fun _ _ _ h => h) (Or.inl ⟨by kernel_rfl, fun w' hw' => by kernel_rfl⟩) hS ?_
              simp only [List.set_cons_zero, List.set_cons_succ]
              refine stepH (i := 31) (d := 73) (v := (.int .i64 p)) rfl rfl (by kernel_rfl) (by kernel_rfl) (by kernel_rfl) (fun _ _ _ h => h) (Or.inl ⟨by kernel_rfl, fun w' hw' => exec_load 3 _ rfl ⟨w.heap.size, 2, none⟩ rfl (by simp [go_sem, s2 w' hw'])⟩) hS ?_
              simp only [List.set_cons_zero, List.set_cons_succ]
              refine stepH (i := 32) (d := 74) (v := (.pointer (some ⟨w.heap.size, 2, none⟩))) rfl rfl (by kernel_rfl) (by kernel_rfl) (by kernel_rfl) (fun _ _ _ h => h) (Or.inl ⟨by kernel_rfl, fun w' hw' => by kernel_rfl⟩) hS ?_
              simp only [List.set_cons_zero, List.set_cons_succ]
              refine stepH (i := 33) (d := 75) (v := (.int .i64 p)) rfl rfl (by kernel_rfl) (by kernel_rfl) (by kernel_rfl) (fun _ _ _ h => h) (Or.inl ⟨by kernel_rfl, fun w' hw' => exec_load 3 _ rfl ⟨w.heap.size, 2, none⟩ rfl (by simp [go_sem, s2 w' hw'])⟩) hS ?_
              simp only [List.set_cons_zero, List.set_cons_succ]
              refine stepCall (i := 34) (d := 76) (f := 51) (args := #[.int .i64 p]) rfl rfl (by kernel_rfl) (by kernel_rfl) (exec_call 51 [.tmp 75] _ rfl rfl (enters_of Try.func51 (by kernel_rfl) rfl) _) (real_any p _) ?_
              rintro e w5 ⟨rfl, rfl⟩
              have hS2 := hS
              refine ⟨_, rfl, hS2, ?_⟩
              simp only [List.set_cons_zero, List.set_cons_succ]
              refine stepH (i := 35) (d := 77) (v := (.bool true)) rfl rfl (by kernel_rfl) (by kernel_rfl) (by kernel_rfl) (fun _ _ _ h => h) (Or.inl ⟨by kernel_rfl, fun w' hw' => exec_bin .eql 3 3 _ _ rfl (.int .i64 p) (.int .i64 (bits .and .i64 p 248)) rfl rfl (by simp [go_sem]) (by simp [go_sem]; omega)⟩) hS2 ?_
              simp only [List.set_cons_zero, List.set_cons_succ]
              refine stepH (i := 36) (d := 78) (v := (.bool true)) rfl rfl (by kernel_rfl) (by kernel_rfl) (by kernel_rfl) (fun _ _ _ h => h) (Or.inl ⟨by kernel_rfl, fun w' hw' => by kernel_rfl⟩) hS2 ?_
              simp only [List.set_cons_zero, List.set_cons_succ]
              refine stepH (i := 37) (d := 3) (v := (.bool true)) rfl rfl (by kernel_rfl) (by kernel_rfl) (by kernel_rfl) (fun _ _ _ h => h) (Or.inl ⟨by kernel_rfl, fun w' hw' => by kernel_rfl⟩) hS2 ?_
              simp only [List.set_cons_zero, List.set_cons_succ]
              refine wpAnyH_done (by kernel_rfl) ?_ _
              clear hSd s2 s4 s5 s6 hS0 hS
              go_wp2
              all_goals (go_ret; refine ⟨congrArg (fun b => Ending.returned (.int .i64 b)) ?_, (one_box _ _).drew⟩)
              all_goals (unfold mayE mayB; grind)
            · obtain ⟨S, hSd⟩ : ∃ S : World → Prop, ∀ w', S w' ↔ Blk w' w.heap.size 65 #[.int .i64 s, .int .i64 n, .int .i64 p, .int .i64 1, .bool false, .int .i64 m, .bool t] := ⟨fun w' => Blk w' w.heap.size 65 #[.int .i64 s, .int .i64 n, .int .i64 p, .int .i64 1, .bool false, .int .i64 m, .bool t], fun _ => Iff.rfl⟩
              have s2 : ∀ w', S w' → w'.cell? ⟨w.heap.size, 2, none⟩ = some (.int .i64 p) := fun w' h' => (((hSd w').1 h').cell 2).trans rfl
              have s4 : ∀ w', S w' → w'.cell? ⟨w.heap.size, 4, none⟩ = some (.bool false) := fun w' h' => (((hSd w').1 h').cell 4).trans rfl
              have s5 : ∀ w', S w' → w'.cell? ⟨w.heap.size, 5, none⟩ = some (.int .i64 m) := fun w' h' => (((hSd w').1 h').cell 5).trans rfl
              have s6 : ∀ w', S w' → w'.cell? ⟨w.heap.size, 6, none⟩ = some (.bool t) := fun w' h' => (((hSd w').1 h').cell 6).trans rfl
              have hS0 : S (w.alloc (.cells #[.int .i64 s, .int .i64 n, .int .i64 p, .int .i64 1, .bool false, .int .i64 m, .bool t] 65)).drew := (hSd _).2 (Blk.new w 65 #[.int .i64 s, .int .i64 n, .int .i64 p, .int .i64 1, .bool false, .int .i64 m, .bool t])
              refine wp_region_held_drew (S := S) (by kernel_rfl) hS0 (fun hS => ?_)
              refine stepH (i := 0) (d := 42) (v := (.bool true)) rfl rfl (by kernel_rfl) (by kernel_rfl) (by kernel_rfl) (fun _ _ _ h => h) (Or.inl ⟨by kernel_rfl, fun w' hw' => by kernel_rfl⟩) hS ?_
              simp only [List.set_cons_zero, List.set_cons_succ]
              refine stepH (i := 1) (d := 43) (v := (.bool true)) rfl rfl (by kernel_rfl) (by kernel_rfl) (by kernel_rfl) (fun _ _ _ h => h) (Or.inl ⟨by kernel_rfl, fun w' hw' => by kernel_rfl⟩) hS ?_
              simp only [List.set_cons_zero, List.set_cons_succ]
              refine stepH (i := 2) (d := 44) (v := (.pointer (some ⟨w.heap.size, 5, none⟩))) rfl rfl (by kernel_rfl) (by kernel_rfl) (by kernel_rfl) (fun _ _ _ h => h) (Or.inl ⟨by kernel_rfl, fun w' hw' => by kernel_rfl⟩) hS ?_
              simp only [List.set_cons_zero, List.set_cons_succ]
              refine stepH (i := 3) (d := 45) (v := (.int .i64 m)) rfl rfl (by kernel_rfl) (by kernel_rfl) (by kernel_rfl) (fun _ _ _ h => h) (Or.inl ⟨by kernel_rfl, fun w' hw' => exec_load 3 _ rfl ⟨w.heap.size, 5, none⟩ rfl (by simp [go_sem, s5 w' hw'])⟩) hS ?_
              simp only [List.set_cons_zero, List.set_cons_succ]
              refine stepH (i := 4) (d := 46) (v := (.bool true)) rfl rfl (by kernel_rfl) (by kernel_rfl) (by kernel_rfl) (fun _ _ _ h => h) (Or.inl ⟨by kernel_rfl, fun w' hw' => exec_bin .geq 3 3 _ _ rfl (.int .i64 m) (.int .i64 0) rfl rfl (by simp [go_sem]) (by simp [go_sem]; try omega)⟩) hS ?_
              simp only [List.set_cons_zero, List.set_cons_succ]
              refine stepH (i := 5) (d := 47) (v := (.bool true)) rfl rfl (by kernel_rfl) (by kernel_rfl) (by kernel_rfl) (fun _ _ _ h => h) (Or.inl ⟨by kernel_rfl, fun w' hw' => by kernel_rfl⟩) hS ?_
              simp only [List.set_cons_zero, List.set_cons_succ]
              refine stepH (i := 6) (d := 48) (v := (.bool true)) rfl rfl (by kernel_rfl) (by kernel_rfl) (by kernel_rfl) (fun _ _ _ h => h) (Or.inl ⟨by kernel_rfl, fun w' hw' => by kernel_rfl⟩) hS ?_
              simp only [List.set_cons_zero, List.set_cons_succ]
              refine stepH (i := 7) (d := 49) (v := (.pointer (some ⟨w.heap.size, 5, none⟩))) rfl rfl (by kernel_rfl) (by kernel_rfl) (by kernel_rfl) (fun _ _ _ h => h) (Or.inl ⟨by kernel_rfl, fun w' hw' => by kernel_rfl⟩) hS ?_
              simp only [List.set_cons_zero, List.set_cons_succ]
              refine stepH (i := 8) (d := 50) (v := (.int .i64 m)) rfl rfl (by kernel_rfl) (by kernel_rfl) (by kernel_rfl) (fun _ _ _ h => h) (Or.inl ⟨by kernel_rfl, fun w' hw' => exec_load 3 _ rfl ⟨w.heap.size, 5, none⟩ rfl (by simp [go_sem, s5 w' hw'])⟩) hS ?_
              simp only [List.set_cons_zero, List.set_cons_succ]
              refine stepH (i := 9) (d := 51) (v := (.bool true)) rfl rfl (by kernel_rfl) (by kernel_rfl) (by kernel_rfl) (fun _ _ _ h => h) (Or.inl ⟨by kernel_rfl, fun w' hw' => exec_bin .lss 3 3 _ _ rfl (.int .i64 m) (.int .i64 1024) rfl rfl (by simp [go_sem]) (by simp [go_sem]; try omega)⟩) hS ?_
              simp only [List.set_cons_zero, List.set_cons_succ]
              refine stepH (i := 10) (d := 52) (v := (.bool true)) rfl rfl (by kernel_rfl) (by kernel_rfl) (by kernel_rfl) (fun _ _ _ h => h) (Or.inl ⟨by kernel_rfl, fun w' hw' => by kernel_rfl⟩) hS ?_
              simp only [List.set_cons_zero, List.set_cons_succ]
              refine stepH (i := 11) (d := 53) (v := (.bool true)) rfl rfl (by kernel_rfl) (by kernel_rfl) (by kernel_rfl) (fun _ _ _ h => h) (Or.inl ⟨by kernel_rfl, fun w' hw' => by kernel_rfl⟩) hS ?_
              simp only [List.set_cons_zero, List.set_cons_succ]
              refine stepH (i := 12) (d := 54) (v := (.pointer (some ⟨w.heap.size, 4, none⟩))) rfl rfl (by kernel_rfl) (by kernel_rfl) (by kernel_rfl) (fun _ _ _ h => h) (Or.inl ⟨by kernel_rfl, fun w' hw' => by kernel_rfl⟩) hS ?_
              simp only [List.set_cons_zero, List.set_cons_succ]
              refine stepH (i := 13) (d := 55) (v := (.bool false)) rfl rfl (by kernel_rfl) (by kernel_rfl) (by kernel_rfl) (fun _ _ _ h => h) (Or.inl ⟨by kernel_rfl, fun w' hw' => exec_load 4 _ rfl ⟨w.heap.size, 4, none⟩ rfl (by simp [go_sem, s4 w' hw'])⟩) hS ?_
              simp only [List.set_cons_zero, List.set_cons_succ]
              refine stepH (i := 14) (d := 56) (v := (.bool false)) rfl rfl (by kernel_rfl) (by kernel_rfl) (by kernel_rfl) (fun _ _ _ h => h) (Or.inl ⟨by kernel_rfl, fun w' hw' => by kernel_rfl⟩) hS ?_
              simp only [List.set_cons_zero, List.set_cons_succ]
              refine stepH (i := 15) (d := 57) (v := (.pointer (some ⟨w.heap.size, 5, none⟩))) rfl rfl (by kernel_rfl) (by kernel_rfl) (by kernel_rfl) (fun _ _ _ h => h) (Or.inl ⟨by kernel_rfl, fun w' hw' => by kernel_rfl⟩) hS ?_
              simp only [List.set_cons_zero, List.set_cons_succ]
              refine stepH (i := 16) (d := 58) (v := (.int .i64 m)) rfl rfl (by kernel_rfl) (by kernel_rfl) (by kernel_rfl) (fun _ _ _ h => h) (Or.inl ⟨by kernel_rfl, fun w' hw' => exec_load 3 _ rfl ⟨w.heap.size, 5, none⟩ rfl (by simp [go_sem, s5 w' hw'])⟩) hS ?_
              simp only [List.set_cons_zero, List.set_cons_succ]
              refine stepH (i := 17) (d := 59) (v := (.bool true)) rfl rfl (by kernel_rfl) (by kernel_rfl) (by kernel_rfl) (fun _ _ _ h => h) (Or.inl ⟨by kernel_rfl, fun w' hw' => exec_bin .eql 3 3 _ _ rfl (.int .i64 m) (.int .i64 0) rfl rfl (by simp [go_sem]) (by simp [go_sem]; try omega)⟩) hS ?_
              simp only [List.set_cons_zero, List.set_cons_succ]
              refine stepH (i := 18) (d := 60) (v := (.bool true)) rfl rfl (by kernel_rfl) (by kernel_rfl) (by kernel_rfl) (fun _ _ _ h => h) (Or.inl ⟨by kernel_rfl, fun w' hw' => by kernel_rfl⟩) hS ?_
              simp only [List.set_cons_zero, List.set_cons_succ]
              refine stepH (i := 19) (d := 61) (v := (.bool true)) rfl rfl (by kernel_rfl) (by kernel_rfl) (by kernel_rfl) (fun _ _ _ h => h) (Or.inl ⟨by kernel_rfl, fun w' hw' => by kernel_rfl⟩) hS ?_
              simp only [List.set_cons_zero, List.set_cons_succ]
              refine stepH (i := 20) (d := 62) (v := (.bool true)) rfl rfl (by kernel_rfl) (by kernel_rfl) (by kernel_rfl) (fun _ _ _ h => h) (Or.inl ⟨by kernel_rfl, fun w' hw' => by kernel_rfl⟩) hS ?_
              simp only [List.set_cons_zero, List.set_cons_succ]
              refine stepH (i := 21) (d := 63) (v := (.pointer (some ⟨w.heap.size, 4, none⟩))) rfl rfl (by kernel_rfl) (by kernel_rfl) (by kernel_rfl) (fun _ _ _ h => h) (Or.inl ⟨by kernel_rfl, fun w' hw' => by kernel_rfl⟩) hS ?_
              simp only [List.set_cons_zero, List.set_cons_succ]
              refine stepH (i := 22) (d := 64) (v := (.bool false)) rfl rfl (by kernel_rfl) (by kernel_rfl) (by kernel_rfl) (fun _ _ _ h => h) (Or.inl ⟨by kernel_rfl, fun w' hw' => exec_load 4 _ rfl ⟨w.heap.size, 4, none⟩ rfl (by simp [go_sem, s4 w' hw'])⟩) hS ?_
              simp only [List.set_cons_zero, List.set_cons_succ]
              refine stepH (i := 23) (d := 65) (v := (.bool false)) rfl rfl (by kernel_rfl) (by kernel_rfl) (by kernel_rfl) (fun _ _ _ h => h) (Or.inl ⟨by kernel_rfl, fun w' hw' => by kernel_rfl⟩) hS ?_
              simp only [List.set_cons_zero, List.set_cons_succ]
              refine stepH (i := 24) (d := 66) (v := undef) rfl rfl (by kernel_rfl) (by kernel_rfl) (by kernel_rfl) (fun _ _ _ h => h) (Or.inr ⟨rfl, rfl⟩) hS ?_
              refine stepH (i := 25) (d := 67) (v := undef) rfl rfl (by kernel_rfl) (by kernel_rfl) (by kernel_rfl) (fun _ _ _ h => h) (Or.inr ⟨rfl, rfl⟩) hS ?_
              refine stepH (i := 26) (d := 68) (v := (.bool false)) rfl rfl (by kernel_rfl) (by kernel_rfl) (by kernel_rfl) (fun _ _ _ h => h) (Or.inl ⟨by kernel_rfl, fun w' hw' => by kernel_rfl⟩) hS ?_
              simp only [List.set_cons_zero, List.set_cons_succ]
              refine stepH (i := 27) (d := 69) (v := (.bool true)) rfl rfl (by kernel_rfl) (by kernel_rfl) (by kernel_rfl) (fun _ _ _ h => h) (Or.inl ⟨by kernel_rfl, fun w' hw' => by kernel_rfl⟩) hS ?_
              simp only [List.set_cons_zero, List.set_cons_succ]
              refine stepH (i := 28) (d := 70) (v := (.bool true)) rfl rfl (by kernel_rfl) (by kernel_rfl) (by kernel_rfl) (fun _ _ _ h => h) (Or.inl ⟨by kernel_rfl, fun w' hw' => by kernel_rfl⟩) hS ?_
              simp only [List.set_cons_zero, List.set_cons_succ]
              refine stepH (i := 29) (d := 71) (v := (.bool true)) rfl rfl (by kernel_rfl) (by kernel_rfl) (by kernel_rfl) (fun _ _ _ h => h) (Or.inl ⟨by kernel_rfl, fun w' hw' => by kernel_rfl⟩) hS ?_
              simp only [List.set_cons_zero, List.set_cons_succ]
              refine stepH (i := 30) (d := 72) (v := (.pointer (some ⟨w.heap.size, 2, none⟩))) rfl rfl (by kernel_rfl) (by kernel_rfl) (by kernel_rfl) (fun _ _ _ h => h) (Or.inl ⟨by kernel_rfl, fun w' hw' => by kernel_rfl⟩) hS ?_
              simp only [List.set_cons_zero, List.set_cons_succ]
              refine stepH (i := 31) (d := 73) (v := (.int .i64 p)) rfl rfl (by kernel_rfl) (by kernel_rfl) (by kernel_rfl) (fun _ _ _ h => h) (Or.inl ⟨by kernel_rfl, fun w' hw' => exec_load 3 _ rfl ⟨w.heap.size, 2, none⟩ rfl (by simp [go_sem, s2 w' hw'])⟩) hS ?_
              simp only [List.set_cons_zero, List.set_cons_succ]
              refine stepH (i := 32) (d := 74) (v := (.pointer (some ⟨w.heap.size, 2, none⟩))) rfl rfl (by kernel_rfl) (by kernel_rfl) (by kernel_rfl) (fun _ _ _ h => h) (Or.inl ⟨by kernel_rfl, fun w' hw' => by kernel_rfl⟩) hS ?_
              simp only [List.set_cons_zero, List.set_cons_succ]
              refine stepH (i := 33) (d := 75) (v := (.int .i64 p)) rfl rfl (by kernel_rfl) (by kernel_rfl) (by kernel_rfl) (fun _ _ _ h => h) (Or.inl ⟨by kernel_rfl, fun w' hw' => exec_load 3 _ rfl ⟨w.heap.size, 2, none⟩ rfl (by simp [go_sem, s2 w' hw'])⟩) hS ?_
              simp only [List.set_cons_zero, List.set_cons_succ]
              refine stepCall (i := 34) (d := 76) (f := 51) (args := #[.int .i64 p]) rfl rfl (by kernel_rfl) (by kernel_rfl) (exec_call 51 [.tmp 75] _ rfl rfl (enters_of Try.func51 (by kernel_rfl) rfl) _) (real_any p _) ?_
              rintro e w5 ⟨rfl, rfl⟩
              have hS2 := hS
              refine ⟨_, rfl, hS2, ?_⟩
              simp only [List.set_cons_zero, List.set_cons_succ]
              refine stepH (i := 35) (d := 77) (v := (.bool false)) rfl rfl (by kernel_rfl) (by kernel_rfl) (by kernel_rfl) (fun _ _ _ h => h) (Or.inl ⟨by kernel_rfl, fun w' hw' => exec_bin .eql 3 3 _ _ rfl (.int .i64 p) (.int .i64 (bits .and .i64 p 248)) rfl rfl (by simp [go_sem]) (by simp [go_sem]; omega)⟩) hS2 ?_
              simp only [List.set_cons_zero, List.set_cons_succ]
              refine stepH (i := 36) (d := 78) (v := (.bool false)) rfl rfl (by kernel_rfl) (by kernel_rfl) (by kernel_rfl) (fun _ _ _ h => h) (Or.inl ⟨by kernel_rfl, fun w' hw' => by kernel_rfl⟩) hS2 ?_
              simp only [List.set_cons_zero, List.set_cons_succ]
              refine stepH (i := 37) (d := 3) (v := (.bool false)) rfl rfl (by kernel_rfl) (by kernel_rfl) (by kernel_rfl) (fun _ _ _ h => h) (Or.inl ⟨by kernel_rfl, fun w' hw' => by kernel_rfl⟩) hS2 ?_
              simp only [List.set_cons_zero, List.set_cons_succ]
              refine wpAnyH_done (by kernel_rfl) ?_ _
              clear hSd s2 s4 s5 s6 hS0 hS
              go_wp2
              all_goals (go_ret; refine ⟨congrArg (fun b => Ending.returned (.int .i64 b)) ?_, (one_box _ _).drew⟩)
              all_goals (unfold mayE mayB; grind)
          · obtain ⟨S, hSd⟩ : ∃ S : World → Prop, ∀ w', S w' ↔ Blk w' w.heap.size 65 #[.int .i64 s, .int .i64 n, .int .i64 p, .int .i64 1, .bool false, .int .i64 m, .bool t] := ⟨fun w' => Blk w' w.heap.size 65 #[.int .i64 s, .int .i64 n, .int .i64 p, .int .i64 1, .bool false, .int .i64 m, .bool t], fun _ => Iff.rfl⟩
            have s2 : ∀ w', S w' → w'.cell? ⟨w.heap.size, 2, none⟩ = some (.int .i64 p) := fun w' h' => (((hSd w').1 h').cell 2).trans rfl
            have s4 : ∀ w', S w' → w'.cell? ⟨w.heap.size, 4, none⟩ = some (.bool false) := fun w' h' => (((hSd w').1 h').cell 4).trans rfl
            have s5 : ∀ w', S w' → w'.cell? ⟨w.heap.size, 5, none⟩ = some (.int .i64 m) := fun w' h' => (((hSd w').1 h').cell 5).trans rfl
            have s6 : ∀ w', S w' → w'.cell? ⟨w.heap.size, 6, none⟩ = some (.bool t) := fun w' h' => (((hSd w').1 h').cell 6).trans rfl
            have hS0 : S (w.alloc (.cells #[.int .i64 s, .int .i64 n, .int .i64 p, .int .i64 1, .bool false, .int .i64 m, .bool t] 65)).drew := (hSd _).2 (Blk.new w 65 #[.int .i64 s, .int .i64 n, .int .i64 p, .int .i64 1, .bool false, .int .i64 m, .bool t])
            refine wp_region_held_drew (S := S) (by kernel_rfl) hS0 (fun hS => ?_)
            refine stepH (i := 0) (d := 42) (v := (.bool true)) rfl rfl (by kernel_rfl) (by kernel_rfl) (by kernel_rfl) (fun _ _ _ h => h) (Or.inl ⟨by kernel_rfl, fun w' hw' => by kernel_rfl⟩) hS ?_
            simp only [List.set_cons_zero, List.set_cons_succ]
            refine stepH (i := 1) (d := 43) (v := (.bool true)) rfl rfl (by kernel_rfl) (by kernel_rfl) (by kernel_rfl) (fun _ _ _ h => h) (Or.inl ⟨by kernel_rfl, fun w' hw' => by kernel_rfl⟩) hS ?_
            simp only [List.set_cons_zero, List.set_cons_succ]
            refine stepH (i := 2) (d := 44) (v := (.pointer (some ⟨w.heap.size, 5, none⟩))) rfl rfl (by kernel_rfl) (by kernel_rfl) (by kernel_rfl) (fun _ _ _ h => h) (Or.inl ⟨by kernel_rfl, fun w' hw' => by kernel_rfl⟩) hS ?_
            simp only [List.set_cons_zero, List.set_cons_succ]
            refine stepH (i := 3) (d := 45) (v := (.int .i64 m)) rfl rfl (by kernel_rfl) (by kernel_rfl) (by kernel_rfl) (fun _ _ _ h => h) (Or.inl ⟨by kernel_rfl, fun w' hw' => exec_load 3 _ rfl ⟨w.heap.size, 5, none⟩ rfl (by simp [go_sem, s5 w' hw'])⟩) hS ?_
            simp only [List.set_cons_zero, List.set_cons_succ]
            refine stepH (i := 4) (d := 46) (v := (.bool true)) rfl rfl (by kernel_rfl) (by kernel_rfl) (by kernel_rfl) (fun _ _ _ h => h) (Or.inl ⟨by kernel_rfl, fun w' hw' => exec_bin .geq 3 3 _ _ rfl (.int .i64 m) (.int .i64 0) rfl rfl (by simp [go_sem]) (by simp [go_sem]; try omega)⟩) hS ?_
            simp only [List.set_cons_zero, List.set_cons_succ]
            refine stepH (i := 5) (d := 47) (v := (.bool true)) rfl rfl (by kernel_rfl) (by kernel_rfl) (by kernel_rfl) (fun _ _ _ h => h) (Or.inl ⟨by kernel_rfl, fun w' hw' => by kernel_rfl⟩) hS ?_
            simp only [List.set_cons_zero, List.set_cons_succ]
            refine stepH (i := 6) (d := 48) (v := (.bool true)) rfl rfl (by kernel_rfl) (by kernel_rfl) (by kernel_rfl) (fun _ _ _ h => h) (Or.inl ⟨by kernel_rfl, fun w' hw' => by kernel_rfl⟩) hS ?_
            simp only [List.set_cons_zero, List.set_cons_succ]
            refine stepH (i := 7) (d := 49) (v := (.pointer (some ⟨w.heap.size, 5, none⟩))) rfl rfl (by kernel_rfl) (by kernel_rfl) (by kernel_rfl) (fun _ _ _ h => h) (Or.inl ⟨by kernel_rfl, fun w' hw' => by kernel_rfl⟩) hS ?_
            simp only [List.set_cons_zero, List.set_cons_succ]
            refine stepH (i := 8) (d := 50) (v := (.int .i64 m)) rfl rfl (by kernel_rfl) (by kernel_rfl) (by kernel_rfl) (fun _ _ _ h => h) (Or.inl ⟨by kernel_rfl, fun w' hw' => exec_load 3 _ rfl ⟨w.heap.size, 5, none⟩ rfl (by simp [go_sem, s5 w' hw'])⟩) hS ?_
            simp only [List.set_cons_zero, List.set_cons_succ]
            refine stepH (i := 9) (d := 51) (v := (.bool true)) rfl rfl (by kernel_rfl) (by kernel_rfl) (by kernel_rfl) (fun _ _ _ h => h) (Or.inl ⟨by kernel_rfl, fun w' hw' => exec_bin .lss 3 3 _ _ rfl (.int .i64 m) (.int .i64 1024) rfl rfl (by simp [go_sem]) (by simp [go_sem]; try omega)⟩) hS ?_
            simp only [List.set_cons_zero, List.set_cons_succ]
            refine stepH (i := 10) (d := 52) (v := (.bool true)) rfl rfl (by kernel_rfl) (by kernel_rfl) (by kernel_rfl) (fun _ _ _ h => h) (Or.inl ⟨by kernel_rfl, fun w' hw' => by kernel_rfl⟩) hS ?_
            simp only [List.set_cons_zero, List.set_cons_succ]
            refine stepH (i := 11) (d := 53) (v := (.bool true)) rfl rfl (by kernel_rfl) (by kernel_rfl) (by kernel_rfl) (fun _ _ _ h => h) (Or.inl ⟨by kernel_rfl, fun w' hw' => by kernel_rfl⟩) hS ?_
            simp only [List.set_cons_zero, List.set_cons_succ]
            refine stepH (i := 12) (d := 54) (v := (.pointer (some ⟨w.heap.size, 4, none⟩))) rfl rfl (by kernel_rfl) (by kernel_rfl) (by kernel_rfl) (fun _ _ _ h => h) (Or.inl ⟨by kernel_rfl, fun w' hw' => by kernel_rfl⟩) hS ?_
            simp only [List.set_cons_zero, List.set_cons_succ]
            refine stepH (i := 13) (d := 55) (v := (.bool false)) rfl rfl (by kernel_rfl) (by kernel_rfl) (by kernel_rfl) (fun _ _ _ h => h) (Or.inl ⟨by kernel_rfl, fun w' hw' => exec_load 4 _ rfl ⟨w.heap.size, 4, none⟩ rfl (by simp [go_sem, s4 w' hw'])⟩) hS ?_
            simp only [List.set_cons_zero, List.set_cons_succ]
            refine stepH (i := 14) (d := 56) (v := (.bool false)) rfl rfl (by kernel_rfl) (by kernel_rfl) (by kernel_rfl) (fun _ _ _ h => h) (Or.inl ⟨by kernel_rfl, fun w' hw' => by kernel_rfl⟩) hS ?_
            simp only [List.set_cons_zero, List.set_cons_succ]
            refine stepH (i := 15) (d := 57) (v := (.pointer (some ⟨w.heap.size, 5, none⟩))) rfl rfl (by kernel_rfl) (by kernel_rfl) (by kernel_rfl) (fun _ _ _ h => h) (Or.inl ⟨by kernel_rfl, fun w' hw' => by kernel_rfl⟩) hS ?_
            simp only [List.set_cons_zero, List.set_cons_succ]
            refine stepH (i := 16) (d := 58) (v := (.int .i64 m)) rfl rfl (by kernel_rfl) (by kernel_rfl) (by kernel_rfl) (fun _ _ _ h => h) (Or.inl ⟨by kernel_rfl, fun w' hw' => exec_load 3 _ rfl ⟨w.heap.size, 5, none⟩ rfl (by simp [go_sem, s5 w' hw'])⟩) hS ?_
            simp only [List.set_cons_zero, List.set_cons_succ]
            refine stepH (i := 17) (d := 59) (v := (.bool false)) rfl rfl (by kernel_rfl) (by kernel_rfl) (by kernel_rfl) (fun _ _ _ h => h) (Or.inl ⟨by kernel_rfl, fun w' hw' => exec_bin .eql 3 3 _ _ rfl (.int .i64 m) (.int .i64 0) rfl rfl (by simp [go_sem]) (by simp [go_sem]; try omega)⟩) hS ?_
            simp only [List.set_cons_zero, List.set_cons_succ]
            refine stepH (i := 18) (d := 60) (v := (.bool false)) rfl rfl (by kernel_rfl) (by kernel_rfl) (by kernel_rfl) (fun _ _ _ h => h) (Or.inl ⟨by kernel_rfl, fun w' hw' => by kernel_rfl⟩) hS ?_
            simp only [List.set_cons_zero, List.set_cons_succ]
            refine stepH (i := 19) (d := 61) (v := (.bool false)) rfl rfl (by kernel_rfl) (by kernel_rfl) (by kernel_rfl) (fun _ _ _ h => h) (Or.inl ⟨by kernel_rfl, fun w' hw' => by kernel_rfl⟩) hS ?_
            simp only [List.set_cons_zero, List.set_cons_succ]
            refine stepH (i := 20) (d := 62) (v := (.bool false)) rfl rfl (by kernel_rfl) (by kernel_rfl) (by kernel_rfl) (fun _ _ _ h => h) (Or.inl ⟨by kernel_rfl, fun w' hw' => by kernel_rfl⟩) hS ?_
            simp only [List.set_cons_zero, List.set_cons_succ]
            refine stepH (i := 21) (d := 63) (v := undef) rfl rfl (by kernel_rfl) (by kernel_rfl) (by kernel_rfl) (fun _ _ _ h => h) (Or.inr ⟨rfl, rfl⟩) hS ?_
            refine stepH (i := 22) (d := 64) (v := undef) rfl rfl (by kernel_rfl) (by kernel_rfl) (by kernel_rfl) (fun _ _ _ h => h) (Or.inr ⟨rfl, rfl⟩) hS ?_
            refine stepH (i := 23) (d := 65) (v := undef) rfl rfl (by kernel_rfl) (by kernel_rfl) (by kernel_rfl) (fun _ _ _ h => h) (Or.inr ⟨rfl, rfl⟩) hS ?_
            refine stepH (i := 24) (d := 66) (v := undef) rfl rfl (by kernel_rfl) (by kernel_rfl) (by kernel_rfl) (fun _ _ _ h => h) (Or.inr ⟨rfl, rfl⟩) hS ?_
            refine stepH (i := 25) (d := 67) (v := undef) rfl rfl (by kernel_rfl) (by kernel_rfl) (by kernel_rfl) (fun _ _ _ h => h) (Or.inr ⟨rfl, rfl⟩) hS ?_
            refine stepH (i := 26) (d := 68) (v := undef) rfl rfl (by kernel_rfl) (by kernel_rfl) (by kernel_rfl) (fun _ _ _ h => h) (Or.inr ⟨rfl, rfl⟩) hS ?_
            refine stepH (i := 27) (d := 69) (v := undef) rfl rfl (by kernel_rfl) (by kernel_rfl) (by kernel_rfl) (fun _ _ _ h => h) (Or.inr ⟨rfl, rfl⟩) hS ?_
            refine stepH (i := 28) (d := 70) (v := (.bool false)) rfl rfl (by kernel_rfl) (by kernel_rfl) (by kernel_rfl) (fun _ _ _ h => h) (Or.inl ⟨by kernel_rfl, fun w' hw' => by kernel_rfl⟩) hS ?_
            simp only [List.set_cons_zero, List.set_cons_succ]
            refine stepH (i := 29) (d := 71) (v := (.bool false)) rfl rfl (by kernel_rfl) (by kernel_rfl) (by kernel_rfl) (fun _ _ _ h => h) (Or.inl ⟨by kernel_rfl, fun w' hw' => by kernel_rfl⟩) hS ?_
            simp only [List.set_cons_zero, List.set_cons_succ]
            refine stepH (i := 30) (d := 72) (v := undef) rfl rfl (by kernel_rfl) (by kernel_rfl) (by kernel_rfl) (fun _ _ _ h => h) (Or.inr ⟨rfl, rfl⟩) hS ?_
            refine stepH (i := 31) (d := 73) (v := undef) rfl rfl (by kernel_rfl) (by kernel_rfl) (by kernel_rfl) (fun _ _ _ h => h) (Or.inr ⟨rfl, rfl⟩) hS ?_
            refine stepH (i := 32) (d := 74) (v := undef) rfl rfl (by kernel_rfl) (by kernel_rfl) (by kernel_rfl) (fun _ _ _ h => h) (Or.inr ⟨rfl, rfl⟩) hS ?_
            refine stepH (i := 33) (d := 75) (v := undef) rfl rfl (by kernel_rfl) (by kernel_rfl) (by kernel_rfl) (fun _ _ _ h => h) (Or.inr ⟨rfl, rfl⟩) hS ?_
            refine stepH (i := 34) (d := 76) (v := undef) rfl rfl (by kernel_rfl) (by kernel_rfl) (by kernel_rfl) (fun _ _ _ h => h) (Or.inr ⟨rfl, rfl⟩) hS ?_
            refine stepH (i := 35) (d := 77) (v := undef) rfl rfl (by kernel_rfl) (by kernel_rfl) (by kernel_rfl) (fun _ _ _ h => h) (Or.inr ⟨rfl, rfl⟩) hS ?_
            refine stepH (i := 36) (d := 78) (v := (.bool false)) rfl rfl (by kernel_rfl) (by kernel_rfl) (by kernel_rfl) (fun _ _ _ h => h) (Or.inl ⟨by kernel_rfl, fun w' hw' => by kernel_rfl⟩) hS ?_
            simp only [List.set_cons_zero, List.set_cons_succ]
            refine stepH (i := 37) (d := 3) (v := (.bool false)) rfl rfl (by kernel_rfl) (by kernel_rfl) (by kernel_rfl) (fun _ _ _ h => h) (Or.inl ⟨by kernel_rfl, fun w' hw' => by kernel_rfl⟩) hS ?_
            simp only [List.set_cons_zero, List.set_cons_succ]
            refine wpAnyH_done (by kernel_rfl) ?_ _
            clear hSd s2 s4 s5 s6 hS0 hS
            go_wp2
            all_goals (go_ret; refine ⟨congrArg (fun b => Ending.returned (.int .i64 b)) ?_, (one_box _ _).drew⟩)
            all_goals (unfold mayE mayB; grind)
      · obtain ⟨S, hSd⟩ : ∃ S : World → Prop, ∀ w', S w' ↔ Blk w' w.heap.size 65 #[.int .i64 s, .int .i64 n, .int .i64 p, .int .i64 1, .bool h, .int .i64 m, .bool t] := ⟨fun w' => Blk w' w.heap.size 65 #[.int .i64 s, .int .i64 n, .int .i64 p, .int .i64 1, .bool h, .int .i64 m, .bool t], fun _ => Iff.rfl⟩
        have s2 : ∀ w', S w' → w'.cell? ⟨w.heap.size, 2, none⟩ = some (.int .i64 p) := fun w' h' => (((hSd w').1 h').cell 2).trans rfl
        have s4 : ∀ w', S w' → w'.cell? ⟨w.heap.size, 4, none⟩ = some (.bool h) := fun w' h' => (((hSd w').1 h').cell 4).trans rfl
        have s5 : ∀ w', S w' → w'.cell? ⟨w.heap.size, 5, none⟩ = some (.int .i64 m) := fun w' h' => (((hSd w').1 h').cell 5).trans rfl
        have s6 : ∀ w', S w' → w'.cell? ⟨w.heap.size, 6, none⟩ = some (.bool t) := fun w' h' => (((hSd w').1 h').cell 6).trans rfl
        have hS0 : S (w.alloc (.cells #[.int .i64 s, .int .i64 n, .int .i64 p, .int .i64 1, .bool h, .int .i64 m, .bool t] 65)).drew := (hSd _).2 (Blk.new w 65 #[.int .i64 s, .int .i64 n, .int .i64 p, .int .i64 1, .bool h, .int .i64 m, .bool t])
        refine wp_region_held_drew (S := S) (by kernel_rfl) hS0 (fun hS => ?_)
        refine stepH (i := 0) (d := 42) (v := (.bool true)) rfl rfl (by kernel_rfl) (by kernel_rfl) (by kernel_rfl) (fun _ _ _ h => h) (Or.inl ⟨by kernel_rfl, fun w' hw' => by kernel_rfl⟩) hS ?_
        simp only [List.set_cons_zero, List.set_cons_succ]
        refine stepH (i := 1) (d := 43) (v := (.bool true)) rfl rfl (by kernel_rfl) (by kernel_rfl) (by kernel_rfl) (fun _ _ _ h => h) (Or.inl ⟨by kernel_rfl, fun w' hw' => by kernel_rfl⟩) hS ?_
        simp only [List.set_cons_zero, List.set_cons_succ]
        refine stepH (i := 2) (d := 44) (v := (.pointer (some ⟨w.heap.size, 5, none⟩))) rfl rfl (by kernel_rfl) (by kernel_rfl) (by kernel_rfl) (fun _ _ _ h => h) (Or.inl ⟨by kernel_rfl, fun w' hw' => by kernel_rfl⟩) hS ?_
        simp only [List.set_cons_zero, List.set_cons_succ]
        refine stepH (i := 3) (d := 45) (v := (.int .i64 m)) rfl rfl (by kernel_rfl) (by kernel_rfl) (by kernel_rfl) (fun _ _ _ h => h) (Or.inl ⟨by kernel_rfl, fun w' hw' => exec_load 3 _ rfl ⟨w.heap.size, 5, none⟩ rfl (by simp [go_sem, s5 w' hw'])⟩) hS ?_
        simp only [List.set_cons_zero, List.set_cons_succ]
        refine stepH (i := 4) (d := 46) (v := (.bool true)) rfl rfl (by kernel_rfl) (by kernel_rfl) (by kernel_rfl) (fun _ _ _ h => h) (Or.inl ⟨by kernel_rfl, fun w' hw' => exec_bin .geq 3 3 _ _ rfl (.int .i64 m) (.int .i64 0) rfl rfl (by simp [go_sem]) (by simp [go_sem]; try omega)⟩) hS ?_
        simp only [List.set_cons_zero, List.set_cons_succ]
        refine stepH (i := 5) (d := 47) (v := (.bool true)) rfl rfl (by kernel_rfl) (by kernel_rfl) (by kernel_rfl) (fun _ _ _ h => h) (Or.inl ⟨by kernel_rfl, fun w' hw' => by kernel_rfl⟩) hS ?_
        simp only [List.set_cons_zero, List.set_cons_succ]
        refine stepH (i := 6) (d := 48) (v := (.bool true)) rfl rfl (by kernel_rfl) (by kernel_rfl) (by kernel_rfl) (fun _ _ _ h => h) (Or.inl ⟨by kernel_rfl, fun w' hw' => by kernel_rfl⟩) hS ?_
        simp only [List.set_cons_zero, List.set_cons_succ]
        refine stepH (i := 7) (d := 49) (v := (.pointer (some ⟨w.heap.size, 5, none⟩))) rfl rfl (by kernel_rfl) (by kernel_rfl) (by kernel_rfl) (fun _ _ _ h => h) (Or.inl ⟨by kernel_rfl, fun w' hw' => by kernel_rfl⟩) hS ?_
        simp only [List.set_cons_zero, List.set_cons_succ]
        refine stepH (i := 8) (d := 50) (v := (.int .i64 m)) rfl rfl (by kernel_rfl) (by kernel_rfl) (by kernel_rfl) (fun _ _ _ h => h) (Or.inl ⟨by kernel_rfl, fun w' hw' => exec_load 3 _ rfl ⟨w.heap.size, 5, none⟩ rfl (by simp [go_sem, s5 w' hw'])⟩) hS ?_
        simp only [List.set_cons_zero, List.set_cons_succ]
        refine stepH (i := 9) (d := 51) (v := (.bool false)) rfl rfl (by kernel_rfl) (by kernel_rfl) (by kernel_rfl) (fun _ _ _ h => h) (Or.inl ⟨by kernel_rfl, fun w' hw' => exec_bin .lss 3 3 _ _ rfl (.int .i64 m) (.int .i64 1024) rfl rfl (by simp [go_sem]) (by simp [go_sem]; try omega)⟩) hS ?_
        simp only [List.set_cons_zero, List.set_cons_succ]
        refine stepH (i := 10) (d := 52) (v := (.bool false)) rfl rfl (by kernel_rfl) (by kernel_rfl) (by kernel_rfl) (fun _ _ _ h => h) (Or.inl ⟨by kernel_rfl, fun w' hw' => by kernel_rfl⟩) hS ?_
        simp only [List.set_cons_zero, List.set_cons_succ]
        refine stepH (i := 11) (d := 53) (v := (.bool false)) rfl rfl (by kernel_rfl) (by kernel_rfl) (by kernel_rfl) (fun _ _ _ h => h) (Or.inl ⟨by kernel_rfl, fun w' hw' => by kernel_rfl⟩) hS ?_
        simp only [List.set_cons_zero, List.set_cons_succ]
        refine stepH (i := 12) (d := 54) (v := undef) rfl rfl (by kernel_rfl) (by kernel_rfl) (by kernel_rfl) (fun _ _ _ h => h) (Or.inr ⟨rfl, rfl⟩) hS ?_
        refine stepH (i := 13) (d := 55) (v := undef) rfl rfl (by kernel_rfl) (by kernel_rfl) (by kernel_rfl) (fun _ _ _ h => h) (Or.inr ⟨rfl, rfl⟩) hS ?_
        refine stepH (i := 14) (d := 56) (v := undef) rfl rfl (by kernel_rfl) (by kernel_rfl) (by kernel_rfl) (fun _ _ _ h => h) (Or.inr ⟨rfl, rfl⟩) hS ?_
        refine stepH (i := 15) (d := 57) (v := undef) rfl rfl (by kernel_rfl) (by kernel_rfl) (by kernel_rfl) (fun _ _ _ h => h) (Or.inr ⟨rfl, rfl⟩) hS ?_
        refine stepH (i := 16) (d := 58) (v := undef) rfl rfl (by kernel_rfl) (by kernel_rfl) (by kernel_rfl) (fun _ _ _ h => h) (Or.inr ⟨rfl, rfl⟩) hS ?_
        refine stepH (i := 17) (d := 59) (v := undef) rfl rfl (by kernel_rfl) (by kernel_rfl) (by kernel_rfl) (fun _ _ _ h => h) (Or.inr ⟨rfl, rfl⟩) hS ?_
        refine stepH (i := 18) (d := 60) (v := undef) rfl rfl (by kernel_rfl) (by kernel_rfl) (by kernel_rfl) (fun _ _ _ h => h) (Or.inr ⟨rfl, rfl⟩) hS ?_
        refine stepH (i := 19) (d := 61) (v := (.bool false)) rfl rfl (by kernel_rfl) (by kernel_rfl) (by kernel_rfl) (fun _ _ _ h => h) (Or.inl ⟨by kernel_rfl, fun w' hw' => by kernel_rfl⟩) hS ?_
        simp only [List.set_cons_zero, List.set_cons_succ]
        refine stepH (i := 20) (d := 62) (v := (.bool false)) rfl rfl (by kernel_rfl) (by kernel_rfl) (by kernel_rfl) (fun _ _ _ h => h) (Or.inl ⟨by kernel_rfl, fun w' hw' => by kernel_rfl⟩) hS ?_
        simp only [List.set_cons_zero, List.set_cons_succ]
        refine stepH (i := 21) (d := 63) (v := undef) rfl rfl (by kernel_rfl) (by kernel_rfl) (by kernel_rfl) (fun _ _ _ h => h) (Or.inr ⟨rfl, rfl⟩) hS ?_
        refine stepH (i := 22) (d := 64) (v := undef) rfl rfl (by kernel_rfl) (by kernel_rfl) (by kernel_rfl) (fun _ _ _ h => h) (Or.inr ⟨rfl, rfl⟩) hS ?_
        refine stepH (i := 23) (d := 65) (v := undef) rfl rfl (by kernel_rfl) (by kernel_rfl) (by kernel_rfl) (fun _ _ _ h => h) (Or.inr ⟨rfl, rfl⟩) hS ?_
        refine stepH (i := 24) (d := 66) (v := undef) rfl rfl (by kernel_rfl) (by kernel_rfl) (by kernel_rfl) (fun _ _ _ h => h) (Or.inr ⟨rfl, rfl⟩) hS ?_
        refine stepH (i := 25) (d := 67) (v := undef) rfl rfl (by kernel_rfl) (by kernel_rfl) (by kernel_rfl) (fun _ _ _ h => h) (Or.inr ⟨rfl, rfl⟩) hS ?_
        refine stepH (i := 26) (d := 68) (v := undef) rfl rfl (by kernel_rfl) (by kernel_rfl) (by kernel_rfl) (fun _ _ _ h => h) (Or.inr ⟨rfl, rfl⟩) hS ?_
        refine stepH (i := 27) (d := 69) (v := undef) rfl rfl (by kernel_rfl) (by kernel_rfl) (by kernel_rfl) (fun _ _ _ h => h) (Or.inr ⟨rfl, rfl⟩) hS ?_
        refine stepH (i := 28) (d := 70) (v := (.bool false)) rfl rfl (by kernel_rfl) (by kernel_rfl) (by kernel_rfl) (fun _ _ _ h => h) (Or.inl ⟨by kernel_rfl, fun w' hw' => by kernel_rfl⟩) hS ?_
        simp only [List.set_cons_zero, List.set_cons_succ]
        refine stepH (i := 29) (d := 71) (v := (.bool false)) rfl rfl (by kernel_rfl) (by kernel_rfl) (by kernel_rfl) (fun _ _ _ h => h) (Or.inl ⟨by kernel_rfl, fun w' hw' => by kernel_rfl⟩) hS ?_
        simp only [List.set_cons_zero, List.set_cons_succ]
        refine stepH (i := 30) (d := 72) (v := undef) rfl rfl (by kernel_rfl) (by kernel_rfl) (by kernel_rfl) (fun _ _ _ h => h) (Or.inr ⟨rfl, rfl⟩) hS ?_
        refine stepH (i := 31) (d := 73) (v := undef) rfl rfl (by kernel_rfl) (by kernel_rfl) (by kernel_rfl) (fun _ _ _ h => h) (Or.inr ⟨rfl, rfl⟩) hS ?_
        refine stepH (i := 32) (d := 74) (v := undef) rfl rfl (by kernel_rfl) (by kernel_rfl) (by kernel_rfl) (fun _ _ _ h => h) (Or.inr ⟨rfl, rfl⟩) hS ?_
        refine stepH (i := 33) (d := 75) (v := undef) rfl rfl (by kernel_rfl) (by kernel_rfl) (by kernel_rfl) (fun _ _ _ h => h) (Or.inr ⟨rfl, rfl⟩) hS ?_
        refine stepH (i := 34) (d := 76) (v := undef) rfl rfl (by kernel_rfl) (by kernel_rfl) (by kernel_rfl) (fun _ _ _ h => h) (Or.inr ⟨rfl, rfl⟩) hS ?_
        refine stepH (i := 35) (d := 77) (v := undef) rfl rfl (by kernel_rfl) (by kernel_rfl) (by kernel_rfl) (fun _ _ _ h => h) (Or.inr ⟨rfl, rfl⟩) hS ?_
        refine stepH (i := 36) (d := 78) (v := (.bool false)) rfl rfl (by kernel_rfl) (by kernel_rfl) (by kernel_rfl) (fun _ _ _ h => h) (Or.inl ⟨by kernel_rfl, fun w' hw' => by kernel_rfl⟩) hS ?_
        simp only [List.set_cons_zero, List.set_cons_succ]
        refine stepH (i := 37) (d := 3) (v := (.bool false)) rfl rfl (by kernel_rfl) (by kernel_rfl) (by kernel_rfl) (fun _ _ _ h => h) (Or.inl ⟨by kernel_rfl, fun w' hw' => by kernel_rfl⟩) hS ?_
        simp only [List.set_cons_zero, List.set_cons_succ]
        refine wpAnyH_done (by kernel_rfl) ?_ _
        clear hSd s2 s4 s5 s6 hS0 hS
        go_wp2
        all_goals (go_ret; refine ⟨congrArg (fun b => Ending.returned (.int .i64 b)) ?_, (one_box _ _).drew⟩)
        all_goals (unfold mayE mayB; grind)
    · obtain ⟨S, hSd⟩ : ∃ S : World → Prop, ∀ w', S w' ↔ Blk w' w.heap.size 65 #[.int .i64 s, .int .i64 n, .int .i64 p, .int .i64 1, .bool h, .int .i64 m, .bool t] := ⟨fun w' => Blk w' w.heap.size 65 #[.int .i64 s, .int .i64 n, .int .i64 p, .int .i64 1, .bool h, .int .i64 m, .bool t], fun _ => Iff.rfl⟩
      have s2 : ∀ w', S w' → w'.cell? ⟨w.heap.size, 2, none⟩ = some (.int .i64 p) := fun w' h' => (((hSd w').1 h').cell 2).trans rfl
      have s4 : ∀ w', S w' → w'.cell? ⟨w.heap.size, 4, none⟩ = some (.bool h) := fun w' h' => (((hSd w').1 h').cell 4).trans rfl
      have s5 : ∀ w', S w' → w'.cell? ⟨w.heap.size, 5, none⟩ = some (.int .i64 m) := fun w' h' => (((hSd w').1 h').cell 5).trans rfl
      have s6 : ∀ w', S w' → w'.cell? ⟨w.heap.size, 6, none⟩ = some (.bool t) := fun w' h' => (((hSd w').1 h').cell 6).trans rfl
      have hS0 : S (w.alloc (.cells #[.int .i64 s, .int .i64 n, .int .i64 p, .int .i64 1, .bool h, .int .i64 m, .bool t] 65)).drew := (hSd _).2 (Blk.new w 65 #[.int .i64 s, .int .i64 n, .int .i64 p, .int .i64 1, .bool h, .int .i64 m, .bool t])
      refine wp_region_held_drew (S := S) (by kernel_rfl) hS0 (fun hS => ?_)
      refine stepH (i := 0) (d := 42) (v := (.bool true)) rfl rfl (by kernel_rfl) (by kernel_rfl) (by kernel_rfl) (fun _ _ _ h => h) (Or.inl ⟨by kernel_rfl, fun w' hw' => by kernel_rfl⟩) hS ?_
      simp only [List.set_cons_zero, List.set_cons_succ]
      refine stepH (i := 1) (d := 43) (v := (.bool true)) rfl rfl (by kernel_rfl) (by kernel_rfl) (by kernel_rfl) (fun _ _ _ h => h) (Or.inl ⟨by kernel_rfl, fun w' hw' => by kernel_rfl⟩) hS ?_
      simp only [List.set_cons_zero, List.set_cons_succ]
      refine stepH (i := 2) (d := 44) (v := (.pointer (some ⟨w.heap.size, 5, none⟩))) rfl rfl (by kernel_rfl) (by kernel_rfl) (by kernel_rfl) (fun _ _ _ h => h) (Or.inl ⟨by kernel_rfl, fun w' hw' => by kernel_rfl⟩) hS ?_
      simp only [List.set_cons_zero, List.set_cons_succ]
      refine stepH (i := 3) (d := 45) (v := (.int .i64 m)) rfl rfl (by kernel_rfl) (by kernel_rfl) (by kernel_rfl) (fun _ _ _ h => h) (Or.inl ⟨by kernel_rfl, fun w' hw' => exec_load 3 _ rfl ⟨w.heap.size, 5, none⟩ rfl (by simp [go_sem, s5 w' hw'])⟩) hS ?_
      simp only [List.set_cons_zero, List.set_cons_succ]
      refine stepH (i := 4) (d := 46) (v := (.bool false)) rfl rfl (by kernel_rfl) (by kernel_rfl) (by kernel_rfl) (fun _ _ _ h => h) (Or.inl ⟨by kernel_rfl, fun w' hw' => exec_bin .geq 3 3 _ _ rfl (.int .i64 m) (.int .i64 0) rfl rfl (by simp [go_sem]) (by simp [go_sem]; try omega)⟩) hS ?_
      simp only [List.set_cons_zero, List.set_cons_succ]
      refine stepH (i := 5) (d := 47) (v := (.bool false)) rfl rfl (by kernel_rfl) (by kernel_rfl) (by kernel_rfl) (fun _ _ _ h => h) (Or.inl ⟨by kernel_rfl, fun w' hw' => by kernel_rfl⟩) hS ?_
      simp only [List.set_cons_zero, List.set_cons_succ]
      refine stepH (i := 6) (d := 48) (v := (.bool false)) rfl rfl (by kernel_rfl) (by kernel_rfl) (by kernel_rfl) (fun _ _ _ h => h) (Or.inl ⟨by kernel_rfl, fun w' hw' => by kernel_rfl⟩) hS ?_
      simp only [List.set_cons_zero, List.set_cons_succ]
      refine stepH (i := 7) (d := 49) (v := undef) rfl rfl (by kernel_rfl) (by kernel_rfl) (by kernel_rfl) (fun _ _ _ h => h) (Or.inr ⟨rfl, rfl⟩) hS ?_
      refine stepH (i := 8) (d := 50) (v := undef) rfl rfl (by kernel_rfl) (by kernel_rfl) (by kernel_rfl) (fun _ _ _ h => h) (Or.inr ⟨rfl, rfl⟩) hS ?_
      refine stepH (i := 9) (d := 51) (v := undef) rfl rfl (by kernel_rfl) (by kernel_rfl) (by kernel_rfl) (fun _ _ _ h => h) (Or.inr ⟨rfl, rfl⟩) hS ?_
      refine stepH (i := 10) (d := 52) (v := (.bool false)) rfl rfl (by kernel_rfl) (by kernel_rfl) (by kernel_rfl) (fun _ _ _ h => h) (Or.inl ⟨by kernel_rfl, fun w' hw' => by kernel_rfl⟩) hS ?_
      simp only [List.set_cons_zero, List.set_cons_succ]
      refine stepH (i := 11) (d := 53) (v := (.bool false)) rfl rfl (by kernel_rfl) (by kernel_rfl) (by kernel_rfl) (fun _ _ _ h => h) (Or.inl ⟨by kernel_rfl, fun w' hw' => by kernel_rfl⟩) hS ?_
      simp only [List.set_cons_zero, List.set_cons_succ]
      refine stepH (i := 12) (d := 54) (v := undef) rfl rfl (by kernel_rfl) (by kernel_rfl) (by kernel_rfl) (fun _ _ _ h => h) (Or.inr ⟨rfl, rfl⟩) hS ?_
      refine stepH (i := 13) (d := 55) (v := undef) rfl rfl (by kernel_rfl) (by kernel_rfl) (by kernel_rfl) (fun _ _ _ h => h) (Or.inr ⟨rfl, rfl⟩) hS ?_
      refine stepH (i := 14) (d := 56) (v := undef) rfl rfl (by kernel_rfl) (by kernel_rfl) (by kernel_rfl) (fun _ _ _ h => h) (Or.inr ⟨rfl, rfl⟩) hS ?_
      refine stepH (i := 15) (d := 57) (v := undef) rfl rfl (by kernel_rfl) (by kernel_rfl) (by kernel_rfl) (fun _ _ _ h => h) (Or.inr ⟨rfl, rfl⟩) hS ?_
      refine stepH (i := 16) (d := 58) (v := undef) rfl rfl (by kernel_rfl) (by kernel_rfl) (by kernel_rfl) (fun _ _ _ h => h) (Or.inr ⟨rfl, rfl⟩) hS ?_
      refine stepH (i := 17) (d := 59) (v := undef) rfl rfl (by kernel_rfl) (by kernel_rfl) (by kernel_rfl) (fun _ _ _ h => h) (Or.inr ⟨rfl, rfl⟩) hS ?_
      refine stepH (i := 18) (d := 60) (v := undef) rfl rfl (by kernel_rfl) (by kernel_rfl) (by kernel_rfl) (fun _ _ _ h => h) (Or.inr ⟨rfl, rfl⟩) hS ?_
      refine stepH (i := 19) (d := 61) (v := (.bool false)) rfl rfl (by kernel_rfl) (by kernel_rfl) (by kernel_rfl) (fun _ _ _ h => h) (Or.inl ⟨by kernel_rfl, fun w' hw' => by kernel_rfl⟩) hS ?_
      simp only [List.set_cons_zero, List.set_cons_succ]
      refine stepH (i := 20) (d := 62) (v := (.bool false)) rfl rfl (by kernel_rfl) (by kernel_rfl) (by kernel_rfl) (fun _ _ _ h => h) (Or.inl ⟨by kernel_rfl, fun w' hw' => by kernel_rfl⟩) hS ?_
      simp only [List.set_cons_zero, List.set_cons_succ]
      refine stepH (i := 21) (d := 63) (v := undef) rfl rfl (by kernel_rfl) (by kernel_rfl) (by kernel_rfl) (fun _ _ _ h => h) (Or.inr ⟨rfl, rfl⟩) hS ?_
      refine stepH (i := 22) (d := 64) (v := undef) rfl rfl (by kernel_rfl) (by kernel_rfl) (by kernel_rfl) (fun _ _ _ h => h) (Or.inr ⟨rfl, rfl⟩) hS ?_
      refine stepH (i := 23) (d := 65) (v := undef) rfl rfl (by kernel_rfl) (by kernel_rfl) (by kernel_rfl) (fun _ _ _ h => h) (Or.inr ⟨rfl, rfl⟩) hS ?_
      refine stepH (i := 24) (d := 66) (v := undef) rfl rfl (by kernel_rfl) (by kernel_rfl) (by kernel_rfl) (fun _ _ _ h => h) (Or.inr ⟨rfl, rfl⟩) hS ?_
      refine stepH (i := 25) (d := 67) (v := undef) rfl rfl (by kernel_rfl) (by kernel_rfl) (by kernel_rfl) (fun _ _ _ h => h) (Or.inr ⟨rfl, rfl⟩) hS ?_
      refine stepH (i := 26) (d := 68) (v := undef) rfl rfl (by kernel_rfl) (by kernel_rfl) (by kernel_rfl) (fun _ _ _ h => h) (Or.inr ⟨rfl, rfl⟩) hS ?_
      refine stepH (i := 27) (d := 69) (v := undef) rfl rfl (by kernel_rfl) (by kernel_rfl) (by kernel_rfl) (fun _ _ _ h => h) (Or.inr ⟨rfl, rfl⟩) hS ?_
      refine stepH (i := 28) (d := 70) (v := (.bool false)) rfl rfl (by kernel_rfl) (by kernel_rfl) (by kernel_rfl) (fun _ _ _ h => h) (Or.inl ⟨by kernel_rfl, fun w' hw' => by kernel_rfl⟩) hS ?_
      simp only [List.set_cons_zero, List.set_cons_succ]
      refine stepH (i := 29) (d := 71) (v := (.bool false)) rfl rfl (by kernel_rfl) (by kernel_rfl) (by kernel_rfl) (fun _ _ _ h => h) (Or.inl ⟨by kernel_rfl, fun w' hw' => by kernel_rfl⟩) hS ?_
      simp only [List.set_cons_zero, List.set_cons_succ]
      refine stepH (i := 30) (d := 72) (v := undef) rfl rfl (by kernel_rfl) (by kernel_rfl) (by kernel_rfl) (fun _ _ _ h => h) (Or.inr ⟨rfl, rfl⟩) hS ?_
      refine stepH (i := 31) (d := 73) (v := undef) rfl rfl (by kernel_rfl) (by kernel_rfl) (by kernel_rfl) (fun _ _ _ h => h) (Or.inr ⟨rfl, rfl⟩) hS ?_
      refine stepH (i := 32) (d := 74) (v := undef) rfl rfl (by kernel_rfl) (by kernel_rfl) (by kernel_rfl) (fun _ _ _ h => h) (Or.inr ⟨rfl, rfl⟩) hS ?_
      refine stepH (i := 33) (d := 75) (v := undef) rfl rfl (by kernel_rfl) (by kernel_rfl) (by kernel_rfl) (fun _ _ _ h => h) (Or.inr ⟨rfl, rfl⟩) hS ?_
      refine stepH (i := 34) (d := 76) (v := undef) rfl rfl (by kernel_rfl) (by kernel_rfl) (by kernel_rfl) (fun _ _ _ h => h) (Or.inr ⟨rfl, rfl⟩) hS ?_
      refine stepH (i := 35) (d := 77) (v := undef) rfl rfl (by kernel_rfl) (by kernel_rfl) (by kernel_rfl) (fun _ _ _ h => h) (Or.inr ⟨rfl, rfl⟩) hS ?_
      refine stepH (i := 36) (d := 78) (v := (.bool false)) rfl rfl (by kernel_rfl) (by kernel_rfl) (by kernel_rfl) (fun _ _ _ h => h) (Or.inl ⟨by kernel_rfl, fun w' hw' => by kernel_rfl⟩) hS ?_
      simp only [List.set_cons_zero, List.set_cons_succ]
      refine stepH (i := 37) (d := 3) (v := (.bool false)) rfl rfl (by kernel_rfl) (by kernel_rfl) (by kernel_rfl) (fun _ _ _ h => h) (Or.inl ⟨by kernel_rfl, fun w' hw' => by kernel_rfl⟩) hS ?_
      simp only [List.set_cons_zero, List.set_cons_succ]
      refine wpAnyH_done (by kernel_rfl) ?_ _
      clear hSd s2 s4 s5 s6 hS0 hS
      go_wp2
      all_goals (go_ret; refine ⟨congrArg (fun b => Ending.returned (.int .i64 b)) ?_, (one_box _ _).drew⟩)
      all_goals (unfold mayE mayB; grind)
  all_goals (
     obtain ⟨S, hSd⟩ : ∃ S : World → Prop, ∀ w', S w' ↔ Blk w' w.heap.size 65 #[.int .i64 s, .int .i64 n, .int .i64 p, .int .i64 1, .bool h, .int .i64 m, .bool t] := ⟨fun w' => Blk w' w.heap.size 65 #[.int .i64 s, .int .i64 n, .int .i64 p, .int .i64 1, .bool h, .int .i64 m, .bool t], fun _ => Iff.rfl⟩
     have s2 : ∀ w', S w' → w'.cell? ⟨w.heap.size, 2, none⟩ = some (.int .i64 p) := fun w' h' => (((hSd w').1 h').cell 2).trans rfl
     have s4 : ∀ w', S w' → w'.cell? ⟨w.heap.size, 4, none⟩ = some (.bool h) := fun w' h' => (((hSd w').1 h').cell 4).trans rfl
     have s5 : ∀ w', S w' → w'.cell? ⟨w.heap.size, 5, none⟩ = some (.int .i64 m) := fun w' h' => (((hSd w').1 h').cell 5).trans rfl
     have s6 : ∀ w', S w' → w'.cell? ⟨w.heap.size, 6, none⟩ = some (.bool t) := fun w' h' => (((hSd w').1 h').cell 6).trans rfl
     have hS0 : S (w.alloc (.cells #[.int .i64 s, .int .i64 n, .int .i64 p, .int .i64 1, .bool h, .int .i64 m, .bool t] 65)).drew := (hSd _).2 (Blk.new w 65 #[.int .i64 s, .int .i64 n, .int .i64 p, .int .i64 1, .bool h, .int .i64 m, .bool t])
     refine wp_region_held_drew (S := S) (by kernel_rfl) hS0 (fun hS => ?_)
     refine stepH (i := 0) (d := 42) (v := (.bool false)) rfl rfl (by kernel_rfl) (by kernel_rfl) (by kernel_rfl) (fun _ _ _ h => h) (Or.inl ⟨by kernel_rfl, fun w' hw' => by kernel_rfl⟩) hS ?_
     simp only [List.set_cons_zero, List.set_cons_succ]
     refine stepH (i := 1) (d := 43) (v := (.bool false)) rfl rfl (by kernel_rfl) (by kernel_rfl) (by kernel_rfl) (fun _ _ _ h => h) (Or.inl ⟨by kernel_rfl, fun w' hw' => by kernel_rfl⟩) hS ?_
     simp only [List.set_cons_zero, List.set_cons_succ]
     refine stepH (i := 2) (d := 44) (v := undef) rfl rfl (by kernel_rfl) (by kernel_rfl) (by kernel_rfl) (fun _ _ _ h => h) (Or.inr ⟨rfl, rfl⟩) hS ?_
     refine stepH (i := 3) (d := 45) (v := undef) rfl rfl (by kernel_rfl) (by kernel_rfl) (by kernel_rfl) (fun _ _ _ h => h) (Or.inr ⟨rfl, rfl⟩) hS ?_
     refine stepH (i := 4) (d := 46) (v := undef) rfl rfl (by kernel_rfl) (by kernel_rfl) (by kernel_rfl) (fun _ _ _ h => h) (Or.inr ⟨rfl, rfl⟩) hS ?_
     refine stepH (i := 5) (d := 47) (v := (.bool false)) rfl rfl (by kernel_rfl) (by kernel_rfl) (by kernel_rfl) (fun _ _ _ h => h) (Or.inl ⟨by kernel_rfl, fun w' hw' => by kernel_rfl⟩) hS ?_
     simp only [List.set_cons_zero, List.set_cons_succ]
     refine stepH (i := 6) (d := 48) (v := (.bool false)) rfl rfl (by kernel_rfl) (by kernel_rfl) (by kernel_rfl) (fun _ _ _ h => h) (Or.inl ⟨by kernel_rfl, fun w' hw' => by kernel_rfl⟩) hS ?_
     simp only [List.set_cons_zero, List.set_cons_succ]
     refine stepH (i := 7) (d := 49) (v := undef) rfl rfl (by kernel_rfl) (by kernel_rfl) (by kernel_rfl) (fun _ _ _ h => h) (Or.inr ⟨rfl, rfl⟩) hS ?_
     refine stepH (i := 8) (d := 50) (v := undef) rfl rfl (by kernel_rfl) (by kernel_rfl) (by kernel_rfl) (fun _ _ _ h => h) (Or.inr ⟨rfl, rfl⟩) hS ?_
     refine stepH (i := 9) (d := 51) (v := undef) rfl rfl (by kernel_rfl) (by kernel_rfl) (by kernel_rfl) (fun _ _ _ h => h) (Or.inr ⟨rfl, rfl⟩) hS ?_
     refine stepH (i := 10) (d := 52) (v := (.bool false)) rfl rfl (by kernel_rfl) (by kernel_rfl) (by kernel_rfl) (fun _ _ _ h => h) (Or.inl ⟨by kernel_rfl, fun w' hw' => by kernel_rfl⟩) hS ?_
     simp only [List.set_cons_zero, List.set_cons_succ]
     refine stepH (i := 11) (d := 53) (v := (.bool false)) rfl rfl (by kernel_rfl) (by kernel_rfl) (by kernel_rfl) (fun _ _ _ h => h) (Or.inl ⟨by kernel_rfl, fun w' hw' => by kernel_rfl⟩) hS ?_
     simp only [List.set_cons_zero, List.set_cons_succ]
     refine stepH (i := 12) (d := 54) (v := undef) rfl rfl (by kernel_rfl) (by kernel_rfl) (by kernel_rfl) (fun _ _ _ h => h) (Or.inr ⟨rfl, rfl⟩) hS ?_
     refine stepH (i := 13) (d := 55) (v := undef) rfl rfl (by kernel_rfl) (by kernel_rfl) (by kernel_rfl) (fun _ _ _ h => h) (Or.inr ⟨rfl, rfl⟩) hS ?_
     refine stepH (i := 14) (d := 56) (v := undef) rfl rfl (by kernel_rfl) (by kernel_rfl) (by kernel_rfl) (fun _ _ _ h => h) (Or.inr ⟨rfl, rfl⟩) hS ?_
     refine stepH (i := 15) (d := 57) (v := undef) rfl rfl (by kernel_rfl) (by kernel_rfl) (by kernel_rfl) (fun _ _ _ h => h) (Or.inr ⟨rfl, rfl⟩) hS ?_
     refine stepH (i := 16) (d := 58) (v := undef) rfl rfl (by kernel_rfl) (by kernel_rfl) (by kernel_rfl) (fun _ _ _ h => h) (Or.inr ⟨rfl, rfl⟩) hS ?_
     refine stepH (i := 17) (d := 59) (v := undef) rfl rfl (by kernel_rfl) (by kernel_rfl) (by kernel_rfl) (fun _ _ _ h => h) (Or.inr ⟨rfl, rfl⟩) hS ?_
     refine stepH (i := 18) (d := 60) (v := undef) rfl rfl (by kernel_rfl) (by kernel_rfl) (by kernel_rfl) (fun _ _ _ h => h) (Or.inr ⟨rfl, rfl⟩) hS ?_
     refine stepH (i := 19) (d := 61) (v := (.bool false)) rfl rfl (by kernel_rfl) (by kernel_rfl) (by kernel_rfl) (fun _ _ _ h => h) (Or.inl ⟨by kernel_rfl, fun w' hw' => by kernel_rfl⟩) hS ?_
     simp only [List.set_cons_zero, List.set_cons_succ]
     refine stepH (i := 20) (d := 62) (v := (.bool false)) rfl rfl (by kernel_rfl) (by kernel_rfl) (by kernel_rfl) (fun _ _ _ h => h) (Or.inl ⟨by kernel_rfl, fun w' hw' => by kernel_rfl⟩) hS ?_
     simp only [List.set_cons_zero, List.set_cons_succ]
     refine stepH (i := 21) (d := 63) (v := undef) rfl rfl (by kernel_rfl) (by kernel_rfl) (by kernel_rfl) (fun _ _ _ h => h) (Or.inr ⟨rfl, rfl⟩) hS ?_
     refine stepH (i := 22) (d := 64) (v := undef) rfl rfl (by kernel_rfl) (by kernel_rfl) (by kernel_rfl) (fun _ _ _ h => h) (Or.inr ⟨rfl, rfl⟩) hS ?_
     refine stepH (i := 23) (d := 65) (v := undef) rfl rfl (by kernel_rfl) (by kernel_rfl) (by kernel_rfl) (fun _ _ _ h => h) (Or.inr ⟨rfl, rfl⟩) hS ?_
     refine stepH (i := 24) (d := 66) (v := undef) rfl rfl (by kernel_rfl) (by kernel_rfl) (by kernel_rfl) (fun _ _ _ h => h) (Or.inr ⟨rfl, rfl⟩) hS ?_
     refine stepH (i := 25) (d := 67) (v := undef) rfl rfl (by kernel_rfl) (by kernel_rfl) (by kernel_rfl) (fun _ _ _ h => h) (Or.inr ⟨rfl, rfl⟩) hS ?_
     refine stepH (i := 26) (d := 68) (v := undef) rfl rfl (by kernel_rfl) (by kernel_rfl) (by kernel_rfl) (fun _ _ _ h => h) (Or.inr ⟨rfl, rfl⟩) hS ?_
     refine stepH (i := 27) (d := 69) (v := undef) rfl rfl (by kernel_rfl) (by kernel_rfl) (by kernel_rfl) (fun _ _ _ h => h) (Or.inr ⟨rfl, rfl⟩) hS ?_
     refine stepH (i := 28) (d := 70) (v := (.bool false)) rfl rfl (by kernel_rfl) (by kernel_rfl) (by kernel_rfl) (fun _ _ _ h => h) (Or.inl ⟨by kernel_rfl, fun w' hw' => by kernel_rfl⟩) hS ?_
     simp only [List.set_cons_zero, List.set_cons_succ]
     refine stepH (i := 29) (d := 71) (v := (.bool false)) rfl rfl (by kernel_rfl) (by kernel_rfl) (by kernel_rfl) (fun _ _ _ h => h) (Or.inl ⟨by kernel_rfl, fun w' hw' => by kernel_rfl⟩) hS ?_
     simp only [List.set_cons_zero, List.set_cons_succ]
     refine stepH (i := 30) (d := 72) (v := undef) rfl rfl (by kernel_rfl) (by kernel_rfl) (by kernel_rfl) (fun _ _ _ h => h) (Or.inr ⟨rfl, rfl⟩) hS ?_
     refine stepH (i := 31) (d := 73) (v := undef) rfl rfl (by kernel_rfl) (by kernel_rfl) (by kernel_rfl) (fun _ _ _ h => h) (Or.inr ⟨rfl, rfl⟩) hS ?_
     refine stepH (i := 32) (d := 74) (v := undef) rfl rfl (by kernel_rfl) (by kernel_rfl) (by kernel_rfl) (fun _ _ _ h => h) (Or.inr ⟨rfl, rfl⟩) hS ?_
     refine stepH (i := 33) (d := 75) (v := undef) rfl rfl (by kernel_rfl) (by kernel_rfl) (by kernel_rfl) (fun _ _ _ h => h) (Or.inr ⟨rfl, rfl⟩) hS ?_
     refine stepH (i := 34) (d := 76) (v := undef) rfl rfl (by kernel_rfl) (by kernel_rfl) (by kernel_rfl) (fun _ _ _ h => h) (Or.inr ⟨rfl, rfl⟩) hS ?_
     refine stepH (i := 35) (d := 77) (v := undef) rfl rfl (by kernel_rfl) (by kernel_rfl) (by kernel_rfl) (fun _ _ _ h => h) (Or.inr ⟨rfl, rfl⟩) hS ?_
     refine stepH (i := 36) (d := 78) (v := (.bool false)) rfl rfl (by kernel_rfl) (by kernel_rfl) (by kernel_rfl) (fun _ _ _ h => h) (Or.inl ⟨by kernel_rfl, fun w' hw' => by kernel_rfl⟩) hS ?_
     simp only [List.set_cons_zero, List.set_cons_succ]
     refine stepH (i := 37) (d := 3) (v := (.bool false)) rfl rfl (by kernel_rfl) (by kernel_rfl) (by kernel_rfl) (fun _ _ _ h => h) (Or.inl ⟨by kernel_rfl, fun w' hw' => by kernel_rfl⟩) hS ?_
     simp only [List.set_cons_zero, List.set_cons_succ]
     refine wpAnyH_done (by kernel_rfl) ?_ _
     clear hSd s2 s4 s5 s6 hS0 hS
     go_wp2
     all_goals (go_ret; refine ⟨congrArg (fun b => Ending.returned (.int .i64 b)) ?_, (one_box _ _).drew⟩)
     all_goals (unfold mayE mayB; grind))

set_option maxRecDepth 100000 in
set_option maxHeartbeats 4000000 in
theorem may_x (s n p g : Int) (h : Bool) (m : Int) (t : Bool) (w : World) (g0 : (g == 0) = false) (g1 : (g == 1) = false) :
    Calls Try.prog 29 #[.agg #[.int .i64 s, .int .i64 n, .int .i64 p, .int .i64 g, .bool h, .int .i64 m, .bool t]] w fun e w' => e = .returned (.int .i64 (mayE s n p g h m t)) ∧ Below w.heap.size w w' := by
  go_enter Try.func29, Try.ntmps29
  go_wp2
  all_goals (
     obtain ⟨S, hSd⟩ : ∃ S : World → Prop, ∀ w', S w' ↔ Blk w' w.heap.size 65 #[.int .i64 s, .int .i64 n, .int .i64 p, .int .i64 g, .bool h, .int .i64 m, .bool t] := ⟨fun w' => Blk w' w.heap.size 65 #[.int .i64 s, .int .i64 n, .int .i64 p, .int .i64 g, .bool h, .int .i64 m, .bool t], fun _ => Iff.rfl⟩
     have s2 : ∀ w', S w' → w'.cell? ⟨w.heap.size, 2, none⟩ = some (.int .i64 p) := fun w' h' => (((hSd w').1 h').cell 2).trans rfl
     have s4 : ∀ w', S w' → w'.cell? ⟨w.heap.size, 4, none⟩ = some (.bool h) := fun w' h' => (((hSd w').1 h').cell 4).trans rfl
     have s5 : ∀ w', S w' → w'.cell? ⟨w.heap.size, 5, none⟩ = some (.int .i64 m) := fun w' h' => (((hSd w').1 h').cell 5).trans rfl
     have s6 : ∀ w', S w' → w'.cell? ⟨w.heap.size, 6, none⟩ = some (.bool t) := fun w' h' => (((hSd w').1 h').cell 6).trans rfl
     have hS0 : S (w.alloc (.cells #[.int .i64 s, .int .i64 n, .int .i64 p, .int .i64 g, .bool h, .int .i64 m, .bool t] 65)).drew := (hSd _).2 (Blk.new w 65 #[.int .i64 s, .int .i64 n, .int .i64 p, .int .i64 g, .bool h, .int .i64 m, .bool t])
     refine wp_region_held_drew (S := S) (by kernel_rfl) hS0 (fun hS => ?_)
     refine stepH (i := 0) (d := 42) (v := (.bool false)) rfl rfl (by kernel_rfl) (by kernel_rfl) (by kernel_rfl) (fun _ _ _ h => h) (Or.inl ⟨by kernel_rfl, fun w' hw' => by kernel_rfl⟩) hS ?_
     simp only [List.set_cons_zero, List.set_cons_succ]
     refine stepH (i := 1) (d := 43) (v := (.bool false)) rfl rfl (by kernel_rfl) (by kernel_rfl) (by kernel_rfl) (fun _ _ _ h => h) (Or.inl ⟨by kernel_rfl, fun w' hw' => by kernel_rfl⟩) hS ?_
     simp only [List.set_cons_zero, List.set_cons_succ]
     refine stepH (i := 2) (d := 44) (v := undef) rfl rfl (by kernel_rfl) (by kernel_rfl) (by kernel_rfl) (fun _ _ _ h => h) (Or.inr ⟨rfl, rfl⟩) hS ?_
     refine stepH (i := 3) (d := 45) (v := undef) rfl rfl (by kernel_rfl) (by kernel_rfl) (by kernel_rfl) (fun _ _ _ h => h) (Or.inr ⟨rfl, rfl⟩) hS ?_
     refine stepH (i := 4) (d := 46) (v := undef) rfl rfl (by kernel_rfl) (by kernel_rfl) (by kernel_rfl) (fun _ _ _ h => h) (Or.inr ⟨rfl, rfl⟩) hS ?_
     refine stepH (i := 5) (d := 47) (v := (.bool false)) rfl rfl (by kernel_rfl) (by kernel_rfl) (by kernel_rfl) (fun _ _ _ h => h) (Or.inl ⟨by kernel_rfl, fun w' hw' => by kernel_rfl⟩) hS ?_
     simp only [List.set_cons_zero, List.set_cons_succ]
     refine stepH (i := 6) (d := 48) (v := (.bool false)) rfl rfl (by kernel_rfl) (by kernel_rfl) (by kernel_rfl) (fun _ _ _ h => h) (Or.inl ⟨by kernel_rfl, fun w' hw' => by kernel_rfl⟩) hS ?_
     simp only [List.set_cons_zero, List.set_cons_succ]
     refine stepH (i := 7) (d := 49) (v := undef) rfl rfl (by kernel_rfl) (by kernel_rfl) (by kernel_rfl) (fun _ _ _ h => h) (Or.inr ⟨rfl, rfl⟩) hS ?_
     refine stepH (i := 8) (d := 50) (v := undef) rfl rfl (by kernel_rfl) (by kernel_rfl) (by kernel_rfl) (fun _ _ _ h => h) (Or.inr ⟨rfl, rfl⟩) hS ?_
     refine stepH (i := 9) (d := 51) (v := undef) rfl rfl (by kernel_rfl) (by kernel_rfl) (by kernel_rfl) (fun _ _ _ h => h) (Or.inr ⟨rfl, rfl⟩) hS ?_
     refine stepH (i := 10) (d := 52) (v := (.bool false)) rfl rfl (by kernel_rfl) (by kernel_rfl) (by kernel_rfl) (fun _ _ _ h => h) (Or.inl ⟨by kernel_rfl, fun w' hw' => by kernel_rfl⟩) hS ?_
     simp only [List.set_cons_zero, List.set_cons_succ]
     refine stepH (i := 11) (d := 53) (v := (.bool false)) rfl rfl (by kernel_rfl) (by kernel_rfl) (by kernel_rfl) (fun _ _ _ h => h) (Or.inl ⟨by kernel_rfl, fun w' hw' => by kernel_rfl⟩) hS ?_
     simp only [List.set_cons_zero, List.set_cons_succ]
     refine stepH (i := 12) (d := 54) (v := undef) rfl rfl (by kernel_rfl) (by kernel_rfl) (by kernel_rfl) (fun _ _ _ h => h) (Or.inr ⟨rfl, rfl⟩) hS ?_
     refine stepH (i := 13) (d := 55) (v := undef) rfl rfl (by kernel_rfl) (by kernel_rfl) (by kernel_rfl) (fun _ _ _ h => h) (Or.inr ⟨rfl, rfl⟩) hS ?_
     refine stepH (i := 14) (d := 56) (v := undef) rfl rfl (by kernel_rfl) (by kernel_rfl) (by kernel_rfl) (fun _ _ _ h => h) (Or.inr ⟨rfl, rfl⟩) hS ?_
     refine stepH (i := 15) (d := 57) (v := undef) rfl rfl (by kernel_rfl) (by kernel_rfl) (by kernel_rfl) (fun _ _ _ h => h) (Or.inr ⟨rfl, rfl⟩) hS ?_
     refine stepH (i := 16) (d := 58) (v := undef) rfl rfl (by kernel_rfl) (by kernel_rfl) (by kernel_rfl) (fun _ _ _ h => h) (Or.inr ⟨rfl, rfl⟩) hS ?_
     refine stepH (i := 17) (d := 59) (v := undef) rfl rfl (by kernel_rfl) (by kernel_rfl) (by kernel_rfl) (fun _ _ _ h => h) (Or.inr ⟨rfl, rfl⟩) hS ?_
     refine stepH (i := 18) (d := 60) (v := undef) rfl rfl (by kernel_rfl) (by kernel_rfl) (by kernel_rfl) (fun _ _ _ h => h) (Or.inr ⟨rfl, rfl⟩) hS ?_
     refine stepH (i := 19) (d := 61) (v := (.bool false)) rfl rfl (by kernel_rfl) (by kernel_rfl) (by kernel_rfl) (fun _ _ _ h => h) (Or.inl ⟨by kernel_rfl, fun w' hw' => by kernel_rfl⟩) hS ?_
     simp only [List.set_cons_zero, List.set_cons_succ]
     refine stepH (i := 20) (d := 62) (v := (.bool false)) rfl rfl (by kernel_rfl) (by kernel_rfl) (by kernel_rfl) (fun _ _ _ h => h) (Or.inl ⟨by kernel_rfl, fun w' hw' => by kernel_rfl⟩) hS ?_
     simp only [List.set_cons_zero, List.set_cons_succ]
     refine stepH (i := 21) (d := 63) (v := undef) rfl rfl (by kernel_rfl) (by kernel_rfl) (by kernel_rfl) (fun _ _ _ h => h) (Or.inr ⟨rfl, rfl⟩) hS ?_
     refine stepH (i := 22) (d := 64) (v := undef) rfl rfl (by kernel_rfl) (by kernel_rfl) (by kernel_rfl) (fun _ _ _ h => h) (Or.inr ⟨rfl, rfl⟩) hS ?_
     refine stepH (i := 23) (d := 65) (v := undef) rfl rfl (by kernel_rfl) (by kernel_rfl) (by kernel_rfl) (fun _ _ _ h => h) (Or.inr ⟨rfl, rfl⟩) hS ?_
     refine stepH (i := 24) (d := 66) (v := undef) rfl rfl (by kernel_rfl) (by kernel_rfl) (by kernel_rfl) (fun _ _ _ h => h) (Or.inr ⟨rfl, rfl⟩) hS ?_
     refine stepH (i := 25) (d := 67) (v := undef) rfl rfl (by kernel_rfl) (by kernel_rfl) (by kernel_rfl) (fun _ _ _ h => h) (Or.inr ⟨rfl, rfl⟩) hS ?_
     refine stepH (i := 26) (d := 68) (v := undef) rfl rfl (by kernel_rfl) (by kernel_rfl) (by kernel_rfl) (fun _ _ _ h => h) (Or.inr ⟨rfl, rfl⟩) hS ?_
     refine stepH (i := 27) (d := 69) (v := undef) rfl rfl (by kernel_rfl) (by kernel_rfl) (by kernel_rfl) (fun _ _ _ h => h) (Or.inr ⟨rfl, rfl⟩) hS ?_
     refine stepH (i := 28) (d := 70) (v := (.bool false)) rfl rfl (by kernel_rfl) (by kernel_rfl) (by kernel_rfl) (fun _ _ _ h => h) (Or.inl ⟨by kernel_rfl, fun w' hw' => by kernel_rfl⟩) hS ?_
     simp only [List.set_cons_zero, List.set_cons_succ]
     refine stepH (i := 29) (d := 71) (v := (.bool false)) rfl rfl (by kernel_rfl) (by kernel_rfl) (by kernel_rfl) (fun _ _ _ h => h) (Or.inl ⟨by kernel_rfl, fun w' hw' => by kernel_rfl⟩) hS ?_
     simp only [List.set_cons_zero, List.set_cons_succ]
     refine stepH (i := 30) (d := 72) (v := undef) rfl rfl (by kernel_rfl) (by kernel_rfl) (by kernel_rfl) (fun _ _ _ h => h) (Or.inr ⟨rfl, rfl⟩) hS ?_
     refine stepH (i := 31) (d := 73) (v := undef) rfl rfl (by kernel_rfl) (by kernel_rfl) (by kernel_rfl) (fun _ _ _ h => h) (Or.inr ⟨rfl, rfl⟩) hS ?_
     refine stepH (i := 32) (d := 74) (v := undef) rfl rfl (by kernel_rfl) (by kernel_rfl) (by kernel_rfl) (fun _ _ _ h => h) (Or.inr ⟨rfl, rfl⟩) hS ?_
     refine stepH (i := 33) (d := 75) (v := undef) rfl rfl (by kernel_rfl) (by kernel_rfl) (by kernel_rfl) (fun _ _ _ h => h) (Or.inr ⟨rfl, rfl⟩) hS ?_
     refine stepH (i := 34) (d := 76) (v := undef) rfl rfl (by kernel_rfl) (by kernel_rfl) (by kernel_rfl) (fun _ _ _ h => h) (Or.inr ⟨rfl, rfl⟩) hS ?_
     refine stepH (i := 35) (d := 77) (v := undef) rfl rfl (by kernel_rfl) (by kernel_rfl) (by kernel_rfl) (fun _ _ _ h => h) (Or.inr ⟨rfl, rfl⟩) hS ?_
     refine stepH (i := 36) (d := 78) (v := (.bool false)) rfl rfl (by kernel_rfl) (by kernel_rfl) (by kernel_rfl) (fun _ _ _ h => h) (Or.inl ⟨by kernel_rfl, fun w' hw' => by kernel_rfl⟩) hS ?_
     simp only [List.set_cons_zero, List.set_cons_succ]
     refine stepH (i := 37) (d := 3) (v := (.bool false)) rfl rfl (by kernel_rfl) (by kernel_rfl) (by kernel_rfl) (fun _ _ _ h => h) (Or.inl ⟨by kernel_rfl, fun w' hw' => by kernel_rfl⟩) hS ?_
     simp only [List.set_cons_zero, List.set_cons_succ]
     refine wpAnyH_done (by kernel_rfl) ?_ _
     clear hSd s2 s4 s5 s6 hS0 hS
     go_wp2
     all_goals (go_ret; refine ⟨congrArg (fun b => Ending.returned (.int .i64 b)) ?_, (one_box _ _).drew⟩)
     all_goals (unfold mayE mayB; grind))

theorem may_any (s n p g : Int) (h : Bool) (m : Int) (t : Bool) (w : World) :
    Calls Try.prog 29 #[.agg #[.int .i64 s, .int .i64 n, .int .i64 p, .int .i64 g, .bool h, .int .i64 m, .bool t]] w fun e w' => e = .returned (.int .i64 (mayE s n p g h m t)) ∧ Below w.heap.size w w' := by
  by_cases g0 : g = 0
  · subst g0; exact may_0 s n p h m t w
  · by_cases g1 : g = 1
    · subst g1; exact may_1 s n p h m t w
    · exact may_x s n p g h m t w (by simpa using g0) (by simpa using g1)
end Go.Proofs.Ytoloccoodnbbdaa
