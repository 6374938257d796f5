/- List registers: their numbers. -/
import Derived.RangeFuncNested
import Derived.RangeFuncBound
import Derived.RangeFuncCalls
import Derived.RangeFuncLeaves
import Derived.Shelf.Abstract
import Derived.Shelf.RegionOpen
import Derived.WalkKit
import Derived.OwnWalkIn
import Derived.TacticsInMore
import Derived.LoopNIn
import Derived.LoopIn
import Derived.WalkSpells
import Derived.WalkLawsBesides
import Derived.Deep.QuietTactic
import Derived.BigQuiet
import Derived.Lib.Hide
import Derived.Test.YtoloccoodnbbdaaLrE
import Derived.Test.YtoloccoodnbbdaaLrD
import Derived.Test.YtoloccoodnbbdaaLdO
namespace Go.Proofs.Ytoloccoodnbbdaa
open Go.RowKit Go.Shelf
attribute [local go_sem] Oper.semAt_some

set_option maxRecDepth 100000 in
set_option maxHeartbeats 4000000 in
theorem encR_yes (s n p g m : Nat) (h t : Bool) (w : World) (hm : mayB s n p g h m t = true) (hs : s < 4) (hn : n < 16384) (hp : p < 256) (hg : g < 2) (hmm : m < 1024) (htm : t = true → m = 0) :
    Calls Try.prog 25 #[.agg #[.int .i64 (s : Int), .int .i64 (n : Int), .int .i64 (p : Int), .int .i64 (g : Int), .bool h, .int .i64 (m : Int), .bool t]] w fun e w' => e = .returned (.tuple #[.int .u64 (encN s n p g h m t : Int), .bool true]) ∧ Below w.heap.size w w' := by
  have cM := mayR_any s n p g h m t
  rw [hm] at cM
  obtain ⟨F, hF⟩ : ∃ F : Nat, (if t then 2199023255552 else 0) = F := ⟨_, rfl⟩
  obtain ⟨G, hG⟩ : ∃ G : Nat, (if h then 2305843009213693952 else 0) = G := ⟨_, rfl⟩
  have cF : ∀ w, Calls Try.prog 45 #[.bool t, .int .u64 2199023255552] w fun e w' => e = .returned (.int .u64 ((F : Nat) : Int)) ∧ w = w' := by subst hF; intro w; have := one_any t 2199023255552 w; cases t <;> exact this
  have cG : ∀ w, Calls Try.prog 45 #[.bool h, .int .u64 2305843009213693952] w fun e w' => e = .returned (.int .u64 ((G : Nat) : Int)) ∧ w = w' := by subst hG; intro w; have := one_any h 2305843009213693952 w; cases h <;> exact this
  have hE : encN s n p g h m t = n + m * 2 ^ 32 + F + p * 2 ^ 48 + g * 2 ^ 60 + G + s * 2 ^ 62 := by unfold encN; rw [hF, hG]
  rw [hE]
  obtain ⟨kF, hk1, hk2, hk3, hF2⟩ : ∃ kF, n + m * 2 ^ 32 < 2 ^ kF ∧ F % 2 ^ kF = 0 ∧ kF ≤ 64 ∧ F < 2 ^ 42 := by
    cases t with
    | true => have := htm rfl; subst this; simp at hF; subst hF; exact ⟨41, by omega, by omega, by omega, by omega⟩
    | false => simp at hF; subst hF; exact ⟨42, by omega, by omega, by omega, by omega⟩
  have hG2 : G % 2 ^ 61 = 0 ∧ G ≤ 2 ^ 61 := by
    cases h with
    | true => simp at hG; omega
    | false => simp at hG; omega
  clear hE hF hG hm htm
  have b0 := Blk.new w 65 #[.int .i64 (s : Int), .int .i64 (n : Int), .int .i64 (p : Int), .int .i64 (g : Int), .bool h, .int .i64 (m : Int), .bool t]
  go_enter Try.func25, Try.ntmps25
  go_wp2_with (go_at_call 44; refine (cM _).mono ?_; rintro e w1 ⟨rfl, hb1⟩; have b1 := b0.below hb1 b0.lt)
  have hB1 := bLater (one_box w _) hb1
  obtain ⟨S, hSd⟩ : ∃ S : World → Prop, ∀ w', S w' ↔ (Blk w' w.heap.size 65 #[.int .i64 (s : Int), .int .i64 (n : Int), .int .i64 (p : Int), .int .i64 (g : Int), .bool h, .int .i64 (m : Int), .bool t] ∧ Below w.heap.size w w') := ⟨fun w' => Blk w' w.heap.size 65 #[.int .i64 (s : Int), .int .i64 (n : Int), .int .i64 (p : Int), .int .i64 (g : Int), .bool h, .int .i64 (m : Int), .bool t] ∧ Below w.heap.size w w', fun _ => Iff.rfl⟩
  have s0 : ∀ w', S w' → w'.cell? ⟨w.heap.size, 0, none⟩ = some (.int .i64 (s : Int)) := fun w' h' => (((hSd w').1 h').1.cell 0).trans rfl
  have s1 : ∀ w', S w' → w'.cell? ⟨w.heap.size, 1, none⟩ = some (.int .i64 (n : Int)) := fun w' h' => (((hSd w').1 h').1.cell 1).trans rfl
  have s2 : ∀ w', S w' → w'.cell? ⟨w.heap.size, 2, none⟩ = some (.int .i64 (p : Int)) := fun w' h' => (((hSd w').1 h').1.cell 2).trans rfl
  have s3 : ∀ w', S w' → w'.cell? ⟨w.heap.size, 3, none⟩ = some (.int .i64 (g : Int)) := fun w' h' => (((hSd w').1 h').1.cell 3).trans rfl
  have s4 : ∀ w', S w' → w'.cell? ⟨w.heap.size, 4, none⟩ = some (.bool h) := fun w' h' => (((hSd w').1 h').1.cell 4).trans rfl
  have s5 : ∀ w', S w' → w'.cell? ⟨w.heap.size, 5, none⟩ = some (.int .i64 (m : Int)) := fun w' h' => (((hSd w').1 h').1.cell 5).trans rfl
  have s6 : ∀ w', S w' → w'.cell? ⟨w.heap.size, 6, none⟩ = some (.bool t) := fun w' h' => (((hSd w').1 h').1.cell 6).trans rfl
  have hS0 : S w1.drew := (hSd _).2 ⟨b1, hB1.drew⟩
  refine wp_region_held_drew (S := S) (by kernel_rfl) hS0 (fun hS => ?_)
  refine stepH (i := 0) (d := 8) (v := (.pointer (some ⟨w.heap.size, 1, none⟩))) rfl rfl (by kernel_rfl) (by kernel_rfl) (by kernel_rfl) (fun _ _ _ h => h) (Or.inl ⟨by kernel_rfl, fun w' hw' => by kernel_rfl⟩) hS ?_
  simp only [List.set_cons_zero, List.set_cons_succ]
  refine stepH (i := 1) (d := 9) (v := (.int .i64 (n : Int))) rfl rfl (by kernel_rfl) (by kernel_rfl) (by kernel_rfl) (fun _ _ _ h => h) (Or.inl ⟨by kernel_rfl, fun w' hw' => exec_load 3 _ rfl ⟨w.heap.size, 1, none⟩ rfl (by simp [go_sem, s1 w' hw'])⟩) hS ?_
  simp only [List.set_cons_zero, List.set_cons_succ]
  refine stepH (i := 2) (d := 10) (v := (.int .u64 ((n : Nat) : Int))) rfl rfl (by kernel_rfl) (by kernel_rfl) (by kernel_rfl) (fun _ _ _ h => h) (Or.inl ⟨by kernel_rfl, fun w' hw' => exec_conv 3 66 _ rfl (.int .i64 (n : Int)) rfl (conv_3 n (by omega) w')⟩) hS ?_
  simp only [List.set_cons_zero, List.set_cons_succ]
  refine stepH (i := 3) (d := 11) (v := (.pointer (some ⟨w.heap.size, 5, none⟩))) rfl rfl (by kernel_rfl) (by kernel_rfl) (by kernel_rfl) (fun _ _ _ h => h) (Or.inl ⟨by kernel_rfl, fun w' hw' => by kernel_rfl⟩) hS ?_
  simp only [List.set_cons_zero, List.set_cons_succ]
  refine stepH (i := 4) (d := 12) (v := (.int .i64 (m : Int))) rfl rfl (by kernel_rfl) (by kernel_rfl) (by kernel_rfl) (fun _ _ _ h => h) (Or.inl ⟨by kernel_rfl, fun w' hw' => exec_load 3 _ rfl ⟨w.heap.size, 5, none⟩ rfl (by simp [go_sem, s5 w' hw'])⟩) hS ?_
  simp only [List.set_cons_zero, List.set_cons_succ]
  refine stepH (i := 5) (d := 13) (v := (.int .u64 ((m : Nat) : Int))) rfl rfl (by kernel_rfl) (by kernel_rfl) (by kernel_rfl) (fun _ _ _ h => h) (Or.inl ⟨by kernel_rfl, fun w' hw' => exec_conv 3 66 _ rfl (.int .i64 (m : Int)) rfl (conv_3 m (by omega) w')⟩) hS ?_
  simp only [List.set_cons_zero, List.set_cons_succ]
  refine stepH (i := 6) (d := 14) (v := (.int .u64 ((m * 2 ^ 32 : Nat) : Int))) rfl rfl (by kernel_rfl) (by kernel_rfl) (by kernel_rfl) (fun _ _ _ h => h) (Or.inl ⟨by kernel_rfl, fun w' hw' => exec_bin .shl 66 86 _ _ rfl (.int .u64 ((m : Nat) : Int)) (.int .u64 32) rfl rfl (by simp [go_sem]) (shl_u64 m 32 (by omega) (by omega) w')⟩) hS ?_
  simp only [List.set_cons_zero, List.set_cons_succ]
  refine stepH (i := 7) (d := 15) (v := (.int .u64 ((n + m * 2 ^ 32 : Nat) : Int))) rfl rfl (by kernel_rfl) (by kernel_rfl) (by kernel_rfl) (fun _ _ _ h => h) (Or.inl ⟨by kernel_rfl, fun w' hw' => exec_bin .add 66 66 _ _ rfl (.int .u64 ((n : Nat) : Int)) (.int .u64 ((m * 2 ^ 32 : Nat) : Int)) rfl rfl (by simp [go_sem]) (add_u64 _ _ (by omega) w')⟩) hS ?_
  simp only [List.set_cons_zero, List.set_cons_succ]
  refine stepH (i := 8) (d := 16) (v := (.pointer (some ⟨w.heap.size, 6, none⟩))) rfl rfl (by kernel_rfl) (by kernel_rfl) (by kernel_rfl) (fun _ _ _ h => h) (Or.inl ⟨by kernel_rfl, fun w' hw' => by kernel_rfl⟩) hS ?_
  simp only [List.set_cons_zero, List.set_cons_succ]
  refine stepH (i := 9) (d := 17) (v := (.bool t)) rfl rfl (by kernel_rfl) (by kernel_rfl) (by kernel_rfl) (fun _ _ _ h => h) (Or.inl ⟨by kernel_rfl, fun w' hw' => exec_load 4 _ rfl ⟨w.heap.size, 6, none⟩ rfl (by simp [go_sem, s6 w' hw'])⟩) hS ?_
  simp only [List.set_cons_zero, List.set_cons_succ]
  refine stepH (i := 12) (d := 20) (v := (.pointer (some ⟨w.heap.size, 2, none⟩))) rfl rfl (by kernel_rfl) (by kernel_rfl) (by kernel_rfl) (fun _ _ _ h => h) (Or.inl ⟨by kernel_rfl, fun w' hw' => by kernel_rfl⟩) hS ?_
  simp only [List.set_cons_zero, List.set_cons_succ]
  refine stepH (i := 13) (d := 21) (v := (.int .i64 (p : Int))) rfl rfl (by kernel_rfl) (by kernel_rfl) (by kernel_rfl) (fun _ _ _ h => h) (Or.inl ⟨by kernel_rfl, fun w' hw' => exec_load 3 _ rfl ⟨w.heap.size, 2, none⟩ rfl (by simp [go_sem, s2 w' hw'])⟩) hS ?_
  simp only [List.set_cons_zero, List.set_cons_succ]
  refine stepH (i := 14) (d := 22) (v := (.int .u64 ((p : Nat) : Int))) rfl rfl (by kernel_rfl) (by kernel_rfl) (by kernel_rfl) (fun _ _ _ h => h) (Or.inl ⟨by kernel_rfl, fun w' hw' => exec_conv 3 66 _ rfl (.int .i64 (p : Int)) rfl (conv_3 p (by omega) w')⟩) hS ?_
  simp only [List.set_cons_zero, List.set_cons_succ]
  refine stepH (i := 15) (d := 23) (v := (.int .u64 ((p * 2 ^ 48 : Nat) : Int))) rfl rfl (by kernel_rfl) (by kernel_rfl) (by kernel_rfl) (fun _ _ _ h => h) (Or.inl ⟨by kernel_rfl, fun w' hw' => exec_bin .shl 66 86 _ _ rfl (.int .u64 ((p : Nat) : Int)) (.int .u64 48) rfl rfl (by simp [go_sem]) (shl_u64 p 48 (by omega) (by omega) w')⟩) hS ?_
  simp only [List.set_cons_zero, List.set_cons_succ]
  refine stepH (i := 17) (d := 25) (v := (.pointer (some ⟨w.heap.size, 3, none⟩))) rfl rfl (by kernel_rfl) (by kernel_rfl) (by kernel_rfl) (fun _ _ _ h => h) (Or.inl ⟨by kernel_rfl, fun w' hw' => by kernel_rfl⟩) hS ?_
  simp only [List.set_cons_zero, List.set_cons_succ]
  refine stepH (i := 18) (d := 26) (v := (.int .i64 (g : Int))) rfl rfl (by kernel_rfl) (by kernel_rfl) (by kernel_rfl) (fun _ _ _ h => h) (Or.inl ⟨by kernel_rfl, fun w' hw' => exec_load 3 _ rfl ⟨w.heap.size, 3, none⟩ rfl (by simp [go_sem, s3 w' hw'])⟩) hS ?_
  simp only [List.set_cons_zero, List.set_cons_succ]
  refine stepH (i := 19) (d := 27) (v := (.int .u64 ((g : Nat) : Int))) rfl rfl (by kernel_rfl) (by kernel_rfl) (by kernel_rfl) (fun _ _ _ h => h) (Or.inl ⟨by kernel_rfl, fun w' hw' => exec_conv 3 66 _ rfl (.int .i64 (g : Int)) rfl (conv_3 g (by omega) w')⟩) hS ?_
  simp only [List.set_cons_zero, List.set_cons_succ]
  refine stepH (i := 20) (d := 28) (v := (.int .u64 ((g * 2 ^ 60 : Nat) : Int))) rfl rfl (by kernel_rfl) (by kernel_rfl) (by kernel_rfl) (fun _ _ _ h => h) (Or.inl ⟨by kernel_rfl, fun w' hw' => exec_bin .shl 66 86 _ _ rfl (.int .u64 ((g : Nat) : Int)) (.int .u64 60) rfl rfl (by simp [go_sem]) (shl_u64 g 60 (by omega) (by omega) w')⟩) hS ?_
  simp only [List.set_cons_zero, List.set_cons_succ]
  refine stepH (i := 22) (d := 30) (v := (.pointer (some ⟨w.heap.size, 4, none⟩))) rfl rfl (by kernel_rfl) (by kernel_rfl) (by kernel_rfl) (fun _ _ _ h => h) (Or.inl ⟨by kernel_rfl, fun w' hw' => by kernel_rfl⟩) hS ?_
  simp only [List.set_cons_zero, List.set_cons_succ]
  refine stepH (i := 23) (d := 31) (v := (.bool h)) rfl rfl (by kernel_rfl) (by kernel_rfl) (by kernel_rfl) (fun _ _ _ h => h) (Or.inl ⟨by kernel_rfl, fun w' hw' => exec_load 4 _ rfl ⟨w.heap.size, 4, none⟩ rfl (by simp [go_sem, s4 w' hw'])⟩) hS ?_
  simp only [List.set_cons_zero, List.set_cons_succ]
  refine stepH (i := 26) (d := 34) (v := (.pointer (some ⟨w.heap.size, 0, none⟩))) rfl rfl (by kernel_rfl) (by kernel_rfl) (by kernel_rfl) (fun _ _ _ h => h) (Or.inl ⟨by kernel_rfl, fun w' hw' => by kernel_rfl⟩) hS ?_
  simp only [List.set_cons_zero, List.set_cons_succ]
  refine stepH (i := 27) (d := 35) (v := (.int .i64 (s : Int))) rfl rfl (by kernel_rfl) (by kernel_rfl) (by kernel_rfl) (fun _ _ _ h => h) (Or.inl ⟨by kernel_rfl, fun w' hw' => exec_load 63 _ rfl ⟨w.heap.size, 0, none⟩ rfl (by simp [go_sem, s0 w' hw'])⟩) hS ?_
  simp only [List.set_cons_zero, List.set_cons_succ]
  refine stepH (i := 28) (d := 36) (v := (.int .u64 ((s : Nat) : Int))) rfl rfl (by kernel_rfl) (by kernel_rfl) (by kernel_rfl) (fun _ _ _ h => h) (Or.inl ⟨by kernel_rfl, fun w' hw' => exec_conv 63 66 _ rfl (.int .i64 (s : Int)) rfl (conv_63 s (by omega) w')⟩) hS ?_
  simp only [List.set_cons_zero, List.set_cons_succ]
  refine stepH (i := 29) (d := 37) (v := (.int .u64 ((s * 2 ^ 62 : Nat) : Int))) rfl rfl (by kernel_rfl) (by kernel_rfl) (by kernel_rfl) (fun _ _ _ h => h) (Or.inl ⟨by kernel_rfl, fun w' hw' => exec_bin .shl 66 86 _ _ rfl (.int .u64 ((s : Nat) : Int)) (.int .u64 62) rfl rfl (by simp [go_sem]) (shl_u64 s 62 (by omega) (by omega) w')⟩) hS ?_
  simp only [List.set_cons_zero, List.set_cons_succ]
  refine stepCall (i := 10) (d := 18) (f := 45) (args := #[.bool t, .int .u64 2199023255552]) rfl rfl (by kernel_rfl) (by kernel_rfl) (exec_call 45 [.tmp 17, .const (.int .u64 2199023255552)] _ rfl rfl (enters_of Try.func45 (by kernel_rfl) rfl) _) (cF _) ?_
  rintro e w5 ⟨rfl, rfl⟩
  have hS2 := hS
  refine ⟨_, rfl, hS2, ?_⟩
  simp only [List.set_cons_zero, List.set_cons_succ]
  refine stepH (i := 11) (d := 19) (v := (.int .u64 ((n + m * 2 ^ 32 + F : Nat) : Int))) rfl rfl (by kernel_rfl) (by kernel_rfl) (by kernel_rfl) (fun _ _ _ h => h) (Or.inl ⟨by kernel_rfl, fun w' hw' => exec_bin .add 66 66 _ _ rfl (.int .u64 ((n + m * 2 ^ 32 : Nat) : Int)) (.int .u64 ((F : Nat) : Int)) rfl rfl (by simp [go_sem]) (add_u64 _ _ (by omega) w')⟩) hS2 ?_
  simp only [List.set_cons_zero, List.set_cons_succ]
  refine stepH (i := 16) (d := 24) (v := (.int .u64 ((n + m * 2 ^ 32 + F + p * 2 ^ 48 : Nat) : Int))) rfl rfl (by kernel_rfl) (by kernel_rfl) (by kernel_rfl) (fun _ _ _ h => h) (Or.inl ⟨by kernel_rfl, fun w' hw' => exec_bin .add 66 66 _ _ rfl (.int .u64 ((n + m * 2 ^ 32 + F : Nat) : Int)) (.int .u64 ((p * 2 ^ 48 : Nat) : Int)) rfl rfl (by simp [go_sem]) (add_u64 _ _ (by omega) w')⟩) hS2 ?_
  simp only [List.set_cons_zero, List.set_cons_succ]
  refine stepH (i := 21) (d := 29) (v := (.int .u64 ((n + m * 2 ^ 32 + F + p * 2 ^ 48 + g * 2 ^ 60 : Nat) : Int))) rfl rfl (by kernel_rfl) (by kernel_rfl) (by kernel_rfl) (fun _ _ _ h => h) (Or.inl ⟨by kernel_rfl, fun w' hw' => exec_bin .add 66 66 _ _ rfl (.int .u64 ((n + m * 2 ^ 32 + F + p * 2 ^ 48 : Nat) : Int)) (.int .u64 ((g * 2 ^ 60 : Nat) : Int)) rfl rfl (by simp [go_sem]) (add_u64 _ _ (by omega) w')⟩) hS2 ?_
  simp only [List.set_cons_zero, List.set_cons_succ]
  refine stepCall (i := 24) (d := 32) (f := 45) (args := #[.bool h, .int .u64 2305843009213693952]) rfl rfl (by kernel_rfl) (by kernel_rfl) (exec_call 45 [.tmp 31, .const (.int .u64 2305843009213693952)] _ rfl rfl (enters_of Try.func45 (by kernel_rfl) rfl) _) (cG _) ?_
  rintro e w6 ⟨rfl, rfl⟩
  have hS3 := hS2
  refine ⟨_, rfl, hS3, ?_⟩
  simp only [List.set_cons_zero, List.set_cons_succ]
  refine stepH (i := 25) (d := 33) (v := (.int .u64 ((n + m * 2 ^ 32 + F + p * 2 ^ 48 + g * 2 ^ 60 + G : Nat) : Int))) rfl rfl (by kernel_rfl) (by kernel_rfl) (by kernel_rfl) (fun _ _ _ h => h) (Or.inl ⟨by kernel_rfl, fun w' hw' => exec_bin .add 66 66 _ _ rfl (.int .u64 ((n + m * 2 ^ 32 + F + p * 2 ^ 48 + g * 2 ^ 60 : Nat) : Int)) (.int .u64 ((G : Nat) : Int)) rfl rfl (by simp [go_sem]) (add_u64 _ _ (by omega) w')⟩) hS3 ?_
  simp only [List.set_cons_zero, List.set_cons_succ]
  refine stepH (i := 30) (d := 38) (v := (.int .u64 ((n + m * 2 ^ 32 + F + p * 2 ^ 48 + g * 2 ^ 60 + G + s * 2 ^ 62 : Nat) : Int))) rfl rfl (by kernel_rfl) (by kernel_rfl) (by kernel_rfl) (fun _ _ _ h => h) (Or.inl ⟨by kernel_rfl, fun w' hw' => exec_bin .add 66 66 _ _ rfl (.int .u64 ((n + m * 2 ^ 32 + F + p * 2 ^ 48 + g * 2 ^ 60 + G : Nat) : Int)) (.int .u64 ((s * 2 ^ 62 : Nat) : Int)) rfl rfl (by simp [go_sem]) (add_u64 _ _ (by omega) w')⟩) hS3 ?_
  simp only [List.set_cons_zero, List.set_cons_succ]
  refine stepH (i := 31) (d := 4) (v := (.int .u64 ((n + m * 2 ^ 32 + F + p * 2 ^ 48 + g * 2 ^ 60 + G + s * 2 ^ 62 : Nat) : Int))) rfl rfl (by kernel_rfl) (by kernel_rfl) (by kernel_rfl) (fun _ _ _ h => h) (Or.inl ⟨by kernel_rfl, fun w' hw' => by kernel_rfl⟩) hS3 ?_
  simp only [List.set_cons_zero, List.set_cons_succ]
  refine wpAnyH_done (by kernel_rfl) ?_ _
  go_wp2
  exact bodyPost_ret (v := .tuple #[.int .u64 ((n + m * 2 ^ 32 + F + p * 2 ^ 48 + g * 2 ^ 60 + G + s * 2 ^ 62 : Nat) : Int), .bool true]) (by simp [results, Try.results25, Try.f25, go_sem]) rfl ⟨rfl, ((hSd _).1 hS3).2⟩
set_option maxRecDepth 100000 in
set_option maxHeartbeats 4000000 in
theorem encR_no (s n p g m : Int) (h t : Bool) (w : World) (hm : mayB s n p g h m t = false) :
    Calls Try.prog 25 #[.agg #[.int .i64 s, .int .i64 n, .int .i64 p, .int .i64 g, .bool h, .int .i64 m, .bool t]] w fun e w' => e = .returned (.tuple #[.int .u64 0, .bool false]) ∧ Below w.heap.size w w' := by
  have cM := mayR_any s n p g h m t
  rw [hm] at cM
  clear hm
  go_enter Try.func25, Try.ntmps25
  go_wp2_with (go_at_call 44; refine (cM _).mono ?_; rintro e w1 ⟨rfl, hb1⟩)
  exact bodyPost_ret (v := .tuple #[.int .u64 0, .bool false]) (by simp [results, Try.results25, Try.f25, go_sem]) rfl ⟨rfl, bLater (one_box w _) hb1⟩
end Go.Proofs.Ytoloccoodnbbdaa
