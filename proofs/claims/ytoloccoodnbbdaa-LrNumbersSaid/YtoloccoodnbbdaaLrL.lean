/- List registers: a number's list register, told by both. -/
import Derived.RangeFuncNested
import Derived.RangeFuncBound
import Derived.RangeFuncCalls
import Derived.RangeFuncLeaves
import Derived.Shelf.Abstract
import Derived.Shelf.RegionOpen
import Derived.WalkKit
import Derived.OwnWalkIn
import Derived.TacticsInMore
import Derived.LoopNIn
import Derived.LoopIn
import Derived.WalkSpells
import Derived.WalkLawsBesides
import Derived.Deep.QuietTactic
import Derived.BigQuiet
import Derived.Lib.Hide
import Derived.Test.YtoloccoodnbbdaaLrI
import Derived.Test.YtoloccoodnbbdaaLrK
import Derived.Test.YtoloccoodnbbdaaLrG
namespace Go.Proofs.Ytoloccoodnbbdaa
open Go.RowKit Go.Shelf
attribute [local go_sem] Oper.semAt_some

theorem mayB_bounds {s n p g m : Int} {h t : Bool} (hm : mayB s n p g h m t = true) : 0 ≤ s ∧ s < 4 ∧ 0 ≤ n ∧ n < 16384 ∧ 0 ≤ p ∧ p < 256 ∧ 0 ≤ g ∧ g < 2 ∧ 0 ≤ m ∧ m < 1024 ∧ (t = true → m = 0) := by
  unfold mayB at hm
  simp only [Bool.and_eq_true, Bool.or_eq_true, decide_eq_true_eq] at hm
  obtain ⟨⟨⟨⟨⟨⟨⟨⟨⟨⟨h1, h2⟩, h3⟩, h4⟩, h5⟩, h6⟩, h7⟩, h8⟩, h9⟩, h10⟩, h11⟩ := hm
  have h12 : t = true → m = 0 := by
    intro ht
    subst ht
    rcases h10 with h10 | h10
    · subst h10; simp at h4
    · exact h10
  exact ⟨h1, by omega, by omega, by omega, h5, by omega, by omega, by omega, h8, by omega, h12⟩
theorem enc_any (s n p g m : Int) (h t : Bool) : ∃ (U : Nat) (k : Bool), mayE s n p g h m t = (if k then 0 else 200) ∧ (k = false → U = 0) ∧
    (∀ w, Calls Try.prog 24 #[.agg #[.int .i64 s, .int .i64 n, .int .i64 p, .int .i64 g, .bool h, .int .i64 m, .bool t]] w fun e w' => e = .returned (.tuple #[.int .u64 (U : Int), .int .i64 (if k then 0 else 200)]) ∧ Below w.heap.size w w') ∧
    (∀ w, Calls Try.prog 25 #[.agg #[.int .i64 s, .int .i64 n, .int .i64 p, .int .i64 g, .bool h, .int .i64 m, .bool t]] w fun e w' => e = .returned (.tuple #[.int .u64 (U : Int), .bool k]) ∧ Below w.heap.size w w') := by
  cases hm : mayB s n p g h m t with
  | true =>
    obtain ⟨a1, a2, a3, a4, a5, a6, a7, a8, a9, a10, a11⟩ := mayB_bounds hm
    obtain ⟨s, rfl⟩ := Int.eq_ofNat_of_zero_le a1
    obtain ⟨n, rfl⟩ := Int.eq_ofNat_of_zero_le a3
    obtain ⟨p, rfl⟩ := Int.eq_ofNat_of_zero_le a5
    obtain ⟨g, rfl⟩ := Int.eq_ofNat_of_zero_le a7
    obtain ⟨m, rfl⟩ := Int.eq_ofNat_of_zero_le a9
    have hE : mayE s n p g h m t = 0 := by unfold mayE; rw [hm]; rfl
    exact ⟨encN s n p g h m t, true, hE, (fun h => by cases h),
      fun w => enc_yes s n p g m h t w hE (by omega) (by omega) (by omega) (by omega) (by omega) (fun ht => by have := a11 ht; omega),
      fun w => encR_yes s n p g m h t w hm (by omega) (by omega) (by omega) (by omega) (by omega) (fun ht => by have := a11 ht; omega)⟩
  | false =>
    have hE : mayE s n p g h m t = 200 := by unfold mayE; rw [hm]; rfl
    exact ⟨0, false, hE, fun _ => rfl, fun w => enc_no s n p g m h t w hE, fun w => encR_no s n p g m h t w hm⟩

theorem emodZ (v K j N : Nat) (z k : Int) (hz : z = (K : Int)) (hk : k = (j : Int)) (hN : v / K % j = N) : (v : Int) / z % k = (N : Int) := by
  subst hz hk hN
  rw [Int.natCast_emod, Int.natCast_ediv]
theorem tmodZ (v K j N : Nat) (z k : Int) (hz : z = (K : Int)) (hk : k = (j : Int)) (hN : v / K % j = N) : Int.tmod ((v : Int) / z) k = (N : Int) := by
  rw [Int.tmod_eq_emod_of_nonneg (by subst hz; exact Int.ediv_nonneg (Int.natCast_nonneg _) (Int.natCast_nonneg _))]
  exact emodZ v K j N z k hz hk hN
theorem and_shiftZ (v K j N : Nat) (hv : v < 2 ^ 64) (hj : j ≤ 63) (z k : Int) (hz : z = (K : Int)) (hk : k = ((2 ^ j - 1 : Nat) : Int)) (hN : v / K % 2 ^ j = N) : bits .and .u64 ((v : Int) / z) k = (N : Int) := by
  subst hz hN
  exact and_shift v K j hv hj k hk
set_option maxHeartbeats 2000000 in
/-- The list register of a number, told twice: alike. -/
theorem dec_any (v : Nat) (hv : v < 2 ^ 64) : ∃ (s n p g m : Int) (h t fine : Bool),
    (∀ w, Calls Try.prog 26 #[.int .u64 (v : Int)] w fun e w' => e = .returned (.tuple #[.agg #[.int .i64 s, .int .i64 n, .int .i64 p, .int .i64 g, .bool h, .int .i64 m, .bool t], .int .i64 (if fine then 0 else 200)]) ∧ Below w.heap.size w w') ∧
    (∀ w, Calls Try.prog 27 #[.int .u64 (v : Int)] w fun e w' => e = .returned (.tuple #[.agg #[.int .i64 s, .int .i64 n, .int .i64 p, .int .i64 g, .bool h, .int .i64 m, .bool t], .bool fine]) ∧ Below w.heap.size w w') := by
  obtain ⟨S, hS⟩ : ∃ S, v / 4611686018427387904 = S := ⟨_, rfl⟩
  obtain ⟨N, hN⟩ : ∃ N, v % 4294967296 = N := ⟨_, rfl⟩
  obtain ⟨P, hP⟩ : ∃ P, v / 281474976710656 % 256 = P := ⟨_, rfl⟩
  obtain ⟨G, hG⟩ : ∃ G, v / 1152921504606846976 % 2 = G := ⟨_, rfl⟩
  obtain ⟨M, hM⟩ : ∃ M, v / 4294967296 % 1024 = M := ⟨_, rfl⟩
  obtain ⟨T, hT⟩ : ∃ T, v / 2199023255552 % 2 = T := ⟨_, rfl⟩
  obtain ⟨Hn, hH⟩ : ∃ Hn, v / 2305843009213693952 % 2 = Hn := ⟨_, rfl⟩
  have eN : bits .and .u64 (v : Int) 4294967295 = (N : Int) := by rw [and_mask v 32 hv (by omega) 4294967295 rfl, ← hN]
  have eS : wrap64 ((v : Int) / 4611686018427387904) = (S : Int) := by unfold wrap64; omega
  have eP : bits .and .u64 ((v : Int) / 281474976710656) 255 = (P : Int) := and_shiftZ v 281474976710656 8 _ hv (by omega) _ _ (by simp) (by simp) hP
  have eG : bits .and .u64 ((v : Int) / 1152921504606846976) 1 = (G : Int) := and_shiftZ v 1152921504606846976 1 _ hv (by omega) _ _ (by simp) (by simp) hG
  have eM : bits .and .u64 ((v : Int) / 4294967296) 1023 = (M : Int) := and_shiftZ v 4294967296 10 _ hv (by omega) _ _ (by simp) (by simp) hM
  have eT : bits .and .u64 ((v : Int) / 2199023255552) 1 = (T : Int) := and_shiftZ v 2199023255552 1 _ hv (by omega) _ _ (by simp) (by simp) hT
  have eH : bits .and .u64 ((v : Int) / 2305843009213693952) 1 = (Hn : Int) := and_shiftZ v 2305843009213693952 1 _ hv (by omega) _ _ (by simp) (by simp) hH
  have rN : Int.tmod (v : Int) 4294967296 = (N : Int) := by rw [Int.tmod_eq_emod_of_nonneg (by omega)]; omega
  have rP : Int.tmod ((v : Int) / 281474976710656) 256 = (P : Int) := tmodZ v 281474976710656 256 _ _ _ (by simp) (by simp) hP
  have rG : Int.tmod ((v : Int) / 1152921504606846976) 2 = (G : Int) := tmodZ v 1152921504606846976 2 _ _ _ (by simp) (by simp) hG
  have rM : Int.tmod ((v : Int) / 4294967296) 1024 = (M : Int) := tmodZ v 4294967296 1024 _ _ _ (by simp) (by simp) hM
  have rT : (v : Int) / 2199023255552 % 2 = (T : Int) := emodZ v 2199023255552 2 _ _ _ (by simp) (by simp) hT
  have rH : (v : Int) / 2305843009213693952 % 2 = (Hn : Int) := emodZ v 2305843009213693952 2 _ _ _ (by simp) (by simp) hH
  have wN : wrap64 (N : Int) = (N : Int) := w64 N (by omega)
  have wP : wrap64 (P : Int) = (P : Int) := w64 P (by omega)
  have wG : wrap64 (G : Int) = (G : Int) := w64 G (by omega)
  have wM : wrap64 (M : Int) = (M : Int) := w64 M (by omega)
  obtain ⟨b, hb⟩ : ∃ b, ((T : Int) == 1) = b := ⟨_, rfl⟩
  have eT' : (bits .and .u64 ((v : Int) / 2199023255552) 1 == 1) = b := by rw [eT]; exact hb
  have rT' : ((v : Int) / 2199023255552 % 2 == 1) = b := by rw [rT]; exact hb
  clear hS hN hP hG hM hT hH
  cases hh : ((Hn : Int) == 1) with
  | true =>
    have eH' : (bits .and .u64 ((v : Int) / 2305843009213693952) 1 == 1) = true := by rw [eH]; exact hh
    have rH' : ((v : Int) / 2305843009213693952 % 2 == 1) = true := by rw [rH]; exact hh
    obtain ⟨U, k, _, hU0, cE, cR⟩ := enc_any S N P G M true false
    obtain ⟨X, kx, _, _, _, cX⟩ := enc_any S N P G 0 true b
    cases k with
    | false =>
      obtain rfl := hU0 rfl
      exact ⟨0, 0, 0, 0, 0, false, false, false, fun w => dec_h_bad v S N P G M w eN eS eP eG eH' eM wM wN wP wG cE,
        fun w => decR_h_bad v S N P G M b X kx w rN eS rP rG rH' rM wM rT' wN wP wG cR cX⟩
    | true =>
      by_cases he : U = v
      · subst he
        exact ⟨S, N, P, G, M, true, false, true, fun w => dec_h_ok U S N P G M w eN eS eP eG eH' eM wM wN wP wG cE,
          fun w => decR_h_ok U S N P G M b X kx w rN eS rP rG rH' rM wM rT' wN wP wG cR cX⟩
      · exact ⟨0, 0, 0, 0, 0, false, false, false, fun w => dec_h_ne v S N P G M U (Lib.hid he) w eN eS eP eG eH' eM wM wN wP wG cE,
          fun w => decR_h_ne v S N P G M b X kx U (Lib.hid he) w rN eS rP rG rH' rM wM rT' wN wP wG cR cX⟩
  | false =>
    have eH' : (bits .and .u64 ((v : Int) / 2305843009213693952) 1 == 1) = false := by rw [eH]; exact hh
    have rH' : ((v : Int) / 2305843009213693952 % 2 == 1) = false := by rw [rH]; exact hh
    obtain ⟨U, k, _, hU0, cE, cR⟩ := enc_any S N P G 0 false b
    obtain ⟨X, kx, _, _, _, cX⟩ := enc_any S N P G M false false
    cases k with
    | false =>
      obtain rfl := hU0 rfl
      exact ⟨0, 0, 0, 0, 0, false, false, false, fun w => dec_s_bad v S N P G b w eN eS eP eG eH' eT' wN wP wG cE,
        fun w => decR_s_bad v S N P G M b X kx w rN eS rP rG rH' rM wM rT' wN wP wG cX cR⟩
    | true =>
      by_cases he : U = v
      · subst he
        exact ⟨S, N, P, G, 0, false, b, true, fun w => dec_s_ok U S N P G b w eN eS eP eG eH' eT' wN wP wG cE,
          fun w => decR_s_ok U S N P G M b X kx w rN eS rP rG rH' rM wM rT' wN wP wG cX cR⟩
      · exact ⟨0, 0, 0, 0, 0, false, false, false, fun w => dec_s_ne v S N P G b U (Lib.hid he) w eN eS eP eG eH' eT' wN wP wG cE,
          fun w => decR_s_ne v S N P G M b X kx U (Lib.hid he) w rN eS rP rG rH' rM wM rT' wN wP wG cX cR⟩
end Go.Proofs.Ytoloccoodnbbdaa
