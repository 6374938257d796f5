/- Banks: the law's walk. -/
import Derived.RangeFuncNested
import Derived.RangeFuncBound
import Derived.RangeFuncCalls
import Derived.RangeFuncLeaves
import Derived.Shelf.Abstract
import Derived.Shelf.RegionOpen
import Derived.WalkKit
import Derived.OwnWalkIn
import Derived.TacticsInMore
import Derived.LoopNIn
import Derived.LoopIn
import Derived.WalkSpells
import Derived.WalkLawsBesides
import Derived.Deep.QuietTactic
import Derived.BigQuiet
import Derived.Lib.Hide
import Derived.Deep.WholeRow
import Derived.Laws.Rows
import Derived.Laws.Tables
import Derived.Test.YtoloccoodnbbdaaBkM
import Derived.Test.YtoloccoodnbbdaaBkD
import Derived.Test.YtoloccoodnbbdaaBkH
namespace Go.Proofs.Ytoloccoodnbbdaa
open Go.RowKit Go.Shelf
attribute [local go_sem] Oper.semAt_some

theorem rows_of {W : World} {n₀ e sz n : Nat} {v : Value} {xs : List Value} {f : Nat → Array Value} (h : W.ownsRow n₀ e sz v n xs) (hn : 0 < n) (hget : ∀ j, j < n → ∀ i, i < sz → xs[j * sz + i]? = (f j)[i]?) : ∃ g cap, v = .slice (some ⟨g, 0, none⟩) n cap ∧ RowB W g e sz n f := by
  rcases h.2 with ⟨_, h0⟩ | ⟨g, cap, cur, rfl, _, hgb, hcap, _, hcur, htake⟩
  · omega
  · refine ⟨g, cap, rfl, cur, hgb, by rw [hcur]; exact Nat.mul_le_mul_right sz hcap, fun j hj i hi => ?_⟩
    have hlt2 : j * sz + i < n * sz := by have := Nat.mul_le_mul_right sz (show j + 1 ≤ n by omega); rw [Nat.add_mul] at this; omega
    have e1 : (cur.toList.take (n * sz))[j * sz + i]? = cur[j * sz + i]? := by rw [List.getElem?_take, if_pos hlt2]; simp
    rw [← e1, htake, hget j hj i hi]
/-- The reference's bank, in memory. -/
def RB (W : World) (R first n : Nat) (x : ByteArray) : Prop := ∃ aL cL aE cE, Blk W R 105 #[.int .i64 (first : Int), .slice aL n cL, .slice aE n cE] ∧
  (0 < n → ∃ gL gE, aL = some ⟨gL, 0, none⟩ ∧ aE = some ⟨gE, 0, none⟩ ∧ RowB W gL 54 7 n (fun _ => #[.bool false, .bool false, .bool false, .bool false, .bool false, .int .i64 0, .int .i64 0]) ∧ RowB W gE 9 1 n (fun _ => #[.string x]))
theorem RB.below {W W' : World} {R first n : Nat} {x : ByteArray} (h : RB W R first n x) (hb : Below W.heap.size W W') : RB W' R first n x := by
  obtain ⟨aL, cL, aE, cE, h1, h2⟩ := h
  refine ⟨aL, cL, aE, cE, h1.below hb h1.lt, fun hn => ?_⟩
  obtain ⟨gL, gE, e1, e2, r1, r2⟩ := h2 hn
  exact ⟨gL, gE, e1, e2, r1.below hb r1.lt, r2.below hb r2.lt⟩
theorem rb_new {first n : Nat} {x : ByteArray} {w w' : World} {vL vE : Value} (h1 : Blk w' w.heap.size 105 #[.int .i64 (first : Int), vL, vE]) (h2 : w'.ownsRow w.heap.size 54 7 vL n (lineRow n)) (h3 : w'.ownsRow w.heap.size 9 1 vE n (List.replicate n (.string x))) : RB w' w.heap.size first n x := by
  by_cases hn : 0 < n
  · obtain ⟨gL, cL, rfl, rL⟩ := rows_of (f := fun _ => #[.bool false, .bool false, .bool false, .bool false, .bool false, .int .i64 0, .int .i64 0]) h2 hn (fun j hj i hi => by
      rw [lineRow_get n j i hj hi]
      simp [zl])
    obtain ⟨gE, cE, rfl, rE⟩ := rows_of (f := fun _ => #[.string x]) h3 hn (fun j hj i hi => by
      obtain rfl : i = 0 := by omega
      rw [List.getElem?_replicate, if_pos (by omega)]
      rfl)
    exact ⟨_, cL, _, cE, h1, fun _ => ⟨gL, gE, rfl, rfl, rL, rE⟩⟩
  · obtain ⟨aL, cL, rfl⟩ := ownsRow_form h2
    obtain ⟨aE, cE, rfl⟩ := ownsRow_form h3
    exact ⟨aL, cL, aE, cE, h1, fun h => absurd h hn⟩
theorem alike_b (B D first n R : Nat) (x : ByteArray) (w : World) (hff : first ≤ 16384) (hn : n ≤ 3000) (hb : BP w B D first n (fun _ => ez x)) (hr : RB w R first n x) :
    Calls Try.prog 21 #[.pointer (some ⟨B, 0, none⟩), .pointer (some ⟨R, 0, none⟩)] w fun e w' => e = .returned (.bool true) ∧ Below w.heap.size w w' := by
  obtain ⟨aL, cL, aE, cE, h1, h2⟩ := hr
  exact alike_any B D first n R aL aE cL cE x w hff hn hb h1 h2
theorem at_b (R first n : Nat) (x : ByteArray) (id : Int) (w : World) (hff : first ≤ 16384) (hn : n ≤ 3000) (hr : RB w R first n x) :
    Calls Try.prog 23 #[.pointer (some ⟨R, 0, none⟩), .int .i64 id] w fun e w' => e = .returned (.int .i64 (atV first n id)) ∧ w = w' := by
  obtain ⟨aL, cL, aE, cE, h1, h2⟩ := hr
  exact at_any R first n cL aL _ id w h1 hff (by omega)
theorem has_b (B D first n : Nat) (x : ByteArray) (id : Int) (w : World) (h : BP w B D first n (fun _ => ez x)) (hf : first ≤ 16384) (hn : n ≤ 3000) (h1 : id ≤ 9223372036854775807) :
    Calls Try.prog 22 #[.pointer (some ⟨B, 0, none⟩), .int .i64 id] w fun e w' => e = .returned (.bool (inB first n id)) ∧ Below w.heap.size w w' :=
  (bhas_any B D first n _ id w h hf (by omega) h1).mono fun e w' ⟨h2, m, h3⟩ => ⟨h2, by rw [h3]; exact below_drewN (Below.refl _ _) m⟩

theorem bad_new (first n : Int) (x : ByteArray) (w : World) (hmin : -9223372036854775808 ≤ first) (hmax : first ≤ 9223372036854775807) (h : ¬ (0 ≤ first ∧ 0 ≤ n ∧ first + n ≤ 16384)) :
    Calls Try.prog 18 #[.int .i64 first, .int .i64 n, .string x] w fun e w' => e = .returned (.tuple #[.pointer none, .int .i64 1]) ∧ w = w' := bnew_no first n x w hmin hmax (by omega)
theorem bad_newR (first n : Int) (x : ByteArray) (w : World) (hmin : -9223372036854775808 ≤ first) (hmax : first ≤ 9223372036854775807) (h : ¬ (0 ≤ first ∧ 0 ≤ n ∧ first + n ≤ 16384)) :
    Calls Try.prog 19 #[.int .i64 first, .int .i64 n, .string x] w fun e w' => e = .returned (.tuple #[.pointer none, .bool false]) ∧ w = w' := rnew_no first n x w hmin hmax (by omega)

set_option maxRecDepth 100000 in
set_option maxHeartbeats 2000000 in
theorem bankNews_any (first n id : Int) (x : ByteArray) (w : World) (hmin : -9223372036854775808 ≤ first) (hmax : first ≤ 9223372036854775807) (hid : id ≤ 9223372036854775807) :
    Calls Try.prog 4 #[.int .i64 first, .int .i64 n, .string x, .int .i64 id] w fun e w' => e = .returned (.bool true) ∧ Below w.heap.size w w' := by
  by_cases hbig : 3000 < n
  · go_enter Try.func4, Try.ntmps4
    go_wp2_with (go_at_call 17; refine (awake9_any _).mono ?_; rintro e w1 ⟨rfl, B1⟩)
    go_ret
    exact ⟨rfl, B1⟩
  · by_cases hok : 0 ≤ first ∧ 0 ≤ n ∧ first + n ≤ 16384
    · obtain ⟨h1, h2, h3⟩ := hok
      obtain ⟨first, rfl⟩ := Int.eq_ofNat_of_zero_le h1
      obtain ⟨n, rfl⟩ := Int.eq_ofNat_of_zero_le h2
      have cN := bnew_yes first n x
      have cR := rnew_yes first n x
      obtain ⟨b, hb⟩ : ∃ b, inB first n id = b := ⟨_, rfl⟩
      have hn : n ≤ 3000 := by omega
      have hff : first ≤ 16384 := by omega
      have cHas : ∀ B D w, BP w B D first n (fun _ => ez x) → Calls Try.prog 22 #[.pointer (some ⟨B, 0, none⟩), .int .i64 id] w fun e w' => e = .returned (.bool b) ∧ Below w.heap.size w w' := fun B D w h => hb ▸ has_b B D first n x id w h hff hn hid
      cases b with
      | true =>
        obtain ⟨a, ha, ha0⟩ : ∃ a : Nat, atV first n id = (a : Int) ∧ a < n ∧ id = (first : Int) + (a : Int) := by
          unfold inB at hb
          simp only [Bool.and_eq_true, decide_eq_true_eq] at hb
          refine ⟨(id - first).toNat, ?_, by omega, by omega⟩
          unfold atV inB
          rw [if_pos (by simp; omega)]
          omega
        have cAt : ∀ R w, RB w R first n x → Calls Try.prog 23 #[.pointer (some ⟨R, 0, none⟩), .int .i64 id] w fun e w' => e = .returned (.int .i64 (a : Int)) ∧ w = w' := fun R w h => ha ▸ at_b R first n x id w hff hn h
        have cGet : ∀ B D w, BP w B D first n (fun _ => ez x) → Calls Try.prog 20 #[.pointer (some ⟨B, 0, none⟩), .int .i64 id] w fun e w' => e = .returned (.tuple #[.agg #[.bool false, .bool false, .bool false, .bool false, .bool false, .int .i64 0, .int .i64 0, .string x], .int .i64 0]) ∧ Below w.heap.size w w' := fun B D w h =>
          bget_yes B D first n a _ _ _ _ _ _ _ _ (fun _ => ez x) id w h hff (by omega) ha0.1 ha0.2 rfl (by simp [Value.oneCell'])
        clear ha ha0 hb
        go_enter Try.func4, Try.ntmps4
        go_wp2_with (first
          | (go_at_call 17; refine (awake9_any _).mono ?_; rintro e w1 ⟨rfl, B1⟩)
          | (go_at_call 18; refine (cN _ hff (by omega)).mono ?_; rintro e w2 ⟨rfl, m1, m2, m3⟩; have p2 : BP w2 _ _ first n (fun _ => ez x) := ⟨m1, m2⟩; have B2 := B1.trans (m3.mono B1.size))
          | (go_at_call 19; refine (cR _ hff (by omega)).mono ?_; rintro e w3 ⟨vL, vE, rfl, m4, m5, m6, m7⟩; have p3 := p2.below m7; have r3 := rb_new m4 m5 m6; have B3 := B2.trans (m7.mono B2.size))
          | (go_at_call 20; refine (cGet _ _ _ p3).mono ?_; rintro e w4 ⟨rfl, m8⟩; have p4 := (p3.below m8).below (one_box w4 (.cells #[.bool false, .bool false, .bool false, .bool false, .bool false, .int .i64 0, .int .i64 0, .string x] 56)); have r4 := (r3.below m8).below (one_box w4 (.cells #[.bool false, .bool false, .bool false, .bool false, .bool false, .int .i64 0, .int .i64 0, .string x] 56)); have B4 := (B3.trans (m8.mono B3.size)).alloc (B3.trans (m8.mono B3.size)).size (.cells #[.bool false, .bool false, .bool false, .bool false, .bool false, .int .i64 0, .int .i64 0, .string x] 56))
          | (go_at_call 21; refine (alike_b _ _ first n _ x _ hff hn p4 r4).mono ?_; rintro e w5 ⟨rfl, m9⟩; have p5 := p4.below m9; have r5 := r4.below m9; have B5 := B4.trans (m9.mono B4.size))
          | (go_at_call 22; refine (cHas _ _ _ p5).mono ?_; rintro e w6 ⟨rfl, m10⟩; have r6 := r5.below m10; have B6 := B5.trans (m10.mono B5.size))
          | (go_at_call 23; refine (cAt _ _ r6).mono ?_; rintro e w7 ⟨rfl, rfl⟩))
        go_ret
        exact ⟨rfl, B6⟩
      | false =>
        have ha : atV first n id = -1 := by
          unfold atV
          rw [hb]
          rfl
        have cAt : ∀ R w, RB w R first n x → Calls Try.prog 23 #[.pointer (some ⟨R, 0, none⟩), .int .i64 id] w fun e w' => e = .returned (.int .i64 (-1)) ∧ w = w' := fun R w h => ha ▸ at_b R first n x id w hff hn h
        have cGet : ∀ B D w, BP w B D first n (fun _ => ez x) → Calls Try.prog 20 #[.pointer (some ⟨B, 0, none⟩), .int .i64 id] w fun e w' => e = .returned (.tuple #[.agg #[.bool false, .bool false, .bool false, .bool false, .bool false, .int .i64 0, .int .i64 0, .string ⟨#[]⟩], .int .i64 90]) ∧ Below w.heap.size w w' := fun B D w h =>
          bget_no B D first n _ id w h hff (by omega) hid hb
        clear ha hb
        go_enter Try.func4, Try.ntmps4
        go_wp2_with (first
          | (go_at_call 17; refine (awake9_any _).mono ?_; rintro e w1 ⟨rfl, B1⟩)
          | (go_at_call 18; refine (cN _ hff (by omega)).mono ?_; rintro e w2 ⟨rfl, m1, m2, m3⟩; have p2 : BP w2 _ _ first n (fun _ => ez x) := ⟨m1, m2⟩; have B2 := B1.trans (m3.mono B1.size))
          | (go_at_call 19; refine (cR _ hff (by omega)).mono ?_; rintro e w3 ⟨vL, vE, rfl, m4, m5, m6, m7⟩; have p3 := p2.below m7; have r3 := rb_new m4 m5 m6; have B3 := B2.trans (m7.mono B2.size))
          | (go_at_call 20; refine (cGet _ _ _ p3).mono ?_; rintro e w4 ⟨rfl, m8⟩; have p4 := (p3.below m8).below (one_box w4 (.cells #[.bool false, .bool false, .bool false, .bool false, .bool false, .int .i64 0, .int .i64 0, .string ⟨#[]⟩] 56)); have r4 := (r3.below m8).below (one_box w4 (.cells #[.bool false, .bool false, .bool false, .bool false, .bool false, .int .i64 0, .int .i64 0, .string ⟨#[]⟩] 56)); have B4 := (B3.trans (m8.mono B3.size)).alloc (B3.trans (m8.mono B3.size)).size (.cells #[.bool false, .bool false, .bool false, .bool false, .bool false, .int .i64 0, .int .i64 0, .string ⟨#[]⟩] 56))
          | (go_at_call 21; refine (alike_b _ _ first n _ x _ hff hn p4 r4).mono ?_; rintro e w5 ⟨rfl, m9⟩; have p5 := p4.below m9; have r5 := r4.below m9; have B5 := B4.trans (m9.mono B4.size))
          | (go_at_call 22; refine (cHas _ _ _ p5).mono ?_; rintro e w6 ⟨rfl, m10⟩; have r6 := r5.below m10; have B6 := B5.trans (m10.mono B5.size))
          | (go_at_call 23; refine (cAt _ _ r6).mono ?_; rintro e w7 ⟨rfl, rfl⟩))
        go_ret
        exact ⟨rfl, B6⟩
    · have cN := bad_new first n x
      have cR := bad_newR first n x
      go_enter Try.func4, Try.ntmps4
      go_wp2_with (first
        | (go_at_call 17; refine (awake9_any _).mono ?_; rintro e w1 ⟨rfl, B1⟩)
        | (go_at_call 18; refine (cN _ hmin hmax hok).mono ?_; rintro e w2 ⟨rfl, rfl⟩)
        | (go_at_call 19; refine (cR _ hmin hmax hok).mono ?_; rintro e w3 ⟨rfl, rfl⟩))
      go_ret
      exact ⟨rfl, B1⟩
end Go.Proofs.Ytoloccoodnbbdaa
