/- List registers: those that are let in, one by one. -/
import Derived.RangeFuncNested
import Derived.RangeFuncBound
import Derived.RangeFuncCalls
import Derived.RangeFuncLeaves
import Derived.Shelf.Abstract
import Derived.Shelf.RegionOpen
import Derived.WalkKit
import Derived.OwnWalkIn
import Derived.TacticsInMore
import Derived.LoopNIn
import Derived.LoopIn
import Derived.WalkSpells
import Derived.WalkLawsBesides
import Derived.Deep.QuietTactic
import Derived.BigQuiet
import Derived.Lib.Hide
import Derived.Deep.WholeRow
import Derived.Deep.Onto
import Derived.RangeFuncWrites
import Derived.Laws.Rows
import Derived.Test.YtoloccoodnbbdaaLrM
namespace Go.Proofs.Ytoloccoodnbbdaa
open Go.RowKit Go.Shelf
attribute [local go_sem] Oper.semAt_some

/-- The blocks of p are as they were. -/
def KP (p : Nat → Prop) (W W' : World) : Prop := ∀ B, p B → W'.heap[B]? = W.heap[B]?
theorem kp_t {p : Nat → Prop} {X Y Z : World} (h : KP p X Y) (k : KP p Y Z) : KP p X Z := fun B hB => (k B hB).trans (h B hB)
theorem kp_b {p : Nat → Prop} {w : World} (hp : ∀ B, p B → B < w.heap.size) (W : World) (l : Nat) (o o' : Obj) (hl : w.heap.size ≤ l) (h : W.heap[l]? = some o) (_ : o.isCells = false) (_ : o.isWalk = false) : KP p W (W.putObj l o') :=
  fun B hB => (grownBy_putObj' W l o').block B (by have := (Array.getElem?_eq_some_iff.1 h).1; have := hp B hB; omega) (fun e => by have := hp B hB; cases e; omega)
theorem AbidesFrom.alloc {β : Type} {B : Nat} {J : β → World → Prop} (h : AbidesFrom B J) {s : β} {W : World} (o : Obj) (hs : J s W) : J s (W.alloc o) :=
  h s W _ none hs (World.grownBy_alloc W o none) (fun r e => by cases e)

set_option maxRecDepth 100000 in
set_option maxHeartbeats 1000000 in
theorem free_in (n l Bs Bf D cap : Nat) (J0 J1 Jx : World → Prop) (hJa : ∀ W o, J0 W → J0 (W.alloc o)) (hJb : ∀ W o, J1 W → J1 (W.alloc o))
    (hY : ∀ W, J0 W → YieldAt Fence.wide (n - 1) Try.prog l #[.int .i64 1] W fun e W' =>
      (e = .returned (.bool true) ∧ J1 W' ∧ KP (fun B => B = Bs ∨ B = Bf ∨ B = D) W W') ∨ (e = .returned (.bool false) ∧ Jx W'))
    (W : World) (hD : Blk W D 65 #[.int .i64 1, .int .i64 40, .int .i64 160, .int .i64 0, .bool false, .int .i64 0, .bool false, .int .i64 0, .int .i64 0, .int .i64 0, .int .i64 0, .bool false, .int .i64 0, .bool false, .int .i64 3, .int .i64 41, .int .i64 0, .int .i64 0, .bool false, .int .i64 0, .bool false]) (hs : Blk W Bs 110 #[.slice (some ⟨D, 0, none⟩) 3 cap]) (hf : Blk W Bf 108 #[.func (.func 60) #[] #[]]) (h00 : J0 W) :
    CallsIn Fence.wide n Try.prog 64 #[.func (.yield l) #[] #[], .pointer (some ⟨Bs, 0, none⟩), .pointer (some ⟨Bf, 0, none⟩)] W fun e W' => (∃ v, e = .returned v) ∧
      (J1 W' ∨ Jx W') := by
  refine callsIn_of_wp Try.func64 rfl trivial ?_ rfl
  simp only [Try.ntmps64, List.size_toArray, List.length_cons, List.length_nil, Nat.reduceAdd, Nat.reduceSub, Array.replicate_succ, Array.replicate_zero, List.push_toArray, List.append_toArray, List.nil_append, List.cons_append]
  have c0 := hs.cell 0
  gi_wp2
  gi_loopw [8] (fun i wr => ∃ k : Nat, k ≤ 3 ∧ i = .int .i64 (k : Int) ∧ (Blk wr D 65 #[.int .i64 1, .int .i64 40, .int .i64 160, .int .i64 0, .bool false, .int .i64 0, .bool false, .int .i64 0, .int .i64 0, .int .i64 0, .int .i64 0, .bool false, .int .i64 0, .bool false, .int .i64 3, .int .i64 41, .int .i64 0, .int .i64 0, .bool false, .int .i64 0, .bool false] ∧ Blk wr Bf 108 #[.func (.func 60) #[] #[]]) ∧ (if k ≤ 1 then J0 else J1) wr) (fun i _ => 3 - (intOf i).toNat)
  case atStart => exact ⟨0, by omega, rfl, ⟨hD, hf⟩, h00⟩
  case round =>
    obtain ⟨k, hk, rfl, hBs, hJ⟩ := hrel
    have hD := hBs.1
    have hf := hBs.2
    have cf := hf.cell 0
    have lf := hf.lt
    have lD := hD.lt

    have hk4 : k = 0 ∨ k = 1 ∨ k = 2 ∨ k = 3 := by omega
    rcases hk4 with rfl | rfl | rfl | rfl
    · replace hJ : J0 wr := hJ
      have hJ2 := hJa _ (.cells #[.int .i64 1, .int .i64 40, .int .i64 160, .int .i64 0, .bool false, .int .i64 0, .bool false] 65) (hJa _ (.cells #[.int .i64 1, .int .i64 40, .int .i64 160, .int .i64 0, .bool false, .int .i64 0, .bool false] 65) hJ)
      have hD2 := (hD.alloc (.cells #[.int .i64 1, .int .i64 40, .int .i64 160, .int .i64 0, .bool false, .int .i64 0, .bool false] 65)).alloc (.cells #[.int .i64 1, .int .i64 40, .int .i64 160, .int .i64 0, .bool false, .int .i64 0, .bool false] 65); have hf2 := (hf.alloc (.cells #[.int .i64 1, .int .i64 40, .int .i64 160, .int .i64 0, .bool false, .int .i64 0, .bool false] 65)).alloc (.cells #[.int .i64 1, .int .i64 40, .int .i64 160, .int .i64 0, .bool false, .int .i64 0, .bool false] 65)
      have d0 := hD.cell 0
      have d1 := hD.cell 1
      have d2 := hD.cell 2
      have d3 := hD.cell 3
      have d4 := hD.cell 4
      have d5 := hD.cell 5
      have d6 := hD.cell 6
      gi_wp2
      refine ⟨trivial, fun h => (by cases h), (callsIn_wide.2 (free1_0 _)).mono ?_⟩
      rintro e w' ⟨rfl, rfl⟩
      gi_wp2
      refine ⟨fun _ h => (by cases h), ?_⟩
      gi_wp2
      refine ⟨⟨1, by omega, rfl, ⟨hD2, hf2⟩, ?_⟩, by simp [intOf]⟩
      exact hJ2
    · replace hJ : J0 wr := hJ
      have hJ2 := hJa _ (.cells #[.int .i64 0, .int .i64 0, .int .i64 0, .int .i64 0, .bool false, .int .i64 0, .bool false] 65) (hJa _ (.cells #[.int .i64 0, .int .i64 0, .int .i64 0, .int .i64 0, .bool false, .int .i64 0, .bool false] 65) hJ)
      have hD2 := (hD.alloc (.cells #[.int .i64 0, .int .i64 0, .int .i64 0, .int .i64 0, .bool false, .int .i64 0, .bool false] 65)).alloc (.cells #[.int .i64 0, .int .i64 0, .int .i64 0, .int .i64 0, .bool false, .int .i64 0, .bool false] 65); have hf2 := (hf.alloc (.cells #[.int .i64 0, .int .i64 0, .int .i64 0, .int .i64 0, .bool false, .int .i64 0, .bool false] 65)).alloc (.cells #[.int .i64 0, .int .i64 0, .int .i64 0, .int .i64 0, .bool false, .int .i64 0, .bool false] 65)
      obtain ⟨fn, tmps, assign, body, hy, hR⟩ := hY _ hJ2
      have HY := Lib.hid hY
      clear hY
      have d0 := hD.cell 7
      have d1 := hD.cell 8
      have d2 := hD.cell 9
      have d3 := hD.cell 10
      have d4 := hD.cell 11
      have d5 := hD.cell 12
      have d6 := hD.cell 13
      gi_wp2
      refine ⟨trivial, fun h => (by cases h), (callsIn_wide.2 (free1_1 _)).mono ?_⟩
      rintro e w' ⟨rfl, rfl⟩
      gi_wp2
      refine ⟨fun h => (by cases h), hR.mono ?_⟩
      rintro e W' (⟨rfl, hJ', hk'⟩ | ⟨rfl, hJx'⟩)
      · gi_wp2
        refine ⟨⟨2, by omega, rfl, ⟨show Blk W' D 65 _ from Eq.trans (hk' D (by simp)) hD2, show Blk W' Bf 108 _ from Eq.trans (hk' Bf (by simp)) hf2⟩, ?_⟩, by simp [intOf]⟩
        exact hJ'
      · gi_wp2
        refine bodyPost_ret (results_none rfl _ _ _) rfl ?_
        exact ⟨⟨_, rfl⟩, .inr hJx'⟩
    · replace hJ : J1 wr := hJ
      have hJ2 := hJb _ (.cells #[.int .i64 3, .int .i64 41, .int .i64 0, .int .i64 0, .bool false, .int .i64 0, .bool false] 65) (hJb _ (.cells #[.int .i64 3, .int .i64 41, .int .i64 0, .int .i64 0, .bool false, .int .i64 0, .bool false] 65) hJ)
      have hD2 := (hD.alloc (.cells #[.int .i64 3, .int .i64 41, .int .i64 0, .int .i64 0, .bool false, .int .i64 0, .bool false] 65)).alloc (.cells #[.int .i64 3, .int .i64 41, .int .i64 0, .int .i64 0, .bool false, .int .i64 0, .bool false] 65); have hf2 := (hf.alloc (.cells #[.int .i64 3, .int .i64 41, .int .i64 0, .int .i64 0, .bool false, .int .i64 0, .bool false] 65)).alloc (.cells #[.int .i64 3, .int .i64 41, .int .i64 0, .int .i64 0, .bool false, .int .i64 0, .bool false] 65)
      have d0 := hD.cell 14
      have d1 := hD.cell 15
      have d2 := hD.cell 16
      have d3 := hD.cell 17
      have d4 := hD.cell 18
      have d5 := hD.cell 19
      have d6 := hD.cell 20
      gi_wp2
      refine ⟨trivial, fun h => (by cases h), (callsIn_wide.2 (free1_2 _)).mono ?_⟩
      rintro e w' ⟨rfl, rfl⟩
      gi_wp2
      refine ⟨fun _ h => (by cases h), ?_⟩
      gi_wp2
      refine ⟨⟨3, by omega, rfl, ⟨hD2, hf2⟩, ?_⟩, by simp [intOf]⟩
      exact hJ2
    · replace hJ : J1 wr := hJ
      gi_wp2
      go_end0
      exact ⟨⟨_, rfl⟩, .inl hJ⟩

set_option maxRecDepth 100000 in
set_option maxHeartbeats 1000000 in
theorem find_in (n l Bs Bf D cap : Nat) (nb : Nat) (J0 J1 Jx : World → Prop) (hJa : ∀ W o, J0 W → J0 (W.alloc o)) (hJb : ∀ W o, J1 W → J1 (W.alloc o))
    (hY : ∀ W, J0 W → YieldAt Fence.wide (n - 1) Try.prog l #[.int .i64 2] W fun e W' =>
      (e = .returned (.bool true) ∧ J1 W' ∧ KP (fun B => B = Bs ∨ B = Bf ∨ B = D ∨ B = nb) W W') ∨ (e = .returned (.bool false) ∧ Jx W'))
    (W : World) (hD : Blk W D 65 #[.int .i64 1, .int .i64 40, .int .i64 160, .int .i64 0, .bool false, .int .i64 0, .bool false, .int .i64 0, .int .i64 0, .int .i64 0, .int .i64 0, .bool false, .int .i64 0, .bool false, .int .i64 3, .int .i64 41, .int .i64 0, .int .i64 0, .bool false, .int .i64 0, .bool false]) (hs : Blk W Bs 110 #[.slice (some ⟨D, 0, none⟩) 3 cap]) (hf : Blk W Bf 108 #[.func (.func 61) #[] #[.pointer (some ⟨nb, 0, none⟩)]]) (hn : Blk W nb 3 #[.int .i64 41]) (h00 : J0 W) :
    CallsIn Fence.wide n Try.prog 64 #[.func (.yield l) #[] #[], .pointer (some ⟨Bs, 0, none⟩), .pointer (some ⟨Bf, 0, none⟩)] W fun e W' => (∃ v, e = .returned v) ∧
      (J1 W' ∨ Jx W') := by
  refine callsIn_of_wp Try.func64 rfl trivial ?_ rfl
  simp only [Try.ntmps64, List.size_toArray, List.length_cons, List.length_nil, Nat.reduceAdd, Nat.reduceSub, Array.replicate_succ, Array.replicate_zero, List.push_toArray, List.append_toArray, List.nil_append, List.cons_append]
  have c0 := hs.cell 0
  gi_wp2
  gi_loopw [8] (fun i wr => ∃ k : Nat, k ≤ 3 ∧ i = .int .i64 (k : Int) ∧ (Blk wr D 65 #[.int .i64 1, .int .i64 40, .int .i64 160, .int .i64 0, .bool false, .int .i64 0, .bool false, .int .i64 0, .int .i64 0, .int .i64 0, .int .i64 0, .bool false, .int .i64 0, .bool false, .int .i64 3, .int .i64 41, .int .i64 0, .int .i64 0, .bool false, .int .i64 0, .bool false] ∧ Blk wr Bf 108 #[.func (.func 61) #[] #[.pointer (some ⟨nb, 0, none⟩)]] ∧ Blk wr nb 3 #[.int .i64 41]) ∧ (if k ≤ 2 then J0 else J1) wr) (fun i _ => 3 - (intOf i).toNat)
  case atStart => exact ⟨0, by omega, rfl, ⟨hD, hf, hn⟩, h00⟩
  case round =>
    obtain ⟨k, hk, rfl, hBs, hJ⟩ := hrel
    have hD := hBs.1
    have hf := hBs.2.1
    have cf := hf.cell 0
    have lf := hf.lt
    have lD := hD.lt
    have hn := hBs.2.2
    have ln := hn.lt
    have hk4 : k = 0 ∨ k = 1 ∨ k = 2 ∨ k = 3 := by omega
    rcases hk4 with rfl | rfl | rfl | rfl
    · replace hJ : J0 wr := hJ
      have hJ2 := hJa _ (.cells #[.int .i64 1, .int .i64 40, .int .i64 160, .int .i64 0, .bool false, .int .i64 0, .bool false] 65) (hJa _ (.cells #[.int .i64 1, .int .i64 40, .int .i64 160, .int .i64 0, .bool false, .int .i64 0, .bool false] 65) hJ)
      have hD2 := (hD.alloc (.cells #[.int .i64 1, .int .i64 40, .int .i64 160, .int .i64 0, .bool false, .int .i64 0, .bool false] 65)).alloc (.cells #[.int .i64 1, .int .i64 40, .int .i64 160, .int .i64 0, .bool false, .int .i64 0, .bool false] 65); have hf2 := (hf.alloc (.cells #[.int .i64 1, .int .i64 40, .int .i64 160, .int .i64 0, .bool false, .int .i64 0, .bool false] 65)).alloc (.cells #[.int .i64 1, .int .i64 40, .int .i64 160, .int .i64 0, .bool false, .int .i64 0, .bool false] 65); have hn2 := (hn.alloc (.cells #[.int .i64 1, .int .i64 40, .int .i64 160, .int .i64 0, .bool false, .int .i64 0, .bool false] 65)).alloc (.cells #[.int .i64 1, .int .i64 40, .int .i64 160, .int .i64 0, .bool false, .int .i64 0, .bool false] 65)
      have d0 := hD.cell 0
      have d1 := hD.cell 1
      have d2 := hD.cell 2
      have d3 := hD.cell 3
      have d4 := hD.cell 4
      have d5 := hD.cell 5
      have d6 := hD.cell 6
      gi_wp2
      refine ⟨trivial, fun h => (by cases h), (callsIn_wide.2 (find1_0 nb _ (((hn.alloc _).cell 0).trans rfl) (hn.alloc _).lt)).mono ?_⟩
      rintro e w' ⟨rfl, rfl⟩
      gi_wp2
      refine ⟨fun _ h => (by cases h), ?_⟩
      gi_wp2
      refine ⟨⟨1, by omega, rfl, ⟨hD2, ⟨hf2, hn2⟩⟩, ?_⟩, by simp [intOf]⟩
      exact hJ2
    · replace hJ : J0 wr := hJ
      have hJ2 := hJa _ (.cells #[.int .i64 0, .int .i64 0, .int .i64 0, .int .i64 0, .bool false, .int .i64 0, .bool false] 65) (hJa _ (.cells #[.int .i64 0, .int .i64 0, .int .i64 0, .int .i64 0, .bool false, .int .i64 0, .bool false] 65) hJ)
      have hD2 := (hD.alloc (.cells #[.int .i64 0, .int .i64 0, .int .i64 0, .int .i64 0, .bool false, .int .i64 0, .bool false] 65)).alloc (.cells #[.int .i64 0, .int .i64 0, .int .i64 0, .int .i64 0, .bool false, .int .i64 0, .bool false] 65); have hf2 := (hf.alloc (.cells #[.int .i64 0, .int .i64 0, .int .i64 0, .int .i64 0, .bool false, .int .i64 0, .bool false] 65)).alloc (.cells #[.int .i64 0, .int .i64 0, .int .i64 0, .int .i64 0, .bool false, .int .i64 0, .bool false] 65); have hn2 := (hn.alloc (.cells #[.int .i64 0, .int .i64 0, .int .i64 0, .int .i64 0, .bool false, .int .i64 0, .bool false] 65)).alloc (.cells #[.int .i64 0, .int .i64 0, .int .i64 0, .int .i64 0, .bool false, .int .i64 0, .bool false] 65)
      have d0 := hD.cell 7
      have d1 := hD.cell 8
      have d2 := hD.cell 9
      have d3 := hD.cell 10
      have d4 := hD.cell 11
      have d5 := hD.cell 12
      have d6 := hD.cell 13
      gi_wp2
      refine ⟨trivial, fun h => (by cases h), (callsIn_wide.2 (find1_1 nb _ (((hn.alloc _).cell 0).trans rfl) (hn.alloc _).lt)).mono ?_⟩
      rintro e w' ⟨rfl, rfl⟩
      gi_wp2
      refine ⟨fun _ h => (by cases h), ?_⟩
      gi_wp2
      refine ⟨⟨2, by omega, rfl, ⟨hD2, ⟨hf2, hn2⟩⟩, ?_⟩, by simp [intOf]⟩
      exact hJ2
    · replace hJ : J0 wr := hJ
      have hJ2 := hJa _ (.cells #[.int .i64 3, .int .i64 41, .int .i64 0, .int .i64 0, .bool false, .int .i64 0, .bool false] 65) (hJa _ (.cells #[.int .i64 3, .int .i64 41, .int .i64 0, .int .i64 0, .bool false, .int .i64 0, .bool false] 65) hJ)
      have hD2 := (hD.alloc (.cells #[.int .i64 3, .int .i64 41, .int .i64 0, .int .i64 0, .bool false, .int .i64 0, .bool false] 65)).alloc (.cells #[.int .i64 3, .int .i64 41, .int .i64 0, .int .i64 0, .bool false, .int .i64 0, .bool false] 65); have hf2 := (hf.alloc (.cells #[.int .i64 3, .int .i64 41, .int .i64 0, .int .i64 0, .bool false, .int .i64 0, .bool false] 65)).alloc (.cells #[.int .i64 3, .int .i64 41, .int .i64 0, .int .i64 0, .bool false, .int .i64 0, .bool false] 65); have hn2 := (hn.alloc (.cells #[.int .i64 3, .int .i64 41, .int .i64 0, .int .i64 0, .bool false, .int .i64 0, .bool false] 65)).alloc (.cells #[.int .i64 3, .int .i64 41, .int .i64 0, .int .i64 0, .bool false, .int .i64 0, .bool false] 65)
      obtain ⟨fn, tmps, assign, body, hy, hR⟩ := hY _ hJ2
      have HY := Lib.hid hY
      clear hY
      have d0 := hD.cell 14
      have d1 := hD.cell 15
      have d2 := hD.cell 16
      have d3 := hD.cell 17
      have d4 := hD.cell 18
      have d5 := hD.cell 19
      have d6 := hD.cell 20
      gi_wp2
      refine ⟨trivial, fun h => (by cases h), (callsIn_wide.2 (find1_2 nb _ (((hn.alloc _).cell 0).trans rfl) (hn.alloc _).lt)).mono ?_⟩
      rintro e w' ⟨rfl, rfl⟩
      gi_wp2
      refine ⟨fun h => (by cases h), hR.mono ?_⟩
      rintro e W' (⟨rfl, hJ', hk'⟩ | ⟨rfl, hJx'⟩)
      · gi_wp2
        refine ⟨⟨3, by omega, rfl, ⟨show Blk W' D 65 _ from Eq.trans (hk' D (by simp)) hD2, ⟨show Blk W' Bf 108 _ from Eq.trans (hk' Bf (by simp)) hf2, (show Blk W' nb 3 _ from Eq.trans (hk' nb (by simp)) hn2)⟩⟩, ?_⟩, by simp [intOf]⟩
        exact hJ'
      · gi_wp2
        refine bodyPost_ret (results_none rfl _ _ _) rfl ?_
        exact ⟨⟨_, rfl⟩, .inr hJx'⟩
    · replace hJ : J1 wr := hJ
      gi_wp2
      go_end0
      exact ⟨⟨_, rfl⟩, .inl hJ⟩

set_option maxRecDepth 100000 in
set_option maxHeartbeats 1000000 in
theorem waits_in (n l Bs Bf D cap : Nat) (J0 J1 Jx : World → Prop) (hJa : ∀ W o, J0 W → J0 (W.alloc o)) (hJb : ∀ W o, J1 W → J1 (W.alloc o))
    (hY : ∀ W, J0 W → YieldAt Fence.wide (n - 1) Try.prog l #[.int .i64 0] W fun e W' =>
      (e = .returned (.bool true) ∧ J1 W' ∧ KP (fun B => B = Bs ∨ B = Bf ∨ B = D) W W') ∨ (e = .returned (.bool false) ∧ Jx W'))
    (W : World) (hD : Blk W D 65 #[.int .i64 1, .int .i64 40, .int .i64 160, .int .i64 0, .bool false, .int .i64 0, .bool false, .int .i64 0, .int .i64 0, .int .i64 0, .int .i64 0, .bool false, .int .i64 0, .bool false, .int .i64 3, .int .i64 41, .int .i64 0, .int .i64 0, .bool false, .int .i64 0, .bool false]) (hs : Blk W Bs 110 #[.slice (some ⟨D, 0, none⟩) 3 cap]) (hf : Blk W Bf 108 #[.func (.func 65) #[] #[]]) (h00 : J0 W) :
    CallsIn Fence.wide n Try.prog 64 #[.func (.yield l) #[] #[], .pointer (some ⟨Bs, 0, none⟩), .pointer (some ⟨Bf, 0, none⟩)] W fun e W' => (∃ v, e = .returned v) ∧
      (J1 W' ∨ Jx W') := by
  refine callsIn_of_wp Try.func64 rfl trivial ?_ rfl
  simp only [Try.ntmps64, List.size_toArray, List.length_cons, List.length_nil, Nat.reduceAdd, Nat.reduceSub, Array.replicate_succ, Array.replicate_zero, List.push_toArray, List.append_toArray, List.nil_append, List.cons_append]
  have c0 := hs.cell 0
  gi_wp2
  gi_loopw [8] (fun i wr => ∃ k : Nat, k ≤ 3 ∧ i = .int .i64 (k : Int) ∧ (Blk wr D 65 #[.int .i64 1, .int .i64 40, .int .i64 160, .int .i64 0, .bool false, .int .i64 0, .bool false, .int .i64 0, .int .i64 0, .int .i64 0, .int .i64 0, .bool false, .int .i64 0, .bool false, .int .i64 3, .int .i64 41, .int .i64 0, .int .i64 0, .bool false, .int .i64 0, .bool false] ∧ Blk wr Bf 108 #[.func (.func 65) #[] #[]]) ∧ (if k ≤ 0 then J0 else J1) wr) (fun i _ => 3 - (intOf i).toNat)
  case atStart => exact ⟨0, by omega, rfl, ⟨hD, hf⟩, h00⟩
  case round =>
    obtain ⟨k, hk, rfl, hBs, hJ⟩ := hrel
    have hD := hBs.1
    have hf := hBs.2
    have cf := hf.cell 0
    have lf := hf.lt
    have lD := hD.lt

    have hk4 : k = 0 ∨ k = 1 ∨ k = 2 ∨ k = 3 := by omega
    rcases hk4 with rfl | rfl | rfl | rfl
    · replace hJ : J0 wr := hJ
      have hJ2 := hJa _ (.cells #[.int .i64 1, .int .i64 40, .int .i64 160, .int .i64 0, .bool false, .int .i64 0, .bool false] 65) (hJa _ (.cells #[.int .i64 1, .int .i64 40, .int .i64 160, .int .i64 0, .bool false, .int .i64 0, .bool false] 65) hJ)
      have hD2 := (hD.alloc (.cells #[.int .i64 1, .int .i64 40, .int .i64 160, .int .i64 0, .bool false, .int .i64 0, .bool false] 65)).alloc (.cells #[.int .i64 1, .int .i64 40, .int .i64 160, .int .i64 0, .bool false, .int .i64 0, .bool false] 65); have hf2 := (hf.alloc (.cells #[.int .i64 1, .int .i64 40, .int .i64 160, .int .i64 0, .bool false, .int .i64 0, .bool false] 65)).alloc (.cells #[.int .i64 1, .int .i64 40, .int .i64 160, .int .i64 0, .bool false, .int .i64 0, .bool false] 65)
      obtain ⟨fn, tmps, assign, body, hy, hR⟩ := hY _ hJ2
      have HY := Lib.hid hY
      clear hY
      have d0 := hD.cell 0
      have d1 := hD.cell 1
      have d2 := hD.cell 2
      have d3 := hD.cell 3
      have d4 := hD.cell 4
      have d5 := hD.cell 5
      have d6 := hD.cell 6
      gi_wp2
      refine ⟨trivial, fun h => (by cases h), (callsIn_wide.2 (waits1_0 _)).mono ?_⟩
      rintro e w' ⟨rfl, rfl⟩
      gi_wp2
      refine ⟨fun h => (by cases h), hR.mono ?_⟩
      rintro e W' (⟨rfl, hJ', hk'⟩ | ⟨rfl, hJx'⟩)
      · gi_wp2
        refine ⟨⟨1, by omega, rfl, ⟨show Blk W' D 65 _ from Eq.trans (hk' D (by simp)) hD2, show Blk W' Bf 108 _ from Eq.trans (hk' Bf (by simp)) hf2⟩, ?_⟩, by simp [intOf]⟩
        exact hJ'
      · gi_wp2
        refine bodyPost_ret (results_none rfl _ _ _) rfl ?_
        exact ⟨⟨_, rfl⟩, .inr hJx'⟩
    · replace hJ : J1 wr := hJ
      have hJ2 := hJb _ (.cells #[.int .i64 0, .int .i64 0, .int .i64 0, .int .i64 0, .bool false, .int .i64 0, .bool false] 65) (hJb _ (.cells #[.int .i64 0, .int .i64 0, .int .i64 0, .int .i64 0, .bool false, .int .i64 0, .bool false] 65) hJ)
      have hD2 := (hD.alloc (.cells #[.int .i64 0, .int .i64 0, .int .i64 0, .int .i64 0, .bool false, .int .i64 0, .bool false] 65)).alloc (.cells #[.int .i64 0, .int .i64 0, .int .i64 0, .int .i64 0, .bool false, .int .i64 0, .bool false] 65); have hf2 := (hf.alloc (.cells #[.int .i64 0, .int .i64 0, .int .i64 0, .int .i64 0, .bool false, .int .i64 0, .bool false] 65)).alloc (.cells #[.int .i64 0, .int .i64 0, .int .i64 0, .int .i64 0, .bool false, .int .i64 0, .bool false] 65)
      have d0 := hD.cell 7
      have d1 := hD.cell 8
      have d2 := hD.cell 9
      have d3 := hD.cell 10
      have d4 := hD.cell 11
      have d5 := hD.cell 12
      have d6 := hD.cell 13
      gi_wp2
      refine ⟨trivial, fun h => (by cases h), (callsIn_wide.2 (waits1_1 _)).mono ?_⟩
      rintro e w' ⟨rfl, rfl⟩
      gi_wp2
      refine ⟨fun _ h => (by cases h), ?_⟩
      gi_wp2
      refine ⟨⟨2, by omega, rfl, ⟨hD2, hf2⟩, ?_⟩, by simp [intOf]⟩
      exact hJ2
    · replace hJ : J1 wr := hJ
      have hJ2 := hJb _ (.cells #[.int .i64 3, .int .i64 41, .int .i64 0, .int .i64 0, .bool false, .int .i64 0, .bool false] 65) (hJb _ (.cells #[.int .i64 3, .int .i64 41, .int .i64 0, .int .i64 0, .bool false, .int .i64 0, .bool false] 65) hJ)
      have hD2 := (hD.alloc (.cells #[.int .i64 3, .int .i64 41, .int .i64 0, .int .i64 0, .bool false, .int .i64 0, .bool false] 65)).alloc (.cells #[.int .i64 3, .int .i64 41, .int .i64 0, .int .i64 0, .bool false, .int .i64 0, .bool false] 65); have hf2 := (hf.alloc (.cells #[.int .i64 3, .int .i64 41, .int .i64 0, .int .i64 0, .bool false, .int .i64 0, .bool false] 65)).alloc (.cells #[.int .i64 3, .int .i64 41, .int .i64 0, .int .i64 0, .bool false, .int .i64 0, .bool false] 65)
      have d0 := hD.cell 14
      have d1 := hD.cell 15
      have d2 := hD.cell 16
      have d3 := hD.cell 17
      have d4 := hD.cell 18
      have d5 := hD.cell 19
      have d6 := hD.cell 20
      gi_wp2
      refine ⟨trivial, fun h => (by cases h), (callsIn_wide.2 (waits1_2 _)).mono ?_⟩
      rintro e w' ⟨rfl, rfl⟩
      gi_wp2
      refine ⟨fun _ h => (by cases h), ?_⟩
      gi_wp2
      refine ⟨⟨3, by omega, rfl, ⟨hD2, hf2⟩, ?_⟩, by simp [intOf]⟩
      exact hJ2
    · replace hJ : J1 wr := hJ
      gi_wp2
      go_end0
      exact ⟨⟨_, rfl⟩, .inl hJ⟩
end Go.Proofs.Ytoloccoodnbbdaa
