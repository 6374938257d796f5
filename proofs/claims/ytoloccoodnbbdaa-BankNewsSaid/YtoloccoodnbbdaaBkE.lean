/- Banks: all that they have. -/
import Derived.RangeFuncNested
import Derived.RangeFuncBound
import Derived.RangeFuncCalls
import Derived.RangeFuncLeaves
import Derived.Shelf.Abstract
import Derived.Shelf.RegionOpen
import Derived.WalkKit
import Derived.OwnWalkIn
import Derived.TacticsInMore
import Derived.LoopNIn
import Derived.LoopIn
import Derived.WalkSpells
import Derived.WalkLawsBesides
import Derived.Deep.QuietTactic
import Derived.BigQuiet
import Derived.Lib.Hide
import Derived.RangeFuncBox
import Derived.Laws.MakeOwn
import Derived.Deep.WholeRow
import Derived.Laws.Rows
import Derived.Laws.Tables
import Derived.Test.YtoloccoodnbbdaaBkD
namespace Go.Proofs.Ytoloccoodnbbdaa
open Go.RowKit Go.Shelf
attribute [local go_sem] Oper.semAt_some

def CloneP (n : Nat) (f : Nat → Array Value) (w : World) (e : Ending) (w' : World) : Prop :=
  ∃ g cap, e = .returned (.slice (some ⟨g, 0, none⟩) n cap) ∧ w.heap.size ≤ g ∧ RowB w' g 56 8 n f ∧ Below w.heap.size w w'
theorem addr_add (D j : Nat) : ((⟨D, 0, none⟩ : Addr).add j) = ⟨D, j, none⟩ := by
  unfold Addr.add
  split <;> simp_all
theorem row_split {n j : Nat} (h : j < n * 8) : j / 8 < n ∧ j % 8 < 8 ∧ j / 8 * 8 + j % 8 = j := by omega
theorem rowB_one {n : Nat} {f : Nat → Array Value} {C : Array Value} (h3 : ∀ j, j < n → ∀ i, i < 8 → C[j * 8 + i]? = (f j)[i]?) (ho : ∀ j, j < n → (f j).all (·.oneCell') = true) :
    ∀ u ∈ C.toList.take (n * 8), u.oneCell' = true := by
  intro u hu
  obtain ⟨j, hj, rfl⟩ := List.getElem_of_mem hu
  have hj2 : j < n * 8 := by simp at hj; omega
  obtain ⟨a, b, c⟩ := row_split hj2
  have h4 := h3 _ a _ b
  rw [c] at h4
  have h5 : j < C.size := by simp at hj; omega
  rw [Array.getElem?_eq_getElem h5] at h4
  have h6 := ho _ a
  rw [Array.all_eq_true] at h6
  have h7 : j % 8 < (f (j / 8)).size := by
    by_cases e : j % 8 < (f (j / 8)).size
    · exact e
    · rw [Array.getElem?_eq_none (by omega)] at h4; cases h4
  rw [Array.getElem?_eq_getElem h7] at h4
  have h8 := h6 _ h7
  simp only [Option.some.injEq] at h4
  simp only [List.getElem_take, Array.getElem_toList]
  rw [h4]
  exact h8

set_option maxRecDepth 100000 in
set_option maxHeartbeats 1000000 in
theorem clone_any (D n cp : Nat) (f : Nat → Array Value) (w : World) (h : RowB w D 56 8 n f) (ho : ∀ j, j < n → (f j).all (·.oneCell') = true) (hn : n ≤ 16384) :
    Calls Try.prog 57 #[.slice (some ⟨D, 0, none⟩) n cp] w (CloneP n f w) := by
  obtain ⟨i0, hi, hz, hs, hb⟩ := info_parts info56
  obtain ⟨C, hC, hCs, h3⟩ := h
  have h1 := rowB_one h3 ho
  have hlen : (C.toList.take (n * 8)).length = n * 8 := by simp; omega
  have hlt := hC.lt
  have hc : ∀ (W : World) (o : Obj), Blk W D 56 C → ∀ j u, (C.toList.take (n * 8))[j]? = some u → (W.alloc o).cell? ((⟨D, 0, none⟩ : Addr).add j) = some u := by
    intro W o hW j u hj
    rw [addr_add, (hW.alloc o).cell j]
    rw [List.getElem?_take] at hj
    split at hj
    · simpa using hj
    · cases hj
  have hown : (w.alloc (.cells #[] 56)).ownsRow w.heap.size 56 8 (.slice (some ⟨w.heap.size, 0, none⟩) 0 0) 0 [] :=
    ⟨rfl, .inr ⟨w.heap.size, 0, #[], rfl, Nat.le_refl _, heap_alloc_new w _, Nat.le_refl _, by decide, rfl, rfl⟩⟩
  have hnil : (binOp .eql 99 (.slice (some ⟨D, 0, none⟩) n cp) (.slice none 0 0)).run Try.prog w = .ok (.bool false) w := by
    first
    | kernel_rfl
    | simp [go_sem]
  go_enter Try.func57, Try.ntmps57
  go_wp2_with (at_builtin; refine wpList_append_own _ rfl (.tmp 5) (.tmp 6) 99 rfl w.heap.size 56 i0 _ 8 40 Try.underlying99 hi hz hs hb rfl (by decide) (.slice (some ⟨w.heap.size, 0, none⟩) 0 0) 0 _ rfl hown ⟨D, 0, none⟩ n cp (C.toList.take (n * 8)) rfl hlen (hc w _ hC) h1 (by unfold maxLen; omega) (by omega) (by simp) ?_)
  intro v' w2 hown2 hg hne
  rcases hown2.2 with ⟨rfl, _⟩ | ⟨g, cap, cur, rfl, hge, hgb, hcap, _, hcur, htake⟩
  · exact absurd rfl hne
  · have hR : RowB w2 g 56 8 n f := by
      refine ⟨cur, hgb, by rw [hcur]; exact Nat.mul_le_mul_right 8 hcap, fun j hj i hi => ?_⟩
      have hlt2 : j * 8 + i < n * 8 := by have := Nat.mul_le_mul_right 8 (show j + 1 ≤ n by omega); omega
      have e1 : (cur.toList.take (n * 8))[j * 8 + i]? = cur[j * 8 + i]? := by rw [List.getElem?_take, if_pos hlt2]; simp
      have e2 : (C.toList.take (n * 8))[j * 8 + i]? = C[j * 8 + i]? := by rw [List.getElem?_take, if_pos hlt2]; simp
      rw [← e1, htake, e2, h3 j hj i hi]
    have hB : Below w.heap.size w w2 := (one_box w _).grown hg (by simp) (fun k e => by simp [Value.ownBlock] at e; omega)
    have HR := Lib.hid hR
    clear hR hcur htake hgb hown2 hg hne hown hnil hC h3 hc hlen h1
    go_wp2
    go_ret
    exact ⟨g, cap, rfl, hge, HR.out, hB⟩

/-- What All gives back: the iterator, over a copy of the entries. -/
def AllP (B n : Nat) (f : Nat → Array Value) (w : World) (e : Ending) (w' : World) : Prop :=
  ∃ G g cap, e = .returned (.func (.func 58) #[] #[.pointer (some ⟨G, 0, none⟩), .pointer (some ⟨w.heap.size, 0, none⟩)]) ∧ Blk w' G 99 #[.slice (some ⟨g, 0, none⟩) n cap] ∧ Blk w' w.heap.size 44 #[.pointer (some ⟨B, 0, none⟩)] ∧
    w.heap.size < G ∧ w.heap.size < g ∧ RowB w' g 56 8 n f ∧ Below w.heap.size w w'
set_option maxRecDepth 100000 in
set_option maxHeartbeats 1000000 in
theorem all_any (B D first n : Nat) (f : Nat → Array Value) (w : World) (h : BP w B D first n f) (ho : ∀ j, j < n → (f j).all (·.oneCell') = true) (hn : n ≤ 16384) :
    Calls Try.prog 42 #[.pointer (some ⟨B, 0, none⟩)] w (AllP B n f w) := by
  have h2 := h.below (one_box w (.cells #[.pointer (some ⟨B, 0, none⟩)] 44))
  have c1 := h.1.cell 1
  have hlt := h.1.lt
  have z0 := Blk.new w 44 #[.pointer (some ⟨B, 0, none⟩)]
  have HO := Lib.hid ho
  clear h ho
  go_enter Try.func42, Try.ntmps42
  go_wp2_with (go_at_call 57; refine (clone_any D n n f _ h2.2 HO.out hn).mono ?_; rintro e w1 ⟨g, cap, rfl, hg, hR, hB⟩; have z1 := z0.below hB z0.lt; have hg2 : w.heap.size < g := (by simp at hg; omega))
  go_ret
  exact ⟨w1.heap.size, g, cap, rfl, Blk.new w1 99 _, z1.alloc _, z1.lt, hg2, hR.below (one_box w1 _) hR.lt, ((one_box w (.cells #[.pointer (some ⟨B, 0, none⟩)] 44)).trans (hB.mono (by simp))).alloc (by have := z1.lt; omega) _⟩
end Go.Proofs.Ytoloccoodnbbdaa
