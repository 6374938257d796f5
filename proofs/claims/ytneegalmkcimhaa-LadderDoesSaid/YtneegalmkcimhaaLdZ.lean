/- crierlaw08.LadderDoes answers true at every input, and what it was given reads as it did. No condition. -/
import Derived.Test.YtneegalmkcimhaaRows
import Derived.Test.YtneegalmkcimhaaLdR
import Derived.ProofKit
import Derived.ChangeSlices
import Derived.Deep.Slices
namespace Go.Proofs.Ytneegalmkcimhaa
open Go.ChangeShapes Go.WideShapes Go.ChangeAt Go.RowKit Go.Deep

theorem ladderOwn : ownKnob Try.prog.godebug = none := by kernel_rfl
theorem ladderLaidOut : laidOutB Try.prog = true := by kernel_rfl
theorem ladderCells3 : Try.prog.cellsOf 3 = 1 := by kernel_rfl
theorem ladderCells35 : Try.prog.cellsOf 35 = 3 := by kernel_rfl

set_option maxRecDepth 100000 in
/-- One act's cells. -/
theorem act_cells {H : Type} {enc : TypeId × Value → H} {w : World} {base : Nat} {spare : Nat → Bool} {held : Bool} {n : Nat} {a : Addr} {cs : List Value} {x : DataW H × List MemPlace}
    (h1 : w.cells? base a 3 = some cs) (h2 : DataW.trod enc Try.prog w base spare held n 35 cs = some x) :
    ∃ y : Int × Int × Int, w.cell? (a.add 0) = some (.int .i64 y.1) ∧ w.cell? (a.add 1) = some (.int .i64 y.2.1) ∧ w.cell? (a.add 2) = some (.int .i64 y.2.2) := by
  obtain ⟨_, hlen, hcell⟩ := World.cells?_some h1
  obtain ⟨xs, k, _, _, _, hxl, hf⟩ := DataW.trod_struct Try.underlying35 h2
  match xs, hxl, cs, hlen with
  | [y0, y1, y2], _, [v0, v1, v2], _ =>
    have g0 := hf 0 _ rfl
    have g1 := hf 1 _ rfl
    have g2 := hf 2 _ rfl
    simp [ladderCells3] at g0 g1 g2
    obtain ⟨n0, e0, _, _⟩ := DataW.trod_int Try.underlying3 g0
    obtain ⟨n1, e1, _, _⟩ := DataW.trod_int Try.underlying3 g1
    obtain ⟨n2, e2, _, _⟩ := DataW.trod_int Try.underlying3 g2
    simp at e0 e1 e2
    subst e0 e1 e2
    exact ⟨(n0, n1, n2), hcell 0 (by omega), hcell 1 (by omega), hcell 2 (by omega)⟩

/-- A slice of acts, opened. -/
theorem acts_open {H : Type} {enc : TypeId × Value → H} {w : World} {base : Nat} {held : Bool} {fuel : Nat} {v : Value} {x : DataW H × List MemPlace} (hv : ∃ a len cap, v = .slice a len cap)
    (h : DataW.trod enc Try.prog w base (fun _ => true) held fuel 23 v.cells.toList = some x) : ∃ L : List (Int × Int × Int), L.length < 2 ^ 63 ∧ AI w v L := by
  obtain ⟨a0, l0, c0, rfl⟩ := hv
  rcases open_slice Try.underlying23 h with ⟨hcs, _⟩ | ⟨a, len, cap, m, n, D, Pl, hcs, _, hl, hm, hmm, _, hx⟩
  · simp [Value.cells] at hcs
    obtain ⟨rfl, rfl, rfl⟩ := hcs
    exact ⟨[], by decide, none, 0, rfl, fun _ => rfl, fun g e => by cases e⟩
  · simp [Value.cells] at hcs
    obtain ⟨rfl, rfl, rfl⟩ := hcs
    simp only [if_true] at hmm
    subst hmm
    rw [ladderCells35] at hx
    have each : ∀ i, i < l0 → ∃ y : Int × Int × Int, w.cell? (a.add (i * 3)) = some (.int .i64 y.1) ∧ w.cell? (a.add (i * 3 + 1)) = some (.int .i64 y.2.1) ∧ w.cell? (a.add (i * 3 + 2)) = some (.int .i64 y.2.2) := by
      intro i hi
      obtain ⟨cs', h1, h2⟩ := hx i (by omega)
      obtain ⟨y, e0, e1, e2⟩ := act_cells h1 h2
      rw [add_add] at e0 e1 e2
      exact ⟨y, e0, e1, e2⟩
    obtain ⟨f, hf⟩ := choose_lt each
    refine ⟨(List.range l0).map f, ?_, some a, m, ?_, fun e => by (cases e), ?_⟩
    · simp
      have := hm
      simp [maxLen] at this
      omega
    · simp
    · intro g hg
      cases hg
      intro j hj
      have hj' : j < l0 := by simpa using hj
      obtain ⟨b, off, spot⟩ := a
      have hspot : spot = none := by simpa [Addr.add] using World.cell?_spot (hf 0 (by omega)).1
      subst hspot
      refine ⟨rfl, f j, by simp [hj'], ?_⟩
      obtain ⟨e0, e1, e2⟩ := hf j hj'
      rw [add_plain] at e0 e1 e2
      exact ⟨e0, e1, e2⟩

set_option maxRecDepth 100000 in
theorem ladderDoes_lifted (os : Os) (started : os.Started) (H : Type) (enc : TypeId × Value → H) :
    ReturnsInHanded {} Try.checked os 3 .any (Rows.ladderDoesSpec.pre6 enc Try.prog Try.f3 Rows.ladderDoesRow.domain false) (Rows.ladderDoesSpec.post enc Try.prog Try.f3 false true false false) := by
  refine returnsInHanded_of_change (C := Try.checked) ladderOwn started (by kernel_rfl) Try.func3
    (ChangeSpec.witness6 (enc := enc) (C := Try.checked) false ⟨#[], #[.int .u32 0, .int .u32 0, .slice none 0 0], []⟩ 8 (by kernel_rfl) (by kernel_rfl) (by kernel_rfl) (by kernel_rfl)) ?_
  intro W base args ds gs before hval0 hW hcnd _
  have hval : ∀ (j : Nat) t v, Try.f3.params[j]? = some t → args[j]? = some v → Value.okWide Try.prog W .any base t v := hval0
  have hW' := hW
  obtain ⟨p, q, hA0, hV, rfl, _, _⟩ := hW
  have hA : DataW.TrodAll enc Try.prog W 0 (fun _ => true) true Try.f3.params.toList args.toList ds p := hA0
  rw [Try.params3] at hA hval
  obtain ⟨v0, v1, v2, d0, d1, d2, p0, p1, p2, rfl, rfl, rfl, h0, h1, h2⟩ := trodAll_three hA
  obtain ⟨rfl, rfl⟩ := trodVars_none hV
  obtain ⟨a, rfl, rfl, rfl, wa⟩ := open_int Try.underlying22 (hval 0 22 v0 rfl rfl) h0
  obtain ⟨b, rfl, rfl, rfl, wb⟩ := open_int Try.underlying22 (hval 1 22 v1 rfl rfl) h1
  clear hA0 hval0
  simp only [List.append_nil, List.nil_append] at hW'
  have hlt : ∀ x ∈ p2, x.block < W.heap.size := fun x hx => by simpa using hW'.lt x hx
  have h2k := h2
  obtain ⟨fuel, hf⟩ := h2
  obtain ⟨L, hL, hAI⟩ := acts_open (okWide_slice Try.underlying23 (hval 2 23 v2 rfl rfl)) hf
  obtain ⟨a0, a1⟩ : IntKind.u32.min ≤ a ∧ a ≤ IntKind.u32.max := by simpa [Lit.wf] using wa
  rw [show IntKind.u32.min = 0 by decide] at a0
  rw [show IntKind.u32.max = 4294967295 by decide] at a1
  obtain ⟨b0, b1⟩ : IntKind.u32.min ≤ b ∧ b ≤ IntKind.u32.max := by simpa [Lit.wf] using wb
  rw [show IntKind.u32.min = 0 by decide] at b0
  rw [show IntKind.u32.max = 4294967295 by decide] at b1
  obtain ⟨a', rfl⟩ := Int.eq_ofNat_of_zero_le a0
  obtain ⟨b', rfl⟩ := Int.eq_ofNat_of_zero_le b0
  refine (ladderDoes_any a' b' (by omega) (by omega) L hL v2 W hAI).mono fun e W' ⟨he, hB⟩ => ?_
  subst he
  exact ⟨_, rfl, ⟨_, _, _, [], _, [], hW', trodAll_mk1 (shut_bool Try.underlying4 true), trodAll_mk3 (shut_int Try.underlying22 wa) (shut_int Try.underlying22 wb) (Below.trod ladderLaidOut (by kernel_rfl) (of_decide_eq_true (by kernel_rfl)) h2k hB hlt), rfl, hB.frame _, fun h => by cases h⟩⟩

theorem ladderDoes_holds : Rows.LadderDoesSaid :=
  OpenClaim.holds_of_wide 3 Try.f3 rfl rfl rfl rfl rfl rfl rfl ⟨rfl, rfl, rfl, rfl, rfl⟩ rfl rfl rfl rfl rfl (by kernel_rfl) Try.func3 (by kernel_rfl)
    (of_decide_eq_true (by kernel_rfl)) (by unfold Func.isWrapper; first | (rw [if_pos (by decide +kernel)]; kernel_rfl) | (rw [if_neg (by decide +kernel)]; exact ⟨rfl, rfl⟩))
    (fun os started H enc _ => ladderDoes_lifted os started H enc)
#print axioms ladderDoes_holds
end Go.Proofs.Ytneegalmkcimhaa
