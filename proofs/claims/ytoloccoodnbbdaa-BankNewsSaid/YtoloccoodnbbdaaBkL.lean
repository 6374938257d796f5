/- Banks: which is taken first. -/
import Derived.RangeFuncNested
import Derived.RangeFuncBound
import Derived.RangeFuncCalls
import Derived.RangeFuncLeaves
import Derived.Shelf.Abstract
import Derived.Shelf.RegionOpen
import Derived.WalkKit
import Derived.OwnWalkIn
import Derived.TacticsInMore
import Derived.LoopNIn
import Derived.LoopIn
import Derived.WalkSpells
import Derived.WalkLawsBesides
import Derived.Deep.QuietTactic
import Derived.BigQuiet
import Derived.Lib.Hide
import Derived.RangeFuncWrites
import Derived.Laws.EntriesVeiled
import Derived.Deep.WholeRow
import Derived.Deep.Onto
import Derived.Laws.Rows
import Derived.Laws.Tables
import Derived.Test.YtoloccoodnbbdaaBkK
namespace Go.Proofs.Ytoloccoodnbbdaa
open Go.RowKit Go.Shelf
attribute [local go_sem] Oper.semAt_some

theorem own_heap {β : Type} (N b : Nat) (o : Obj) (hb : b < N) : OwnFrom N (fun (_ : β) W => W.heap[b]? = some o) := fun _ X Y row hs hg hr =>
  (hg.block b (Array.getElem?_eq_some_iff.1 hs).1 (fun e => by have := (hr b e.symm).1; omega)).trans hs

/-- What Best has taken, some rounds having been. -/
def cand (k : Nat) : Array Value := if k = 0 then #[.int .i64 0, .int .i64 0, .int .i64 0, .bool false] else #[.int .i64 32, .int .i64 160, .int .i64 1, .bool true]
def BestJ (w : World) (l d : Nat) (rc : Loop) (k : Nat) (W : World) : Prop :=
  Blk W (w.heap.size + 1) 93 (cand k) ∧ Blk W w.heap.size 93 #[.int .i64 0, .int .i64 0, .int .i64 0, .bool false] ∧ W.heap[l]? = some (.loop rc) ∧ W.heap[d]? = some (.deferred (some [])) ∧ Below w.heap.size w W
theorem bestJ_own (w : World) (l d N : Nat) (rc : Loop) (hl : l < N) (hd : d < N) (hw : w.heap.size ≤ N) : OwnFrom N (BestJ w l d rc) :=
  OwnFrom.and (Own.from (blk_own _ _ cand) _) (OwnFrom.and (Own.from (blk_own _ _ (fun _ => #[.int .i64 0, .int .i64 0, .int .i64 0, .bool false])) _) (OwnFrom.and (own_heap N l _ hl) (OwnFrom.and (own_heap N d _ hd) (ownFrom_below (Nat.le_refl _) hw))))

set_option maxHeartbeats 1000000 in
theorem range_open {P : Program} (n : Nat) {g : Operand} {ps : Array Tmp} {assign body : Code} {Q : Exit → Act → World → Prop} {a : Act} {w : World} {gf : Nat} {lb : Array Value} (hg : a.eval g = .func (.func gf) #[] lb) (eg : ∀ args w, (callFunc gf args).run P w = .ok (.enter gf args) w)
    (h : ∀ rc : Loop, rc.state = .ready → rc.pending = none → rc.tmps = a.tmps → rc.params = ps → rc.assign = assign → rc.body = body → rc.defers = w.heap.size →
      Calls P gf (#[.func (.yield (w.heap.size + 1)) #[] #[]] ++ lb) ((w.alloc (.deferred (some []))).alloc (.loop rc)) (rangePost Fence.wide n P (w.heap.size + 1) Q { a with defers := { target := .collected w.heap.size, args := #[] } :: a.defers })) :
    (Code.rangeFunc g ps assign body).wpIn Fence.wide n P Q a w := by
  refine wpIn_rangeFunc fun fn _ => ?_
  obtain ⟨rc, hrc⟩ : ∃ rc : Loop, { state := .ready, pending := none, fn, tmps := a.tmps, params := ps, assign, body, defers := w.heap.size } = rc := ⟨_, rfl⟩
  have hcall := h rc (by rw [← hrc]) (by rw [← hrc]) (by rw [← hrc]) (by rw [← hrc]) (by rw [← hrc]) (by rw [← hrc]) (by rw [← hrc])
  have e1 : (Instr.enterLoop fn a.tmps ps assign body Fence.wide.round).run P w = .ok (w.heap.size + 1, [{ target := .collected w.heap.size, args := #[] }]) ((w.alloc (.deferred (some []))).alloc (.loop rc)) := by
    rw [← hrc]
    exact run_enterLoop_outer _ _ _ _ _
  have e2 : (resolve a.eval (rangeCall g (w.heap.size + 1)) 0).run P ((w.alloc (.deferred (some []))).alloc (.loop rc)) = .ok { target := .fn (.func gf) lb, args := #[.func (.yield (w.heap.size + 1)) #[] #[]] } ((w.alloc (.deferred (some []))).alloc (.loop rc)) := by
    simp only [resolve, hg]
    simp [go_sem]
  have e3 : (invoke (.fn (.func gf) lb) #[.func (.yield (w.heap.size + 1)) #[] #[]]).run P ((w.alloc (.deferred (some []))).alloc (.loop rc)) = .ok (.enter gf (#[.func (.yield (w.heap.size + 1)) #[] #[]] ++ lb)) ((w.alloc (.deferred (some []))).alloc (.loop rc)) := by
    simp [invoke, go_sem, eg]
  clear hrc eg
  exact ⟨_, _, _, _, _, _, _, _, e1, e2, fun _ _ => trivial, e3, fun e => (by cases e), callsIn_wide.2 hcall⟩
theorem fx_put (l C : Nat) (W : World) (o : Obj) : FrameEx l C W (W.putObj l o) := ⟨by simp [World.putObj], fun b _ h1 _ => World.putObj_heap_other h1⟩
theorem fx_row (l C : Nat) (W : World) (D : Array Value) : FrameEx l C W (W.setRow C D) := ⟨by rw [setRow_size]; exact Nat.le_refl _, fun b _ _ h2 => setRow_other W C b D h2⟩
def RPost (l : Nat) (rb rc : Loop) (R : World → Prop) (e : Exit) (_ : Act) (w₃ : World) : Prop := e = .normal ∧ w₃.heap[l]? = some (.loop rb) ∧ R (w₃.putObj l (.loop rc))
theorem RPost.mk {l : Nat} {rb rc : Loop} {R : World → Prop} {a : Act} {w₃ : World} (h1 : w₃.heap[l]? = some (.loop rb)) (h2 : R (w₃.putObj l (.loop rc))) : RPost l rb rc R .normal a w₃ := ⟨rfl, h1, h2⟩
theorem round_open {P : Program} {m l : Nat} {rc : Loop} {W : World} {ar : Array Value} {R : World → Prop} (hl : W.heap[l]? = some (.loop rc)) (hs : ar.size = rc.params.size) (hst : rc.state = .ready) (hpe : rc.pending = none)
    (h : ∀ rb : Loop, rc.assign.wpIn (Fence.wide.inRound l) m P (Exit.then (fun a₁ w₁ => w₁.heap[l]? = some (.loop rc) ∧ rc.body.wpIn (Fence.wide.inRound l) m P (RPost l rb rc R) a₁ (w₁.putObj l (.loop rb))) (fun _ _ _ => False))
      { tmps := (rc.params.zip ar).foldl (fun tmps (t, a) => tmps.setIfInBounds t a) rc.tmps, defers := [] } W) :
    YieldAt Fence.wide m P l ar W fun e W' => e = .returned (.bool true) ∧ R W' := by
  refine ⟨rc.fn, _, rc.assign, rc.body, run_yield hl hs, roundIn_of_wpIn trivial (wpIn_mono (h { rc with state := .busy }) ?_)⟩
  intro e a₁ w₁ hq
  cases e with
  | normal =>
    obtain ⟨h1, h2⟩ := hq
    refine ⟨_, run_beginRound h1 hst, wpIn_mono h2 ?_⟩
    rintro e2 a2 w2 ⟨rfl, h3, h4⟩
    have hrc : ({ ({ rc with state := .busy } : Loop) with state := if (none : Option Code).isNone then .ready else .done, pending := none } : Loop) = rc := by
      cases rc
      simp at hst hpe
      subst hst hpe
      rfl
    have h5 := run_endRound (P := P) none h3
    rw [hrc] at h5
    exact ⟨_, _, h5, rfl, h4⟩
  | _ => exact hq.elim

set_option maxRecDepth 100000 in
set_option maxHeartbeats 2000000 in
theorem best_ready (P1 gr G g T cap B D : Nat) (w : World) (hP : Blk w P1 96 #[.func (.func 58) #[] #[.pointer (some ⟨G, 0, none⟩), .pointer (some ⟨T, 0, none⟩)]]) (hgr : Blk w gr 98 #[.bool true, .bool true])
    (hG : Blk w G 99 #[.slice (some ⟨g, 0, none⟩) 2 cap]) (hT : Blk w T 44 #[.pointer (some ⟨B, 0, none⟩)]) (hB : Blk w B 101 #[.int .i64 32, .slice (some ⟨D, 0, none⟩) 2 2]) (hR : RowB w g 56 8 2 fA) :
    Calls Try.prog 40 #[.func (.func 55) #[] #[.pointer (some ⟨P1, 0, none⟩), .pointer (some ⟨gr, 0, none⟩)]] w fun e w' => e = .returned (.agg #[.int .i64 32, .int .i64 160, .int .i64 1, .bool true]) ∧ Below w.heap.size w w' := by
  refine (callsIn_wide (n := 9)).1 ?_
  refine callsIn_of_wp_marks Try.func40 rfl trivial ?_ rfl
  simp only [Try.ntmps40, List.size_toArray, List.length_cons, List.length_nil, Nat.reduceAdd, Nat.reduceSub, Array.replicate_succ, Array.replicate_zero, List.push_toArray, List.append_toArray, List.nil_append, List.cons_append]
  obtain ⟨W0, hW0⟩ : ∃ W0, (w.alloc (.cells #[.int .i64 0, .int .i64 0, .int .i64 0, .bool false] 93)).alloc (.cells #[.int .i64 0, .int .i64 0, .int .i64 0, .bool false] 93) = W0 := ⟨_, rfl⟩
  have hB0 : Below w.heap.size w W0 := by rw [← hW0]; exact (one_box w _).alloc (by simp) _
  have hsz : W0.heap.size = w.heap.size + 2 := by rw [← hW0]; simp
  have k0 : Blk W0 w.heap.size 93 #[.int .i64 0, .int .i64 0, .int .i64 0, .bool false] := by rw [← hW0]; exact (Blk.new w 93 #[.int .i64 0, .int .i64 0, .int .i64 0, .bool false]).alloc _
  have k1 : Blk W0 (w.heap.size + 1) 93 #[.int .i64 0, .int .i64 0, .int .i64 0, .bool false] := by rw [← hW0]; have := Blk.new (w.alloc (.cells #[.int .i64 0, .int .i64 0, .int .i64 0, .bool false] 93)) 93 #[.int .i64 0, .int .i64 0, .int .i64 0, .bool false]; simpa using this
  have HW0 := Lib.hid hW0
  clear hW0
  gi_wp2
  rw [HW0.out]
  have HS := Lib.hid hsz
  clear hsz
  refine range_open 9 (gf := 55) (lb := #[.pointer (some ⟨P1, 0, none⟩), .pointer (some ⟨gr, 0, none⟩)]) rfl (enters_of Try.func55 (by kernel_rfl) rfl) ?_
  intro rc hst hpe htm hps has hbd hdf
  obtain ⟨W1, hW1⟩ : ∃ W1, (W0.alloc (.deferred (some []))).alloc (.loop rc) = W1 := ⟨_, rfl⟩
  have b1 : Below W0.heap.size W0 W1 := by rw [← hW1]; exact (one_box _ _).alloc (by simp) _
  have s1 : W1.heap.size = W0.heap.size + 2 := by rw [← hW1]; simp
  have l1 : W1.heap[W0.heap.size + 1]? = some (.loop rc) := by rw [← hW1]; have := World.alloc_heap_new (W0.alloc (.deferred (some []))) (.loop rc); rwa [World.size_alloc] at this
  have d1 : W1.heap[W0.heap.size]? = some (.deferred (some [])) := by rw [← hW1]; exact (Below.heap_alloc _ _ _ (by simp)).trans (World.alloc_heap_new W0 _)
  rw [hW1]
  clear hW1
  have hsz := HS.out
  have lP := hP.lt
  have lgr := hgr.lt
  have lG := hG.lt
  have lT := hT.lt
  have lB := hB.lt
  have lR := hR.lt
  have w01 : Below w.heap.size w W1 := hB0.trans (b1.mono hB0.size)
  refine (ready1_in (W0.heap.size + 1) (w.heap.size + 1) (BestJ w (W0.heap.size + 1) W0.heap.size rc) P1 gr G g T cap B D W1 (hP.below w01 hP.lt) (hgr.below w01 hgr.lt) (hG.below w01 hG.lt) (hT.below w01 hT.lt) (hB.below w01 hB.lt) (hR.below w01 hR.lt) (by omega) (by omega) (by refine ⟨?_, ?_, ?_, ?_, ?_⟩ <;> omega) (by refine ⟨?_, ?_, ?_, ?_, ?_⟩ <;> omega)
    (bestJ_own _ _ _ _ _ (by omega) (by omega) (by omega)) ?round ⟨k1.below b1 k1.lt, k0.below b1 k0.lt, l1, d1, w01⟩).mono ?after
  case round =>
    rintro k V ⟨jc, jz, jl, jd, jB⟩ hk
    refine round_open jl (by rw [hps]; rfl) hst hpe ?_
    intro rb
    rw [has, hbd, hps, htm]
    clear hst hpe htm hps has hbd hdf hsz
    have hlz : w.heap.size ≤ W0.heap.size + 1 := by have := HS.out; omega
    have hlV : W0.heap.size + 1 < V.heap.size := (Array.getElem?_eq_some_iff.1 jl).1
    have jl1 : (V.alloc (.cells #[.bool false, .bool false, .bool true, .bool false, .bool true, .int .i64 1, .int .i64 160, .string ⟨#[]⟩] 56)).heap[W0.heap.size + 1]? = some (.loop rc) := (heap_alloc_old V _ _ hlV).trans jl
    have jd1 : (V.alloc (.cells #[.bool false, .bool false, .bool true, .bool false, .bool true, .int .i64 1, .int .i64 160, .string ⟨#[]⟩] 56)).heap[W0.heap.size]? = some (.deferred (some [])) := (heap_alloc_old V _ _ (by omega)).trans jd
    have bE := (Blk.new V 56 #[.bool false, .bool false, .bool true, .bool false, .bool true, .int .i64 1, .int .i64 160, .string ⟨#[]⟩]).put (.loop rb) jl1 rfl
    have bz := (jz.alloc (.cells #[.bool false, .bool false, .bool true, .bool false, .bool true, .int .i64 1, .int .i64 160, .string ⟨#[]⟩] 56)).put (.loop rb) jl1 rfl
    have bc := (jc.alloc (.cells #[.bool false, .bool false, .bool true, .bool false, .bool true, .int .i64 1, .int .i64 160, .string ⟨#[]⟩] 56)).put (.loop rb) jl1 rfl
    have B2 : Below w.heap.size w ((V.alloc (.cells #[.bool false, .bool false, .bool true, .bool false, .bool true, .int .i64 1, .int .i64 160, .string ⟨#[]⟩] 56)).putObj (W0.heap.size + 1) (.loop rb)) := (jB.alloc jB.size (.cells #[.bool false, .bool false, .bool true, .bool false, .bool true, .int .i64 1, .int .i64 160, .string ⟨#[]⟩] 56)).trans (belowK_b (w := w) (Nat.le_refl _) _ _ _ _ hlz jl1 rfl rfl)
    have F2 : FrameEx (W0.heap.size + 1) (w.heap.size + 1) V ((V.alloc (.cells #[.bool false, .bool false, .bool true, .bool false, .bool true, .int .i64 1, .int .i64 160, .string ⟨#[]⟩] 56)).putObj (W0.heap.size + 1) (.loop rb)) := (FrameEx.of_below (one_box V _)).trans (fx_put _ _ _ _)
    have jl2 : ((V.alloc (.cells #[.bool false, .bool false, .bool true, .bool false, .bool true, .int .i64 1, .int .i64 160, .string ⟨#[]⟩] 56)).putObj (W0.heap.size + 1) (.loop rb)).heap[W0.heap.size + 1]? = some (.loop rb) := World.putObj_heap_same (by simp; omega)
    have jd2 : ((V.alloc (.cells #[.bool false, .bool false, .bool true, .bool false, .bool true, .int .i64 1, .int .i64 160, .string ⟨#[]⟩] 56)).putObj (W0.heap.size + 1) (.loop rb)).heap[W0.heap.size]? = some (.deferred (some [])) := (World.putObj_heap_other (by omega)).trans jd1
    have HJ1 := Lib.hid jl1
    clear jl1 jd1
    obtain ⟨L, hL⟩ : ∃ L, W0.heap.size + 1 = L := ⟨_, rfl⟩
    rw [hL] at jl2 jd2 F2 B2 bE bz bc HJ1 hlz hlV jl ⊢
    have HL := Lib.hid hL
    clear hL
    have hk2 : k = 0 ∨ k = 1 := by omega
    rcases hk2 with rfl | rfl
    · gi_wp2
      refine ⟨HJ1.out, ?_⟩
      generalize (V.alloc (.cells #[.bool false, .bool false, .bool true, .bool false, .bool true, .int .i64 1, .int .i64 160, .string ⟨#[]⟩] 56)).putObj L (.loop rb) = W2 at bE bz bc B2 F2 jl2 jd2 ⊢
      replace bc : Blk W2 (w.heap.size + 1) 93 #[.int .i64 0, .int .i64 0, .int .i64 0, .bool false] := bc
      have c3 := bc.cell 3
      have g5 := bE.cell 5
      have g6 := bE.cell 6
      gi_wp2
      refine ⟨trivial, ?_⟩
      gi_wp2_with (refine wpListIn_store_row rfl 93 _ _ rfl (w.heap.size + 1) #[.int .i64 32, .int .i64 160, .int .i64 1, .bool true] rfl rfl 93 _ bc (by kernel_rfl) rfl (by simp [Value.oneCell']) ?_)
      have hL1 := HL.out
      have hsz := HS.out
      have jl3 : (W2.setRow (w.heap.size + 1) #[.int .i64 32, .int .i64 160, .int .i64 1, .bool true]).heap[L]? = some (.loop rb) := (setRow_other W2 (w.heap.size + 1) L #[.int .i64 32, .int .i64 160, .int .i64 1, .bool true] (by omega)).trans jl2
      have jd3 : (W2.setRow (w.heap.size + 1) #[.int .i64 32, .int .i64 160, .int .i64 1, .bool true]).heap[W0.heap.size]? = some (.deferred (some [])) := (setRow_other W2 (w.heap.size + 1) W0.heap.size #[.int .i64 32, .int .i64 160, .int .i64 1, .bool true] (by omega)).trans jd2
      have hlW : L < (W2.setRow (w.heap.size + 1) #[.int .i64 32, .int .i64 160, .int .i64 1, .bool true]).heap.size := (Array.getElem?_eq_some_iff.1 jl3).1
      refine RPost.mk jl3 ⟨⟨(bc.row #[.int .i64 32, .int .i64 160, .int .i64 1, .bool true]).put (.loop rc) jl3 rfl, (bz.row_other _ #[.int .i64 32, .int .i64 160, .int .i64 1, .bool true] (by omega)).put (.loop rc) jl3 rfl, World.putObj_heap_same hlW, (World.putObj_heap_other (by omega)).trans jd3, ?_⟩, (F2.trans (fx_row _ _ _ _)).trans (fx_put _ _ _ _)⟩
      exact (below_setRow B2 (by omega) #[.int .i64 32, .int .i64 160, .int .i64 1, .bool true]).trans (belowK_b (w := w) (Nat.le_refl _) _ _ _ _ hlz jl3 rfl rfl)
    · gi_wp2
      refine ⟨HJ1.out, ?_⟩
      generalize (V.alloc (.cells #[.bool false, .bool false, .bool true, .bool false, .bool true, .int .i64 1, .int .i64 160, .string ⟨#[]⟩] 56)).putObj L (.loop rb) = W2 at bE bz bc B2 F2 jl2 jd2 ⊢
      replace bc : Blk W2 (w.heap.size + 1) 93 #[.int .i64 32, .int .i64 160, .int .i64 1, .bool true] := bc
      have c0 := bc.cell 0
      have c1 := bc.cell 1
      have c3 := bc.cell 3
      have g6 := bE.cell 6
      gi_wp2
      refine ⟨trivial, rfl, (CallsIn.inRound L (callsIn_wide.2 (before_no _))).mono ?_⟩
      rintro e V2 ⟨rfl, rfl⟩
      gi_wp2
      have hL1 := HL.out
      have hsz := HS.out
      have hlW : L < W2.heap.size := (Array.getElem?_eq_some_iff.1 jl2).1
      refine RPost.mk jl2 ⟨⟨bc.put (.loop rc) jl2 rfl, bz.put (.loop rc) jl2 rfl, World.putObj_heap_same hlW, (World.putObj_heap_other (by omega)).trans jd2, ?_⟩, F2.trans (fx_put _ _ _ _)⟩
      exact B2.trans (belowK_b (w := w) (Nat.le_refl _) _ _ _ _ hlz jl2 rfl rfl)
  case after =>
    rintro e V ⟨⟨v, rfl⟩, jc, jz, jl, jd, jB⟩
    obtain ⟨rx, he⟩ : ∃ rx, (Instr.endLoop (W0.heap.size + 1)).run Try.prog V = .ok none (V.putObj (W0.heap.size + 1) (.loop rx)) := ⟨_, by have := run_endLoop (P := Try.prog) jl (by rw [hst]; simp); rw [hpe] at this; exact this⟩
    refine ⟨none, _, he, ?_⟩
    dsimp only
    clear he hst hpe htm hps has hbd hdf
    have hlz : w.heap.size ≤ W0.heap.size + 1 := by omega
    have q1 : Blk (V.putObj (W0.heap.size + 1) (.loop rx)) (w.heap.size + 1) 93 #[.int .i64 32, .int .i64 160, .int .i64 1, .bool true] := jc.put (.loop rx) jl rfl
    have q0 := jz.put (.loop rx) jl rfl
    have qd : (V.putObj (W0.heap.size + 1) (.loop rx)).heap[W0.heap.size]? = some (.deferred (some [])) := (World.putObj_heap_other (by omega)).trans jd
    have B4 : Below w.heap.size w (V.putObj (W0.heap.size + 1) (.loop rx)) := jB.trans (belowK_b (w := w) (Nat.le_refl _) _ _ _ _ hlz jl rfl rfl)
    generalize V.putObj (W0.heap.size + 1) (.loop rx) = W4 at q1 q0 qd B4 ⊢
    have hDd : w.heap.size ≤ W0.heap.size := by omega
    clear jc jz jl jd jB hlz hsz s1 l1 d1 k0 k1
    gi_wp2_with (first | (refine wpListIn_load_row rfl 93 _ rfl (w.heap.size + 1) rfl 93 _ (0, 0) _ q1 Try.underlying93 rfl (by kernel_rfl) ?_) | (refine wpListIn_store_row rfl 93 _ _ rfl w.heap.size #[.int .i64 32, .int .i64 160, .int .i64 1, .bool true] rfl rfl 93 _ q0 (by kernel_rfl) rfl (by simp [Value.oneCell']) ?_))
    have hK' := (KeepsOthers.setRow W4 w.heap.size #[.int .i64 32, .int .i64 160, .int .i64 1, .bool true] q0).same W0.heap.size _ qd rfl
    have hB' := below_setRow B4 (Nat.le_refl w.heap.size) #[.int .i64 32, .int .i64 160, .int .i64 1, .bool true]
    refine ⟨by simp, .inl ⟨_, _, rfl, run_takeDeferred hK', ?_⟩⟩
    have hd2 := (q0.row #[.int .i64 32, .int .i64 160, .int .i64 1, .bool true]).put (.deferred none) hK' rfl
    exact ⟨_, results_cell_row (fn := Try.f40) rfl _ _ w.heap.size 93 #[.int .i64 32, .int .i64 160, .int .i64 1, .bool true] (0, 0) _ rfl hd2 Try.underlying93 rfl (by kernel_rfl), rfl, hB'.trans (belowK_b (w := w) (Nat.le_refl _) _ W0.heap.size _ _ hDd hK' rfl rfl)⟩
end Go.Proofs.Ytoloccoodnbbdaa
