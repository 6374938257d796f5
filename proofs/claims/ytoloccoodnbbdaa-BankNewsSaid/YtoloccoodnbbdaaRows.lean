/-
  No cell of these rows narrows 'for every input' (looked for: loops, veiled, ifaces, maps, wideKeys, modest, calm, conditions, laid).
  DERIVED. THE GIVEN ROWS OF THIS SEAT. 3 by the template 'for every input the law returns true; each argument reads behind the call as it read before'; 0 by the template 'total and deterministic' (their statements: YtoloccoodnbbdaaTotals.lean).
  GIVEN WITH THE SEED: the statements are not yours to turn. If you find one false, say at which input.
  Laid BY PROGRAM, IN A SANDBOX (cutbox-rows.mjs): the forced cells as the released guide's own fill.sh prints them over the translation dc1f16f2f8045f6f… (all of the seat's roots in one cut). By AI agents, Wed Nov 11 2026. No macro, syntax, notation, axiom, sorry.
-/
import Derived.Test.YtoloccoodnbbdaaChecked
import GoSem.Claim
import GoSem.ClaimJoined
import GoSem.ClaimMapViews
import Derived.JoinedTies
import Derived.KernelRfl
namespace Go.Proofs.Ytoloccoodnbbdaa
/- THE CELL 'sum', in the pinned program and in every row, IS THE sha256 OF THE DUMP (.gsa) THAT YtoloccoodnbbdaaProg.lean LOADS. Nothing in Lean hashes anything: it is a label: what it is worth is what the hold of that sum in a sandbox is worth. -/
noncomputable def Try.pinned : Pinned := { name := "ytoloccoodnbbdaa", sum := "dc1f16f2f8045f6f99bf8978ef3f829199e3718b8e4812ad7803c1ffff610581", checked := Try.checked }
namespace Rows
def none {H : Type} : Left H := { results := [], args := [] }

/-- 'crierlaw08.LadderDoes': WHATEVER THE INPUT: true; the input reads as it did. -/
def ladderDoesSpec : ChangeSpec := { name := "ladderDoes", fn := fun _ => fun
  | [d1, d2, d3] => { results := [.lit (.bool true)], args := [d1, d2, d3] }
  | _ => none }
def ladderDoesRow : OpenClaim := { program := "ytoloccoodnbbdaa", sum := "dc1f16f2f8045f6f99bf8978ef3f829199e3718b8e4812ad7803c1ffff610581", func := "crier/crierlaw08.LadderDoes", spec := "ladderDoes", unfollowed := true, recurses := true, apart := false }
def LadderDoesSaid : Prop := ladderDoesRow.holds Try.pinned (OpenSpec.ofChange ladderDoesSpec)

/-- ITS FALSE NEIGHBOUR: 'it returns false'. Refute it at one input. -/
def ladderDoesWrong : ChangeSpec := { name := "ladderDoes", fn := fun _ => fun
  | [d1, d2, d3] => { results := [.lit (.bool false)], args := [d1, d2, d3] }
  | _ => none }
def LadderDoesWrongFalsely : Prop := ladderDoesRow.holds Try.pinned (OpenSpec.ofChange ladderDoesWrong)

/-- 'crierlaw09.BankNews': WHATEVER THE INPUT: true; the input reads as it did. -/
def bankNewsSpec : ChangeSpec := { name := "bankNews", fn := fun _ => fun
  | [d1, d2, d3, d4] => { results := [.lit (.bool true)], args := [d1, d2, d3, d4] }
  | _ => none }
def bankNewsRow : OpenClaim := { program := "ytoloccoodnbbdaa", sum := "dc1f16f2f8045f6f99bf8978ef3f829199e3718b8e4812ad7803c1ffff610581", func := "crier/crierlaw09.BankNews", spec := "bankNews", unfollowed := true, recurses := true, apart := false }
def BankNewsSaid : Prop := bankNewsRow.holds Try.pinned (OpenSpec.ofChange bankNewsSpec)

/-- ITS FALSE NEIGHBOUR: 'it returns false'. Refute it at one input. -/
def bankNewsWrong : ChangeSpec := { name := "bankNews", fn := fun _ => fun
  | [d1, d2, d3, d4] => { results := [.lit (.bool false)], args := [d1, d2, d3, d4] }
  | _ => none }
def BankNewsWrongFalsely : Prop := bankNewsRow.holds Try.pinned (OpenSpec.ofChange bankNewsWrong)

/-- 'crierlaw20.LrNumbers': WHATEVER THE INPUT: true; the input reads as it did. -/
def lrNumbersSpec : ChangeSpec := { name := "lrNumbers", fn := fun _ => fun
  | [d1, d2] => { results := [.lit (.bool true)], args := [d1, d2] }
  | _ => none }
def lrNumbersRow : OpenClaim := { program := "ytoloccoodnbbdaa", sum := "dc1f16f2f8045f6f99bf8978ef3f829199e3718b8e4812ad7803c1ffff610581", func := "crier/crierlaw20.LrNumbers", spec := "lrNumbers", unfollowed := true, recurses := true, apart := false }
def LrNumbersSaid : Prop := lrNumbersRow.holds Try.pinned (OpenSpec.ofChange lrNumbersSpec)

/-- ITS FALSE NEIGHBOUR: 'it returns false'. Refute it at one input. -/
def lrNumbersWrong : ChangeSpec := { name := "lrNumbers", fn := fun _ => fun
  | [d1, d2] => { results := [.lit (.bool false)], args := [d1, d2] }
  | _ => none }
def LrNumbersWrongFalsely : Prop := lrNumbersRow.holds Try.pinned (OpenSpec.ofChange lrNumbersWrong)

/- THE SECOND FORM. 'bulk': how many values and letters a reading holds, each counted each time it is reached (what is shared counts as often as it is met; a slice's spare places count too). A statement '..UptoSaid' is the law's where the arguments, and the package variables that the reading takes, are together of bulk at most 1048576: NARROWER than '..Said'. Prove '..Said' where nothing that the law and all that it calls make is longer than what came in: it says more and counts as full. Else prove '..UptoSaid'. A law counts once. -/
mutual
def uptoBulk {H : Type} : DataW H → Nat
  | .lit (.string bytes) => bytes.length + 1
  | .lit _ => 1
  | .nil => 1
  | .ptr d => uptoBulk d + 1
  | .slice elems spare => uptoBulkAll elems + uptoBulkAll spare + 1
  | .agg parts => uptoBulkAll parts + 1
  | .iface _ d => uptoBulk d + 1
  | .map entries => uptoBulkEntries entries + 1
  | .held _ => 1
def uptoBulkAll {H : Type} : List (DataW H) → Nat
  | [] => 0
  | d :: r => uptoBulk d + uptoBulkAll r
def uptoBulkEntries {H : Type} : List (Lit × DataW H) → Nat
  | [] => 0
  | x :: r => uptoBulkEntry x + uptoBulkEntries r
def uptoBulkEntry {H : Type} : Lit × DataW H → Nat
  | (.string bytes, d) => bytes.length + uptoBulk d + 1
  | (_, d) => uptoBulk d + 1
 end
def uptoSmall : (H : Type) → List (DataW H) → Bool := fun _ ds => decide (uptoBulkAll ds ≤ 1048576)
def OpenSpec.upto (s : _root_.Go.ChangeSpec) : _root_.Go.OpenSpec := { _root_.Go.OpenSpec.ofChange s with cond := some uptoSmall }

/-- 'crierlaw08.LadderDoes', WHERE WHAT IT READS IS OF BULK AT MOST 1048576: true; the input reads as it did. -/
def ladderDoesUptoRow : OpenClaim := { program := "ytoloccoodnbbdaa", sum := "dc1f16f2f8045f6f99bf8978ef3f829199e3718b8e4812ad7803c1ffff610581", func := "crier/crierlaw08.LadderDoes", spec := "ladderDoes", unfollowed := true, recurses := true, apart := false, narrowed := true }
def LadderDoesUptoSaid : Prop := ladderDoesUptoRow.holds Try.pinned (OpenSpec.upto ladderDoesSpec)

/-- 'crierlaw09.BankNews', WHERE WHAT IT READS IS OF BULK AT MOST 1048576: true; the input reads as it did. -/
def bankNewsUptoRow : OpenClaim := { program := "ytoloccoodnbbdaa", sum := "dc1f16f2f8045f6f99bf8978ef3f829199e3718b8e4812ad7803c1ffff610581", func := "crier/crierlaw09.BankNews", spec := "bankNews", unfollowed := true, recurses := true, apart := false, narrowed := true }
def BankNewsUptoSaid : Prop := bankNewsUptoRow.holds Try.pinned (OpenSpec.upto bankNewsSpec)

/-- 'crierlaw20.LrNumbers', WHERE WHAT IT READS IS OF BULK AT MOST 1048576: true; the input reads as it did. -/
def lrNumbersUptoRow : OpenClaim := { program := "ytoloccoodnbbdaa", sum := "dc1f16f2f8045f6f99bf8978ef3f829199e3718b8e4812ad7803c1ffff610581", func := "crier/crierlaw20.LrNumbers", spec := "lrNumbers", unfollowed := true, recurses := true, apart := false, narrowed := true }
def LrNumbersUptoSaid : Prop := lrNumbersUptoRow.holds Try.pinned (OpenSpec.upto lrNumbersSpec)

end Rows
end Go.Proofs.Ytoloccoodnbbdaa
