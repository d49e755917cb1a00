/-
  No cell of these rows narrows 'for every input' (looked for: loops, veiled, ifaces, maps, wideKeys, modest, calm, conditions, laid).
  DERIVED. THE GIVEN ROWS OF THIS SEAT. 6 by the template 'for every input the law returns true; each argument reads behind the call as it read before'; 0 by the template 'total and deterministic' (their statements: YtldgkahbpmopiaaTotals.lean).
  GIVEN WITH THE SEED: the statements are not yours to turn. If you find one false, say at which input.
  Laid BY PROGRAM, IN A SANDBOX (cutbox-rows.mjs): the forced cells as the released guide's own fill.sh prints them over the translation 2c33eef8eb5b9398… (all of the seat's roots in one cut). By AI agents, Wed Nov 11 2026. No macro, syntax, notation, axiom, sorry.
-/
import Derived.Test.YtldgkahbpmopiaaChecked
import GoSem.Claim
import GoSem.ClaimJoined
import GoSem.ClaimMapViews
import Derived.JoinedTies
import Derived.KernelRfl
namespace Go.Proofs.Ytldgkahbpmopiaa
/- THE CELL 'sum', in the pinned program and in every row, IS THE sha256 OF THE DUMP (.gsa) THAT YtldgkahbpmopiaaProg.lean LOADS. Nothing in Lean hashes anything: it is a label: what it is worth is what the hold of that sum in a sandbox is worth. -/
noncomputable def Try.pinned : Pinned := { name := "ytldgkahbpmopiaa", sum := "2c33eef8eb5b9398cefabe0191be6617a39d8701b52705c523f1f08bc04d56f1", checked := Try.checked }
namespace Rows
def none {H : Type} : Left H := { results := [], args := [] }

/-- 'laws.FnExactConstants': WHATEVER THE INPUT: true; the input reads as it did. -/
def fnExactConstantsSpec : ChangeSpec := { name := "fnExactConstants", fn := fun _ => fun
  | [] => { results := [.lit (.bool true)], args := [] }
  | _ => none }
def fnExactConstantsRow : OpenClaim := { program := "ytldgkahbpmopiaa", sum := "2c33eef8eb5b9398cefabe0191be6617a39d8701b52705c523f1f08bc04d56f1", func := "loop.example/g00102/laws.FnExactConstants", spec := "fnExactConstants", apart := false }
def FnExactConstantsSaid : Prop := fnExactConstantsRow.holds Try.pinned (OpenSpec.ofChange fnExactConstantsSpec)

/-- ITS FALSE NEIGHBOUR: 'it returns false'. Refute it at one input. -/
def fnExactConstantsWrong : ChangeSpec := { name := "fnExactConstants", fn := fun _ => fun
  | [] => { results := [.lit (.bool false)], args := [] }
  | _ => none }
def FnExactConstantsWrongFalsely : Prop := fnExactConstantsRow.holds Try.pinned (OpenSpec.ofChange fnExactConstantsWrong)

/-- 'laws.FnExactSetOk': WHATEVER THE INPUT: true; the input reads as it did. -/
def fnExactSetOkSpec : ChangeSpec := { name := "fnExactSetOk", fn := fun _ => fun
  | [d] => { results := [.lit (.bool true)], args := [d] }
  | _ => none }
def fnExactSetOkRow : OpenClaim := { program := "ytldgkahbpmopiaa", sum := "2c33eef8eb5b9398cefabe0191be6617a39d8701b52705c523f1f08bc04d56f1", func := "loop.example/g00102/laws.FnExactSetOk", spec := "fnExactSetOk", apart := false }
def FnExactSetOkSaid : Prop := fnExactSetOkRow.holds Try.pinned (OpenSpec.ofChange fnExactSetOkSpec)

/-- ITS FALSE NEIGHBOUR: 'it returns false'. Refute it at one input. -/
def fnExactSetOkWrong : ChangeSpec := { name := "fnExactSetOk", fn := fun _ => fun
  | [d] => { results := [.lit (.bool false)], args := [d] }
  | _ => none }
def FnExactSetOkWrongFalsely : Prop := fnExactSetOkRow.holds Try.pinned (OpenSpec.ofChange fnExactSetOkWrong)

/-- 'laws.FnExactSetIn': WHATEVER THE INPUT: true; the input reads as it did. -/
def fnExactSetInSpec : ChangeSpec := { name := "fnExactSetIn", fn := fun _ => fun
  | [d1, d2] => { results := [.lit (.bool true)], args := [d1, d2] }
  | _ => none }
def fnExactSetInRow : OpenClaim := { program := "ytldgkahbpmopiaa", sum := "2c33eef8eb5b9398cefabe0191be6617a39d8701b52705c523f1f08bc04d56f1", func := "loop.example/g00102/laws.FnExactSetIn", spec := "fnExactSetIn", apart := false }
def FnExactSetInSaid : Prop := fnExactSetInRow.holds Try.pinned (OpenSpec.ofChange fnExactSetInSpec)

/-- ITS FALSE NEIGHBOUR: 'it returns false'. Refute it at one input. -/
def fnExactSetInWrong : ChangeSpec := { name := "fnExactSetIn", fn := fun _ => fun
  | [d1, d2] => { results := [.lit (.bool false)], args := [d1, d2] }
  | _ => none }
def FnExactSetInWrongFalsely : Prop := fnExactSetInRow.holds Try.pinned (OpenSpec.ofChange fnExactSetInWrong)

/-- 'laws.FnExactSetHas': WHATEVER THE INPUT: true; the input reads as it did. -/
def fnExactSetHasSpec : ChangeSpec := { name := "fnExactSetHas", fn := fun _ => fun
  | [d1, d2] => { results := [.lit (.bool true)], args := [d1, d2] }
  | _ => none }
def fnExactSetHasRow : OpenClaim := { program := "ytldgkahbpmopiaa", sum := "2c33eef8eb5b9398cefabe0191be6617a39d8701b52705c523f1f08bc04d56f1", func := "loop.example/g00102/laws.FnExactSetHas", spec := "fnExactSetHas", apart := false }
def FnExactSetHasSaid : Prop := fnExactSetHasRow.holds Try.pinned (OpenSpec.ofChange fnExactSetHasSpec)

/-- ITS FALSE NEIGHBOUR: 'it returns false'. Refute it at one input. -/
def fnExactSetHasWrong : ChangeSpec := { name := "fnExactSetHas", fn := fun _ => fun
  | [d1, d2] => { results := [.lit (.bool false)], args := [d1, d2] }
  | _ => none }
def FnExactSetHasWrongFalsely : Prop := fnExactSetHasRow.holds Try.pinned (OpenSpec.ofChange fnExactSetHasWrong)

/-- 'laws.FnExactSetPut': WHATEVER THE INPUT: true; the input reads as it did. -/
def fnExactSetPutSpec : ChangeSpec := { name := "fnExactSetPut", fn := fun _ => fun
  | [d1, d2] => { results := [.lit (.bool true)], args := [d1, d2] }
  | _ => none }
def fnExactSetPutRow : OpenClaim := { program := "ytldgkahbpmopiaa", sum := "2c33eef8eb5b9398cefabe0191be6617a39d8701b52705c523f1f08bc04d56f1", func := "loop.example/g00102/laws.FnExactSetPut", spec := "fnExactSetPut", apart := false }
def FnExactSetPutSaid : Prop := fnExactSetPutRow.holds Try.pinned (OpenSpec.ofChange fnExactSetPutSpec)

/-- ITS FALSE NEIGHBOUR: 'it returns false'. Refute it at one input. -/
def fnExactSetPutWrong : ChangeSpec := { name := "fnExactSetPut", fn := fun _ => fun
  | [d1, d2] => { results := [.lit (.bool false)], args := [d1, d2] }
  | _ => none }
def FnExactSetPutWrongFalsely : Prop := fnExactSetPutRow.holds Try.pinned (OpenSpec.ofChange fnExactSetPutWrong)

/-- 'laws.FnExactSetLess': WHATEVER THE INPUT: true; the input reads as it did. -/
def fnExactSetLessSpec : ChangeSpec := { name := "fnExactSetLess", fn := fun _ => fun
  | [d1, d2] => { results := [.lit (.bool true)], args := [d1, d2] }
  | _ => none }
def fnExactSetLessRow : OpenClaim := { program := "ytldgkahbpmopiaa", sum := "2c33eef8eb5b9398cefabe0191be6617a39d8701b52705c523f1f08bc04d56f1", func := "loop.example/g00102/laws.FnExactSetLess", spec := "fnExactSetLess", apart := false }
def FnExactSetLessSaid : Prop := fnExactSetLessRow.holds Try.pinned (OpenSpec.ofChange fnExactSetLessSpec)

/-- ITS FALSE NEIGHBOUR: 'it returns false'. Refute it at one input. -/
def fnExactSetLessWrong : ChangeSpec := { name := "fnExactSetLess", fn := fun _ => fun
  | [d1, d2] => { results := [.lit (.bool false)], args := [d1, d2] }
  | _ => none }
def FnExactSetLessWrongFalsely : Prop := fnExactSetLessRow.holds Try.pinned (OpenSpec.ofChange fnExactSetLessWrong)

/- THE SECOND FORM. 'bulk': how many values and letters a reading holds, each counted each time it is reached (what is shared counts as often as it is met; a slice's spare places count too). A statement '..UptoSaid' is the law's where the arguments, and the package variables that the reading takes, are together of bulk at most 1048576: NARROWER than '..Said'. Prove '..Said' where nothing that the law and all that it calls make is longer than what came in: it says more and counts as full. Else prove '..UptoSaid'. A law counts once. -/
mutual
def uptoBulk {H : Type} : DataW H → Nat
  | .lit (.string bytes) => bytes.length + 1
  | .lit _ => 1
  | .nil => 1
  | .ptr d => uptoBulk d + 1
  | .slice elems spare => uptoBulkAll elems + uptoBulkAll spare + 1
  | .agg parts => uptoBulkAll parts + 1
  | .iface _ d => uptoBulk d + 1
  | .map entries => uptoBulkEntries entries + 1
  | .held _ => 1
def uptoBulkAll {H : Type} : List (DataW H) → Nat
  | [] => 0
  | d :: r => uptoBulk d + uptoBulkAll r
def uptoBulkEntries {H : Type} : List (Lit × DataW H) → Nat
  | [] => 0
  | x :: r => uptoBulkEntry x + uptoBulkEntries r
def uptoBulkEntry {H : Type} : Lit × DataW H → Nat
  | (.string bytes, d) => bytes.length + uptoBulk d + 1
  | (_, d) => uptoBulk d + 1
 end
def uptoSmall : (H : Type) → List (DataW H) → Bool := fun _ ds => decide (uptoBulkAll ds ≤ 1048576)
def OpenSpec.upto (s : _root_.Go.ChangeSpec) : _root_.Go.OpenSpec := { _root_.Go.OpenSpec.ofChange s with cond := some uptoSmall }

/-- 'laws.FnExactConstants', WHERE WHAT IT READS IS OF BULK AT MOST 1048576: true; the input reads as it did. -/
def fnExactConstantsUptoRow : OpenClaim := { program := "ytldgkahbpmopiaa", sum := "2c33eef8eb5b9398cefabe0191be6617a39d8701b52705c523f1f08bc04d56f1", func := "loop.example/g00102/laws.FnExactConstants", spec := "fnExactConstants", apart := false, narrowed := true }
def FnExactConstantsUptoSaid : Prop := fnExactConstantsUptoRow.holds Try.pinned (OpenSpec.upto fnExactConstantsSpec)

/-- 'laws.FnExactSetOk', WHERE WHAT IT READS IS OF BULK AT MOST 1048576: true; the input reads as it did. -/
def fnExactSetOkUptoRow : OpenClaim := { program := "ytldgkahbpmopiaa", sum := "2c33eef8eb5b9398cefabe0191be6617a39d8701b52705c523f1f08bc04d56f1", func := "loop.example/g00102/laws.FnExactSetOk", spec := "fnExactSetOk", apart := false, narrowed := true }
def FnExactSetOkUptoSaid : Prop := fnExactSetOkUptoRow.holds Try.pinned (OpenSpec.upto fnExactSetOkSpec)

/-- 'laws.FnExactSetIn', WHERE WHAT IT READS IS OF BULK AT MOST 1048576: true; the input reads as it did. -/
def fnExactSetInUptoRow : OpenClaim := { program := "ytldgkahbpmopiaa", sum := "2c33eef8eb5b9398cefabe0191be6617a39d8701b52705c523f1f08bc04d56f1", func := "loop.example/g00102/laws.FnExactSetIn", spec := "fnExactSetIn", apart := false, narrowed := true }
def FnExactSetInUptoSaid : Prop := fnExactSetInUptoRow.holds Try.pinned (OpenSpec.upto fnExactSetInSpec)

/-- 'laws.FnExactSetHas', WHERE WHAT IT READS IS OF BULK AT MOST 1048576: true; the input reads as it did. -/
def fnExactSetHasUptoRow : OpenClaim := { program := "ytldgkahbpmopiaa", sum := "2c33eef8eb5b9398cefabe0191be6617a39d8701b52705c523f1f08bc04d56f1", func := "loop.example/g00102/laws.FnExactSetHas", spec := "fnExactSetHas", apart := false, narrowed := true }
def FnExactSetHasUptoSaid : Prop := fnExactSetHasUptoRow.holds Try.pinned (OpenSpec.upto fnExactSetHasSpec)

/-- 'laws.FnExactSetPut', WHERE WHAT IT READS IS OF BULK AT MOST 1048576: true; the input reads as it did. -/
def fnExactSetPutUptoRow : OpenClaim := { program := "ytldgkahbpmopiaa", sum := "2c33eef8eb5b9398cefabe0191be6617a39d8701b52705c523f1f08bc04d56f1", func := "loop.example/g00102/laws.FnExactSetPut", spec := "fnExactSetPut", apart := false, narrowed := true }
def FnExactSetPutUptoSaid : Prop := fnExactSetPutUptoRow.holds Try.pinned (OpenSpec.upto fnExactSetPutSpec)

/-- 'laws.FnExactSetLess', WHERE WHAT IT READS IS OF BULK AT MOST 1048576: true; the input reads as it did. -/
def fnExactSetLessUptoRow : OpenClaim := { program := "ytldgkahbpmopiaa", sum := "2c33eef8eb5b9398cefabe0191be6617a39d8701b52705c523f1f08bc04d56f1", func := "loop.example/g00102/laws.FnExactSetLess", spec := "fnExactSetLess", apart := false, narrowed := true }
def FnExactSetLessUptoSaid : Prop := fnExactSetLessUptoRow.holds Try.pinned (OpenSpec.upto fnExactSetLessSpec)

end Rows
end Go.Proofs.Ytldgkahbpmopiaa
