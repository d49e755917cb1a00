/-
  No cell of these rows narrows 'for every input' (looked for: loops, veiled, ifaces, maps, wideKeys, modest, calm, conditions, laid).
  DERIVED. THE GIVEN ROWS OF THIS SEAT. 7 by the template 'for every input the law returns true; each argument reads behind the call as it read before'; 0 by the template 'total and deterministic' (their statements: YtgnjacjinhadaaaTotals.lean).
  GIVEN WITH THE SEED: the statements are not yours to turn. If you find one false, say at which input.
  Laid BY PROGRAM, IN A SANDBOX (cutbox-rows.mjs): the forced cells as the released guide's own fill.sh prints them over the translation b84e5d0db43504ad… (all of the seat's roots in one cut). By AI agents, Wed Nov 11 2026. No macro, syntax, notation, axiom, sorry.
-/
import Derived.Test.YtgnjacjinhadaaaChecked
import GoSem.Claim
import GoSem.ClaimJoined
import GoSem.ClaimMapViews
import Derived.JoinedTies
import Derived.KernelRfl
namespace Go.Proofs.Ytgnjacjinhadaaa
/- THE CELL 'sum', in the pinned program and in every row, IS THE sha256 OF THE DUMP (.gsa) THAT YtgnjacjinhadaaaProg.lean LOADS. Nothing in Lean hashes anything: it is a label: what it is worth is what the hold of that sum in a sandbox is worth. -/
noncomputable def Try.pinned : Pinned := { name := "ytgnjacjinhadaaa", sum := "b84e5d0db43504ad489d4230ba4fbed25f14e5e2275e137b8a88dac64e2792de", checked := Try.checked }
namespace Rows
def none {H : Type} : Left H := { results := [], args := [] }

/-- 'laws.FnExactSetOf': WHATEVER THE INPUT: true; the input reads as it did. -/
def fnExactSetOfSpec : ChangeSpec := { name := "fnExactSetOf", fn := fun _ => fun
  | [d] => { results := [.lit (.bool true)], args := [d] }
  | _ => none }
def fnExactSetOfRow : OpenClaim := { program := "ytgnjacjinhadaaa", sum := "b84e5d0db43504ad489d4230ba4fbed25f14e5e2275e137b8a88dac64e2792de", func := "loop.example/g00102/laws.FnExactSetOf", spec := "fnExactSetOf", apart := false }
def FnExactSetOfSaid : Prop := fnExactSetOfRow.holds Try.pinned (OpenSpec.ofChange fnExactSetOfSpec)

/-- ITS FALSE NEIGHBOUR: 'it returns false'. Refute it at one input. -/
def fnExactSetOfWrong : ChangeSpec := { name := "fnExactSetOf", fn := fun _ => fun
  | [d] => { results := [.lit (.bool false)], args := [d] }
  | _ => none }
def FnExactSetOfWrongFalsely : Prop := fnExactSetOfRow.holds Try.pinned (OpenSpec.ofChange fnExactSetOfWrong)

/-- 'laws.FnExactSetList': WHATEVER THE INPUT: true; the input reads as it did. -/
def fnExactSetListSpec : ChangeSpec := { name := "fnExactSetList", fn := fun _ => fun
  | [d] => { results := [.lit (.bool true)], args := [d] }
  | _ => none }
def fnExactSetListRow : OpenClaim := { program := "ytgnjacjinhadaaa", sum := "b84e5d0db43504ad489d4230ba4fbed25f14e5e2275e137b8a88dac64e2792de", func := "loop.example/g00102/laws.FnExactSetList", spec := "fnExactSetList", apart := false }
def FnExactSetListSaid : Prop := fnExactSetListRow.holds Try.pinned (OpenSpec.ofChange fnExactSetListSpec)

/-- ITS FALSE NEIGHBOUR: 'it returns false'. Refute it at one input. -/
def fnExactSetListWrong : ChangeSpec := { name := "fnExactSetList", fn := fun _ => fun
  | [d] => { results := [.lit (.bool false)], args := [d] }
  | _ => none }
def FnExactSetListWrongFalsely : Prop := fnExactSetListRow.holds Try.pinned (OpenSpec.ofChange fnExactSetListWrong)

/-- 'laws.FnExactSetCount': WHATEVER THE INPUT: true; the input reads as it did. -/
def fnExactSetCountSpec : ChangeSpec := { name := "fnExactSetCount", fn := fun _ => fun
  | [d] => { results := [.lit (.bool true)], args := [d] }
  | _ => none }
def fnExactSetCountRow : OpenClaim := { program := "ytgnjacjinhadaaa", sum := "b84e5d0db43504ad489d4230ba4fbed25f14e5e2275e137b8a88dac64e2792de", func := "loop.example/g00102/laws.FnExactSetCount", spec := "fnExactSetCount", apart := false }
def FnExactSetCountSaid : Prop := fnExactSetCountRow.holds Try.pinned (OpenSpec.ofChange fnExactSetCountSpec)

/-- ITS FALSE NEIGHBOUR: 'it returns false'. Refute it at one input. -/
def fnExactSetCountWrong : ChangeSpec := { name := "fnExactSetCount", fn := fun _ => fun
  | [d] => { results := [.lit (.bool false)], args := [d] }
  | _ => none }
def FnExactSetCountWrongFalsely : Prop := fnExactSetCountRow.holds Try.pinned (OpenSpec.ofChange fnExactSetCountWrong)

/-- 'laws.FnExactTableOk': WHATEVER THE INPUT: true; the input reads as it did. -/
def fnExactTableOkSpec : ChangeSpec := { name := "fnExactTableOk", fn := fun _ => fun
  | [d] => { results := [.lit (.bool true)], args := [d] }
  | _ => none }
def fnExactTableOkRow : OpenClaim := { program := "ytgnjacjinhadaaa", sum := "b84e5d0db43504ad489d4230ba4fbed25f14e5e2275e137b8a88dac64e2792de", func := "loop.example/g00102/laws.FnExactTableOk", spec := "fnExactTableOk", apart := false }
def FnExactTableOkSaid : Prop := fnExactTableOkRow.holds Try.pinned (OpenSpec.ofChange fnExactTableOkSpec)

/-- ITS FALSE NEIGHBOUR: 'it returns false'. Refute it at one input. -/
def fnExactTableOkWrong : ChangeSpec := { name := "fnExactTableOk", fn := fun _ => fun
  | [d] => { results := [.lit (.bool false)], args := [d] }
  | _ => none }
def FnExactTableOkWrongFalsely : Prop := fnExactTableOkRow.holds Try.pinned (OpenSpec.ofChange fnExactTableOkWrong)

/-- 'laws.FnExactTableFind': WHATEVER THE INPUT: true; the input reads as it did. -/
def fnExactTableFindSpec : ChangeSpec := { name := "fnExactTableFind", fn := fun _ => fun
  | [d1, d2] => { results := [.lit (.bool true)], args := [d1, d2] }
  | _ => none }
def fnExactTableFindRow : OpenClaim := { program := "ytgnjacjinhadaaa", sum := "b84e5d0db43504ad489d4230ba4fbed25f14e5e2275e137b8a88dac64e2792de", func := "loop.example/g00102/laws.FnExactTableFind", spec := "fnExactTableFind", apart := false }
def FnExactTableFindSaid : Prop := fnExactTableFindRow.holds Try.pinned (OpenSpec.ofChange fnExactTableFindSpec)

/-- ITS FALSE NEIGHBOUR: 'it returns false'. Refute it at one input. -/
def fnExactTableFindWrong : ChangeSpec := { name := "fnExactTableFind", fn := fun _ => fun
  | [d1, d2] => { results := [.lit (.bool false)], args := [d1, d2] }
  | _ => none }
def FnExactTableFindWrongFalsely : Prop := fnExactTableFindRow.holds Try.pinned (OpenSpec.ofChange fnExactTableFindWrong)

/-- 'laws.FnTables': WHATEVER THE INPUT: true; the input reads as it did. -/
def fnTablesSpec : ChangeSpec := { name := "fnTables", fn := fun _ => fun
  | [d] => { results := [.lit (.bool true)], args := [d] }
  | _ => none }
def fnTablesRow : OpenClaim := { program := "ytgnjacjinhadaaa", sum := "b84e5d0db43504ad489d4230ba4fbed25f14e5e2275e137b8a88dac64e2792de", func := "loop.example/g00102/laws.FnTables", spec := "fnTables", apart := false }
def FnTablesSaid : Prop := fnTablesRow.holds Try.pinned (OpenSpec.ofChange fnTablesSpec)

/-- ITS FALSE NEIGHBOUR: 'it returns false'. Refute it at one input. -/
def fnTablesWrong : ChangeSpec := { name := "fnTables", fn := fun _ => fun
  | [d] => { results := [.lit (.bool false)], args := [d] }
  | _ => none }
def FnTablesWrongFalsely : Prop := fnTablesRow.holds Try.pinned (OpenSpec.ofChange fnTablesWrong)

/-- 'laws.FnExactTableAdd': WHATEVER THE INPUT: true; the input reads as it did. -/
def fnExactTableAddSpec : ChangeSpec := { name := "fnExactTableAdd", fn := fun _ => fun
  | [d1, d2] => { results := [.lit (.bool true)], args := [d1, d2] }
  | _ => none }
def fnExactTableAddRow : OpenClaim := { program := "ytgnjacjinhadaaa", sum := "b84e5d0db43504ad489d4230ba4fbed25f14e5e2275e137b8a88dac64e2792de", func := "loop.example/g00102/laws.FnExactTableAdd", spec := "fnExactTableAdd", apart := false }
def FnExactTableAddSaid : Prop := fnExactTableAddRow.holds Try.pinned (OpenSpec.ofChange fnExactTableAddSpec)

/-- ITS FALSE NEIGHBOUR: 'it returns false'. Refute it at one input. -/
def fnExactTableAddWrong : ChangeSpec := { name := "fnExactTableAdd", fn := fun _ => fun
  | [d1, d2] => { results := [.lit (.bool false)], args := [d1, d2] }
  | _ => none }
def FnExactTableAddWrongFalsely : Prop := fnExactTableAddRow.holds Try.pinned (OpenSpec.ofChange fnExactTableAddWrong)

/- THE SECOND FORM. 'bulk': how many values and letters a reading holds, each counted each time it is reached (what is shared counts as often as it is met; a slice's spare places count too). A statement '..UptoSaid' is the law's where the arguments, and the package variables that the reading takes, are together of bulk at most 1048576: NARROWER than '..Said'. Prove '..Said' where nothing that the law and all that it calls make is longer than what came in: it says more and counts as full. Else prove '..UptoSaid'. A law counts once. -/
mutual
def uptoBulk {H : Type} : DataW H → Nat
  | .lit (.string bytes) => bytes.length + 1
  | .lit _ => 1
  | .nil => 1
  | .ptr d => uptoBulk d + 1
  | .slice elems spare => uptoBulkAll elems + uptoBulkAll spare + 1
  | .agg parts => uptoBulkAll parts + 1
  | .iface _ d => uptoBulk d + 1
  | .map entries => uptoBulkEntries entries + 1
  | .held _ => 1
def uptoBulkAll {H : Type} : List (DataW H) → Nat
  | [] => 0
  | d :: r => uptoBulk d + uptoBulkAll r
def uptoBulkEntries {H : Type} : List (Lit × DataW H) → Nat
  | [] => 0
  | x :: r => uptoBulkEntry x + uptoBulkEntries r
def uptoBulkEntry {H : Type} : Lit × DataW H → Nat
  | (.string bytes, d) => bytes.length + uptoBulk d + 1
  | (_, d) => uptoBulk d + 1
 end
def uptoSmall : (H : Type) → List (DataW H) → Bool := fun _ ds => decide (uptoBulkAll ds ≤ 1048576)
def OpenSpec.upto (s : _root_.Go.ChangeSpec) : _root_.Go.OpenSpec := { _root_.Go.OpenSpec.ofChange s with cond := some uptoSmall }

/-- 'laws.FnExactSetOf', WHERE WHAT IT READS IS OF BULK AT MOST 1048576: true; the input reads as it did. -/
def fnExactSetOfUptoRow : OpenClaim := { program := "ytgnjacjinhadaaa", sum := "b84e5d0db43504ad489d4230ba4fbed25f14e5e2275e137b8a88dac64e2792de", func := "loop.example/g00102/laws.FnExactSetOf", spec := "fnExactSetOf", apart := false, narrowed := true }
def FnExactSetOfUptoSaid : Prop := fnExactSetOfUptoRow.holds Try.pinned (OpenSpec.upto fnExactSetOfSpec)

/-- 'laws.FnExactSetList', WHERE WHAT IT READS IS OF BULK AT MOST 1048576: true; the input reads as it did. -/
def fnExactSetListUptoRow : OpenClaim := { program := "ytgnjacjinhadaaa", sum := "b84e5d0db43504ad489d4230ba4fbed25f14e5e2275e137b8a88dac64e2792de", func := "loop.example/g00102/laws.FnExactSetList", spec := "fnExactSetList", apart := false, narrowed := true }
def FnExactSetListUptoSaid : Prop := fnExactSetListUptoRow.holds Try.pinned (OpenSpec.upto fnExactSetListSpec)

/-- 'laws.FnExactSetCount', WHERE WHAT IT READS IS OF BULK AT MOST 1048576: true; the input reads as it did. -/
def fnExactSetCountUptoRow : OpenClaim := { program := "ytgnjacjinhadaaa", sum := "b84e5d0db43504ad489d4230ba4fbed25f14e5e2275e137b8a88dac64e2792de", func := "loop.example/g00102/laws.FnExactSetCount", spec := "fnExactSetCount", apart := false, narrowed := true }
def FnExactSetCountUptoSaid : Prop := fnExactSetCountUptoRow.holds Try.pinned (OpenSpec.upto fnExactSetCountSpec)

/-- 'laws.FnExactTableOk', WHERE WHAT IT READS IS OF BULK AT MOST 1048576: true; the input reads as it did. -/
def fnExactTableOkUptoRow : OpenClaim := { program := "ytgnjacjinhadaaa", sum := "b84e5d0db43504ad489d4230ba4fbed25f14e5e2275e137b8a88dac64e2792de", func := "loop.example/g00102/laws.FnExactTableOk", spec := "fnExactTableOk", apart := false, narrowed := true }
def FnExactTableOkUptoSaid : Prop := fnExactTableOkUptoRow.holds Try.pinned (OpenSpec.upto fnExactTableOkSpec)

/-- 'laws.FnExactTableFind', WHERE WHAT IT READS IS OF BULK AT MOST 1048576: true; the input reads as it did. -/
def fnExactTableFindUptoRow : OpenClaim := { program := "ytgnjacjinhadaaa", sum := "b84e5d0db43504ad489d4230ba4fbed25f14e5e2275e137b8a88dac64e2792de", func := "loop.example/g00102/laws.FnExactTableFind", spec := "fnExactTableFind", apart := false, narrowed := true }
def FnExactTableFindUptoSaid : Prop := fnExactTableFindUptoRow.holds Try.pinned (OpenSpec.upto fnExactTableFindSpec)

/-- 'laws.FnTables', WHERE WHAT IT READS IS OF BULK AT MOST 1048576: true; the input reads as it did. -/
def fnTablesUptoRow : OpenClaim := { program := "ytgnjacjinhadaaa", sum := "b84e5d0db43504ad489d4230ba4fbed25f14e5e2275e137b8a88dac64e2792de", func := "loop.example/g00102/laws.FnTables", spec := "fnTables", apart := false, narrowed := true }
def FnTablesUptoSaid : Prop := fnTablesUptoRow.holds Try.pinned (OpenSpec.upto fnTablesSpec)

/-- 'laws.FnExactTableAdd', WHERE WHAT IT READS IS OF BULK AT MOST 1048576: true; the input reads as it did. -/
def fnExactTableAddUptoRow : OpenClaim := { program := "ytgnjacjinhadaaa", sum := "b84e5d0db43504ad489d4230ba4fbed25f14e5e2275e137b8a88dac64e2792de", func := "loop.example/g00102/laws.FnExactTableAdd", spec := "fnExactTableAdd", apart := false, narrowed := true }
def FnExactTableAddUptoSaid : Prop := fnExactTableAddUptoRow.holds Try.pinned (OpenSpec.upto fnExactTableAddSpec)

end Rows
end Go.Proofs.Ytgnjacjinhadaaa
