/-
  No cell of these rows narrows 'for every input' (looked for: loops, veiled, ifaces, maps, wideKeys, modest, calm, conditions, laid).
  DERIVED. THE GIVEN ROWS OF THIS SEAT. 12 by the template 'for every input the law returns true; each argument reads behind the call as it read before'; 0 by the template 'total and deterministic' (their statements: YthkljpbddddhdaaTotals.lean).
  GIVEN WITH THE SEED: the statements are not yours to turn. If you find one false, say at which input.
  Laid BY PROGRAM, IN A SANDBOX (cutbox-rows.mjs): the forced cells as the released guide's own fill.sh prints them over the translation d7e928128dd5ac4d… (all of the seat's roots in one cut). By AI agents, Wed Nov 11 2026. No macro, syntax, notation, axiom, sorry.
-/
import Derived.Test.YthkljpbddddhdaaChecked
import GoSem.Claim
import GoSem.ClaimJoined
import GoSem.ClaimMapViews
import Derived.JoinedTies
import Derived.KernelRfl
namespace Go.Proofs.Ythkljpbddddhdaa
/- THE CELL 'sum', in the pinned program and in every row, IS THE sha256 OF THE DUMP (.gsa) THAT YthkljpbddddhdaaProg.lean LOADS. Nothing in Lean hashes anything: it is a label: what it is worth is what the hold of that sum in a sandbox is worth. -/
noncomputable def Try.pinned : Pinned := { name := "ythkljpbddddhdaa", sum := "d7e928128dd5ac4d2f4ab14d7c18b079aa4ff1be9f3a1ba1eb31e8bc26b915c9", checked := Try.checked }
namespace Rows
def none {H : Type} : Left H := { results := [], args := [] }

/-- 'laws.FnExactWordOk': WHATEVER THE INPUT: true; the input reads as it did. -/
def fnExactWordOkSpec : ChangeSpec := { name := "fnExactWordOk", fn := fun _ => fun
  | [d1, d2] => { results := [.lit (.bool true)], args := [d1, d2] }
  | _ => none }
def fnExactWordOkRow : OpenClaim := { program := "ythkljpbddddhdaa", sum := "d7e928128dd5ac4d2f4ab14d7c18b079aa4ff1be9f3a1ba1eb31e8bc26b915c9", func := "loop.example/g00102/laws.FnExactWordOk", spec := "fnExactWordOk", apart := false }
def FnExactWordOkSaid : Prop := fnExactWordOkRow.holds Try.pinned (OpenSpec.ofChange fnExactWordOkSpec)

/-- ITS FALSE NEIGHBOUR: 'it returns false'. Refute it at one input. -/
def fnExactWordOkWrong : ChangeSpec := { name := "fnExactWordOk", fn := fun _ => fun
  | [d1, d2] => { results := [.lit (.bool false)], args := [d1, d2] }
  | _ => none }
def FnExactWordOkWrongFalsely : Prop := fnExactWordOkRow.holds Try.pinned (OpenSpec.ofChange fnExactWordOkWrong)

/-- 'laws.FnExactWordAt': WHATEVER THE INPUT: true; the input reads as it did. -/
def fnExactWordAtSpec : ChangeSpec := { name := "fnExactWordAt", fn := fun _ => fun
  | [d1, d2] => { results := [.lit (.bool true)], args := [d1, d2] }
  | _ => none }
def fnExactWordAtRow : OpenClaim := { program := "ythkljpbddddhdaa", sum := "d7e928128dd5ac4d2f4ab14d7c18b079aa4ff1be9f3a1ba1eb31e8bc26b915c9", func := "loop.example/g00102/laws.FnExactWordAt", spec := "fnExactWordAt", apart := false }
def FnExactWordAtSaid : Prop := fnExactWordAtRow.holds Try.pinned (OpenSpec.ofChange fnExactWordAtSpec)

/-- ITS FALSE NEIGHBOUR: 'it returns false'. Refute it at one input. -/
def fnExactWordAtWrong : ChangeSpec := { name := "fnExactWordAt", fn := fun _ => fun
  | [d1, d2] => { results := [.lit (.bool false)], args := [d1, d2] }
  | _ => none }
def FnExactWordAtWrongFalsely : Prop := fnExactWordAtRow.holds Try.pinned (OpenSpec.ofChange fnExactWordAtWrong)

/-- 'laws.FnExactWordTake': WHATEVER THE INPUT: true; the input reads as it did. -/
def fnExactWordTakeSpec : ChangeSpec := { name := "fnExactWordTake", fn := fun _ => fun
  | [d1, d2] => { results := [.lit (.bool true)], args := [d1, d2] }
  | _ => none }
def fnExactWordTakeRow : OpenClaim := { program := "ythkljpbddddhdaa", sum := "d7e928128dd5ac4d2f4ab14d7c18b079aa4ff1be9f3a1ba1eb31e8bc26b915c9", func := "loop.example/g00102/laws.FnExactWordTake", spec := "fnExactWordTake", apart := false }
def FnExactWordTakeSaid : Prop := fnExactWordTakeRow.holds Try.pinned (OpenSpec.ofChange fnExactWordTakeSpec)

/-- ITS FALSE NEIGHBOUR: 'it returns false'. Refute it at one input. -/
def fnExactWordTakeWrong : ChangeSpec := { name := "fnExactWordTake", fn := fun _ => fun
  | [d1, d2] => { results := [.lit (.bool false)], args := [d1, d2] }
  | _ => none }
def FnExactWordTakeWrongFalsely : Prop := fnExactWordTakeRow.holds Try.pinned (OpenSpec.ofChange fnExactWordTakeWrong)

/-- 'laws.FnExactWordTurn': WHATEVER THE INPUT: true; the input reads as it did. -/
def fnExactWordTurnSpec : ChangeSpec := { name := "fnExactWordTurn", fn := fun _ => fun
  | [d] => { results := [.lit (.bool true)], args := [d] }
  | _ => none }
def fnExactWordTurnRow : OpenClaim := { program := "ythkljpbddddhdaa", sum := "d7e928128dd5ac4d2f4ab14d7c18b079aa4ff1be9f3a1ba1eb31e8bc26b915c9", func := "loop.example/g00102/laws.FnExactWordTurn", spec := "fnExactWordTurn", apart := false }
def FnExactWordTurnSaid : Prop := fnExactWordTurnRow.holds Try.pinned (OpenSpec.ofChange fnExactWordTurnSpec)

/-- ITS FALSE NEIGHBOUR: 'it returns false'. Refute it at one input. -/
def fnExactWordTurnWrong : ChangeSpec := { name := "fnExactWordTurn", fn := fun _ => fun
  | [d] => { results := [.lit (.bool false)], args := [d] }
  | _ => none }
def FnExactWordTurnWrongFalsely : Prop := fnExactWordTurnRow.holds Try.pinned (OpenSpec.ofChange fnExactWordTurnWrong)

/-- 'laws.FnExactWordJoin': WHATEVER THE INPUT: true; the input reads as it did. -/
def fnExactWordJoinSpec : ChangeSpec := { name := "fnExactWordJoin", fn := fun _ => fun
  | [d1, d2] => { results := [.lit (.bool true)], args := [d1, d2] }
  | _ => none }
def fnExactWordJoinRow : OpenClaim := { program := "ythkljpbddddhdaa", sum := "d7e928128dd5ac4d2f4ab14d7c18b079aa4ff1be9f3a1ba1eb31e8bc26b915c9", func := "loop.example/g00102/laws.FnExactWordJoin", spec := "fnExactWordJoin", apart := false }
def FnExactWordJoinSaid : Prop := fnExactWordJoinRow.holds Try.pinned (OpenSpec.ofChange fnExactWordJoinSpec)

/-- ITS FALSE NEIGHBOUR: 'it returns false'. Refute it at one input. -/
def fnExactWordJoinWrong : ChangeSpec := { name := "fnExactWordJoin", fn := fun _ => fun
  | [d1, d2] => { results := [.lit (.bool false)], args := [d1, d2] }
  | _ => none }
def FnExactWordJoinWrongFalsely : Prop := fnExactWordJoinRow.holds Try.pinned (OpenSpec.ofChange fnExactWordJoinWrong)

/-- 'laws.FnExactWordTail': WHATEVER THE INPUT: true; the input reads as it did. -/
def fnExactWordTailSpec : ChangeSpec := { name := "fnExactWordTail", fn := fun _ => fun
  | [d1, d2] => { results := [.lit (.bool true)], args := [d1, d2] }
  | _ => none }
def fnExactWordTailRow : OpenClaim := { program := "ythkljpbddddhdaa", sum := "d7e928128dd5ac4d2f4ab14d7c18b079aa4ff1be9f3a1ba1eb31e8bc26b915c9", func := "loop.example/g00102/laws.FnExactWordTail", spec := "fnExactWordTail", apart := false }
def FnExactWordTailSaid : Prop := fnExactWordTailRow.holds Try.pinned (OpenSpec.ofChange fnExactWordTailSpec)

/-- ITS FALSE NEIGHBOUR: 'it returns false'. Refute it at one input. -/
def fnExactWordTailWrong : ChangeSpec := { name := "fnExactWordTail", fn := fun _ => fun
  | [d1, d2] => { results := [.lit (.bool false)], args := [d1, d2] }
  | _ => none }
def FnExactWordTailWrongFalsely : Prop := fnExactWordTailRow.holds Try.pinned (OpenSpec.ofChange fnExactWordTailWrong)

/-- 'laws.FnExactWordSame': WHATEVER THE INPUT: true; the input reads as it did. -/
def fnExactWordSameSpec : ChangeSpec := { name := "fnExactWordSame", fn := fun _ => fun
  | [d1, d2] => { results := [.lit (.bool true)], args := [d1, d2] }
  | _ => none }
def fnExactWordSameRow : OpenClaim := { program := "ythkljpbddddhdaa", sum := "d7e928128dd5ac4d2f4ab14d7c18b079aa4ff1be9f3a1ba1eb31e8bc26b915c9", func := "loop.example/g00102/laws.FnExactWordSame", spec := "fnExactWordSame", apart := false }
def FnExactWordSameSaid : Prop := fnExactWordSameRow.holds Try.pinned (OpenSpec.ofChange fnExactWordSameSpec)

/-- ITS FALSE NEIGHBOUR: 'it returns false'. Refute it at one input. -/
def fnExactWordSameWrong : ChangeSpec := { name := "fnExactWordSame", fn := fun _ => fun
  | [d1, d2] => { results := [.lit (.bool false)], args := [d1, d2] }
  | _ => none }
def FnExactWordSameWrongFalsely : Prop := fnExactWordSameRow.holds Try.pinned (OpenSpec.ofChange fnExactWordSameWrong)

/-- 'laws.FnExactWordPower': WHATEVER THE INPUT: true; the input reads as it did. -/
def fnExactWordPowerSpec : ChangeSpec := { name := "fnExactWordPower", fn := fun _ => fun
  | [d1, d2] => { results := [.lit (.bool true)], args := [d1, d2] }
  | _ => none }
def fnExactWordPowerRow : OpenClaim := { program := "ythkljpbddddhdaa", sum := "d7e928128dd5ac4d2f4ab14d7c18b079aa4ff1be9f3a1ba1eb31e8bc26b915c9", func := "loop.example/g00102/laws.FnExactWordPower", spec := "fnExactWordPower", apart := false }
def FnExactWordPowerSaid : Prop := fnExactWordPowerRow.holds Try.pinned (OpenSpec.ofChange fnExactWordPowerSpec)

/-- ITS FALSE NEIGHBOUR: 'it returns false'. Refute it at one input. -/
def fnExactWordPowerWrong : ChangeSpec := { name := "fnExactWordPower", fn := fun _ => fun
  | [d1, d2] => { results := [.lit (.bool false)], args := [d1, d2] }
  | _ => none }
def FnExactWordPowerWrongFalsely : Prop := fnExactWordPowerRow.holds Try.pinned (OpenSpec.ofChange fnExactWordPowerWrong)

/-- 'laws.FnExactWordCanon': WHATEVER THE INPUT: true; the input reads as it did. -/
def fnExactWordCanonSpec : ChangeSpec := { name := "fnExactWordCanon", fn := fun _ => fun
  | [d] => { results := [.lit (.bool true)], args := [d] }
  | _ => none }
def fnExactWordCanonRow : OpenClaim := { program := "ythkljpbddddhdaa", sum := "d7e928128dd5ac4d2f4ab14d7c18b079aa4ff1be9f3a1ba1eb31e8bc26b915c9", func := "loop.example/g00102/laws.FnExactWordCanon", spec := "fnExactWordCanon", apart := false }
def FnExactWordCanonSaid : Prop := fnExactWordCanonRow.holds Try.pinned (OpenSpec.ofChange fnExactWordCanonSpec)

/-- ITS FALSE NEIGHBOUR: 'it returns false'. Refute it at one input. -/
def fnExactWordCanonWrong : ChangeSpec := { name := "fnExactWordCanon", fn := fun _ => fun
  | [d] => { results := [.lit (.bool false)], args := [d] }
  | _ => none }
def FnExactWordCanonWrongFalsely : Prop := fnExactWordCanonRow.holds Try.pinned (OpenSpec.ofChange fnExactWordCanonWrong)

/-- 'laws.FnSame3': WHATEVER THE INPUT: true; the input reads as it did. -/
def fnSame3Spec : ChangeSpec := { name := "fnSame3", fn := fun _ => fun
  | [d] => { results := [.lit (.bool true)], args := [d] }
  | _ => none }
def fnSame3Row : OpenClaim := { program := "ythkljpbddddhdaa", sum := "d7e928128dd5ac4d2f4ab14d7c18b079aa4ff1be9f3a1ba1eb31e8bc26b915c9", func := "loop.example/g00102/laws.FnSame3", spec := "fnSame3", apart := false }
def FnSame3Said : Prop := fnSame3Row.holds Try.pinned (OpenSpec.ofChange fnSame3Spec)

/-- ITS FALSE NEIGHBOUR: 'it returns false'. Refute it at one input. -/
def fnSame3Wrong : ChangeSpec := { name := "fnSame3", fn := fun _ => fun
  | [d] => { results := [.lit (.bool false)], args := [d] }
  | _ => none }
def FnSame3WrongFalsely : Prop := fnSame3Row.holds Try.pinned (OpenSpec.ofChange fnSame3Wrong)

/-- 'laws.FnJoin3': WHATEVER THE INPUT: true; the input reads as it did. -/
def fnJoin3Spec : ChangeSpec := { name := "fnJoin3", fn := fun _ => fun
  | [d] => { results := [.lit (.bool true)], args := [d] }
  | _ => none }
def fnJoin3Row : OpenClaim := { program := "ythkljpbddddhdaa", sum := "d7e928128dd5ac4d2f4ab14d7c18b079aa4ff1be9f3a1ba1eb31e8bc26b915c9", func := "loop.example/g00102/laws.FnJoin3", spec := "fnJoin3", apart := false }
def FnJoin3Said : Prop := fnJoin3Row.holds Try.pinned (OpenSpec.ofChange fnJoin3Spec)

/-- ITS FALSE NEIGHBOUR: 'it returns false'. Refute it at one input. -/
def fnJoin3Wrong : ChangeSpec := { name := "fnJoin3", fn := fun _ => fun
  | [d] => { results := [.lit (.bool false)], args := [d] }
  | _ => none }
def FnJoin3WrongFalsely : Prop := fnJoin3Row.holds Try.pinned (OpenSpec.ofChange fnJoin3Wrong)

/-- 'laws.FnLetters3': WHATEVER THE INPUT: true; the input reads as it did. -/
def fnLetters3Spec : ChangeSpec := { name := "fnLetters3", fn := fun _ => fun
  | [d] => { results := [.lit (.bool true)], args := [d] }
  | _ => none }
def fnLetters3Row : OpenClaim := { program := "ythkljpbddddhdaa", sum := "d7e928128dd5ac4d2f4ab14d7c18b079aa4ff1be9f3a1ba1eb31e8bc26b915c9", func := "loop.example/g00102/laws.FnLetters3", spec := "fnLetters3", apart := false }
def FnLetters3Said : Prop := fnLetters3Row.holds Try.pinned (OpenSpec.ofChange fnLetters3Spec)

/-- ITS FALSE NEIGHBOUR: 'it returns false'. Refute it at one input. -/
def fnLetters3Wrong : ChangeSpec := { name := "fnLetters3", fn := fun _ => fun
  | [d] => { results := [.lit (.bool false)], args := [d] }
  | _ => none }
def FnLetters3WrongFalsely : Prop := fnLetters3Row.holds Try.pinned (OpenSpec.ofChange fnLetters3Wrong)

/- THE SECOND FORM. 'bulk': how many values and letters a reading holds, each counted each time it is reached (what is shared counts as often as it is met; a slice's spare places count too). A statement '..UptoSaid' is the law's where the arguments, and the package variables that the reading takes, are together of bulk at most 1048576: NARROWER than '..Said'. Prove '..Said' where nothing that the law and all that it calls make is longer than what came in: it says more and counts as full. Else prove '..UptoSaid'. A law counts once. -/
mutual
def uptoBulk {H : Type} : DataW H → Nat
  | .lit (.string bytes) => bytes.length + 1
  | .lit _ => 1
  | .nil => 1
  | .ptr d => uptoBulk d + 1
  | .slice elems spare => uptoBulkAll elems + uptoBulkAll spare + 1
  | .agg parts => uptoBulkAll parts + 1
  | .iface _ d => uptoBulk d + 1
  | .map entries => uptoBulkEntries entries + 1
  | .held _ => 1
def uptoBulkAll {H : Type} : List (DataW H) → Nat
  | [] => 0
  | d :: r => uptoBulk d + uptoBulkAll r
def uptoBulkEntries {H : Type} : List (Lit × DataW H) → Nat
  | [] => 0
  | x :: r => uptoBulkEntry x + uptoBulkEntries r
def uptoBulkEntry {H : Type} : Lit × DataW H → Nat
  | (.string bytes, d) => bytes.length + uptoBulk d + 1
  | (_, d) => uptoBulk d + 1
 end
def uptoSmall : (H : Type) → List (DataW H) → Bool := fun _ ds => decide (uptoBulkAll ds ≤ 1048576)
def OpenSpec.upto (s : _root_.Go.ChangeSpec) : _root_.Go.OpenSpec := { _root_.Go.OpenSpec.ofChange s with cond := some uptoSmall }

/-- 'laws.FnExactWordOk', WHERE WHAT IT READS IS OF BULK AT MOST 1048576: true; the input reads as it did. -/
def fnExactWordOkUptoRow : OpenClaim := { program := "ythkljpbddddhdaa", sum := "d7e928128dd5ac4d2f4ab14d7c18b079aa4ff1be9f3a1ba1eb31e8bc26b915c9", func := "loop.example/g00102/laws.FnExactWordOk", spec := "fnExactWordOk", apart := false, narrowed := true }
def FnExactWordOkUptoSaid : Prop := fnExactWordOkUptoRow.holds Try.pinned (OpenSpec.upto fnExactWordOkSpec)

/-- 'laws.FnExactWordAt', WHERE WHAT IT READS IS OF BULK AT MOST 1048576: true; the input reads as it did. -/
def fnExactWordAtUptoRow : OpenClaim := { program := "ythkljpbddddhdaa", sum := "d7e928128dd5ac4d2f4ab14d7c18b079aa4ff1be9f3a1ba1eb31e8bc26b915c9", func := "loop.example/g00102/laws.FnExactWordAt", spec := "fnExactWordAt", apart := false, narrowed := true }
def FnExactWordAtUptoSaid : Prop := fnExactWordAtUptoRow.holds Try.pinned (OpenSpec.upto fnExactWordAtSpec)

/-- 'laws.FnExactWordTake', WHERE WHAT IT READS IS OF BULK AT MOST 1048576: true; the input reads as it did. -/
def fnExactWordTakeUptoRow : OpenClaim := { program := "ythkljpbddddhdaa", sum := "d7e928128dd5ac4d2f4ab14d7c18b079aa4ff1be9f3a1ba1eb31e8bc26b915c9", func := "loop.example/g00102/laws.FnExactWordTake", spec := "fnExactWordTake", apart := false, narrowed := true }
def FnExactWordTakeUptoSaid : Prop := fnExactWordTakeUptoRow.holds Try.pinned (OpenSpec.upto fnExactWordTakeSpec)

/-- 'laws.FnExactWordTurn', WHERE WHAT IT READS IS OF BULK AT MOST 1048576: true; the input reads as it did. -/
def fnExactWordTurnUptoRow : OpenClaim := { program := "ythkljpbddddhdaa", sum := "d7e928128dd5ac4d2f4ab14d7c18b079aa4ff1be9f3a1ba1eb31e8bc26b915c9", func := "loop.example/g00102/laws.FnExactWordTurn", spec := "fnExactWordTurn", apart := false, narrowed := true }
def FnExactWordTurnUptoSaid : Prop := fnExactWordTurnUptoRow.holds Try.pinned (OpenSpec.upto fnExactWordTurnSpec)

/-- 'laws.FnExactWordJoin', WHERE WHAT IT READS IS OF BULK AT MOST 1048576: true; the input reads as it did. -/
def fnExactWordJoinUptoRow : OpenClaim := { program := "ythkljpbddddhdaa", sum := "d7e928128dd5ac4d2f4ab14d7c18b079aa4ff1be9f3a1ba1eb31e8bc26b915c9", func := "loop.example/g00102/laws.FnExactWordJoin", spec := "fnExactWordJoin", apart := false, narrowed := true }
def FnExactWordJoinUptoSaid : Prop := fnExactWordJoinUptoRow.holds Try.pinned (OpenSpec.upto fnExactWordJoinSpec)

/-- 'laws.FnExactWordTail', WHERE WHAT IT READS IS OF BULK AT MOST 1048576: true; the input reads as it did. -/
def fnExactWordTailUptoRow : OpenClaim := { program := "ythkljpbddddhdaa", sum := "d7e928128dd5ac4d2f4ab14d7c18b079aa4ff1be9f3a1ba1eb31e8bc26b915c9", func := "loop.example/g00102/laws.FnExactWordTail", spec := "fnExactWordTail", apart := false, narrowed := true }
def FnExactWordTailUptoSaid : Prop := fnExactWordTailUptoRow.holds Try.pinned (OpenSpec.upto fnExactWordTailSpec)

/-- 'laws.FnExactWordSame', WHERE WHAT IT READS IS OF BULK AT MOST 1048576: true; the input reads as it did. -/
def fnExactWordSameUptoRow : OpenClaim := { program := "ythkljpbddddhdaa", sum := "d7e928128dd5ac4d2f4ab14d7c18b079aa4ff1be9f3a1ba1eb31e8bc26b915c9", func := "loop.example/g00102/laws.FnExactWordSame", spec := "fnExactWordSame", apart := false, narrowed := true }
def FnExactWordSameUptoSaid : Prop := fnExactWordSameUptoRow.holds Try.pinned (OpenSpec.upto fnExactWordSameSpec)

/-- 'laws.FnExactWordPower', WHERE WHAT IT READS IS OF BULK AT MOST 1048576: true; the input reads as it did. -/
def fnExactWordPowerUptoRow : OpenClaim := { program := "ythkljpbddddhdaa", sum := "d7e928128dd5ac4d2f4ab14d7c18b079aa4ff1be9f3a1ba1eb31e8bc26b915c9", func := "loop.example/g00102/laws.FnExactWordPower", spec := "fnExactWordPower", apart := false, narrowed := true }
def FnExactWordPowerUptoSaid : Prop := fnExactWordPowerUptoRow.holds Try.pinned (OpenSpec.upto fnExactWordPowerSpec)

/-- 'laws.FnExactWordCanon', WHERE WHAT IT READS IS OF BULK AT MOST 1048576: true; the input reads as it did. -/
def fnExactWordCanonUptoRow : OpenClaim := { program := "ythkljpbddddhdaa", sum := "d7e928128dd5ac4d2f4ab14d7c18b079aa4ff1be9f3a1ba1eb31e8bc26b915c9", func := "loop.example/g00102/laws.FnExactWordCanon", spec := "fnExactWordCanon", apart := false, narrowed := true }
def FnExactWordCanonUptoSaid : Prop := fnExactWordCanonUptoRow.holds Try.pinned (OpenSpec.upto fnExactWordCanonSpec)

/-- 'laws.FnSame3', WHERE WHAT IT READS IS OF BULK AT MOST 1048576: true; the input reads as it did. -/
def fnSame3UptoRow : OpenClaim := { program := "ythkljpbddddhdaa", sum := "d7e928128dd5ac4d2f4ab14d7c18b079aa4ff1be9f3a1ba1eb31e8bc26b915c9", func := "loop.example/g00102/laws.FnSame3", spec := "fnSame3", apart := false, narrowed := true }
def FnSame3UptoSaid : Prop := fnSame3UptoRow.holds Try.pinned (OpenSpec.upto fnSame3Spec)

/-- 'laws.FnJoin3', WHERE WHAT IT READS IS OF BULK AT MOST 1048576: true; the input reads as it did. -/
def fnJoin3UptoRow : OpenClaim := { program := "ythkljpbddddhdaa", sum := "d7e928128dd5ac4d2f4ab14d7c18b079aa4ff1be9f3a1ba1eb31e8bc26b915c9", func := "loop.example/g00102/laws.FnJoin3", spec := "fnJoin3", apart := false, narrowed := true }
def FnJoin3UptoSaid : Prop := fnJoin3UptoRow.holds Try.pinned (OpenSpec.upto fnJoin3Spec)

/-- 'laws.FnLetters3', WHERE WHAT IT READS IS OF BULK AT MOST 1048576: true; the input reads as it did. -/
def fnLetters3UptoRow : OpenClaim := { program := "ythkljpbddddhdaa", sum := "d7e928128dd5ac4d2f4ab14d7c18b079aa4ff1be9f3a1ba1eb31e8bc26b915c9", func := "loop.example/g00102/laws.FnLetters3", spec := "fnLetters3", apart := false, narrowed := true }
def FnLetters3UptoSaid : Prop := fnLetters3UptoRow.holds Try.pinned (OpenSpec.upto fnLetters3Spec)

end Rows
end Go.Proofs.Ythkljpbddddhdaa
