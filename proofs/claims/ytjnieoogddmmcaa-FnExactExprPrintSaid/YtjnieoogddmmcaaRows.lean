/-
  No cell of these rows narrows 'for every input' (looked for: loops, veiled, ifaces, maps, wideKeys, modest, calm, conditions, laid).
  DERIVED. THE GIVEN ROWS OF THIS SEAT. 8 by the template 'for every input the law returns true; each argument reads behind the call as it read before'; 0 by the template 'total and deterministic' (their statements: YtjnieoogddmmcaaTotals.lean).
  GIVEN WITH THE SEED: the statements are not yours to turn. If you find one false, say at which input.
  Laid BY PROGRAM, IN A SANDBOX (cutbox-rows.mjs): the forced cells as the released guide's own fill.sh prints them over the translation 0d9ec66514657ebb… (all of the seat's roots in one cut). By AI agents, Wed Nov 11 2026. No macro, syntax, notation, axiom, sorry.
-/
import Derived.Test.YtjnieoogddmmcaaChecked
import GoSem.Claim
import GoSem.ClaimJoined
import GoSem.ClaimMapViews
import Derived.JoinedTies
import Derived.KernelRfl
namespace Go.Proofs.Ytjnieoogddmmcaa
/- THE CELL 'sum', in the pinned program and in every row, IS THE sha256 OF THE DUMP (.gsa) THAT YtjnieoogddmmcaaProg.lean LOADS. Nothing in Lean hashes anything: it is a label: what it is worth is what the hold of that sum in a sandbox is worth. -/
noncomputable def Try.pinned : Pinned := { name := "ytjnieoogddmmcaa", sum := "0d9ec66514657ebbe69ce2ffb9b811163ad43de29e943aef01f9abea0c96f102", checked := Try.checked }
namespace Rows
def none {H : Type} : Left H := { results := [], args := [] }

/-- 'laws.FnExactExprOk': WHATEVER THE INPUT: true; the input reads as it did. -/
def fnExactExprOkSpec : ChangeSpec := { name := "fnExactExprOk", fn := fun _ => fun
  | [d] => { results := [.lit (.bool true)], args := [d] }
  | _ => none }
def fnExactExprOkRow : OpenClaim := { program := "ytjnieoogddmmcaa", sum := "0d9ec66514657ebbe69ce2ffb9b811163ad43de29e943aef01f9abea0c96f102", func := "loop.example/g00102/laws.FnExactExprOk", spec := "fnExactExprOk", unfollowed := true, recurses := true, apart := false }
def FnExactExprOkSaid : Prop := fnExactExprOkRow.holds Try.pinned (OpenSpec.ofChange fnExactExprOkSpec)

/-- ITS FALSE NEIGHBOUR: 'it returns false'. Refute it at one input. -/
def fnExactExprOkWrong : ChangeSpec := { name := "fnExactExprOk", fn := fun _ => fun
  | [d] => { results := [.lit (.bool false)], args := [d] }
  | _ => none }
def FnExactExprOkWrongFalsely : Prop := fnExactExprOkRow.holds Try.pinned (OpenSpec.ofChange fnExactExprOkWrong)

/-- 'laws.FnExactLtlOk': WHATEVER THE INPUT: true; the input reads as it did. -/
def fnExactLtlOkSpec : ChangeSpec := { name := "fnExactLtlOk", fn := fun _ => fun
  | [d] => { results := [.lit (.bool true)], args := [d] }
  | _ => none }
def fnExactLtlOkRow : OpenClaim := { program := "ytjnieoogddmmcaa", sum := "0d9ec66514657ebbe69ce2ffb9b811163ad43de29e943aef01f9abea0c96f102", func := "loop.example/g00102/laws.FnExactLtlOk", spec := "fnExactLtlOk", unfollowed := true, recurses := true, apart := false }
def FnExactLtlOkSaid : Prop := fnExactLtlOkRow.holds Try.pinned (OpenSpec.ofChange fnExactLtlOkSpec)

/-- ITS FALSE NEIGHBOUR: 'it returns false'. Refute it at one input. -/
def fnExactLtlOkWrong : ChangeSpec := { name := "fnExactLtlOk", fn := fun _ => fun
  | [d] => { results := [.lit (.bool false)], args := [d] }
  | _ => none }
def FnExactLtlOkWrongFalsely : Prop := fnExactLtlOkRow.holds Try.pinned (OpenSpec.ofChange fnExactLtlOkWrong)

/-- 'laws.FnExactExprOf': WHATEVER THE INPUT: true; the input reads as it did. -/
def fnExactExprOfSpec : ChangeSpec := { name := "fnExactExprOf", fn := fun _ => fun
  | [d1, d2] => { results := [.lit (.bool true)], args := [d1, d2] }
  | _ => none }
def fnExactExprOfRow : OpenClaim := { program := "ytjnieoogddmmcaa", sum := "0d9ec66514657ebbe69ce2ffb9b811163ad43de29e943aef01f9abea0c96f102", func := "loop.example/g00102/laws.FnExactExprOf", spec := "fnExactExprOf", apart := false }
def FnExactExprOfSaid : Prop := fnExactExprOfRow.holds Try.pinned (OpenSpec.ofChange fnExactExprOfSpec)

/-- ITS FALSE NEIGHBOUR: 'it returns false'. Refute it at one input. -/
def fnExactExprOfWrong : ChangeSpec := { name := "fnExactExprOf", fn := fun _ => fun
  | [d1, d2] => { results := [.lit (.bool false)], args := [d1, d2] }
  | _ => none }
def FnExactExprOfWrongFalsely : Prop := fnExactExprOfRow.holds Try.pinned (OpenSpec.ofChange fnExactExprOfWrong)

/-- 'laws.FnExactExprHolds': WHATEVER THE INPUT: true; the input reads as it did. -/
def fnExactExprHoldsSpec : ChangeSpec := { name := "fnExactExprHolds", fn := fun _ => fun
  | [d1, d2] => { results := [.lit (.bool true)], args := [d1, d2] }
  | _ => none }
def fnExactExprHoldsRow : OpenClaim := { program := "ytjnieoogddmmcaa", sum := "0d9ec66514657ebbe69ce2ffb9b811163ad43de29e943aef01f9abea0c96f102", func := "loop.example/g00102/laws.FnExactExprHolds", spec := "fnExactExprHolds", unfollowed := true, recurses := true, apart := false }
def FnExactExprHoldsSaid : Prop := fnExactExprHoldsRow.holds Try.pinned (OpenSpec.ofChange fnExactExprHoldsSpec)

/-- ITS FALSE NEIGHBOUR: 'it returns false'. Refute it at one input. -/
def fnExactExprHoldsWrong : ChangeSpec := { name := "fnExactExprHolds", fn := fun _ => fun
  | [d1, d2] => { results := [.lit (.bool false)], args := [d1, d2] }
  | _ => none }
def FnExactExprHoldsWrongFalsely : Prop := fnExactExprHoldsRow.holds Try.pinned (OpenSpec.ofChange fnExactExprHoldsWrong)

/-- 'laws.FnExactExprPrint': WHATEVER THE INPUT: true; the input reads as it did. -/
def fnExactExprPrintSpec : ChangeSpec := { name := "fnExactExprPrint", fn := fun _ => fun
  | [d] => { results := [.lit (.bool true)], args := [d] }
  | _ => none }
def fnExactExprPrintRow : OpenClaim := { program := "ytjnieoogddmmcaa", sum := "0d9ec66514657ebbe69ce2ffb9b811163ad43de29e943aef01f9abea0c96f102", func := "loop.example/g00102/laws.FnExactExprPrint", spec := "fnExactExprPrint", unfollowed := true, recurses := true, apart := false }
def FnExactExprPrintSaid : Prop := fnExactExprPrintRow.holds Try.pinned (OpenSpec.ofChange fnExactExprPrintSpec)

/-- ITS FALSE NEIGHBOUR: 'it returns false'. Refute it at one input. -/
def fnExactExprPrintWrong : ChangeSpec := { name := "fnExactExprPrint", fn := fun _ => fun
  | [d] => { results := [.lit (.bool false)], args := [d] }
  | _ => none }
def FnExactExprPrintWrongFalsely : Prop := fnExactExprPrintRow.holds Try.pinned (OpenSpec.ofChange fnExactExprPrintWrong)

/-- 'laws.FnExactLtlNot': WHATEVER THE INPUT: true; the input reads as it did. -/
def fnExactLtlNotSpec : ChangeSpec := { name := "fnExactLtlNot", fn := fun _ => fun
  | [d] => { results := [.lit (.bool true)], args := [d] }
  | _ => none }
def fnExactLtlNotRow : OpenClaim := { program := "ytjnieoogddmmcaa", sum := "0d9ec66514657ebbe69ce2ffb9b811163ad43de29e943aef01f9abea0c96f102", func := "loop.example/g00102/laws.FnExactLtlNot", spec := "fnExactLtlNot", unfollowed := true, recurses := true, apart := false }
def FnExactLtlNotSaid : Prop := fnExactLtlNotRow.holds Try.pinned (OpenSpec.ofChange fnExactLtlNotSpec)

/-- ITS FALSE NEIGHBOUR: 'it returns false'. Refute it at one input. -/
def fnExactLtlNotWrong : ChangeSpec := { name := "fnExactLtlNot", fn := fun _ => fun
  | [d] => { results := [.lit (.bool false)], args := [d] }
  | _ => none }
def FnExactLtlNotWrongFalsely : Prop := fnExactLtlNotRow.holds Try.pinned (OpenSpec.ofChange fnExactLtlNotWrong)

/-- 'laws.FnExactExprLetters': WHATEVER THE INPUT: true; the input reads as it did. -/
def fnExactExprLettersSpec : ChangeSpec := { name := "fnExactExprLetters", fn := fun _ => fun
  | [d1, d2] => { results := [.lit (.bool true)], args := [d1, d2] }
  | _ => none }
def fnExactExprLettersRow : OpenClaim := { program := "ytjnieoogddmmcaa", sum := "0d9ec66514657ebbe69ce2ffb9b811163ad43de29e943aef01f9abea0c96f102", func := "loop.example/g00102/laws.FnExactExprLetters", spec := "fnExactExprLetters", unfollowed := true, recurses := true, apart := false }
def FnExactExprLettersSaid : Prop := fnExactExprLettersRow.holds Try.pinned (OpenSpec.ofChange fnExactExprLettersSpec)

/-- ITS FALSE NEIGHBOUR: 'it returns false'. Refute it at one input. -/
def fnExactExprLettersWrong : ChangeSpec := { name := "fnExactExprLetters", fn := fun _ => fun
  | [d1, d2] => { results := [.lit (.bool false)], args := [d1, d2] }
  | _ => none }
def FnExactExprLettersWrongFalsely : Prop := fnExactExprLettersRow.holds Try.pinned (OpenSpec.ofChange fnExactExprLettersWrong)

/-- 'laws.FnExprOf': WHATEVER THE INPUT: true; the input reads as it did. -/
def fnExprOfSpec : ChangeSpec := { name := "fnExprOf", fn := fun _ => fun
  | [d] => { results := [.lit (.bool true)], args := [d] }
  | _ => none }
def fnExprOfRow : OpenClaim := { program := "ytjnieoogddmmcaa", sum := "0d9ec66514657ebbe69ce2ffb9b811163ad43de29e943aef01f9abea0c96f102", func := "loop.example/g00102/laws.FnExprOf", spec := "fnExprOf", unfollowed := true, recurses := true, apart := false }
def FnExprOfSaid : Prop := fnExprOfRow.holds Try.pinned (OpenSpec.ofChange fnExprOfSpec)

/-- ITS FALSE NEIGHBOUR: 'it returns false'. Refute it at one input. -/
def fnExprOfWrong : ChangeSpec := { name := "fnExprOf", fn := fun _ => fun
  | [d] => { results := [.lit (.bool false)], args := [d] }
  | _ => none }
def FnExprOfWrongFalsely : Prop := fnExprOfRow.holds Try.pinned (OpenSpec.ofChange fnExprOfWrong)

/- THE SECOND FORM. 'bulk': how many values and letters a reading holds, each counted each time it is reached (what is shared counts as often as it is met; a slice's spare places count too). A statement '..UptoSaid' is the law's where the arguments, and the package variables that the reading takes, are together of bulk at most 1048576: NARROWER than '..Said'. Prove '..Said' where nothing that the law and all that it calls make is longer than what came in: it says more and counts as full. Else prove '..UptoSaid'. A law counts once. -/
mutual
def uptoBulk {H : Type} : DataW H → Nat
  | .lit (.string bytes) => bytes.length + 1
  | .lit _ => 1
  | .nil => 1
  | .ptr d => uptoBulk d + 1
  | .slice elems spare => uptoBulkAll elems + uptoBulkAll spare + 1
  | .agg parts => uptoBulkAll parts + 1
  | .iface _ d => uptoBulk d + 1
  | .map entries => uptoBulkEntries entries + 1
  | .held _ => 1
def uptoBulkAll {H : Type} : List (DataW H) → Nat
  | [] => 0
  | d :: r => uptoBulk d + uptoBulkAll r
def uptoBulkEntries {H : Type} : List (Lit × DataW H) → Nat
  | [] => 0
  | x :: r => uptoBulkEntry x + uptoBulkEntries r
def uptoBulkEntry {H : Type} : Lit × DataW H → Nat
  | (.string bytes, d) => bytes.length + uptoBulk d + 1
  | (_, d) => uptoBulk d + 1
 end
def uptoSmall : (H : Type) → List (DataW H) → Bool := fun _ ds => decide (uptoBulkAll ds ≤ 1048576)
def OpenSpec.upto (s : _root_.Go.ChangeSpec) : _root_.Go.OpenSpec := { _root_.Go.OpenSpec.ofChange s with cond := some uptoSmall }

/-- 'laws.FnExactExprOk', WHERE WHAT IT READS IS OF BULK AT MOST 1048576: true; the input reads as it did. -/
def fnExactExprOkUptoRow : OpenClaim := { program := "ytjnieoogddmmcaa", sum := "0d9ec66514657ebbe69ce2ffb9b811163ad43de29e943aef01f9abea0c96f102", func := "loop.example/g00102/laws.FnExactExprOk", spec := "fnExactExprOk", unfollowed := true, recurses := true, apart := false, narrowed := true }
def FnExactExprOkUptoSaid : Prop := fnExactExprOkUptoRow.holds Try.pinned (OpenSpec.upto fnExactExprOkSpec)

/-- 'laws.FnExactLtlOk', WHERE WHAT IT READS IS OF BULK AT MOST 1048576: true; the input reads as it did. -/
def fnExactLtlOkUptoRow : OpenClaim := { program := "ytjnieoogddmmcaa", sum := "0d9ec66514657ebbe69ce2ffb9b811163ad43de29e943aef01f9abea0c96f102", func := "loop.example/g00102/laws.FnExactLtlOk", spec := "fnExactLtlOk", unfollowed := true, recurses := true, apart := false, narrowed := true }
def FnExactLtlOkUptoSaid : Prop := fnExactLtlOkUptoRow.holds Try.pinned (OpenSpec.upto fnExactLtlOkSpec)

/-- 'laws.FnExactExprOf', WHERE WHAT IT READS IS OF BULK AT MOST 1048576: true; the input reads as it did. -/
def fnExactExprOfUptoRow : OpenClaim := { program := "ytjnieoogddmmcaa", sum := "0d9ec66514657ebbe69ce2ffb9b811163ad43de29e943aef01f9abea0c96f102", func := "loop.example/g00102/laws.FnExactExprOf", spec := "fnExactExprOf", apart := false, narrowed := true }
def FnExactExprOfUptoSaid : Prop := fnExactExprOfUptoRow.holds Try.pinned (OpenSpec.upto fnExactExprOfSpec)

/-- 'laws.FnExactExprHolds', WHERE WHAT IT READS IS OF BULK AT MOST 1048576: true; the input reads as it did. -/
def fnExactExprHoldsUptoRow : OpenClaim := { program := "ytjnieoogddmmcaa", sum := "0d9ec66514657ebbe69ce2ffb9b811163ad43de29e943aef01f9abea0c96f102", func := "loop.example/g00102/laws.FnExactExprHolds", spec := "fnExactExprHolds", unfollowed := true, recurses := true, apart := false, narrowed := true }
def FnExactExprHoldsUptoSaid : Prop := fnExactExprHoldsUptoRow.holds Try.pinned (OpenSpec.upto fnExactExprHoldsSpec)

/-- 'laws.FnExactExprPrint', WHERE WHAT IT READS IS OF BULK AT MOST 1048576: true; the input reads as it did. -/
def fnExactExprPrintUptoRow : OpenClaim := { program := "ytjnieoogddmmcaa", sum := "0d9ec66514657ebbe69ce2ffb9b811163ad43de29e943aef01f9abea0c96f102", func := "loop.example/g00102/laws.FnExactExprPrint", spec := "fnExactExprPrint", unfollowed := true, recurses := true, apart := false, narrowed := true }
def FnExactExprPrintUptoSaid : Prop := fnExactExprPrintUptoRow.holds Try.pinned (OpenSpec.upto fnExactExprPrintSpec)

/-- 'laws.FnExactLtlNot', WHERE WHAT IT READS IS OF BULK AT MOST 1048576: true; the input reads as it did. -/
def fnExactLtlNotUptoRow : OpenClaim := { program := "ytjnieoogddmmcaa", sum := "0d9ec66514657ebbe69ce2ffb9b811163ad43de29e943aef01f9abea0c96f102", func := "loop.example/g00102/laws.FnExactLtlNot", spec := "fnExactLtlNot", unfollowed := true, recurses := true, apart := false, narrowed := true }
def FnExactLtlNotUptoSaid : Prop := fnExactLtlNotUptoRow.holds Try.pinned (OpenSpec.upto fnExactLtlNotSpec)

/-- 'laws.FnExactExprLetters', WHERE WHAT IT READS IS OF BULK AT MOST 1048576: true; the input reads as it did. -/
def fnExactExprLettersUptoRow : OpenClaim := { program := "ytjnieoogddmmcaa", sum := "0d9ec66514657ebbe69ce2ffb9b811163ad43de29e943aef01f9abea0c96f102", func := "loop.example/g00102/laws.FnExactExprLetters", spec := "fnExactExprLetters", unfollowed := true, recurses := true, apart := false, narrowed := true }
def FnExactExprLettersUptoSaid : Prop := fnExactExprLettersUptoRow.holds Try.pinned (OpenSpec.upto fnExactExprLettersSpec)

/-- 'laws.FnExprOf', WHERE WHAT IT READS IS OF BULK AT MOST 1048576: true; the input reads as it did. -/
def fnExprOfUptoRow : OpenClaim := { program := "ytjnieoogddmmcaa", sum := "0d9ec66514657ebbe69ce2ffb9b811163ad43de29e943aef01f9abea0c96f102", func := "loop.example/g00102/laws.FnExprOf", spec := "fnExprOf", unfollowed := true, recurses := true, apart := false, narrowed := true }
def FnExprOfUptoSaid : Prop := fnExprOfUptoRow.holds Try.pinned (OpenSpec.upto fnExprOfSpec)

end Rows
end Go.Proofs.Ytjnieoogddmmcaa
