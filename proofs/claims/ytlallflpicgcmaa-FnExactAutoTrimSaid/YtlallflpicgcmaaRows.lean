/-
  No cell of these rows narrows 'for every input' (looked for: loops, veiled, ifaces, maps, wideKeys, modest, calm, conditions, laid).
  DERIVED. THE GIVEN ROWS OF THIS SEAT. 11 by the template 'for every input the law returns true; each argument reads behind the call as it read before'; 0 by the template 'total and deterministic' (their statements: YtlallflpicgcmaaTotals.lean).
  GIVEN WITH THE SEED: the statements are not yours to turn. If you find one false, say at which input.
  Laid BY PROGRAM, IN A SANDBOX (cutbox-rows.mjs): the forced cells as the released guide's own fill.sh prints them over the translation b70894f7a5c2745f… (all of the seat's roots in one cut). By AI agents, Wed Nov 11 2026. No macro, syntax, notation, axiom, sorry.
-/
import Derived.Test.YtlallflpicgcmaaChecked
import GoSem.Claim
import GoSem.ClaimJoined
import GoSem.ClaimMapViews
import Derived.JoinedTies
import Derived.KernelRfl
namespace Go.Proofs.Ytlallflpicgcmaa
/- THE CELL 'sum', in the pinned program and in every row, IS THE sha256 OF THE DUMP (.gsa) THAT YtlallflpicgcmaaProg.lean LOADS. Nothing in Lean hashes anything: it is a label: what it is worth is what the hold of that sum in a sandbox is worth. -/
noncomputable def Try.pinned : Pinned := { name := "ytlallflpicgcmaa", sum := "b70894f7a5c2745f4a11d644ea8cf6eb1b9a36151b7584561ec468eb94b401f4", checked := Try.checked }
namespace Rows
def none {H : Type} : Left H := { results := [], args := [] }

/-- 'laws.FnExactAutoAll': WHATEVER THE INPUT: true; the input reads as it did. -/
def fnExactAutoAllSpec : ChangeSpec := { name := "fnExactAutoAll", fn := fun _ => fun
  | [d] => { results := [.lit (.bool true)], args := [d] }
  | _ => none }
def fnExactAutoAllRow : OpenClaim := { program := "ytlallflpicgcmaa", sum := "b70894f7a5c2745f4a11d644ea8cf6eb1b9a36151b7584561ec468eb94b401f4", func := "loop.example/g00102/laws.FnExactAutoAll", spec := "fnExactAutoAll", apart := false }
def FnExactAutoAllSaid : Prop := fnExactAutoAllRow.holds Try.pinned (OpenSpec.ofChange fnExactAutoAllSpec)

/-- ITS FALSE NEIGHBOUR: 'it returns false'. Refute it at one input. -/
def fnExactAutoAllWrong : ChangeSpec := { name := "fnExactAutoAll", fn := fun _ => fun
  | [d] => { results := [.lit (.bool false)], args := [d] }
  | _ => none }
def FnExactAutoAllWrongFalsely : Prop := fnExactAutoAllRow.holds Try.pinned (OpenSpec.ofChange fnExactAutoAllWrong)

/-- 'laws.FnExactAutoOk': WHATEVER THE INPUT: true; the input reads as it did. -/
def fnExactAutoOkSpec : ChangeSpec := { name := "fnExactAutoOk", fn := fun _ => fun
  | [d] => { results := [.lit (.bool true)], args := [d] }
  | _ => none }
def fnExactAutoOkRow : OpenClaim := { program := "ytlallflpicgcmaa", sum := "b70894f7a5c2745f4a11d644ea8cf6eb1b9a36151b7584561ec468eb94b401f4", func := "loop.example/g00102/laws.FnExactAutoOk", spec := "fnExactAutoOk", apart := false }
def FnExactAutoOkSaid : Prop := fnExactAutoOkRow.holds Try.pinned (OpenSpec.ofChange fnExactAutoOkSpec)

/-- ITS FALSE NEIGHBOUR: 'it returns false'. Refute it at one input. -/
def fnExactAutoOkWrong : ChangeSpec := { name := "fnExactAutoOk", fn := fun _ => fun
  | [d] => { results := [.lit (.bool false)], args := [d] }
  | _ => none }
def FnExactAutoOkWrongFalsely : Prop := fnExactAutoOkRow.holds Try.pinned (OpenSpec.ofChange fnExactAutoOkWrong)

/-- 'laws.FnExactGenOk': WHATEVER THE INPUT: true; the input reads as it did. -/
def fnExactGenOkSpec : ChangeSpec := { name := "fnExactGenOk", fn := fun _ => fun
  | [d] => { results := [.lit (.bool true)], args := [d] }
  | _ => none }
def fnExactGenOkRow : OpenClaim := { program := "ytlallflpicgcmaa", sum := "b70894f7a5c2745f4a11d644ea8cf6eb1b9a36151b7584561ec468eb94b401f4", func := "loop.example/g00102/laws.FnExactGenOk", spec := "fnExactGenOk", apart := false }
def FnExactGenOkSaid : Prop := fnExactGenOkRow.holds Try.pinned (OpenSpec.ofChange fnExactGenOkSpec)

/-- ITS FALSE NEIGHBOUR: 'it returns false'. Refute it at one input. -/
def fnExactGenOkWrong : ChangeSpec := { name := "fnExactGenOk", fn := fun _ => fun
  | [d] => { results := [.lit (.bool false)], args := [d] }
  | _ => none }
def FnExactGenOkWrongFalsely : Prop := fnExactGenOkRow.holds Try.pinned (OpenSpec.ofChange fnExactGenOkWrong)

/-- 'laws.FnExactAutoEdge': WHATEVER THE INPUT: true; the input reads as it did. -/
def fnExactAutoEdgeSpec : ChangeSpec := { name := "fnExactAutoEdge", fn := fun _ => fun
  | [d1, d2, d3, d4] => { results := [.lit (.bool true)], args := [d1, d2, d3, d4] }
  | _ => none }
def fnExactAutoEdgeRow : OpenClaim := { program := "ytlallflpicgcmaa", sum := "b70894f7a5c2745f4a11d644ea8cf6eb1b9a36151b7584561ec468eb94b401f4", func := "loop.example/g00102/laws.FnExactAutoEdge", spec := "fnExactAutoEdge", apart := false }
def FnExactAutoEdgeSaid : Prop := fnExactAutoEdgeRow.holds Try.pinned (OpenSpec.ofChange fnExactAutoEdgeSpec)

/-- ITS FALSE NEIGHBOUR: 'it returns false'. Refute it at one input. -/
def fnExactAutoEdgeWrong : ChangeSpec := { name := "fnExactAutoEdge", fn := fun _ => fun
  | [d1, d2, d3, d4] => { results := [.lit (.bool false)], args := [d1, d2, d3, d4] }
  | _ => none }
def FnExactAutoEdgeWrongFalsely : Prop := fnExactAutoEdgeRow.holds Try.pinned (OpenSpec.ofChange fnExactAutoEdgeWrong)

/-- 'laws.FnExactAutoNext': WHATEVER THE INPUT: true; the input reads as it did. -/
def fnExactAutoNextSpec : ChangeSpec := { name := "fnExactAutoNext", fn := fun _ => fun
  | [d1, d2, d3] => { results := [.lit (.bool true)], args := [d1, d2, d3] }
  | _ => none }
def fnExactAutoNextRow : OpenClaim := { program := "ytlallflpicgcmaa", sum := "b70894f7a5c2745f4a11d644ea8cf6eb1b9a36151b7584561ec468eb94b401f4", func := "loop.example/g00102/laws.FnExactAutoNext", spec := "fnExactAutoNext", apart := false }
def FnExactAutoNextSaid : Prop := fnExactAutoNextRow.holds Try.pinned (OpenSpec.ofChange fnExactAutoNextSpec)

/-- ITS FALSE NEIGHBOUR: 'it returns false'. Refute it at one input. -/
def fnExactAutoNextWrong : ChangeSpec := { name := "fnExactAutoNext", fn := fun _ => fun
  | [d1, d2, d3] => { results := [.lit (.bool false)], args := [d1, d2, d3] }
  | _ => none }
def FnExactAutoNextWrongFalsely : Prop := fnExactAutoNextRow.holds Try.pinned (OpenSpec.ofChange fnExactAutoNextWrong)

/-- 'laws.FnExactAutoReach': WHATEVER THE INPUT: true; the input reads as it did. -/
def fnExactAutoReachSpec : ChangeSpec := { name := "fnExactAutoReach", fn := fun _ => fun
  | [d1, d2] => { results := [.lit (.bool true)], args := [d1, d2] }
  | _ => none }
def fnExactAutoReachRow : OpenClaim := { program := "ytlallflpicgcmaa", sum := "b70894f7a5c2745f4a11d644ea8cf6eb1b9a36151b7584561ec468eb94b401f4", func := "loop.example/g00102/laws.FnExactAutoReach", spec := "fnExactAutoReach", apart := false }
def FnExactAutoReachSaid : Prop := fnExactAutoReachRow.holds Try.pinned (OpenSpec.ofChange fnExactAutoReachSpec)

/-- ITS FALSE NEIGHBOUR: 'it returns false'. Refute it at one input. -/
def fnExactAutoReachWrong : ChangeSpec := { name := "fnExactAutoReach", fn := fun _ => fun
  | [d1, d2] => { results := [.lit (.bool false)], args := [d1, d2] }
  | _ => none }
def FnExactAutoReachWrongFalsely : Prop := fnExactAutoReachRow.holds Try.pinned (OpenSpec.ofChange fnExactAutoReachWrong)

/-- 'laws.FnExactAutoUnion': WHATEVER THE INPUT: true; the input reads as it did. -/
def fnExactAutoUnionSpec : ChangeSpec := { name := "fnExactAutoUnion", fn := fun _ => fun
  | [d1, d2] => { results := [.lit (.bool true)], args := [d1, d2] }
  | _ => none }
def fnExactAutoUnionRow : OpenClaim := { program := "ytlallflpicgcmaa", sum := "b70894f7a5c2745f4a11d644ea8cf6eb1b9a36151b7584561ec468eb94b401f4", func := "loop.example/g00102/laws.FnExactAutoUnion", spec := "fnExactAutoUnion", apart := false }
def FnExactAutoUnionSaid : Prop := fnExactAutoUnionRow.holds Try.pinned (OpenSpec.ofChange fnExactAutoUnionSpec)

/-- ITS FALSE NEIGHBOUR: 'it returns false'. Refute it at one input. -/
def fnExactAutoUnionWrong : ChangeSpec := { name := "fnExactAutoUnion", fn := fun _ => fun
  | [d1, d2] => { results := [.lit (.bool false)], args := [d1, d2] }
  | _ => none }
def FnExactAutoUnionWrongFalsely : Prop := fnExactAutoUnionRow.holds Try.pinned (OpenSpec.ofChange fnExactAutoUnionWrong)

/-- 'laws.FnExactGenOf': WHATEVER THE INPUT: true; the input reads as it did. -/
def fnExactGenOfSpec : ChangeSpec := { name := "fnExactGenOf", fn := fun _ => fun
  | [d] => { results := [.lit (.bool true)], args := [d] }
  | _ => none }
def fnExactGenOfRow : OpenClaim := { program := "ytlallflpicgcmaa", sum := "b70894f7a5c2745f4a11d644ea8cf6eb1b9a36151b7584561ec468eb94b401f4", func := "loop.example/g00102/laws.FnExactGenOf", spec := "fnExactGenOf", apart := false }
def FnExactGenOfSaid : Prop := fnExactGenOfRow.holds Try.pinned (OpenSpec.ofChange fnExactGenOfSpec)

/-- ITS FALSE NEIGHBOUR: 'it returns false'. Refute it at one input. -/
def fnExactGenOfWrong : ChangeSpec := { name := "fnExactGenOf", fn := fun _ => fun
  | [d] => { results := [.lit (.bool false)], args := [d] }
  | _ => none }
def FnExactGenOfWrongFalsely : Prop := fnExactGenOfRow.holds Try.pinned (OpenSpec.ofChange fnExactGenOfWrong)

/-- 'laws.FnReach4': WHATEVER THE INPUT: true; the input reads as it did. -/
def fnReach4Spec : ChangeSpec := { name := "fnReach4", fn := fun _ => fun
  | [d] => { results := [.lit (.bool true)], args := [d] }
  | _ => none }
def fnReach4Row : OpenClaim := { program := "ytlallflpicgcmaa", sum := "b70894f7a5c2745f4a11d644ea8cf6eb1b9a36151b7584561ec468eb94b401f4", func := "loop.example/g00102/laws.FnReach4", spec := "fnReach4", apart := false }
def FnReach4Said : Prop := fnReach4Row.holds Try.pinned (OpenSpec.ofChange fnReach4Spec)

/-- ITS FALSE NEIGHBOUR: 'it returns false'. Refute it at one input. -/
def fnReach4Wrong : ChangeSpec := { name := "fnReach4", fn := fun _ => fun
  | [d] => { results := [.lit (.bool false)], args := [d] }
  | _ => none }
def FnReach4WrongFalsely : Prop := fnReach4Row.holds Try.pinned (OpenSpec.ofChange fnReach4Wrong)

/-- 'laws.FnExactAutoTrim': WHATEVER THE INPUT: true; the input reads as it did. -/
def fnExactAutoTrimSpec : ChangeSpec := { name := "fnExactAutoTrim", fn := fun _ => fun
  | [d] => { results := [.lit (.bool true)], args := [d] }
  | _ => none }
def fnExactAutoTrimRow : OpenClaim := { program := "ytlallflpicgcmaa", sum := "b70894f7a5c2745f4a11d644ea8cf6eb1b9a36151b7584561ec468eb94b401f4", func := "loop.example/g00102/laws.FnExactAutoTrim", spec := "fnExactAutoTrim", apart := false }
def FnExactAutoTrimSaid : Prop := fnExactAutoTrimRow.holds Try.pinned (OpenSpec.ofChange fnExactAutoTrimSpec)

/-- ITS FALSE NEIGHBOUR: 'it returns false'. Refute it at one input. -/
def fnExactAutoTrimWrong : ChangeSpec := { name := "fnExactAutoTrim", fn := fun _ => fun
  | [d] => { results := [.lit (.bool false)], args := [d] }
  | _ => none }
def FnExactAutoTrimWrongFalsely : Prop := fnExactAutoTrimRow.holds Try.pinned (OpenSpec.ofChange fnExactAutoTrimWrong)

/-- 'laws.FnExactRunOk': WHATEVER THE INPUT: true; the input reads as it did. -/
def fnExactRunOkSpec : ChangeSpec := { name := "fnExactRunOk", fn := fun _ => fun
  | [d1, d2, d3] => { results := [.lit (.bool true)], args := [d1, d2, d3] }
  | _ => none }
def fnExactRunOkRow : OpenClaim := { program := "ytlallflpicgcmaa", sum := "b70894f7a5c2745f4a11d644ea8cf6eb1b9a36151b7584561ec468eb94b401f4", func := "loop.example/g00102/laws.FnExactRunOk", spec := "fnExactRunOk", apart := false }
def FnExactRunOkSaid : Prop := fnExactRunOkRow.holds Try.pinned (OpenSpec.ofChange fnExactRunOkSpec)

/-- ITS FALSE NEIGHBOUR: 'it returns false'. Refute it at one input. -/
def fnExactRunOkWrong : ChangeSpec := { name := "fnExactRunOk", fn := fun _ => fun
  | [d1, d2, d3] => { results := [.lit (.bool false)], args := [d1, d2, d3] }
  | _ => none }
def FnExactRunOkWrongFalsely : Prop := fnExactRunOkRow.holds Try.pinned (OpenSpec.ofChange fnExactRunOkWrong)

/- THE SECOND FORM. 'bulk': how many values and letters a reading holds, each counted each time it is reached (what is shared counts as often as it is met; a slice's spare places count too). A statement '..UptoSaid' is the law's where the arguments, and the package variables that the reading takes, are together of bulk at most 1048576: NARROWER than '..Said'. Prove '..Said' where nothing that the law and all that it calls make is longer than what came in: it says more and counts as full. Else prove '..UptoSaid'. A law counts once. -/
mutual
def uptoBulk {H : Type} : DataW H → Nat
  | .lit (.string bytes) => bytes.length + 1
  | .lit _ => 1
  | .nil => 1
  | .ptr d => uptoBulk d + 1
  | .slice elems spare => uptoBulkAll elems + uptoBulkAll spare + 1
  | .agg parts => uptoBulkAll parts + 1
  | .iface _ d => uptoBulk d + 1
  | .map entries => uptoBulkEntries entries + 1
  | .held _ => 1
def uptoBulkAll {H : Type} : List (DataW H) → Nat
  | [] => 0
  | d :: r => uptoBulk d + uptoBulkAll r
def uptoBulkEntries {H : Type} : List (Lit × DataW H) → Nat
  | [] => 0
  | x :: r => uptoBulkEntry x + uptoBulkEntries r
def uptoBulkEntry {H : Type} : Lit × DataW H → Nat
  | (.string bytes, d) => bytes.length + uptoBulk d + 1
  | (_, d) => uptoBulk d + 1
 end
def uptoSmall : (H : Type) → List (DataW H) → Bool := fun _ ds => decide (uptoBulkAll ds ≤ 1048576)
def OpenSpec.upto (s : _root_.Go.ChangeSpec) : _root_.Go.OpenSpec := { _root_.Go.OpenSpec.ofChange s with cond := some uptoSmall }

/-- 'laws.FnExactAutoAll', WHERE WHAT IT READS IS OF BULK AT MOST 1048576: true; the input reads as it did. -/
def fnExactAutoAllUptoRow : OpenClaim := { program := "ytlallflpicgcmaa", sum := "b70894f7a5c2745f4a11d644ea8cf6eb1b9a36151b7584561ec468eb94b401f4", func := "loop.example/g00102/laws.FnExactAutoAll", spec := "fnExactAutoAll", apart := false, narrowed := true }
def FnExactAutoAllUptoSaid : Prop := fnExactAutoAllUptoRow.holds Try.pinned (OpenSpec.upto fnExactAutoAllSpec)

/-- 'laws.FnExactAutoOk', WHERE WHAT IT READS IS OF BULK AT MOST 1048576: true; the input reads as it did. -/
def fnExactAutoOkUptoRow : OpenClaim := { program := "ytlallflpicgcmaa", sum := "b70894f7a5c2745f4a11d644ea8cf6eb1b9a36151b7584561ec468eb94b401f4", func := "loop.example/g00102/laws.FnExactAutoOk", spec := "fnExactAutoOk", apart := false, narrowed := true }
def FnExactAutoOkUptoSaid : Prop := fnExactAutoOkUptoRow.holds Try.pinned (OpenSpec.upto fnExactAutoOkSpec)

/-- 'laws.FnExactGenOk', WHERE WHAT IT READS IS OF BULK AT MOST 1048576: true; the input reads as it did. -/
def fnExactGenOkUptoRow : OpenClaim := { program := "ytlallflpicgcmaa", sum := "b70894f7a5c2745f4a11d644ea8cf6eb1b9a36151b7584561ec468eb94b401f4", func := "loop.example/g00102/laws.FnExactGenOk", spec := "fnExactGenOk", apart := false, narrowed := true }
def FnExactGenOkUptoSaid : Prop := fnExactGenOkUptoRow.holds Try.pinned (OpenSpec.upto fnExactGenOkSpec)

/-- 'laws.FnExactAutoEdge', WHERE WHAT IT READS IS OF BULK AT MOST 1048576: true; the input reads as it did. -/
def fnExactAutoEdgeUptoRow : OpenClaim := { program := "ytlallflpicgcmaa", sum := "b70894f7a5c2745f4a11d644ea8cf6eb1b9a36151b7584561ec468eb94b401f4", func := "loop.example/g00102/laws.FnExactAutoEdge", spec := "fnExactAutoEdge", apart := false, narrowed := true }
def FnExactAutoEdgeUptoSaid : Prop := fnExactAutoEdgeUptoRow.holds Try.pinned (OpenSpec.upto fnExactAutoEdgeSpec)

/-- 'laws.FnExactAutoNext', WHERE WHAT IT READS IS OF BULK AT MOST 1048576: true; the input reads as it did. -/
def fnExactAutoNextUptoRow : OpenClaim := { program := "ytlallflpicgcmaa", sum := "b70894f7a5c2745f4a11d644ea8cf6eb1b9a36151b7584561ec468eb94b401f4", func := "loop.example/g00102/laws.FnExactAutoNext", spec := "fnExactAutoNext", apart := false, narrowed := true }
def FnExactAutoNextUptoSaid : Prop := fnExactAutoNextUptoRow.holds Try.pinned (OpenSpec.upto fnExactAutoNextSpec)

/-- 'laws.FnExactAutoReach', WHERE WHAT IT READS IS OF BULK AT MOST 1048576: true; the input reads as it did. -/
def fnExactAutoReachUptoRow : OpenClaim := { program := "ytlallflpicgcmaa", sum := "b70894f7a5c2745f4a11d644ea8cf6eb1b9a36151b7584561ec468eb94b401f4", func := "loop.example/g00102/laws.FnExactAutoReach", spec := "fnExactAutoReach", apart := false, narrowed := true }
def FnExactAutoReachUptoSaid : Prop := fnExactAutoReachUptoRow.holds Try.pinned (OpenSpec.upto fnExactAutoReachSpec)

/-- 'laws.FnExactAutoUnion', WHERE WHAT IT READS IS OF BULK AT MOST 1048576: true; the input reads as it did. -/
def fnExactAutoUnionUptoRow : OpenClaim := { program := "ytlallflpicgcmaa", sum := "b70894f7a5c2745f4a11d644ea8cf6eb1b9a36151b7584561ec468eb94b401f4", func := "loop.example/g00102/laws.FnExactAutoUnion", spec := "fnExactAutoUnion", apart := false, narrowed := true }
def FnExactAutoUnionUptoSaid : Prop := fnExactAutoUnionUptoRow.holds Try.pinned (OpenSpec.upto fnExactAutoUnionSpec)

/-- 'laws.FnExactGenOf', WHERE WHAT IT READS IS OF BULK AT MOST 1048576: true; the input reads as it did. -/
def fnExactGenOfUptoRow : OpenClaim := { program := "ytlallflpicgcmaa", sum := "b70894f7a5c2745f4a11d644ea8cf6eb1b9a36151b7584561ec468eb94b401f4", func := "loop.example/g00102/laws.FnExactGenOf", spec := "fnExactGenOf", apart := false, narrowed := true }
def FnExactGenOfUptoSaid : Prop := fnExactGenOfUptoRow.holds Try.pinned (OpenSpec.upto fnExactGenOfSpec)

/-- 'laws.FnReach4', WHERE WHAT IT READS IS OF BULK AT MOST 1048576: true; the input reads as it did. -/
def fnReach4UptoRow : OpenClaim := { program := "ytlallflpicgcmaa", sum := "b70894f7a5c2745f4a11d644ea8cf6eb1b9a36151b7584561ec468eb94b401f4", func := "loop.example/g00102/laws.FnReach4", spec := "fnReach4", apart := false, narrowed := true }
def FnReach4UptoSaid : Prop := fnReach4UptoRow.holds Try.pinned (OpenSpec.upto fnReach4Spec)

/-- 'laws.FnExactAutoTrim', WHERE WHAT IT READS IS OF BULK AT MOST 1048576: true; the input reads as it did. -/
def fnExactAutoTrimUptoRow : OpenClaim := { program := "ytlallflpicgcmaa", sum := "b70894f7a5c2745f4a11d644ea8cf6eb1b9a36151b7584561ec468eb94b401f4", func := "loop.example/g00102/laws.FnExactAutoTrim", spec := "fnExactAutoTrim", apart := false, narrowed := true }
def FnExactAutoTrimUptoSaid : Prop := fnExactAutoTrimUptoRow.holds Try.pinned (OpenSpec.upto fnExactAutoTrimSpec)

/-- 'laws.FnExactRunOk', WHERE WHAT IT READS IS OF BULK AT MOST 1048576: true; the input reads as it did. -/
def fnExactRunOkUptoRow : OpenClaim := { program := "ytlallflpicgcmaa", sum := "b70894f7a5c2745f4a11d644ea8cf6eb1b9a36151b7584561ec468eb94b401f4", func := "loop.example/g00102/laws.FnExactRunOk", spec := "fnExactRunOk", apart := false, narrowed := true }
def FnExactRunOkUptoSaid : Prop := fnExactRunOkUptoRow.holds Try.pinned (OpenSpec.upto fnExactRunOkSpec)

end Rows
end Go.Proofs.Ytlallflpicgcmaa
