/-
  DERIVED. GIVEN WITH THE SEED: THE CARDS: each row of YtgnjacjinhadaaaDoorRows.lean that lists a variable, with what it lists TIED to the program's text (the seventh form; the later family's looks); each row that meets fmt, with fmt's text TOLD by the authors' own Lean function (tested against real Go, not proved from fmt's source: count such statements apart). THE CARD IS WHAT COUNTS. Prove the row's statement (the work); the ties are given (YtgnjacjinhadaaaDoorTie.lean); close each card by the builder's one call (the guide's Derived/Test/ToyasCard.lean, 'card_holds'). Laid BY PROGRAM, IN A SANDBOX (cutbox-door.mjs). By AI agents, Wed Nov 11 2026. No macro, syntax, notation, axiom, sorry.
-/
import Derived.Test.YtgnjacjinhadaaaDoorRows
import GoSem.ClaimSeven
namespace Go.Proofs.YtgnjacjinhadaaaDoor
namespace Rows

/-- THE TIED CARD OF 'laws.FnExactSetLeast'. -/
def fnExactSetLeastCard : Claim7 := { stood := { row := fnExactSetLeastRow, standIns := [], harness := (true, "a081ac6c21813c022d95b8dd2646c70dd75a58b927810b8600ce8c5bef26e912"), looks := false }, kinds := [], alts := [], laidByText := true, laidKinds := [.data, .data], laidTests := true, laidLooks := .later }
def FnExactSetLeastCardSaid : Prop := Claim7.holds Tryd.pinned (.plain (OpenSpec.ofChange fnExactSetLeastSpec)) fnExactSetLeastCard

/-- THE TIED CARD OF 'laws.FnSets'. -/
def fnSetsCard : Claim7 := { stood := { row := fnSetsRow, standIns := [], harness := (true, "a081ac6c21813c022d95b8dd2646c70dd75a58b927810b8600ce8c5bef26e912"), looks := false }, kinds := [], alts := [], laidByText := true, laidKinds := [.data, .data], laidTests := true, laidLooks := .later }
def FnSetsCardSaid : Prop := Claim7.holds Tryd.pinned (.plain (OpenSpec.ofChange fnSetsSpec)) fnSetsCard

/-- THE SECOND FORM's CARD OF 'laws.FnExactSetLeast'. -/
def fnExactSetLeastUptoCard : Claim7 := { stood := { row := fnExactSetLeastUptoRow, standIns := [], harness := (true, "a081ac6c21813c022d95b8dd2646c70dd75a58b927810b8600ce8c5bef26e912"), looks := false }, kinds := [], alts := [], laidByText := true, laidKinds := [.data, .data], laidTests := true, laidLooks := .later }
def FnExactSetLeastUptoCardSaid : Prop := Claim7.holds Tryd.pinned (.plain (OpenSpec.upto fnExactSetLeastSpec)) fnExactSetLeastUptoCard

/-- THE SECOND FORM's CARD OF 'laws.FnSets'. -/
def fnSetsUptoCard : Claim7 := { stood := { row := fnSetsUptoRow, standIns := [], harness := (true, "a081ac6c21813c022d95b8dd2646c70dd75a58b927810b8600ce8c5bef26e912"), looks := false }, kinds := [], alts := [], laidByText := true, laidKinds := [.data, .data], laidTests := true, laidLooks := .later }
def FnSetsUptoCardSaid : Prop := Claim7.holds Tryd.pinned (.plain (OpenSpec.upto fnSetsSpec)) fnSetsUptoCard
end Rows
end Go.Proofs.YtgnjacjinhadaaaDoor
