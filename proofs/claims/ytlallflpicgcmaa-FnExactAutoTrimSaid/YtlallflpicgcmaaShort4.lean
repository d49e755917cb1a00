/- Shorter names still, for a law whose texts would be too long. Plain theorems. -/
import Derived.Test.YtlallflpicgcmaaShort3
namespace Go.Proofs.Ytlallflpicgcmaa.Short4
open Go Go.RowKit Go.Proofs.YtlallflpicgcmaaW.PrintWords Go.Proofs.YtlallflpicgcmaaW.PrintLast Go.Proofs.YtlallflpicgcmaaW.PrintMore

theorem cT {w w' : World} {a : Addr} {u : Value} (HB : Aside0 (Below w.heap.size w w')) (h : w.cell? a = some u) : w'.cell? a = some u := (HB.out.cell (World.block_lt_of_cell? w _ h)).trans h
theorem oD {p : Prop} [Decidable p] (h : decide p = true := by first | (with_reducible assumption) | assumption) : p := of_decide_eq_true h
end Go.Proofs.Ytlallflpicgcmaa.Short4
