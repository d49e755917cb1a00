import Derived.Test.YtbfghpbmalpdbaaWInv
import Derived.Test.YtbfghpbmalpdbaaWFootNe
namespace Go.Proofs.YtbfghpbmalpdbaaW.PrintWords
open Go.RowKit
end Go.Proofs.YtbfghpbmalpdbaaW.PrintWords
namespace Go.Proofs.YtbfghpbmalpdbaaW.PrintLast
section
variable {ops:Array Oper} {a:Act} {o og:Oper} {g:Nat} {t:Tmp} {u:Bool}
end
end Go.Proofs.YtbfghpbmalpdbaaW.PrintLast
