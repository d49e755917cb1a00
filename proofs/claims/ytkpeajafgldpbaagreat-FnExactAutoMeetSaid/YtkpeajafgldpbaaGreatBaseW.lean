import Derived.Test.YtkpeajafgldpbaaGreatBaseL
namespace Go.Proofs.YtkpeajafgldpbaaGreat.Base
open Go Go.RowKit Go.Proofs.YtkpeajafgldpbaaGreatW.PrintWords
theorem rd_nat (l:List Int) (i:Nat):rd l (i:Int)=l.getD i 0:=by simp[rd]
end Go.Proofs.YtkpeajafgldpbaaGreat.Base
