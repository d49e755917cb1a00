import Derived.Test.YtkpeajafgldpbaaGreatBaseL
namespace Go.Proofs.YtkpeajafgldpbaaGreat.Base
open Go Go.RowKit Go.Proofs.YtkpeajafgldpbaaGreatW.PrintWords
def SetZ (s:Int):Prop:=0≤s∧s≤2147483647
theorem SetZ_put {s t:Int} (h:SetZ s) (ht:t≤30):SetZ (putZ s t):=putZ_range s t h.1 h.2 ht
end Go.Proofs.YtkpeajafgldpbaaGreat.Base
