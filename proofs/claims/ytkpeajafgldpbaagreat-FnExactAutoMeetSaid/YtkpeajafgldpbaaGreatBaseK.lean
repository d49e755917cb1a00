import Derived.Test.YtkpeajafgldpbaaGreatBaseS
import Derived.Test.YtkpeajafgldpbaaGreatBaseR
namespace Go.Proofs.YtkpeajafgldpbaaGreat.Base
open Go Go.RowKit Go.Proofs.YtkpeajafgldpbaaGreatW.PrintWords
theorem listFrom_split (s:Int) (d:Nat) (i:Nat):∀ j,listFrom s j (i+d)=listFrom s j i ++ listFrom s (j+i) d:=by
  induction i with
  | zero=>intro j;rw[Nat.zero_add];rfl
  | succ i ih=>
    intro j
    rw[show i+1+d=(i+d)+1 by omega,show j+(i+1)=j+1+i by omega]
    rw[show listFrom s j (i+d+1)=if hasZ s (j:Int) then (j:Int) :: listFrom s (j+1) (i+d) else listFrom s (j+1) (i+d) from rfl,show listFrom s j (i+1)=if hasZ s (j:Int) then (j:Int) :: listFrom s (j+1) i else listFrom s (j+1) i from rfl,ih (j+1)]
    split <;> rfl
end Go.Proofs.YtkpeajafgldpbaaGreat.Base
