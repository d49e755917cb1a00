import Derived.Test.YtkpeajafgldpbaaGreatBaseL
namespace Go.Proofs.YtkpeajafgldpbaaGreat.Base
open Go Go.RowKit Go.Proofs.YtkpeajafgldpbaaGreatW.PrintWords
def listFrom (s:Int):Nat→Nat→List Int
  | _,0=>[]
  | i,d+1=>if hasZ s (i:Int) then (i:Int) :: listFrom s (i+1) d else listFrom s (i+1) d
def listOf (s:Int):List Int:=if okB s then listFrom s 0 31 else []
theorem listFrom_length (s:Int) (d:Nat):∀ i,(listFrom s i d).length≤d:=by
  induction d with
  | zero=>intro i;simp[listFrom]
  | succ d ih=>
    intro i
    have:=ih (i+1)
    unfold listFrom
    split
    · simp;omega
    omega
theorem listOf_length (s:Int):(listOf s).length≤31:=by
  unfold listOf
  split
  · exact listFrom_length s 31 0
  simp
end Go.Proofs.YtkpeajafgldpbaaGreat.Base
