import Derived.Test.YtbfghpbmalpdbaaBaseL
namespace Go.Proofs.Ytbfghpbmalpdbaa.Base
open Go Go.RowKit Go.Proofs.YtbfghpbmalpdbaaW.PrintWords
def lettersB (l:List Int) (n:Int):Bool:=l.all fun x=>inR x 0 (n - 1)
def wordOkB (s l:List Int) (n:Int):Bool:=inR n 1 8 && (decide (s.length≤40) && (inR l.length 1 40 && (lettersB s n && lettersB l n)))
theorem wordOk_of {s l:List Int} {n:Int} (h:wordOkB s l n=true):(1≤n∧n≤8)∧s.length≤40∧(1≤l.length∧l.length≤40)∧lettersB s n=true∧lettersB l n=true:=by
  simp only[wordOkB,Bool.and_eq_true,decide_eq_true_eq,inR_iff]at h
  obtain ⟨h1,h2,h3,h4,h5⟩:=h
  exact ⟨h1,h2,⟨by omega,by omega⟩,h4,h5⟩
theorem wordOk_mk {s l:List Int} {n:Int} (h1:1≤n) (h2:n≤8) (h3:s.length≤40) (h4:1≤l.length) (h5:l.length≤40) (h6:lettersB s n=true) (h7:lettersB l n=true):wordOkB s l n=true:=by
  simp only[wordOkB,Bool.and_eq_true,decide_eq_true_eq,inR_iff]
  exact ⟨⟨h1,h2⟩,h3,⟨by omega,by omega⟩,h6,h7⟩
theorem letters_mem {l:List Int} {n:Int} (h:lettersB l n=true) {x:Int} (hx:x∈l):0≤x∧x≤n - 1:=inR_iff.1 (List.all_eq_true.1 h x hx)
def letterAt (s l:List Int) (i:Nat):Int:=if i<s.length then s.getD i 0 else l.getD ((i - s.length) % l.length) 0
theorem tmod_nat (a n:Nat):Int.tmod (a:Int) (n:Int)=((a % n:Nat):Int):=by
  rw[Int.tmod_eq_emod_of_nonneg (by omega)];exact (Int.natCast_emod a n).symm
theorem rd_nat (l:List Int) (i:Nat):rd l (i:Int)=l.getD i 0:=by simp[rd]
end Go.Proofs.Ytbfghpbmalpdbaa.Base
