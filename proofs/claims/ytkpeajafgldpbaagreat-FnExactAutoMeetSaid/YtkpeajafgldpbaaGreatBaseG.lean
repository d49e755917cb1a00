import Derived.Test.YtkpeajafgldpbaaGreatBaseV
namespace Go.Proofs.YtkpeajafgldpbaaGreat.Base
open Go Go.RowKit Go.Proofs.YtkpeajafgldpbaaGreatW.PrintWords
theorem mem_listFrom {s:Int} (d:Nat):∀ (j:Nat) (i:Int),i∈listFrom s j d↔hasZ s i=true∧(j:Int)≤i∧i<(j:Int)+d:=by
  induction d with
  | zero=>intro j i;simp[listFrom]
  | succ d ih=>
    intro j i
    unfold listFrom
    by_cases h:hasZ s (j:Int)=true
    · rw[if_pos h,List.mem_cons,ih (j+1) i]
      constructor
      · rintro (rfl|⟨h1,h2,h3⟩)
        · exact ⟨h,by omega,by omega⟩
        exact ⟨h1,by omega,by omega⟩
      rintro ⟨h1,h2,h3⟩
      by_cases e:i=(j:Int)
      · exact .inl e
      exact .inr ⟨h1,by omega,by omega⟩
    rw[if_neg h,ih (j+1) i]
    constructor
    · rintro ⟨h1,h2,h3⟩
      exact ⟨h1,by omega,by omega⟩
    rintro ⟨h1,h2,h3⟩
    by_cases e:i=(j:Int)
    · rw[e]at h1;exact absurd h1 h
    exact ⟨h1,by omega,by omega⟩
theorem mem_listOf {s:Int} (h:SetZ s) (i:Int):i∈listOf s↔hasZ s i=true:=by
  unfold listOf
  rw[if_pos (show okB s=true from inR_iff.2 h),mem_listFrom]
  constructor
  · exact fun h=>h.1
  intro h1
  have:=hasZ_range h1
  exact ⟨h1,by omega,by omega⟩
end Go.Proofs.YtkpeajafgldpbaaGreat.Base
