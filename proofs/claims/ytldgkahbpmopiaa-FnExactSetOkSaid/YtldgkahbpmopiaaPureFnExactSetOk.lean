/- What the printed functions of FnExactSetOk come to, one lemma a function, and from these the law: for all arguments (within the bounds that the printed statement names) it answers true. -/
import Derived.Test.YtldgkahbpmopiaaPFnExactSetOkx1
import Derived.Test.YtldgkahbpmopiaaBase
namespace Go.Proofs.Ytldgkahbpmopiaa.Pure
open Go.RowKit Go.Proofs.Ytldgkahbpmopiaa.PFnExactSetOk Go.Proofs.YtldgkahbpmopiaaW.PrintWords Go.Proofs.YtldgkahbpmopiaaW.PrintLast Go.Proofs.Ytldgkahbpmopiaa.Base

namespace hFnExactSetOk
theorem spec_l1In_eq (a b c : Int) : spec_l1In.f a b c = some (inR a b c) := by
  unfold spec_l1In.f inR
  by_cases h : a ≥ b
  · rw [if_pos h]; simp [show b ≤ a from h]
  · rw [if_neg h]; simp; omega
theorem impl_inRange_eq (a b c : Int) : impl_inRange.f a b c = some (inR a b c) := by
  unfold impl_inRange.f inR
  by_cases h : a ≥ b
  · rw [if_pos h]; simp [show b ≤ a from h]
  · rw [if_neg h]; simp; omega
theorem spec_SetOk_eq (s : Int) : spec_SetOk.f s = some (okB s) := by
  simp only [spec_SetOk.f, spec_l1In_eq, Option.bind_some, okB]
theorem impl_SetOk_eq (s : Int) : impl_SetOk.f s = some (okB s) := by
  simp only [impl_SetOk.f, impl_inRange_eq, Option.bind_some, okB]
end hFnExactSetOk
open hFnExactSetOk
theorem FnExactSetOk : laws_FnExactSetOk.Pure := by
  intro a _
  simp only [laws_FnExactSetOk.f, spec_SetOk_eq, impl_SetOk_eq, Option.bind_some]; simp
end Go.Proofs.Ytldgkahbpmopiaa.Pure
