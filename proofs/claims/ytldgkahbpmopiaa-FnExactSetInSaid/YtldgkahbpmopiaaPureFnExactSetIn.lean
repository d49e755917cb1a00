/- What the printed functions of FnExactSetIn come to, one lemma a function, and from these the law: for all arguments (within the bounds that the printed statement names) it answers true. -/
import Derived.Test.YtldgkahbpmopiaaPFnExactSetInx1
import Derived.Test.YtldgkahbpmopiaaBase
namespace Go.Proofs.Ytldgkahbpmopiaa.Pure
open Go.RowKit Go.Proofs.Ytldgkahbpmopiaa.PFnExactSetIn Go.Proofs.YtldgkahbpmopiaaW.PrintWords Go.Proofs.YtldgkahbpmopiaaW.PrintLast Go.Proofs.Ytldgkahbpmopiaa.Base

namespace hFnExactSetIn
theorem spec_l1In_eq (a b c : Int) : spec_l1In.f a b c = some (inR a b c) := by
  unfold spec_l1In.f inR
  by_cases h : a ≥ b
  · rw [if_pos h]; simp [show b ≤ a from h]
  · rw [if_neg h]; simp; omega
theorem impl_inRange_eq (a b c : Int) : impl_inRange.f a b c = some (inR a b c) := by
  unfold impl_inRange.f inR
  by_cases h : a ≥ b
  · rw [if_pos h]; simp [show b ≤ a from h]
  · rw [if_neg h]; simp; omega
theorem spec_SetOk_eq (s : Int) : spec_SetOk.f s = some (okB s) := by
  simp only [spec_SetOk.f, spec_l1In_eq, Option.bind_some, okB]
theorem impl_SetOk_eq (s : Int) : impl_SetOk.f s = some (okB s) := by
  simp only [impl_SetOk.f, impl_inRange_eq, Option.bind_some, okB]
theorem spec_SetIn_eq (a b : Int) : spec_SetIn.f a b = some (okB a && okB b && (Go.bits .and .i64 a b == a)) := by
  unfold spec_SetIn.f
  rw [spec_SetOk_eq, spec_SetOk_eq]
  simp only [Option.bind_some]
  cases okB a <;> cases okB b <;> simp
theorem impl_isIn_eq (a b : Int) (h0 : 0 ≤ a) (h1 : a < 9223372036854775808) (h2 : 0 ≤ b) (h3 : b < 9223372036854775808) : impl_isIn.f a b = some (Go.bits .and .i64 a b == a) := by
  unfold impl_isIn.f
  rw [andNot_and a b h0 h1 h2 h3]
  congr 1
  rw [Bool.eq_iff_iff]
  simp only [beq_iff_eq]
  omega
theorem impl_SetIn_eq (a b : Int) : impl_SetIn.f a b = some (okB a && okB b && (Go.bits .and .i64 a b == a)) := by
  unfold impl_SetIn.f
  rw [impl_SetOk_eq, impl_SetOk_eq]
  simp only [Option.bind_some]
  by_cases ha : okB a = true
  · have ha' := inR_iff.1 ha
    by_cases hb : okB b = true
    · have hb' := inR_iff.1 hb
      rw [if_pos ha, if_pos hb, impl_isIn_eq a b ha'.1 (by omega) hb'.1 (by omega), ha, hb]; rfl
    · rw [if_pos ha, if_neg hb]; simp at hb; rw [hb]; simp
  · rw [if_neg ha]; simp at ha; rw [ha]; simp
end hFnExactSetIn
open hFnExactSetIn
theorem FnExactSetIn : laws_FnExactSetIn.Pure := by
  intro a b _ _
  simp only [laws_FnExactSetIn.f, spec_SetIn_eq, impl_SetIn_eq, Option.bind_some]; simp
end Go.Proofs.Ytldgkahbpmopiaa.Pure
