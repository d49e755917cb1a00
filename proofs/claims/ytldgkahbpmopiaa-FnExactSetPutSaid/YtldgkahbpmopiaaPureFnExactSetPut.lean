/- What the printed functions of FnExactSetPut come to, one lemma a function, and from these the law: for all arguments (within the bounds that the printed statement names) it answers true. -/
import Derived.Test.YtldgkahbpmopiaaPFnExactSetPutx1
import Derived.Test.YtldgkahbpmopiaaBase
namespace Go.Proofs.Ytldgkahbpmopiaa.Pure
open Go.RowKit Go.Proofs.Ytldgkahbpmopiaa.PFnExactSetPut Go.Proofs.YtldgkahbpmopiaaW.PrintWords Go.Proofs.YtldgkahbpmopiaaW.PrintLast Go.Proofs.Ytldgkahbpmopiaa.Base

namespace hFnExactSetPut
theorem spec_l1In_eq (a b c : Int) : spec_l1In.f a b c = some (inR a b c) := by
  unfold spec_l1In.f inR
  by_cases h : a ≥ b
  · rw [if_pos h]; simp [show b ≤ a from h]
  · rw [if_neg h]; simp; omega
theorem impl_inRange_eq (a b c : Int) : impl_inRange.f a b c = some (inR a b c) := by
  unfold impl_inRange.f inR
  by_cases h : a ≥ b
  · rw [if_pos h]; simp [show b ≤ a from h]
  · rw [if_neg h]; simp; omega
theorem spec_SetOk_eq (s : Int) : spec_SetOk.f s = some (okB s) := by
  simp only [spec_SetOk.f, spec_l1In_eq, Option.bind_some, okB]
theorem impl_SetOk_eq (s : Int) : impl_SetOk.f s = some (okB s) := by
  simp only [impl_SetOk.f, impl_inRange_eq, Option.bind_some, okB]
theorem impl_isMember_eq (i : Int) : impl_isMember.f i = some (inR i 0 30) := by
  simp only [impl_isMember.f, impl_inRange_eq, Option.bind_some]
theorem spec_l1Bit_eq (i : Int) (h0 : 0 ≤ i) (h1 : i ≤ 31) : spec_l1Bit.f i = some (bitZ i) := by
  obtain ⟨n, rfl⟩ := Int.eq_ofNat_of_zero_le h0
  unfold spec_l1Bit.f
  rw [and31 n (by omega), if_pos h0, shl_one n (by omega)]
theorem impl_only_eq (i : Int) (h0 : 0 ≤ i) (h1 : i ≤ 62) : impl_only.f i = some (bitZ i) := by
  obtain ⟨n, rfl⟩ := Int.eq_ofNat_of_zero_le h0
  unfold impl_only.f
  rw [wrap_u64_id h0 (by omega), if_pos h0, shl_one n (by omega)]
theorem spec_SetPut_eq (s i : Int) : spec_SetPut.f s i = some (if okB s then (if inR i 0 30 then putZ s i else s) else 0) := by
  unfold spec_SetPut.f
  rw [spec_SetOk_eq, spec_l1In_eq]
  simp only [Option.bind_some]
  by_cases h : okB s = true
  · have hs := inR_iff.1 h
    rw [if_pos h, if_pos h]
    by_cases hi : inR i 0 30 = true
    · have hi' := inR_iff.1 hi
      rw [if_pos hi, if_pos hi, spec_l1Bit_eq i hi'.1 (by omega)]
      simp only [Option.bind_some]
      rw [or_bitZ s i hs.1 (by omega) hi'.1 (by omega)]
    · rw [if_neg hi, if_neg hi]
  · rw [if_neg h, if_neg h]
theorem impl_SetPut_eq (s i : Int) : impl_SetPut.f s i = some (if okB s then (if inR i 0 30 then putZ s i else s) else 0) := by
  unfold impl_SetPut.f
  rw [impl_SetOk_eq, impl_isMember_eq]
  simp only [Option.bind_some]
  by_cases h : okB s = true
  · have hs := inR_iff.1 h
    rw [if_pos h, if_pos h]
    by_cases hi : inR i 0 30 = true
    · have hi' := inR_iff.1 hi
      rw [if_pos hi, if_pos hi, impl_only_eq i hi'.1 (by omega)]
      simp only [Option.bind_some]
      rw [or_bitZ s i hs.1 (by omega) hi'.1 (by omega)]
    · rw [if_neg hi, if_neg hi]
  · rw [if_neg h, if_neg h]
end hFnExactSetPut
open hFnExactSetPut
theorem FnExactSetPut : laws_FnExactSetPut.Pure := by
  intro a b _ _
  simp only [laws_FnExactSetPut.f, spec_SetPut_eq, impl_SetPut_eq, Option.bind_some]; simp
end Go.Proofs.Ytldgkahbpmopiaa.Pure
