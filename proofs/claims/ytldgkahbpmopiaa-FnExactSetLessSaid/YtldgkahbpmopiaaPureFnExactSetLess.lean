/- What the printed functions of FnExactSetLess come to, one lemma a function, and from these the law: for all arguments (within the bounds that the printed statement names) it answers true. -/
import Derived.Test.YtldgkahbpmopiaaPFnExactSetLessx1
import Derived.Test.YtldgkahbpmopiaaBase
namespace Go.Proofs.Ytldgkahbpmopiaa.Pure
open Go.RowKit Go.Proofs.Ytldgkahbpmopiaa.PFnExactSetLess Go.Proofs.YtldgkahbpmopiaaW.PrintWords Go.Proofs.YtldgkahbpmopiaaW.PrintLast Go.Proofs.Ytldgkahbpmopiaa.Base

namespace hFnExactSetLess
theorem spec_l1In_eq (a b c : Int) : spec_l1In.f a b c = some (inR a b c) := by
  unfold spec_l1In.f inR
  by_cases h : a ≥ b
  · rw [if_pos h]; simp [show b ≤ a from h]
  · rw [if_neg h]; simp; omega
theorem impl_inRange_eq (a b c : Int) : impl_inRange.f a b c = some (inR a b c) := by
  unfold impl_inRange.f inR
  by_cases h : a ≥ b
  · rw [if_pos h]; simp [show b ≤ a from h]
  · rw [if_neg h]; simp; omega
theorem spec_SetOk_eq (s : Int) : spec_SetOk.f s = some (okB s) := by
  simp only [spec_SetOk.f, spec_l1In_eq, Option.bind_some, okB]
theorem impl_SetOk_eq (s : Int) : impl_SetOk.f s = some (okB s) := by
  simp only [impl_SetOk.f, impl_inRange_eq, Option.bind_some, okB]
theorem impl_isMember_eq (i : Int) : impl_isMember.f i = some (inR i 0 30) := by
  simp only [impl_isMember.f, impl_inRange_eq, Option.bind_some]
theorem spec_l1Bit_eq (i : Int) (h0 : 0 ≤ i) (h1 : i ≤ 31) : spec_l1Bit.f i = some (bitZ i) := by
  obtain ⟨n, rfl⟩ := Int.eq_ofNat_of_zero_le h0
  unfold spec_l1Bit.f
  rw [and31 n (by omega), if_pos h0, shl_one n (by omega)]
theorem impl_only_eq (i : Int) (h0 : 0 ≤ i) (h1 : i ≤ 62) : impl_only.f i = some (bitZ i) := by
  obtain ⟨n, rfl⟩ := Int.eq_ofNat_of_zero_le h0
  unfold impl_only.f
  rw [wrap_u64_id h0 (by omega), if_pos h0, shl_one n (by omega)]
theorem spec_l1Has_eq (s i : Int) (h0 : 0 ≤ s) (h1 : s < 9223372036854775808) : spec_l1Has.f s i = some (hasZ s i) := by
  unfold spec_l1Has.f hasZ
  rw [spec_l1In_eq]
  simp only [Option.bind_some]
  by_cases h : inR i 0 30 = true
  · have hi := inR_iff.1 h
    have hp := bitZ_pos i
    rw [if_pos h, spec_l1Bit_eq i hi.1 (by omega), h]
    simp only [Option.bind_some, Bool.true_and]
    rw [and_bitZ s i h0 h1 hi.1 (by omega)]
    congr 1
    by_cases hb : s.toNat.testBit i.toNat = true
    · rw [if_pos hb, hb]; rw [bne_iff_ne]; omega
    · rw [if_neg hb]; simp at hb; rw [hb]; rfl
  · rw [if_neg h]; simp at h; rw [h]; rfl
theorem spec_SetHas_eq (s i : Int) : spec_SetHas.f s i = some (okB s && hasZ s i) := by
  unfold spec_SetHas.f
  rw [spec_SetOk_eq]
  simp only [Option.bind_some]
  by_cases h : okB s = true
  · have hs := inR_iff.1 h
    rw [if_pos h, spec_l1Has_eq s i hs.1 (by omega), h]; rfl
  · rw [if_neg h]; simp at h; rw [h]; rfl
theorem spec_SetPut_eq (s i : Int) : spec_SetPut.f s i = some (if okB s then (if inR i 0 30 then putZ s i else s) else 0) := by
  unfold spec_SetPut.f
  rw [spec_SetOk_eq, spec_l1In_eq]
  simp only [Option.bind_some]
  by_cases h : okB s = true
  · have hs := inR_iff.1 h
    rw [if_pos h, if_pos h]
    by_cases hi : inR i 0 30 = true
    · have hi' := inR_iff.1 hi
      rw [if_pos hi, if_pos hi, spec_l1Bit_eq i hi'.1 (by omega)]
      simp only [Option.bind_some]
      rw [or_bitZ s i hs.1 (by omega) hi'.1 (by omega)]
    · rw [if_neg hi, if_neg hi]
  · rw [if_neg h, if_neg h]
theorem spec_SetLess_eq (s i : Int) : spec_SetLess.f s i = some (if okB s then (if hasZ s i then s - bitZ i else s) else 0) := by
  unfold spec_SetLess.f
  rw [spec_SetHas_eq, spec_SetPut_eq]
  simp only [Option.bind_some]
  by_cases h : okB s = true
  · have hs := inR_iff.1 h
    rw [h]
    simp only [Bool.true_and, if_true]
    by_cases hi : hasZ s i = true
    · have hi' := inR_iff.1 (show inR i 0 30 = true by unfold hasZ at hi; simp at hi; exact hi.1)
      have hp := bitZ_pos i
      have hq := bitZ_le hi'.2
      rw [if_pos hi, if_pos hi, spec_l1Bit_eq i hi'.1 (by omega)]
      simp only [Option.bind_some]
      congr 1
      unfold wrap64; omega
    · rw [if_neg hi, if_neg hi]
      rw [if_neg (show ¬ inR (-1) 0 30 = true by decide)]
  · simp at h; rw [h]; rfl
theorem impl_SetLess_eq (s i : Int) : impl_SetLess.f s i = some (if okB s then (if hasZ s i then s - bitZ i else s) else 0) := by
  unfold impl_SetLess.f
  rw [impl_SetOk_eq, impl_isMember_eq]
  simp only [Option.bind_some]
  by_cases h : okB s = true
  · have hs := inR_iff.1 h
    rw [if_pos h, if_pos h]
    unfold hasZ
    by_cases hi : inR i 0 30 = true
    · have hi' := inR_iff.1 hi
      have hp := bitZ_pos i
      have hq := bitZ_le hi'.2
      rw [if_pos hi, hi, impl_only_eq i hi'.1 (by omega)]
      simp only [Option.bind_some, Bool.true_and]
      rw [andNot_and s _ hs.1 (by omega) (by omega) (by omega), and_bitZ s i hs.1 (by omega) hi'.1 (by omega)]
      split <;> simp
    · rw [if_neg hi]; simp at hi; rw [hi]; rfl
  · rw [if_neg h, if_neg h]
end hFnExactSetLess
open hFnExactSetLess
theorem FnExactSetLess : laws_FnExactSetLess.Pure := by
  intro a b _ _
  simp only [laws_FnExactSetLess.f, spec_SetLess_eq, impl_SetLess_eq, Option.bind_some]; simp
end Go.Proofs.Ytldgkahbpmopiaa.Pure
