/- What the printed functions of FnExactSetCount come to, one lemma a function, and from these the law: for all arguments (within the bounds that the printed statement names) it answers true. -/
import Derived.Test.YtgnjacjinhadaaaMFnExactSetCountx1
import Derived.Test.YtgnjacjinhadaaaBase
import Derived.Test.YtgnjacjinhadaaaBaseC
import Derived.Test.YtgnjacjinhadaaaBaseL
import Derived.Test.YtgnjacjinhadaaaBaseS
namespace Go.Proofs.Ytgnjacjinhadaaa.Pure
open Go.RowKit Go.Proofs.Ytgnjacjinhadaaa.MFnExactSetCount Go.Proofs.YtgnjacjinhadaaaW.PrintWords Go.Proofs.YtgnjacjinhadaaaW.PrintLast Go.Proofs.Ytgnjacjinhadaaa.Base

namespace hFnExactSetCount
theorem spec_l1In_eq (a b c : Int) : spec_l1In.f a b c = some (inR a b c) := by
  unfold spec_l1In.f inR
  by_cases h : a ≥ b
  · rw [if_pos h]; simp [show b ≤ a from h]
  · rw [if_neg h]; simp; omega
theorem impl_inRange_eq (a b c : Int) : impl_inRange.f a b c = some (inR a b c) := by
  unfold impl_inRange.f inR
  by_cases h : a ≥ b
  · rw [if_pos h]; simp [show b ≤ a from h]
  · rw [if_neg h]; simp; omega
theorem spec_SetOk_eq (s : Int) : spec_SetOk.f s = some (okB s) := by
  simp only [spec_SetOk.f, spec_l1In_eq, Option.bind_some, okB]
theorem impl_SetOk_eq (s : Int) : impl_SetOk.f s = some (okB s) := by
  simp only [impl_SetOk.f, impl_inRange_eq, Option.bind_some, okB]
theorem spec_l1Bit_eq (i : Int) (h0 : 0 ≤ i) (h1 : i ≤ 31) : spec_l1Bit.f i = some (bitZ i) := by
  obtain ⟨n, rfl⟩ := Int.eq_ofNat_of_zero_le h0
  unfold spec_l1Bit.f
  rw [and31 n (by omega), if_pos h0, shl_one n (by omega)]
theorem spec_l1Has_eq (s i : Int) (h0 : 0 ≤ s) (h1 : s < 9223372036854775808) : spec_l1Has.f s i = some (hasZ s i) := by
  unfold spec_l1Has.f hasZ
  rw [spec_l1In_eq]
  simp only [Option.bind_some]
  by_cases h : inR i 0 30 = true
  · have hi := inR_iff.1 h
    have hp := bitZ_pos i
    rw [if_pos h, spec_l1Bit_eq i hi.1 (by omega), h]
    simp only [Option.bind_some, Bool.true_and]
    rw [and_bitZ s i h0 h1 hi.1 (by omega)]
    congr 1
    by_cases hb : s.toNat.testBit i.toNat = true
    · rw [if_pos hb, hb]; rw [bne_iff_ne]; omega
    · rw [if_neg hb]; simp at hb; rw [hb]; rfl
  · rw [if_neg h]; simp at h; rw [h]; rfl
theorem spec_SetList_l0 (s : Int) (d : Nat) : ∀ (k i : Nat) (out : List Int), i + d = 31 → 2 * d + 1 < k → out.length ≤ i → spec_SetList.l0 k s out (i : Int) = some (if okB s then out ++ listFrom s i d else out) := by
  induction d with
  | zero =>
    intro k i out hi hk ho
    obtain ⟨k, rfl⟩ : ∃ m, k = m + 2 := ⟨k - 2, by omega⟩
    simp only [spec_SetList.l0]
    rw [if_neg (by omega)]
    simp only [spec_SetList.j1]
    simp [listFrom]
  | succ d ih =>
    intro k i out hi hk ho
    obtain ⟨k, rfl⟩ : ∃ m, k = m + 2 := ⟨k - 2, by omega⟩
    simp only [spec_SetList.l0]
    rw [if_pos (by omega), spec_SetOk_eq]
    simp only [Option.bind_some, spec_SetList.j1]
    by_cases h : okB s = true
    · have hs := inR_iff.1 h
      rw [if_pos h, if_pos h, spec_l1Has_eq s _ hs.1 (by omega)]
      simp only [Option.bind_some]
      rw [wrap64_succ (by omega)]
      unfold listFrom
      by_cases hb : hasZ s (i : Int) = true
      · rw [if_pos hb, if_pos (by omega), ih k (i + 1) _ (by omega) (by omega) (by simp; omega), if_pos h, if_pos hb]
        simp
      · rw [if_neg hb, ih k (i + 1) _ (by omega) (by omega) (by omega), if_pos h, if_neg hb]
    · rw [if_neg h, if_neg h]
theorem spec_SetList_eq (s : Int) (k : Nat) (hk : 70 ≤ k) : spec_SetList.f k s = some (listOf s) := by
  unfold spec_SetList.f
  have := spec_SetList_l0 s 31 k 0 [] (by omega) (by omega) (by simp)
  simpa [listOf] using this
theorem spec_SetCount_eq (s : Int) (k : Nat) (hk : 70 ≤ k) : spec_SetCount.f k s = some ((listOf s).length : Int) := by
  unfold spec_SetCount.f
  rw [spec_SetList_eq s k hk]
  rfl
theorem bits_OnesCount64_eq (s : Int) (h : okB s = true) : bits_OnesCount64.f s = some ((listOf s).length : Int) := by
  have hs := inR_iff.1 h
  rw [listOf_count s h]
  unfold bits_OnesCount64.f
  obtain ⟨x, rfl⟩ := Int.eq_ofNat_of_zero_le hs.1
  congr 1
  exact ones_formula x (by omega)
theorem bits_OnesCount_eq (s : Int) (h : okB s = true) : bits_OnesCount.f s = some ((listOf s).length : Int) := by
  unfold bits_OnesCount.f
  rw [bits_OnesCount64_eq s h]
  rfl
theorem impl_SetCount_eq (s : Int) : impl_SetCount.f s = some ((listOf s).length : Int) := by
  unfold impl_SetCount.f
  rw [impl_SetOk_eq]
  simp only [Option.bind_some]
  by_cases h : okB s = true
  · have hs := inR_iff.1 h
    rw [if_pos h, wrap_u64_id hs.1 (by omega), bits_OnesCount_eq s h]
    rfl
  · rw [if_neg h]
    unfold listOf
    rw [if_neg h]
    rfl
end hFnExactSetCount
open hFnExactSetCount
theorem FnExactSetCount : laws_FnExactSetCount.Pure := by
  intro s _
  refine ⟨70, ?_⟩
  unfold laws_FnExactSetCount.f
  rw [spec_SetCount_eq s _ (by omega), impl_SetCount_eq s]
  simp
end Go.Proofs.Ytgnjacjinhadaaa.Pure
