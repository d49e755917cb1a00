/- What the printed functions of FnExactSetLeast come to, one lemma a function, and from these the law: for all arguments (within the bounds that the printed statement names) it answers true. -/
import Derived.Test.YtgnjacjinhadaaaDoorMFnExactSetLeastx1
import Derived.Test.YtgnjacjinhadaaaDoorBase
import Derived.Test.YtgnjacjinhadaaaDoorBaseL
import Derived.Test.YtgnjacjinhadaaaDoorBaseS
namespace Go.Proofs.YtgnjacjinhadaaaDoor.Pure
open Go.RowKit Go.Proofs.YtgnjacjinhadaaaDoor.MFnExactSetLeast Go.Proofs.YtgnjacjinhadaaaDoorW.PrintWords Go.Proofs.YtgnjacjinhadaaaDoorW.PrintLast Go.Proofs.YtgnjacjinhadaaaDoor.Base

namespace hFnExactSetLeast
theorem spec_l1In_eq (a b c : Int) : spec_l1In.f a b c = some (inR a b c) := by
  unfold spec_l1In.f inR
  by_cases h : a ≥ b
  · rw [if_pos h]; simp [show b ≤ a from h]
  · rw [if_neg h]; simp; omega
theorem impl_inRange_eq (a b c : Int) : impl_inRange.f a b c = some (inR a b c) := by
  unfold impl_inRange.f inR
  by_cases h : a ≥ b
  · rw [if_pos h]; simp [show b ≤ a from h]
  · rw [if_neg h]; simp; omega
theorem spec_SetOk_eq (s : Int) : spec_SetOk.f s = some (okB s) := by
  simp only [spec_SetOk.f, spec_l1In_eq, Option.bind_some, okB]
theorem impl_SetOk_eq (s : Int) : impl_SetOk.f s = some (okB s) := by
  simp only [impl_SetOk.f, impl_inRange_eq, Option.bind_some, okB]
theorem spec_l1Bit_eq (i : Int) (h0 : 0 ≤ i) (h1 : i ≤ 31) : spec_l1Bit.f i = some (bitZ i) := by
  obtain ⟨n, rfl⟩ := Int.eq_ofNat_of_zero_le h0
  unfold spec_l1Bit.f
  rw [and31 n (by omega), if_pos h0, shl_one n (by omega)]
theorem spec_l1Has_eq (s i : Int) (h0 : 0 ≤ s) (h1 : s < 9223372036854775808) : spec_l1Has.f s i = some (hasZ s i) := by
  unfold spec_l1Has.f hasZ
  rw [spec_l1In_eq]
  simp only [Option.bind_some]
  by_cases h : inR i 0 30 = true
  · have hi := inR_iff.1 h
    have hp := bitZ_pos i
    rw [if_pos h, spec_l1Bit_eq i hi.1 (by omega), h]
    simp only [Option.bind_some, Bool.true_and]
    rw [and_bitZ s i h0 h1 hi.1 (by omega)]
    congr 1
    by_cases hb : s.toNat.testBit i.toNat = true
    · rw [if_pos hb, hb]; rw [bne_iff_ne]; omega
    · rw [if_neg hb]; simp at hb; rw [hb]; rfl
  · rw [if_neg h]; simp at h; rw [h]; rfl
theorem spec_SetList_l0 (s : Int) (d : Nat) : ∀ (k i : Nat) (out : List Int), i + d = 31 → 2 * d + 1 < k → out.length ≤ i → spec_SetList.l0 k s out (i : Int) = some (if okB s then out ++ listFrom s i d else out) := by
  induction d with
  | zero =>
    intro k i out hi hk ho
    obtain ⟨k, rfl⟩ : ∃ m, k = m + 2 := ⟨k - 2, by omega⟩
    simp only [spec_SetList.l0]
    rw [if_neg (by omega)]
    simp only [spec_SetList.j1]
    simp [listFrom]
  | succ d ih =>
    intro k i out hi hk ho
    obtain ⟨k, rfl⟩ : ∃ m, k = m + 2 := ⟨k - 2, by omega⟩
    simp only [spec_SetList.l0]
    rw [if_pos (by omega), spec_SetOk_eq]
    simp only [Option.bind_some, spec_SetList.j1]
    by_cases h : okB s = true
    · have hs := inR_iff.1 h
      rw [if_pos h, if_pos h, spec_l1Has_eq s _ hs.1 (by omega)]
      simp only [Option.bind_some]
      rw [wrap64_succ (by omega)]
      unfold listFrom
      by_cases hb : hasZ s (i : Int) = true
      · rw [if_pos hb, if_pos (by omega), ih k (i + 1) _ (by omega) (by omega) (by simp; omega), if_pos h, if_pos hb]
        simp
      · rw [if_neg hb, ih k (i + 1) _ (by omega) (by omega) (by omega), if_pos h, if_neg hb]
    · rw [if_neg h, if_neg h]
theorem spec_SetList_eq (s : Int) (k : Nat) (hk : 70 ≤ k) : spec_SetList.f k s = some (listOf s) := by
  unfold spec_SetList.f
  have := spec_SetList_l0 s 31 k 0 [] (by omega) (by omega) (by simp)
  simpa [listOf] using this
/-- The least member, -1 if there is none. -/
def leastZ (s : Int) : Int := match listOf s with | [] => -1 | x :: _ => x
theorem listFrom_least {s : Int} {c : Nat} (hc : hasZ s (c : Int) = true) (d : Nat) : ∀ j : Nat, (∀ i : Nat, j ≤ i → i < c → hasZ s (i : Int) = false) → j ≤ c → c < j + d → ∃ l, listFrom s j d = (c : Int) :: l := by
  induction d with
  | zero => intro j _ h1 h2; omega
  | succ d ih =>
    intro j h h1 h2
    unfold listFrom
    by_cases e : j = c
    · subst e
      rw [if_pos hc]
      exact ⟨_, rfl⟩
    · rw [h j (Nat.le_refl _) (by omega)]
      exact ih (j + 1) (fun i hi hlt => h i (by omega) hlt) (by omega) (by omega)
theorem spec_SetLeast_eq (s : Int) (k : Nat) (hk : 70 ≤ k) : spec_SetLeast.f k s = some (leastZ s) := by
  unfold spec_SetLeast.f leastZ
  rw [spec_SetList_eq s k hk, Option.bind_some]
  cases listOf s with
  | nil => rfl
  | cons x l =>
    rw [if_neg (by simp only [List.length_cons]; omega), if_pos (by simp only [List.length_cons]; omega)]
    rfl
theorem ctz_least (s : Int) (h : okB s = true) (h0 : s ≠ 0) : hasZ s ((Lib.ctz 64 s.toNat : Nat) : Int) = true ∧ Lib.ctz 64 s.toNat < 31 ∧ ∀ i : Nat, i < Lib.ctz 64 s.toNat → hasZ s (i : Int) = false := by
  have hs := inR_iff.1 h
  obtain ⟨x, rfl⟩ := Int.eq_ofNat_of_zero_le hs.1
  rw [Int.toNat_natCast]
  obtain ⟨m, hm, hc⟩ := Lib.ctzFrom_spec 64 x (by omega) (by omega)
  have e : Lib.ctz 64 x = Lib.ctzFrom 64 x := by unfold Lib.ctz; rw [if_neg (by omega)]
  rw [e]
  generalize Lib.ctzFrom 64 x = c at hm hc
  have h31 : c < 31 := by
    by_cases hlt : c < 31
    · exact hlt
    · have h1 : 2 ^ 31 ≤ 2 ^ c := Nat.pow_le_pow_right (by decide) (by omega)
      have h2 : 2 ^ c * 1 ≤ 2 ^ c * (2 * m + 1) := Nat.mul_le_mul_left _ (by omega)
      omega
  refine ⟨?_, h31, fun i hi => ?_⟩
  · unfold hasZ
    rw [inR_iff.2 (by omega), Int.toNat_natCast, Int.toNat_natCast, hm, Nat.testBit_two_pow_mul]
    simp
  · unfold hasZ
    rw [Int.toNat_natCast, Int.toNat_natCast, hm, Nat.testBit_two_pow_mul, decide_eq_false (by omega), Bool.false_and, Bool.and_false]
theorem bits_TrailingZeros_eq (s : Int) (h : okB s = true) (h0 : s ≠ 0) : bits_TrailingZeros.f (IntKind.u64.wrap s) = some (leastZ s) := by
  have hs := inR_iff.1 h
  obtain ⟨h1, h2, h3⟩ := ctz_least s h h0
  obtain ⟨l, hl⟩ := listFrom_least h1 31 0 (fun i _ hi => h3 i hi) (by omega) (by omega)
  unfold bits_TrailingZeros.f leastZ listOf
  rw [wrap_u64_id hs.1 (by omega), if_pos (by omega), if_pos h, hl]
theorem impl_SetLeast_eq (s : Int) : impl_SetLeast.f s = some (leastZ s) := by
  unfold impl_SetLeast.f
  rw [impl_SetOk_eq, Option.bind_some]
  by_cases h0 : s = 0
  · subst h0
    rw [if_pos rfl]
    rfl
  · rw [if_neg h0]
    by_cases h : okB s = true
    · rw [if_pos h, bits_TrailingZeros_eq s h h0, Option.bind_some]
    · rw [if_neg h]
      unfold leastZ listOf
      rw [if_neg h]
end hFnExactSetLeast
open hFnExactSetLeast
theorem FnExactSetLeast : laws_FnExactSetLeast.Pure := by
  intro s _
  refine ⟨70, ?_⟩
  unfold laws_FnExactSetLeast.f
  rw [spec_SetLeast_eq s 70 (by omega), Option.bind_some, impl_SetLeast_eq, Option.bind_some, if_pos rfl]
end Go.Proofs.YtgnjacjinhadaaaDoor.Pure
