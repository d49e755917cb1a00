/- What the printed functions of FnExactSetOf come to, one lemma a function, and from these the law: for all arguments (within the bounds that the printed statement names) it answers true. -/
import Derived.Test.YtgnjacjinhadaaaMFnExactSetOfx1
import Derived.Test.YtgnjacjinhadaaaBase
import Derived.Test.YtgnjacjinhadaaaBaseL
import Derived.Test.YtgnjacjinhadaaaBaseS
namespace Go.Proofs.Ytgnjacjinhadaaa.Pure
open Go.RowKit Go.Proofs.Ytgnjacjinhadaaa.MFnExactSetOf Go.Proofs.YtgnjacjinhadaaaW.PrintWords Go.Proofs.YtgnjacjinhadaaaW.PrintLast Go.Proofs.Ytgnjacjinhadaaa.Base

namespace hFnExactSetOf
theorem spec_l1In_eq (a b c : Int) : spec_l1In.f a b c = some (inR a b c) := by
  unfold spec_l1In.f inR
  by_cases h : a ≥ b
  · rw [if_pos h]; simp [show b ≤ a from h]
  · rw [if_neg h]; simp; omega
theorem impl_inRange_eq (a b c : Int) : impl_inRange.f a b c = some (inR a b c) := by
  unfold impl_inRange.f inR
  by_cases h : a ≥ b
  · rw [if_pos h]; simp [show b ≤ a from h]
  · rw [if_neg h]; simp; omega
theorem impl_isMember_eq (i : Int) : impl_isMember.f i = some (inR i 0 30) := by
  simp only [impl_isMember.f, impl_inRange_eq, Option.bind_some]
theorem spec_l1Bit_eq (i : Int) (h0 : 0 ≤ i) (h1 : i ≤ 31) : spec_l1Bit.f i = some (bitZ i) := by
  obtain ⟨n, rfl⟩ := Int.eq_ofNat_of_zero_le h0
  unfold spec_l1Bit.f
  rw [and31 n (by omega), if_pos h0, shl_one n (by omega)]
theorem impl_only_eq (i : Int) (h0 : 0 ≤ i) (h1 : i ≤ 62) : impl_only.f i = some (bitZ i) := by
  obtain ⟨n, rfl⟩ := Int.eq_ofNat_of_zero_le h0
  unfold impl_only.f
  rw [wrap_u64_id h0 (by omega), if_pos h0, shl_one n (by omega)]
theorem toIntS_l0 (l : List Int) (hl : l.length ≤ 1099511627776) (d : Nat) : ∀ (k i : Nat) (rest : List Int), i + d = l.length → rest.length = d → d < k → laws_toIntS.l0 k l (l.take i ++ rest) (i : Int) = some l := by
  induction d with
  | zero =>
    intro k i rest hi hr hk
    obtain ⟨k, rfl⟩ := succ_of hk
    simp only [laws_toIntS.l0]
    rw [if_neg (by omega), List.eq_nil_of_length_eq_zero hr, List.append_nil, List.take_of_length_le (by omega)]
  | succ d ih =>
    intro k i rest hi hr hk
    obtain ⟨k, rfl⟩ := succ_of hk
    simp only [laws_toIntS.l0]
    have hll : (l.take i ++ rest).length = l.length := by rw [List.length_append, List.length_take]; omega
    rw [if_pos (by omega), if_pos (by omega), if_pos (by omega), rd_at (by omega), wrap64_succ (by omega)]
    rw [show ((i : Int)).toNat = i from rfl, take_set_drop (by omega) (by omega)]
    exact ih k (i + 1) rest.tail (by omega) (by rw [List.length_tail]; omega) (by omega)
theorem toIntS_eq (l : List Int) (hl : l.length ≤ 1099511627776) (k : Nat) (hk : l.length < k) : laws_toIntS.f k l = some l := by
  unfold laws_toIntS.f
  rw [if_pos (by omega), if_pos (by simp; omega)]
  exact toIntS_l0 l hl l.length k 0 _ (by omega) (by simp) hk
theorem eqIntS_l0 (a b : List Int) (hab : a.length = b.length) (hl : a.length ≤ 1099511627776) (d : Nat) : ∀ (k i : Nat), i + d = a.length → d < k → laws_eqIntS.l0 k a b (i : Int) = some (decide (a.drop i = b.drop i)) := by
  induction d with
  | zero =>
    intro k i hi hk
    obtain ⟨k, rfl⟩ := succ_of hk
    simp only [laws_eqIntS.l0]
    rw [if_neg (by omega), List.drop_eq_nil_of_le (by omega), List.drop_eq_nil_of_le (by omega)]
    simp
  | succ d ih =>
    intro k i hi hk
    obtain ⟨k, rfl⟩ := succ_of hk
    simp only [laws_eqIntS.l0]
    rw [if_pos (by omega), if_pos (by omega), if_pos (by omega), rd_at (by omega), rd_at (by omega), wrap64_succ (by omega)]
    rw [drop_cons (l := a) (i := i) (by omega), drop_cons (l := b) (i := i) (by omega)]
    by_cases h : a[i] = b[i]
    · rw [if_pos h, ih k (i + 1) (by omega) (by omega), h]
      congr 1
      exact decide_eq_decide.2 ⟨fun e => by rw [e], fun e => (List.cons.inj e).2⟩
    · rw [if_neg h]
      congr 1
      exact (decide_eq_false (fun e => h (List.cons.inj e).1)).symm
theorem eqIntS_eq (a b : List Int) (hl : a.length ≤ 1099511627776) (k : Nat) (hk : a.length < k) : laws_eqIntS.f k a b = some (decide (a = b)) := by
  unfold laws_eqIntS.f
  by_cases h : a.length = b.length
  · rw [if_pos (by omega)]
    exact eqIntS_l0 a b h hl a.length k 0 (by omega) hk
  · rw [if_neg (by omega)]
    have : a ≠ b := fun e => h (by rw [e])
    simp [this]
theorem spec_SetOf_l0 (l : List Int) (hl : l.length ≤ 1000) (d : Nat) : ∀ (k i : Nat) (s : Int), i + d = l.length → d < k → 0 ≤ s → s ≤ 2147483647 → spec_SetOf.l0 k l s (i : Int) = some (setOfL s (l.drop i)) := by
  induction d with
  | zero =>
    intro k i s hi hk h0 h1
    obtain ⟨k, rfl⟩ := succ_of hk
    simp only [spec_SetOf.l0]
    rw [if_neg (by omega), List.drop_eq_nil_of_le (by omega)]
    rfl
  | succ d ih =>
    intro k i s hi hk h0 h1
    obtain ⟨k, rfl⟩ := succ_of hk
    simp only [spec_SetOf.l0]
    rw [if_pos (by omega), if_pos (by omega), rd_at (by omega), spec_l1In_eq]
    simp only [Option.bind_some]
    rw [drop_cons (l := l) (i := i) (by omega)]
    unfold setOfL
    by_cases h : inR l[i] 0 30 = true
    · have hi' := inR_iff.1 h
      have hp := putZ_range s l[i] h0 h1 hi'.2
      rw [if_pos h, if_pos h, spec_l1Bit_eq _ hi'.1 (by omega)]
      simp only [Option.bind_some]
      rw [or_bitZ s _ h0 (by omega) hi'.1 (by omega), wrap64_succ (by omega)]
      exact ih k (i + 1) _ (by omega) (by omega) hp.1 hp.2
    · rw [if_neg h, if_neg h]
theorem spec_SetOf_eq (l : List Int) (k : Nat) (hk : 1001 ≤ k) : spec_SetOf.f k l = some (if l.length ≤ 1000 then setOfL 0 l else (0, false)) := by
  unfold spec_SetOf.f
  by_cases h : l.length ≤ 1000
  · rw [if_neg (by omega), if_pos h]
    exact spec_SetOf_l0 l h l.length k 0 0 (by omega) (by omega) (by omega) (by omega)
  · rw [if_pos (by omega), if_neg h]
theorem impl_SetOf_l0 (l : List Int) (hl : l.length ≤ 1000) (d : Nat) : ∀ (k i : Nat) (s : Int), i + d = l.length → d < k → 0 ≤ s → s ≤ 2147483647 → impl_SetOf.l0 k s l (l.length : Int) (i : Int) = some (setOfL s (l.drop i)) := by
  induction d with
  | zero =>
    intro k i s hi hk h0 h1
    obtain ⟨k, rfl⟩ := succ_of hk
    simp only [impl_SetOf.l0]
    rw [if_neg (by omega), List.drop_eq_nil_of_le (by omega)]
    rfl
  | succ d ih =>
    intro k i s hi hk h0 h1
    obtain ⟨k, rfl⟩ := succ_of hk
    simp only [impl_SetOf.l0]
    rw [if_pos (by omega), if_pos (by omega), if_pos (by omega), rd_at (by omega), impl_isMember_eq]
    simp only [Option.bind_some]
    rw [drop_cons (l := l) (i := i) (by omega)]
    unfold setOfL
    by_cases h : inR l[i] 0 30 = true
    · have hi' := inR_iff.1 h
      have hp := putZ_range s l[i] h0 h1 hi'.2
      rw [if_pos h, if_pos h, impl_only_eq _ hi'.1 (by omega)]
      simp only [Option.bind_some]
      rw [or_bitZ s _ h0 (by omega) hi'.1 (by omega), wrap64_succ (by omega)]
      exact ih k (i + 1) _ (by omega) (by omega) hp.1 hp.2
    · rw [if_neg h, if_neg h]
theorem impl_SetOf_eq (l : List Int) (k : Nat) (hk : 1001 ≤ k) : impl_SetOf.f k l = some (if l.length ≤ 1000 then setOfL 0 l else (0, false)) := by
  unfold impl_SetOf.f
  by_cases h : l.length ≤ 1000
  · rw [if_neg (by omega), if_pos h]
    exact impl_SetOf_l0 l h l.length k 0 0 (by omega) (by omega) (by omega) (by omega)
  · rw [if_pos (by omega), if_neg h]
end hFnExactSetOf
open hFnExactSetOf
theorem FnExactSetOf : laws_FnExactSetOf.Pure := by
  intro l _ _
  refine ⟨l.length + 1100, ?_⟩
  unfold laws_FnExactSetOf.f
  by_cases h : (l.length : Int) > 1048576
  · rw [if_pos h]
  · rw [if_neg h, toIntS_eq l (by omega) _ (by omega)]
    simp only [Option.bind_some]
    rw [spec_SetOf_eq l _ (by omega), impl_SetOf_eq l _ (by omega)]
    simp only [Option.bind_some, if_true, bne_self_eq_false]
    simp only [laws_FnExactSetOf.j0]
    rw [if_neg (by simp), toIntS_eq l (by omega) _ (by omega)]
    simp only [Option.bind_some]
    rw [eqIntS_eq l l (by omega) _ (by omega)]
    simp
end Go.Proofs.Ytgnjacjinhadaaa.Pure
