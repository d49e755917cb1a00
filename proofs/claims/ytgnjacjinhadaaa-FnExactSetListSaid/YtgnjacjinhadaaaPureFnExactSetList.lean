/- What the printed functions of FnExactSetList come to, one lemma a function, and from these the law: for all arguments (within the bounds that the printed statement names) it answers true. -/
import Derived.Test.YtgnjacjinhadaaaPFnExactSetListx2
import Derived.Test.YtgnjacjinhadaaaBase
import Derived.Test.YtgnjacjinhadaaaBaseL
import Derived.Test.YtgnjacjinhadaaaBaseS
namespace Go.Proofs.Ytgnjacjinhadaaa.Pure
open Go.RowKit Go.Proofs.Ytgnjacjinhadaaa.PFnExactSetList Go.Proofs.YtgnjacjinhadaaaW.PrintWords Go.Proofs.YtgnjacjinhadaaaW.PrintLast Go.Proofs.Ytgnjacjinhadaaa.Base

namespace hFnExactSetList
theorem spec_l1In_eq (a b c : Int) : spec_l1In.f a b c = some (inR a b c) := by
  unfold spec_l1In.f inR
  by_cases h : a ≥ b
  · rw [if_pos h]; simp [show b ≤ a from h]
  · rw [if_neg h]; simp; omega
theorem impl_inRange_eq (a b c : Int) : impl_inRange.f a b c = some (inR a b c) := by
  unfold impl_inRange.f inR
  by_cases h : a ≥ b
  · rw [if_pos h]; simp [show b ≤ a from h]
  · rw [if_neg h]; simp; omega
theorem spec_SetOk_eq (s : Int) : spec_SetOk.f s = some (okB s) := by
  simp only [spec_SetOk.f, spec_l1In_eq, Option.bind_some, okB]
theorem impl_SetOk_eq (s : Int) : impl_SetOk.f s = some (okB s) := by
  simp only [impl_SetOk.f, impl_inRange_eq, Option.bind_some, okB]
theorem spec_l1Bit_eq (i : Int) (h0 : 0 ≤ i) (h1 : i ≤ 31) : spec_l1Bit.f i = some (bitZ i) := by
  obtain ⟨n, rfl⟩ := Int.eq_ofNat_of_zero_le h0
  unfold spec_l1Bit.f
  rw [and31 n (by omega), if_pos h0, shl_one n (by omega)]
theorem spec_l1Has_eq (s i : Int) (h0 : 0 ≤ s) (h1 : s < 9223372036854775808) : spec_l1Has.f s i = some (hasZ s i) := by
  unfold spec_l1Has.f hasZ
  rw [spec_l1In_eq]
  simp only [Option.bind_some]
  by_cases h : inR i 0 30 = true
  · have hi := inR_iff.1 h
    have hp := bitZ_pos i
    rw [if_pos h, spec_l1Bit_eq i hi.1 (by omega), h]
    simp only [Option.bind_some, Bool.true_and]
    rw [and_bitZ s i h0 h1 hi.1 (by omega)]
    congr 1
    by_cases hb : s.toNat.testBit i.toNat = true
    · rw [if_pos hb, hb]; rw [bne_iff_ne]; omega
    · rw [if_neg hb]; simp at hb; rw [hb]; rfl
  · rw [if_neg h]; simp at h; rw [h]; rfl
theorem impl_has_eq (s i : Int) (h0 : 0 ≤ s) (h1 : s < 9223372036854775808) (hi0 : 0 ≤ i) (hi : i ≤ 62) : impl_has.f s i = some (s.toNat.testBit i.toNat) := by
  unfold impl_has.f
  rw [wrap_u64_id hi0 (by omega), if_pos hi0, shr_and_one s i h0 h1 hi0 (by omega)]
theorem eqIntS_l0 (a b : List Int) (hab : a.length = b.length) (hl : a.length ≤ 1099511627776) (d : Nat) : ∀ (k i : Nat), i + d = a.length → d < k → laws_eqIntS.l0 k a b (i : Int) = some (decide (a.drop i = b.drop i)) := by
  induction d with
  | zero =>
    intro k i hi hk
    obtain ⟨k, rfl⟩ := succ_of hk
    simp only [laws_eqIntS.l0]
    rw [if_neg (by omega), List.drop_eq_nil_of_le (by omega), List.drop_eq_nil_of_le (by omega)]
    simp
  | succ d ih =>
    intro k i hi hk
    obtain ⟨k, rfl⟩ := succ_of hk
    simp only [laws_eqIntS.l0]
    rw [if_pos (by omega), if_pos (by omega), if_pos (by omega), rd_at (by omega), rd_at (by omega), wrap64_succ (by omega)]
    rw [drop_cons (l := a) (i := i) (by omega), drop_cons (l := b) (i := i) (by omega)]
    by_cases h : a[i] = b[i]
    · rw [if_pos h, ih k (i + 1) (by omega) (by omega), h]
      congr 1
      exact decide_eq_decide.2 ⟨fun e => by rw [e], fun e => (List.cons.inj e).2⟩
    · rw [if_neg h]
      congr 1
      exact (decide_eq_false (fun e => h (List.cons.inj e).1)).symm
theorem eqIntS_eq (a b : List Int) (hl : a.length ≤ 1099511627776) (k : Nat) (hk : a.length < k) : laws_eqIntS.f k a b = some (decide (a = b)) := by
  unfold laws_eqIntS.f
  by_cases h : a.length = b.length
  · rw [if_pos (by omega)]
    exact eqIntS_l0 a b h hl a.length k 0 (by omega) hk
  · rw [if_neg (by omega)]
    have : a ≠ b := fun e => h (by rw [e])
    simp [this]
theorem markIntS_l0 (d : Nat) : ∀ (k i : Nat) (x : List Int) (a : Int), i + d = x.length → d < k → 0 ≤ a → a + d ≤ 4611686018427387904 → x.length ≤ 1099511627776 →
    laws_markIntS.l0 k x a (i : Int) = some (a + d, x.take i ++ seqI a d) := by
  induction d with
  | zero =>
    intro k i x a hi hk h0 h1 h2
    obtain ⟨k, rfl⟩ := succ_of hk
    simp only [laws_markIntS.l0]
    rw [if_neg (by omega), List.take_of_length_le (by omega)]
    simp [seqI]
  | succ d ih =>
    intro k i x a hi hk h0 h1 h2
    obtain ⟨k, rfl⟩ := succ_of hk
    simp only [laws_markIntS.l0]
    rw [if_pos (by omega), if_pos (by omega), wrap64_succ (by omega), wrap64_id (n := a + 1) (by omega) (by omega)]
    rw [ih k (i + 1) _ (a + 1) (by rw [List.length_set]; omega) (by omega) (by omega) (by omega) (by rw [List.length_set]; omega)]
    rw [show ((i : Int)).toNat = i from rfl, take_set_self (by omega)]
    simp only [seqI, List.append_assoc, List.singleton_append]
    congr 2
    omega
theorem markIntS_eq (x : List Int) (a : Int) (h0 : 0 ≤ a) (h1 : a ≤ 1099511627776) (h2 : x.length ≤ 1099511627776) (k : Nat) (hk : x.length < k) : laws_markIntS.f k x a = some (a + x.length, seqI a x.length) := by
  unfold laws_markIntS.f
  have := markIntS_l0 x.length k 0 x a (by omega) hk h0 (by omega) h2
  simpa using this
theorem heldIntS_l0 (n : Nat) (b : Int) (hn : n ≤ 1099511627776) (hb0 : 0 ≤ b) (hb : b ≤ 1099511627776) (d : Nat) : ∀ (k i : Nat), i + d = n → d < k → laws_heldIntS.l0 k (seqI b n) (b + i) (i : Int) = some (b + n) := by
  induction d with
  | zero =>
    intro k i hi hk
    obtain ⟨k, rfl⟩ := succ_of hk
    simp only [laws_heldIntS.l0]
    rw [if_neg (by rw [seqI_length]; omega)]
    congr 1; omega
  | succ d ih =>
    intro k i hi hk
    obtain ⟨k, rfl⟩ := succ_of hk
    simp only [laws_heldIntS.l0]
    rw [if_pos (by rw [seqI_length]; omega), if_pos (by omega), rd_at (by rw [seqI_length]; omega), seqI_at b n i (by omega), if_pos rfl, wrap64_succ (by omega), wrap64_id (n := b + i + 1) (by omega) (by omega)]
    have := ih k (i + 1) (by omega) (by omega)
    rw [show b + (i : Int) + 1 = b + ((i + 1 : Nat) : Int) by omega]
    exact this
theorem heldIntS_eq (n : Nat) (b : Int) (hn : n ≤ 1099511627776) (hb0 : 0 ≤ b) (hb : b ≤ 1099511627776) (k : Nat) (hk : n < k) : laws_heldIntS.f k (seqI b n) b = some (b + n) := by
  unfold laws_heldIntS.f
  have := heldIntS_l0 n b hn hb0 hb n k 0 (by omega) hk
  simpa using this
theorem spec_SetList_l0 (s : Int) (d : Nat) : ∀ (k i : Nat) (out : List Int), i + d = 31 → 2 * d + 1 < k → out.length ≤ i → spec_SetList.l0 k s out (i : Int) = some (if okB s then out ++ listFrom s i d else out) := by
  induction d with
  | zero =>
    intro k i out hi hk ho
    obtain ⟨k, rfl⟩ : ∃ m, k = m + 2 := ⟨k - 2, by omega⟩
    simp only [spec_SetList.l0]
    rw [if_neg (by omega)]
    simp only [spec_SetList.j1]
    simp [listFrom]
  | succ d ih =>
    intro k i out hi hk ho
    obtain ⟨k, rfl⟩ : ∃ m, k = m + 2 := ⟨k - 2, by omega⟩
    simp only [spec_SetList.l0]
    rw [if_pos (by omega), spec_SetOk_eq]
    simp only [Option.bind_some, spec_SetList.j1]
    by_cases h : okB s = true
    · have hs := inR_iff.1 h
      rw [if_pos h, if_pos h, spec_l1Has_eq s _ hs.1 (by omega)]
      simp only [Option.bind_some]
      rw [wrap64_succ (by omega)]
      unfold listFrom
      by_cases hb : hasZ s (i : Int) = true
      · rw [if_pos hb, if_pos (by omega), ih k (i + 1) _ (by omega) (by omega) (by simp; omega), if_pos h, if_pos hb]
        simp
      · rw [if_neg hb, ih k (i + 1) _ (by omega) (by omega) (by omega), if_pos h, if_neg hb]
    · rw [if_neg h, if_neg h]
theorem spec_SetList_eq (s : Int) (k : Nat) (hk : 70 ≤ k) : spec_SetList.f k s = some (listOf s) := by
  unfold spec_SetList.f
  have := spec_SetList_l0 s 31 k 0 [] (by omega) (by omega) (by simp)
  simpa [listOf] using this
theorem impl_SetList_l0 (s : Int) (h0 : 0 ≤ s) (h1 : s ≤ 2147483647) (d : Nat) : ∀ (k i : Nat) (out : List Int), i + d = 31 → d < k → out.length ≤ i → impl_SetList.l0 k s out (i : Int) = some (out ++ listFrom s i d) := by
  induction d with
  | zero =>
    intro k i out hi hk ho
    obtain ⟨k, rfl⟩ := succ_of hk
    simp only [impl_SetList.l0]
    rw [if_neg (by omega)]
    simp [listFrom]
  | succ d ih =>
    intro k i out hi hk ho
    obtain ⟨k, rfl⟩ := succ_of hk
    simp only [impl_SetList.l0]
    rw [if_pos (by omega), impl_has_eq s _ h0 (by omega) (by omega) (by omega)]
    simp only [Option.bind_some]
    rw [wrap64_succ (by omega)]
    unfold listFrom
    have e : hasZ s (i : Int) = s.toNat.testBit (i : Int).toNat := by
      unfold hasZ
      rw [show inR (i : Int) 0 30 = true from inR_iff.2 (by omega)]
      rfl
    rw [e]
    by_cases hb : s.toNat.testBit (i : Int).toNat = true
    · rw [if_pos hb, if_pos (by omega), ih k (i + 1) _ (by omega) (by omega) (by simp; omega), if_pos hb]
      simp
    · rw [if_neg hb, ih k (i + 1) _ (by omega) (by omega) (by omega), if_neg hb]
theorem impl_SetList_eq (s : Int) (k : Nat) (hk : 70 ≤ k) : impl_SetList.f k s = some (listOf s) := by
  unfold impl_SetList.f listOf
  rw [impl_SetOk_eq]
  simp only [Option.bind_some]
  by_cases h : okB s = true
  · have hs := inR_iff.1 h
    rw [if_pos h, if_pos h]
    have := impl_SetList_l0 s hs.1 hs.2 31 k 0 [] (by omega) (by omega) (by simp)
    simpa using this
  · rw [if_neg h, if_neg h]
end hFnExactSetList
open hFnExactSetList
theorem FnExactSetList : laws_FnExactSetList.Pure := by
  intro s _
  refine ⟨70, ?_⟩
  have hl := listOf_length s
  unfold laws_FnExactSetList.f
  rw [spec_SetList_eq s _ (by omega), impl_SetList_eq s _ (by omega)]
  simp only [Option.bind_some]
  rw [eqIntS_eq _ _ (by omega) _ (by omega)]
  simp only [Option.bind_some, decide_true, if_true]
  rw [markIntS_eq _ 1 (by omega) (by omega) (by omega) _ (by omega)]
  simp only [Option.bind_some]
  rw [heldIntS_eq _ 1 (by omega) (by omega) (by omega) _ (by omega)]
  simp only [Option.bind_some, if_true, if_neg (show ¬ (1 + ((listOf s).length : Int) < 0) by omega)]
end Go.Proofs.Ytgnjacjinhadaaa.Pure
