/- What the printed functions of FnExactRunOk come to, one lemma a function, and from these the law: for all arguments (within the bounds that the printed statement names) it answers true. -/
import Derived.Test.YtlallflpicgcmaaMFnExactRunOkx10
import Derived.Test.YtlallflpicgcmaaBase
import Derived.Test.YtlallflpicgcmaaBaseA
import Derived.Test.YtlallflpicgcmaaBaseL
import Derived.Test.YtlallflpicgcmaaBaseS
import Derived.Test.YtlallflpicgcmaaBaseW
namespace Go.Proofs.Ytlallflpicgcmaa.Pure
open Go.RowKit Go.Proofs.Ytlallflpicgcmaa.MFnExactRunOk Go.Proofs.YtlallflpicgcmaaW.PrintWords Go.Proofs.YtlallflpicgcmaaW.PrintLast Go.Proofs.Ytlallflpicgcmaa.Base

namespace hFnExactRunOk
theorem spec_l1In_eq (a b c : Int) : spec_l1In.f a b c = some (inR a b c) := by
  unfold spec_l1In.f inR
  by_cases h : a ≥ b
  · rw [if_pos h]; simp [show b ≤ a from h]
  · rw [if_neg h]; simp; omega
theorem impl_inRange_eq (a b c : Int) : impl_inRange.f a b c = some (inR a b c) := by
  unfold impl_inRange.f inR
  by_cases h : a ≥ b
  · rw [if_pos h]; simp [show b ≤ a from h]
  · rw [if_neg h]; simp; omega
theorem spec_SetOk_eq (s : Int) : spec_SetOk.f s = some (okB s) := by
  simp only [spec_SetOk.f, spec_l1In_eq, Option.bind_some, okB]
theorem impl_SetOk_eq (s : Int) : impl_SetOk.f s = some (okB s) := by
  simp only [impl_SetOk.f, impl_inRange_eq, Option.bind_some, okB]
theorem impl_isMember_eq (i : Int) : impl_isMember.f i = some (inR i 0 30) := by
  simp only [impl_isMember.f, impl_inRange_eq, Option.bind_some]
theorem spec_l1Bit_eq (i : Int) (h0 : 0 ≤ i) (h1 : i ≤ 31) : spec_l1Bit.f i = some (bitZ i) := by
  obtain ⟨n, rfl⟩ := Int.eq_ofNat_of_zero_le h0
  unfold spec_l1Bit.f
  rw [and31 n (by omega), if_pos h0, shl_one n (by omega)]
theorem impl_only_eq (i : Int) (h0 : 0 ≤ i) (h1 : i ≤ 62) : impl_only.f i = some (bitZ i) := by
  obtain ⟨n, rfl⟩ := Int.eq_ofNat_of_zero_le h0
  unfold impl_only.f
  rw [wrap_u64_id h0 (by omega), if_pos h0, shl_one n (by omega)]
theorem spec_l1Has_eq (s i : Int) (h0 : 0 ≤ s) (h1 : s < 9223372036854775808) : spec_l1Has.f s i = some (hasZ s i) := by
  unfold spec_l1Has.f hasZ
  rw [spec_l1In_eq]
  simp only [Option.bind_some]
  by_cases h : inR i 0 30 = true
  · have hi := inR_iff.1 h
    have hp := bitZ_pos i
    rw [if_pos h, spec_l1Bit_eq i hi.1 (by omega), h]
    simp only [Option.bind_some, Bool.true_and]
    rw [and_bitZ s i h0 h1 hi.1 (by omega)]
    congr 1
    by_cases hb : s.toNat.testBit i.toNat = true
    · rw [if_pos hb, hb]; rw [bne_iff_ne]; omega
    · rw [if_neg hb]; simp at hb; rw [hb]; rfl
  · rw [if_neg h]; simp at h; rw [h]; rfl
theorem impl_has_eq (s i : Int) (h0 : 0 ≤ s) (h1 : s < 9223372036854775808) (hi0 : 0 ≤ i) (hi : i ≤ 62) : impl_has.f s i = some (s.toNat.testBit i.toNat) := by
  unfold impl_has.f
  rw [wrap_u64_id hi0 (by omega), if_pos hi0, shr_and_one s i h0 h1 hi0 (by omega)]
theorem impl_SetHas_eq (s i : Int) : impl_SetHas.f s i = some (okB s && hasZ s i) := by
  unfold impl_SetHas.f
  rw [impl_SetOk_eq, impl_isMember_eq]
  simp only [Option.bind_some]
  by_cases h : okB s = true
  · have hs := inR_iff.1 h
    rw [if_pos h, h]
    unfold hasZ
    by_cases hi : inR i 0 30 = true
    · have hi' := inR_iff.1 hi
      rw [if_pos hi, hi, impl_has_eq s i hs.1 (by omega) hi'.1 (by omega)]; rfl
    · rw [if_neg hi]; simp at hi; rw [hi]; rfl
  · rw [if_neg h]; simp at h; rw [h]; rfl
theorem spec_SetIn_eq (a b : Int) : spec_SetIn.f a b = some (okB a && okB b && (Go.bits .and .i64 a b == a)) := by
  unfold spec_SetIn.f
  rw [spec_SetOk_eq, spec_SetOk_eq]
  simp only [Option.bind_some]
  cases okB a <;> cases okB b <;> simp
theorem toIntS_l0 (l : List Int) (hl : l.length ≤ 1099511627776) (d : Nat) : ∀ (k i : Nat) (rest : List Int), i + d = l.length → rest.length = d → d < k → laws_toIntS.l0 k l (l.take i ++ rest) (i : Int) = some l := by
  induction d with
  | zero =>
    intro k i rest hi hr hk
    obtain ⟨k, rfl⟩ := succ_of hk
    simp only [laws_toIntS.l0]
    rw [if_neg (by omega), List.eq_nil_of_length_eq_zero hr, List.append_nil, List.take_of_length_le (by omega)]
  | succ d ih =>
    intro k i rest hi hr hk
    obtain ⟨k, rfl⟩ := succ_of hk
    simp only [laws_toIntS.l0]
    have hll : (l.take i ++ rest).length = l.length := by rw [List.length_append, List.length_take]; omega
    rw [if_pos (by omega), if_pos (by omega), if_pos (by omega), rd_at (by omega), wrap64_succ (by omega)]
    rw [show ((i : Int)).toNat = i from rfl, take_set_drop (by omega) (by omega)]
    exact ih k (i + 1) rest.tail (by omega) (by rw [List.length_tail]; omega) (by omega)
theorem toIntS_eq (l : List Int) (hl : l.length ≤ 1099511627776) (k : Nat) (hk : l.length < k) : laws_toIntS.f k l = some l := by
  unfold laws_toIntS.f
  rw [if_pos (by omega), if_pos (by simp; omega)]
  exact toIntS_l0 l hl l.length k 0 _ (by omega) (by simp) hk
theorem eqIntS_l0 (a b : List Int) (hab : a.length = b.length) (hl : a.length ≤ 1099511627776) (d : Nat) : ∀ (k i : Nat), i + d = a.length → d < k → laws_eqIntS.l0 k a b (i : Int) = some (decide (a.drop i = b.drop i)) := by
  induction d with
  | zero =>
    intro k i hi hk
    obtain ⟨k, rfl⟩ := succ_of hk
    simp only [laws_eqIntS.l0]
    rw [if_neg (by omega), List.drop_eq_nil_of_le (by omega), List.drop_eq_nil_of_le (by omega)]
    simp
  | succ d ih =>
    intro k i hi hk
    obtain ⟨k, rfl⟩ := succ_of hk
    simp only [laws_eqIntS.l0]
    rw [if_pos (by omega), if_pos (by omega), if_pos (by omega), rd_at (by omega), rd_at (by omega), wrap64_succ (by omega)]
    rw [drop_cons (l := a) (i := i) (by omega), drop_cons (l := b) (i := i) (by omega)]
    by_cases h : a[i] = b[i]
    · rw [if_pos h, ih k (i + 1) (by omega) (by omega), h]
      congr 1
      exact decide_eq_decide.2 ⟨fun e => by rw [e], fun e => (List.cons.inj e).2⟩
    · rw [if_neg h]
      congr 1
      exact (decide_eq_false (fun e => h (List.cons.inj e).1)).symm
theorem eqIntS_eq (a b : List Int) (hl : a.length ≤ 1099511627776) (k : Nat) (hk : a.length < k) : laws_eqIntS.f k a b = some (decide (a = b)) := by
  unfold laws_eqIntS.f
  by_cases h : a.length = b.length
  · rw [if_pos (by omega)]
    exact eqIntS_l0 a b h hl a.length k 0 (by omega) hk
  · rw [if_neg (by omega)]
    have : a ≠ b := fun e => h (by rw [e])
    simp [this]
theorem szIntS_eq (l : List Int) (a : Int) (h0 : 0 ≤ a) (h1 : a ≤ 1048576) (hl : l.length ≤ 9223372036854775807) : laws_szIntS.f l a = some (if a < l.length then -1 else a - l.length) := by
  unfold laws_szIntS.f
  rw [wrap64_id (by omega) (by omega)]
  by_cases h : a < (l.length : Int)
  · rw [if_pos (by omega), if_pos h]
  · rw [if_neg (by omega), if_neg h]
theorem spec_l3Letters_l0 (l : List Int) (n : Int) (h0 : -1000 ≤ n) (h1 : n ≤ 1000) (hl : l.length ≤ 1099511627776) (d : Nat) : ∀ (k i : Nat), i + d = l.length → d < k → spec_l3Letters.l0 k l n (i : Int) = some (lettersB (l.drop i) n) := by
  induction d with
  | zero =>
    intro k i hi hk
    obtain ⟨k, rfl⟩ := succ_of hk
    simp only [spec_l3Letters.l0]
    rw [if_neg (by omega), List.drop_eq_nil_of_le (by omega)]
    rfl
  | succ d ih =>
    intro k i hi hk
    obtain ⟨k, rfl⟩ := succ_of hk
    simp only [spec_l3Letters.l0]
    rw [if_pos (by omega), if_pos (by omega), rd_at (by omega), spec_l1In_eq, wrap64_id (n := n - 1) (by omega) (by omega), wrap64_succ (by omega), drop_cons (l := l) (i := i) (by omega)]
    simp only [Option.bind_some, lettersB, List.all_cons]
    by_cases h : inR l[i] 0 (n - 1) = true
    · rw [if_pos h, h, ih k (i + 1) (by omega) (by omega)]; rfl
    · rw [if_neg h]; simp at h; rw [h]; rfl
theorem spec_l3Letters_eq (l : List Int) (n : Int) (h0 : -1000 ≤ n) (h1 : n ≤ 1000) (hl : l.length ≤ 1099511627776) (k : Nat) (hk : l.length < k) : spec_l3Letters.f k l n = some (lettersB l n) := by
  unfold spec_l3Letters.f
  exact spec_l3Letters_l0 l n h0 h1 hl l.length k 0 (by omega) hk
theorem spec_WordOk_eq (s l : List Int) (n : Int) (hs : s.length ≤ 1099511627776) (hl : l.length ≤ 1099511627776) (k : Nat) (hk : s.length + l.length + 1 < k) : spec_WordOk.f k s l n = some (wordOkB s l n) := by
  unfold spec_WordOk.f wordOkB
  obtain ⟨k, rfl⟩ := succ_of hk
  rw [spec_l1In_eq, spec_l1In_eq]
  simp only [Option.bind_some, spec_WordOk.j0]
  by_cases h1 : inR n 1 8 = true
  · have h1' := inR_iff.1 h1
    rw [if_pos h1, h1]
    by_cases h2 : (s.length : Int) > 40
    · rw [if_pos h2, if_pos trivial, decide_eq_false (by omega)]; rfl
    · rw [if_neg h2, decide_eq_true (by omega)]
      by_cases h3 : inR (l.length : Int) 1 40 = true
      · rw [h3, spec_l3Letters_eq s n (by omega) (by omega) hs k (by omega)]
        simp only [Bool.not_true, Bool.false_eq_true, if_false, Option.bind_some, Bool.true_and]
        rw [spec_l3Letters_eq l n (by omega) (by omega) hl k (by omega)]
        by_cases h4 : lettersB s n = true
        · rw [if_pos h4, h4]; rfl
        · rw [if_neg h4]; simp at h4; rw [h4]; rfl
      · simp at h3; rw [h3]; rfl
  · rw [if_neg h1, if_pos trivial]; simp at h1; rw [h1]; rfl
theorem impl_isLetters_eq (n : Int) : impl_isLetters.f n = some (inR n 1 8) := by
  unfold impl_isLetters.f
  rw [impl_inRange_eq]; rfl
theorem impl_areLetters_l0 (l : List Int) (n : Int) (h0 : -1000 ≤ n) (h1 : n ≤ 1000) (hl : l.length ≤ 1099511627776) (d : Nat) : ∀ (k i : Nat), i + d = l.length → d < k → impl_areLetters.l0 k n l (l.length : Int) (i : Int) = some (lettersB (l.drop i) n) := by
  induction d with
  | zero =>
    intro k i hi hk
    obtain ⟨k, rfl⟩ := succ_of hk
    simp only [impl_areLetters.l0]
    rw [if_neg (by omega), List.drop_eq_nil_of_le (by omega)]
    rfl
  | succ d ih =>
    intro k i hi hk
    obtain ⟨k, rfl⟩ := succ_of hk
    simp only [impl_areLetters.l0]
    rw [if_pos (by omega), if_pos (by omega), if_pos (by omega), rd_at (by omega), impl_inRange_eq, wrap64_id (n := n - 1) (by omega) (by omega), wrap64_succ (by omega), drop_cons (l := l) (i := i) (by omega)]
    simp only [Option.bind_some, lettersB, List.all_cons]
    by_cases h : inR l[i] 0 (n - 1) = true
    · rw [if_pos h, h, ih k (i + 1) (by omega) (by omega)]; rfl
    · rw [if_neg h]; simp at h; rw [h]; rfl
theorem impl_areLetters_eq (l : List Int) (n : Int) (h0 : -1000 ≤ n) (h1 : n ≤ 1000) (hl : l.length ≤ 1099511627776) (k : Nat) (hk : l.length < k) : impl_areLetters.f k l n = some (lettersB l n) := by
  unfold impl_areLetters.f
  exact impl_areLetters_l0 l n h0 h1 hl l.length k 0 (by omega) hk
theorem impl_WordOk_eq (s l : List Int) (n : Int) (hs : s.length ≤ 1099511627776) (hl : l.length ≤ 1099511627776) (k : Nat) (hk : s.length + l.length + 1 < k) : impl_WordOk.f k s l n = some (wordOkB s l n) := by
  unfold impl_WordOk.f wordOkB
  obtain ⟨k, rfl⟩ := succ_of hk
  rw [impl_isLetters_eq, impl_inRange_eq]
  simp only [Option.bind_some, impl_WordOk.j0]
  by_cases h1 : inR n 1 8 = true
  · have h1' := inR_iff.1 h1
    rw [if_pos h1, h1]
    by_cases h2 : (s.length : Int) > 40
    · rw [if_pos h2, if_pos trivial, decide_eq_false (by omega)]; rfl
    · rw [if_neg h2, decide_eq_true (by omega)]
      by_cases h3 : inR (l.length : Int) 1 40 = true
      · rw [h3, impl_areLetters_eq s n (by omega) (by omega) hs k (by omega)]
        simp only [Bool.not_true, Bool.false_eq_true, if_false, Option.bind_some, Bool.true_and]
        rw [impl_areLetters_eq l n (by omega) (by omega) hl k (by omega)]
        by_cases h4 : lettersB s n = true
        · rw [if_pos h4, h4]; rfl
        · rw [if_neg h4]; simp at h4; rw [h4]; rfl
      · simp at h3; rw [h3]; rfl
  · rw [if_neg h1, if_pos trivial]; simp at h1; rw [h1]; rfl
theorem szWord_eq (s l : List Int) (a : Int) (h0 : 0 ≤ a) (h1 : a ≤ 1048576) (hs : s.length ≤ 9223372036854775807) (hl : l.length ≤ 9223372036854775807) :
    ∃ r, laws_szWord.f s l a = some r ∧ (0 ≤ r → s.length + l.length ≤ a ∧ r = a - s.length - l.length) := by
  unfold laws_szWord.f
  rw [szIntS_eq s a h0 h1 hs]
  simp only [Option.bind_some]
  by_cases h : a < (s.length : Int)
  · rw [if_pos h, if_pos (by omega)]
    exact ⟨-1, rfl, fun h => by omega⟩
  · rw [if_neg h, if_neg (by omega), szIntS_eq l _ (by omega) (by omega) hl]
    simp only [Option.bind_some]
    by_cases h' : a - (s.length : Int) < (l.length : Int)
    · rw [if_pos h', if_pos (by omega)]
      exact ⟨-1, rfl, fun h => by omega⟩
    · rw [if_neg h', if_neg (by omega)]
      exact ⟨_, rfl, fun _ => by omega⟩
theorem toWord_eq (s l : List Int) (hs : s.length ≤ 1099511627776) (hl : l.length ≤ 1099511627776) (k : Nat) (hk : s.length + l.length < k) : laws_toWord.f k s l = some (s, l) := by
  unfold laws_toWord.f
  rw [toIntS_eq s hs k (by omega)]
  simp only [Option.bind_some]
  rw [toIntS_eq l hl k (by omega)]
  rfl
theorem eqWord_eq (s l s' l' : List Int) (hs : s.length ≤ 1099511627776) (hl : l.length ≤ 1099511627776) (k : Nat) (hk : s.length + l.length < k) : laws_eqWord.f k s l s' l' = some (decide (s = s' ∧ l = l')) := by
  unfold laws_eqWord.f
  rw [eqIntS_eq s s' hs k (by omega)]
  simp only [Option.bind_some]
  by_cases h : s = s'
  · rw [decide_eq_true h, if_pos rfl, eqIntS_eq l l' hl k (by omega)]
    simp only [Option.bind_some]
    by_cases h' : l = l'
    · rw [decide_eq_true h', if_pos rfl, decide_eq_true ⟨h, h'⟩]
    · rw [decide_eq_false h', if_neg (by simp), decide_eq_false (fun e => h' e.2)]
  · rw [decide_eq_false h, if_neg (by simp), decide_eq_false (fun e => h e.1)]
theorem spec_l3At_eq (s l : List Int) (i : Nat) (hi : (i : Int) ≤ 9223372036854775807) (h1 : 1 ≤ l.length) : spec_l3At.f s l (i : Int) = some (letterAt s l i) := by
  unfold spec_l3At.f letterAt
  by_cases h : i < s.length
  · rw [if_pos (by omega), if_pos (by omega), if_pos h, rd_nat]
  · have e : (i : Int) - s.length = ((i - s.length : Nat) : Int) := by omega
    have hm : (i - s.length) % l.length < l.length := Nat.mod_lt _ (by omega)
    rw [if_neg (by omega), if_neg (by omega), if_neg h, e, wrap64_id (by omega) (by omega), tmod_nat, if_pos (by omega), if_pos (by omega), rd_nat]
def placeW (s l : List Int) (i : Nat) : Nat := if i < s.length then i else s.length + (i - s.length) % l.length
theorem impl_Word_placeOf_eq (s l : List Int) (i : Nat) (hi : (i : Int) ≤ 9223372036854775807) (hs : s.length ≤ 1000) (h1 : 1 ≤ l.length) (h2 : l.length ≤ 1000) : impl_Word_placeOf.f s l (i : Int) = some (placeW s l i : Int) := by
  unfold impl_Word_placeOf.f placeW
  by_cases h : i < s.length
  · rw [if_pos (by omega), if_pos h]
  · have e : (i : Int) - s.length = ((i - s.length : Nat) : Int) := by omega
    have hm : (i - s.length) % l.length < l.length := Nat.mod_lt _ (by omega)
    rw [if_neg (by omega), if_neg (by omega), if_neg h, e, wrap64_id (n := ((i - s.length : Nat) : Int)) (by omega) (by omega), tmod_nat, wrap64_id (by omega) (by omega)]
    congr 1
theorem impl_Word_letter_eq (s l : List Int) (i : Nat) (h1 : 1 ≤ l.length) (h2 : l.length ≤ 1000) : impl_Word_letter.f s l (placeW s l i : Int) = some (letterAt s l i) := by
  unfold impl_Word_letter.f letterAt placeW
  by_cases h : i < s.length
  · rw [if_pos h, if_pos (by omega), if_pos (by omega), if_pos h, rd_nat]
  · have hm : (i - s.length) % l.length < l.length := Nat.mod_lt _ (by omega)
    have e : ((s.length + (i - s.length) % l.length : Nat) : Int) - s.length = (((i - s.length) % l.length : Nat) : Int) := by omega
    rw [if_neg h, if_neg (by omega), e, wrap64_id (by omega) (by omega), if_pos (by omega), if_pos (by omega), if_neg h, rd_nat]
deriving instance DecidableEq for S68
theorem rdE_at {l : List S68} {i : Nat} (h : i < l.length) : rd_T68 l (i : Int) = l[i] := by
  simp [rd_T68, List.getD_eq_getElem?_getD, List.getElem?_eq_getElem h]
theorem rdE_set {l : List S68} {i : Nat} (h : i < l.length) (v : S68) : rd_T68 (l.set i v) (i : Int) = v := by
  rw [rdE_at (by rw [List.length_set]; exact h), List.getElem_set_self]
theorem eqEdge_eq (a b : S68) : laws_eqEdge.f a.f0 a.f1 a.f2 a.f3 b.f0 b.f1 b.f2 b.f3 = some (decide (a = b)) := by
  unfold laws_eqEdge.f
  obtain ⟨a0, a1, a2, a3⟩ := a
  obtain ⟨b0, b1, b2, b3⟩ := b
  by_cases h0 : a0 = b0 <;> by_cases h1 : a1 = b1 <;> by_cases h2 : a2 = b2 <;> by_cases h3 : a3 = b3 <;> simp [h0, h1, h2, h3]
theorem eqEdgeS_l0 (a b : List S68) (hab : a.length = b.length) (hl : a.length ≤ 1099511627776) (d : Nat) : ∀ (k i : Nat), i + d = a.length → d < k → laws_eqEdgeS.l0 k a b (i : Int) = some (decide (a.drop i = b.drop i)) := by
  induction d with
  | zero =>
    intro k i hi hk
    obtain ⟨k, rfl⟩ := succ_of hk
    simp only [laws_eqEdgeS.l0]
    rw [if_neg (by omega), List.drop_eq_nil_of_le (by omega), List.drop_eq_nil_of_le (by omega)]
    simp
  | succ d ih =>
    intro k i hi hk
    obtain ⟨k, rfl⟩ := succ_of hk
    simp only [laws_eqEdgeS.l0]
    rw [if_pos (by omega), if_pos (by omega), if_pos (by omega), rdE_at (by omega), rdE_at (by omega), wrap64_succ (by omega), eqEdge_eq]
    rw [drop_cons (l := a) (i := i) (by omega), drop_cons (l := b) (i := i) (by omega)]
    simp only [Option.bind_some]
    by_cases h : a[i] = b[i]
    · rw [decide_eq_true h, if_pos rfl, ih k (i + 1) (by omega) (by omega), h]
      congr 1
      exact decide_eq_decide.2 ⟨fun e => by rw [e], fun e => (List.cons.inj e).2⟩
    · rw [decide_eq_false h, if_neg (by simp)]
      congr 1
      exact (decide_eq_false (fun e => h (List.cons.inj e).1)).symm
theorem eqEdgeS_eq (a b : List S68) (hl : a.length ≤ 1099511627776) (k : Nat) (hk : a.length < k) : laws_eqEdgeS.f k a b = some (decide (a = b)) := by
  unfold laws_eqEdgeS.f
  by_cases h : a.length = b.length
  · rw [if_pos (by omega)]
    exact eqEdgeS_l0 a b h hl a.length k 0 (by omega) hk
  · rw [if_neg (by omega)]
    have : a ≠ b := fun e => h (by rw [e])
    simp [this]
theorem eqAuto_eq (a b c : Int) (l : List S68) (a' b' c' : Int) (l' : List S68) (hl : l.length ≤ 1099511627776) (k : Nat) (hk : l.length < k) :
    laws_eqAuto.f k a b c l a' b' c' l' = some (decide ((a, b, c, l) = (a', b', c', l'))) := by
  unfold laws_eqAuto.f
  rw [eqEdgeS_eq l l' hl k hk]
  by_cases h0 : a = a' <;> by_cases h1 : b = b' <;> by_cases h2 : c = c' <;> by_cases h3 : l = l' <;> simp [h0, h1, h2, h3]
theorem szEdgeS_eq (l : List S115) (a : Int) (h0 : 0 ≤ a) (h1 : a ≤ 1048576) (hl : l.length ≤ 9223372036854775807) : laws_szEdgeS.f l a = some (if a < l.length then -1 else a - l.length) := by
  unfold laws_szEdgeS.f
  rw [wrap64_id (by omega) (by omega)]
  by_cases h : a < (l.length : Int)
  · rw [if_pos (by omega), if_pos h]
  · rw [if_neg (by omega), if_neg h]
theorem szAuto_eq (p q s : Int) (l : List S115) (a : Int) (h0 : 0 ≤ a) (h1 : a ≤ 1048576) (hl : l.length ≤ 9223372036854775807) : laws_szAuto.f p q s l a = some (if a < l.length then -1 else a - l.length) := by
  unfold laws_szAuto.f
  rw [szEdgeS_eq l a h0 h1 hl]
  simp only [Option.bind_some]
  by_cases h : a < (l.length : Int)
  · rw [if_pos h, if_pos (by omega)]
  · rw [if_neg h, if_neg (by omega)]
def convE (e : S115) : S68 := ⟨e.f0, e.f1, e.f2, e.f3⟩
theorem rdP_at {l : List S115} {i : Nat} (h : i < l.length) : rd_T115 l (i : Int) = l[i] := by
  simp [rd_T115, List.getD_eq_getElem?_getD, List.getElem?_eq_getElem h]
theorem toEdgeS_l0 (l : List S115) (hl : l.length ≤ 1099511627776) (d : Nat) : ∀ (k i : Nat) (rest : List S68), i + d = l.length → rest.length = d → d < k → laws_toEdgeS.l0 k l ((l.map convE).take i ++ rest) (i : Int) = some (l.map convE) := by
  induction d with
  | zero =>
    intro k i rest hi hr hk
    obtain ⟨k, rfl⟩ := succ_of hk
    simp only [laws_toEdgeS.l0]
    rw [if_neg (by omega), List.eq_nil_of_length_eq_zero hr, List.append_nil, List.take_of_length_le (by rw [List.length_map]; omega)]
  | succ d ih =>
    intro k i rest hi hr hk
    obtain ⟨k, rfl⟩ := succ_of hk
    simp only [laws_toEdgeS.l0]
    have hll : ((l.map convE).take i ++ rest).length = l.length := by rw [List.length_append, List.length_take, List.length_map]; omega
    have hm : (l.map convE).length = l.length := List.length_map _
    rw [if_pos (by omega), if_pos (by omega), rdP_at (by omega), wrap64_succ (by omega)]
    simp only [laws_toEdge.f, Option.bind_some]
    rw [if_pos (by omega)]
    have e : (⟨l[i].f0, l[i].f1, l[i].f2, l[i].f3⟩ : S68) = (l.map convE)[i] := by rw [List.getElem_map]; rfl
    rw [show ((i : Int)).toNat = i from rfl, e, take_set_drop (by omega) (by omega)]
    exact ih k (i + 1) rest.tail (by omega) (by rw [List.length_tail]; omega) (by omega)
theorem toEdgeS_eq (l : List S115) (hl : l.length ≤ 1099511627776) (k : Nat) (hk : l.length < k) : laws_toEdgeS.f k l = some (l.map convE) := by
  unfold laws_toEdgeS.f
  rw [if_pos (by omega), if_pos (by simp; omega)]
  exact toEdgeS_l0 l hl l.length k 0 _ (by omega) (by simp) hk
theorem toAuto_eq (p q s : Int) (l : List S115) (hl : l.length ≤ 1099511627776) (k : Nat) (hk : l.length < k) : laws_toAuto.f k p q s l = some (p, q, s, l.map convE) := by
  unfold laws_toAuto.f
  rw [toEdgeS_eq l hl k hk]; rfl
theorem spec_l4State_eq (x n : Int) (h0 : -1000 ≤ n) (h1 : n ≤ 1000) : spec_l4State.f x n = some (inR x 0 (n - 1)) := by
  unfold spec_l4State.f
  rw [wrap64_id (by omega) (by omega), spec_l1In_eq]; rfl
theorem spec_l4Less_eq (a b c : Int) (g : Bool) (a' b' c' : Int) (g' : Bool) : spec_l4Less.f a b c g a' b' c' g' = some (lessK (a, b, c) (a', b', c')) := by
  unfold spec_l4Less.f lessK
  by_cases h : a = a'
  · rw [if_pos h, if_pos h]
    by_cases h' : b = b'
    · rw [if_pos h', if_pos h']
    · rw [if_neg h', if_neg h']
  · rw [if_neg h, if_neg h]
theorem cmp_Compare_eq (a b : Int) : cmp_Compare_int.f a b = some (cmpZ a b) := by
  unfold cmp_Compare_int.f cmp_isNaN_int.f cmpZ
  simp only [Option.bind_some, bne_self_eq_false, Bool.false_eq_true, if_false]
  by_cases h : a < b
  · rw [if_pos h, if_pos h]
  · rw [if_neg h, if_neg h]
    by_cases h' : a > b
    · rw [if_pos h', if_pos h']
    · rw [if_neg h', if_neg h']
theorem cmp_Or_eq (a b c : Int) (k : Nat) (hk : 3 < k) : cmp_Or_int.f k [a, b, c] = some (orZ a b c) := by
  unfold cmp_Or_int.f orZ
  obtain ⟨k, rfl⟩ : ∃ m, k = m + 4 := ⟨k - 4, by omega⟩
  have e0 : rd [a, b, c] 0 = a := rfl
  have e1 : rd [a, b, c] 1 = b := rfl
  have e2 : rd [a, b, c] 2 = c := rfl
  have w0 : wrap64 (0 + 1) = 1 := by rw [wrap64_id (by omega) (by omega)]; rfl
  have w1 : wrap64 (1 + 1) = 2 := by rw [wrap64_id (by omega) (by omega)]; rfl
  have w2 : wrap64 (2 + 1) = 3 := by rw [wrap64_id (by omega) (by omega)]; rfl
  have l3 : (([a, b, c].length : Nat) : Int) = 3 := rfl
  rw [l3]
  simp only [cmp_Or_int.l0, e0, e1, e2, w0, w1, w2, l3]
  by_cases ha : a = 0
  · by_cases hb : b = 0
    · by_cases hc : c = 0
      · simp [ha, hb, hc]
      · simp [ha, hb, hc]
    · simp [ha, hb]
  · simp [ha]
theorem impl_compareEdges_eq (a b c : Int) (g : Bool) (a' b' c' : Int) (g' : Bool) (k : Nat) (hk : 3 < k) : impl_compareEdges.f k a b c g a' b' c' g' = some (cmpK (a, b, c) (a', b', c')) := by
  unfold impl_compareEdges.f
  simp only [cmp_Compare_eq, Option.bind_some, cmp_Or_eq _ _ _ k hk]
  rfl
theorem impl_headOk_eq (n st s : Int) : impl_headOk.f n st s = some (headB n st s) := by
  unfold impl_headOk.f headB
  rw [impl_isLetters_eq, impl_inRange_eq, impl_SetOk_eq]
  simp only [Option.bind_some]
  by_cases h1 : inR n 1 8 = true
  · rw [if_pos h1, h1]
    by_cases h2 : inR st 0 31 = true
    · have h2' := inR_iff.1 h2
      have hb := bitZ_le31 h2'.2
      rw [if_pos h2, h2, impl_only_eq st h2'.1 (by omega)]
      simp only [Option.bind_some, Bool.true_and]
      by_cases h3 : okB s = true
      · have h3' := inR_iff.1 h3
        rw [if_pos h3]
        congr 1
        rw [Bool.eq_iff_iff]
        simp only [decide_eq_true_eq, inR_iff]
        omega
      · rw [if_neg h3]
        congr 1
        simp only [okB, inR_iff] at h3
        symm
        rw [inR_false]
        omega
    · rw [if_neg h2]; simp at h2; rw [h2]; rfl
  · rw [if_neg h1]; simp at h1; rw [h1]; rfl
def keyE (e : S68) : Key := (e.f0, e.f1, e.f2)
def anyE (_ : S68) : Bool := true
/-- A right automaton. -/
def autoOkB (n st s : Int) (l : List S68) : Bool := headB n st s && (decide (l.length ≤ 2000) && edgesB keyE anyE n st none l)
theorem autoOk_of {n st s : Int} {l : List S68} (h : autoOkB n st s l = true) : headB n st s = true ∧ l.length ≤ 2000 ∧ edgesB keyE anyE n st none l = true := by
  simpa only [autoOkB, Bool.and_eq_true, decide_eq_true_eq] using h
theorem spec_AutoOk_l0 (n st s : Int) (l : List S68) (h0 : 0 ≤ n) (h1 : n ≤ 8) (h2 : 0 ≤ st) (h3 : st ≤ 31) (hl : l.length ≤ 1099511627776) (d : Nat) : ∀ (k i : Nat), i + d = l.length → d < k → spec_AutoOk.l0 k (i : Int) n st s l = some (edgesB keyE anyE n st (prevOf l i) (l.drop i)) := by
  induction d with
  | zero =>
    intro k i hi hk
    obtain ⟨k, rfl⟩ := succ_of hk
    simp only [spec_AutoOk.l0]
    rw [if_neg (by omega), List.drop_eq_nil_of_le (by omega)]
    rfl
  | succ d ih =>
    intro k i hi hk
    obtain ⟨k, rfl⟩ := succ_of hk
    simp only [spec_AutoOk.l0]
    rw [if_pos (by omega), if_pos (by omega), rdE_at (by omega), spec_l4State_eq _ _ (by omega) (by omega), spec_l4State_eq _ _ (by omega) (by omega), spec_l1In_eq, wrap64_id (n := n - 1) (by omega) (by omega), wrap64_succ (by omega), drop_cons (l := l) (i := i) (by omega)]
    simp only [Option.bind_some, edgesB, stOk, keyE, anyE]
    have ih' := ih k (i + 1) (by omega) (by omega)
    rw [prevOf_succ l i (by omega)] at ih'
    cases e1 : inR l[i].f0 0 (st - 1)
    · simp
    · cases e2 : inR l[i].f2 0 (st - 1)
      · simp
      · cases e3 : inR l[i].f1 0 (n - 1)
        · simp
        · simp only [if_true, Bool.true_and]
          cases i with
          | zero => rw [if_neg (by omega), ih']; simp only [prevOf, aheadK, Bool.true_and]
          | succ j =>
            have ej : wrap64 (((j + 1 : Nat) : Int) - 1) = (j : Int) := by rw [wrap64_id (by omega) (by omega)]; omega
            rw [if_pos (by omega), ej, if_pos (by omega), if_pos (by omega), rdE_at (by omega), spec_l4Less_eq, prevOf_succ l j (by omega)]
            simp only [Option.bind_some, aheadK, keyE]
            cases e4 : lessK (l[j].f0, l[j].f1, l[j].f2) (l[j + 1].f0, l[j + 1].f1, l[j + 1].f2)
            · simp
            · simp only [if_true, Bool.true_and]; exact ih'
theorem spec_AutoOk_eq (n st s : Int) (l : List S68) (hl : l.length ≤ 1099511627776) (k : Nat) (hk : l.length + 1 < k) : spec_AutoOk.f k n st s l = some (autoOkB n st s l) := by
  unfold spec_AutoOk.f autoOkB headB
  obtain ⟨k, rfl⟩ := succ_of hk
  rw [spec_l1In_eq, spec_l1In_eq]
  simp only [Option.bind_some, spec_AutoOk.j0, if_true]
  cases e1 : inR n 1 8
  · simp
  · have h1 := inR_iff.1 e1
    cases e2 : inR st 0 31
    · simp
    · have h2 := inR_iff.1 e2
      have hb := bitZ_le31 h2.2
      have hp := bitZ_pos st
      obtain ⟨m, rfl⟩ := Int.eq_ofNat_of_zero_le h2.1
      simp only [if_true, Bool.true_and]
      rw [if_pos h2.1, shl_one m (by omega), wrap64_id (by omega) (by omega), spec_SetIn_eq, in_mask s m h2.1 h2.2]
      simp only [Option.bind_some]
      cases e3 : inR s 0 (bitZ m - 1)
      · simp
      · simp only [if_true, Bool.true_and]
        by_cases h4 : (l.length : Int) > 2000
        · rw [decide_eq_true h4, if_pos rfl, decide_eq_false (by omega)]; rfl
        · rw [decide_eq_false h4, if_neg (by simp), decide_eq_true (by omega)]
          exact spec_AutoOk_l0 n m s l (by omega) (by omega) h2.1 h2.2 hl l.length k 0 (by omega) (by omega)
theorem impl_AutoOk_l0 (n st s : Int) (l : List S68) (h0 : 0 ≤ n) (h1 : n ≤ 8) (h2 : 0 ≤ st) (h3 : st ≤ 31) (hl : l.length ≤ 1099511627776) (d : Nat) : ∀ (k i : Nat), i + d = l.length → 2 * d + 10 < k → impl_AutoOk.l0 k l (l.length : Int) (i : Int) n st s l = some (edgesB keyE anyE n st (prevOf l i) (l.drop i)) := by
  induction d with
  | zero =>
    intro k i hi hk
    obtain ⟨k, rfl⟩ := succ_of hk
    simp only [impl_AutoOk.l0]
    rw [if_neg (by omega), List.drop_eq_nil_of_le (by omega)]
    rfl
  | succ d ih =>
    intro k i hi hk
    obtain ⟨k, rfl⟩ : ∃ m, k = m + 1 + 1 := ⟨k - 2, by omega⟩
    simp only [impl_AutoOk.l0]
    rw [if_pos (by omega), if_pos (by omega), if_pos (by omega), rdE_at (by omega), impl_inRange_eq, impl_inRange_eq, impl_inRange_eq, wrap64_id (n := st - 1) (by omega) (by omega), wrap64_id (n := n - 1) (by omega) (by omega), drop_cons (l := l) (i := i) (by omega)]
    simp only [Option.bind_some, edgesB, stOk, keyE, anyE, impl_AutoOk.j2, if_true]
    have ih' := ih k (i + 1) (by omega) (by omega)
    rw [prevOf_succ l i (by omega)] at ih'
    cases e1 : inR l[i].f0 0 (st - 1)
    · simp
    · cases e2 : inR l[i].f2 0 (st - 1)
      · simp
      · cases e3 : inR l[i].f1 0 (n - 1)
        · simp
        · simp only [if_true, Bool.true_and, Bool.not_true, Bool.false_eq_true, if_false]
          rw [wrap64_succ (by omega)]
          cases i with
          | zero => rw [if_neg (by omega), ih']; simp only [prevOf, aheadK, Bool.true_and]
          | succ j =>
            have ej : wrap64 (((j + 1 : Nat) : Int) - 1) = (j : Int) := by rw [wrap64_id (by omega) (by omega)]; omega
            rw [if_pos (by omega), ej, if_pos (by omega), if_pos (by omega), rdE_at (by omega), impl_compareEdges_eq _ _ _ _ _ _ _ _ k (by omega), prevOf_succ l j (by omega)]
            simp only [Option.bind_some, aheadK, keyE]
            by_cases e4 : lessK (l[j].f0, l[j].f1, l[j].f2) (l[j + 1].f0, l[j + 1].f1, l[j + 1].f2) = true
            · rw [if_neg (fun h => (cmpK_neg _ _).1 h e4), e4]
              simp only [Bool.true_and]; exact ih'
            · rw [if_pos ((cmpK_neg _ _).2 e4)]
              simp at e4; rw [e4]; rfl
theorem impl_AutoOk_eq (n st s : Int) (l : List S68) (hl : l.length ≤ 1099511627776) (k : Nat) (hk : 2 * l.length + 20 < k) : impl_AutoOk.f k n st s l = some (autoOkB n st s l) := by
  unfold impl_AutoOk.f autoOkB
  obtain ⟨k, rfl⟩ := succ_of hk
  rw [impl_headOk_eq]
  simp only [Option.bind_some, impl_AutoOk.j0, if_true]
  cases e1 : headB n st s
  · simp
  · have h := head_of e1
    simp only [if_true, Bool.true_and]
    by_cases h4 : (l.length : Int) > 2000
    · rw [decide_eq_true h4, if_pos rfl, decide_eq_false (by omega)]; rfl
    · rw [decide_eq_false h4, if_neg (by simp), decide_eq_true (by omega)]
      exact impl_AutoOk_l0 n st s l (by omega) (by omega) h.2.1.1 h.2.1.2 hl l.length k 0 (by omega) (by omega)
/-- Is there such an edge, and is it good? -/
def edgeAt (f x t : Int) : List S68 → Bool × Bool
  | [] => (false, false)
  | e :: es => if e.f0 = f then (if e.f1 = x then (if e.f2 = t then (e.f3, true) else edgeAt f x t es) else edgeAt f x t es) else edgeAt f x t es
theorem impl_AutoEdge_l0 (f x t : Int) (l : List S68) (hl : l.length ≤ 1099511627776) (d : Nat) : ∀ (k i : Nat), i + d = l.length → d < k → impl_AutoEdge.l0 k f x t l (l.length : Int) (i : Int) = some (edgeAt f x t (l.drop i)) := by
  induction d with
  | zero =>
    intro k i hi hk
    obtain ⟨k, rfl⟩ := succ_of hk
    simp only [impl_AutoEdge.l0]
    rw [if_neg (by omega), List.drop_eq_nil_of_le (by omega)]
    rfl
  | succ d ih =>
    intro k i hi hk
    obtain ⟨k, rfl⟩ := succ_of hk
    simp only [impl_AutoEdge.l0]
    rw [if_pos (by omega), if_pos (by omega), if_pos (by omega), rdE_at (by omega), wrap64_succ (by omega), ih k (i + 1) (by omega) (by omega), drop_cons (l := l) (i := i) (by omega)]
    simp only [edgeAt]
    split <;> (try split) <;> (try split) <;> rfl
theorem impl_AutoEdge_eq (n st s f x t : Int) (l : List S68) (hl : l.length ≤ 1099511627776) (k : Nat) (hk : 3 * l.length + 20 < k) : impl_AutoEdge.f k n st s l f x t = some (if autoOkB n st s l then edgeAt f x t l else (false, false)) := by
  unfold impl_AutoEdge.f
  rw [impl_AutoOk_eq n st s l hl k (by omega)]
  simp only [Option.bind_some]
  by_cases h : autoOkB n st s l = true
  · rw [if_pos h, if_pos h]
    exact impl_AutoEdge_l0 f x t l hl l.length k 0 (by omega) (by omega)
  · rw [if_neg h, if_neg h]
theorem lessK_trans {a b c : Key} (h1 : lessK a b = true) (h2 : lessK b c = true) : lessK a c = true := by
  rw [lessK_iff] at *
  omega
theorem edgesB_above {E : Type} {key : E → Key} {more : E → Bool} {n st : Int} {l : List E} : ∀ {p : E}, edgesB key more n st (some p) l = true → ∀ e ∈ l, lessK (key p) (key e) = true := by
  induction l with
  | nil => intro p _ e he; simp at he
  | cons x l ih =>
    intro p h e he
    simp only [edgesB, Bool.and_eq_true] at h
    obtain ⟨_, _, h3, h4⟩ := h
    have h3' : lessK (key p) (key x) = true := h3
    rcases List.mem_cons.1 he with rfl | he
    · exact h3'
    · exact lessK_trans h3' (ih h4 e he)
theorem lessK_ne {a b : Key} (h : lessK a b = true) : ¬ b = a := by
  rintro rfl
  rw [lessK_iff] at h
  omega
/-- All edges looked at: good, if one that fits is; was one found? -/
def scanE (f x t : Int) (late : Bool) : Bool → Bool → List S68 → Bool × Bool
  | g, fd, [] => (g, fd)
  | g, fd, e :: l => if e.f0 = f then (if e.f1 = x then (if e.f2 = t then scanE f x t late (g || (e.f3 && late)) true l else scanE f x t late g fd l) else scanE f x t late g fd l) else scanE f x t late g fd l
theorem scanE_none (f x t : Int) (late : Bool) (l : List S68) : ∀ g fd, (∀ e ∈ l, ¬ keyE e = (f, x, t)) → scanE f x t late g fd l = (g, fd) := by
  induction l with
  | nil => intro g fd _; rfl
  | cons e l ih =>
    intro g fd h
    have he := h e List.mem_cons_self
    have hl := ih g fd (fun y hy => h y (List.mem_cons_of_mem _ hy))
    simp only [keyE, Prod.mk.injEq] at he
    unfold scanE
    by_cases h0 : e.f0 = f
    · rw [if_pos h0]
      by_cases h1 : e.f1 = x
      · rw [if_pos h1, if_neg (fun h2 => he ⟨h0, h1, h2⟩), hl]
      · rw [if_neg h1, hl]
    · rw [if_neg h0, hl]
theorem scanE_eq (n st f x t : Int) (late : Bool) (l : List S68) : ∀ (p : Option S68) g fd, edgesB keyE anyE n st p l = true → scanE f x t late g fd l = if (edgeAt f x t l).2 then (g || ((edgeAt f x t l).1 && late), true) else (g, fd) := by
  induction l with
  | nil => intro p g fd _; rfl
  | cons e l ih =>
    intro p g fd h
    simp only [edgesB, Bool.and_eq_true] at h
    obtain ⟨_, _, _, h4⟩ := h
    have hl := ih (some e) g fd h4
    unfold scanE edgeAt
    by_cases h0 : e.f0 = f
    · rw [if_pos h0, if_pos h0]
      by_cases h1 : e.f1 = x
      · rw [if_pos h1, if_pos h1]
        by_cases h2 : e.f2 = t
        · rw [if_pos h2, if_pos h2, scanE_none]
          · rfl
          · intro y hy hk
            have hk' : keyE e = (f, x, t) := by simp only [keyE, h0, h1, h2]
            exact lessK_ne (edgesB_above h4 y hy) (hk.trans hk'.symm)
        · rw [if_neg h2, if_neg h2, hl]
      · rw [if_neg h1, if_neg h1, hl]
    · rw [if_neg h0, if_neg h0, hl]
/-- The steps of a run from a place on: is each an edge, and is one from the place of return on good? -/
def runGo (ed : Nat → Bool × Bool) (b : Int) : Nat → Nat → Bool → Bool
  | 0, _, g => g
  | d + 1, i, g => if (ed i).2 then runGo ed b d (i + 1) (g || ((ed i).1 && decide ((i : Int) ≥ b))) else false
theorem runGo_succ (ed : Nat → Bool × Bool) (b : Int) (d i : Nat) (g : Bool) : runGo ed b (d + 1) i g = if (ed i).2 then runGo ed b d (i + 1) (g || ((ed i).1 && decide ((i : Int) ≥ b))) else false := rfl
def edAt (ws wl r : List Int) (l : List S68) (i : Nat) : Bool × Bool := edgeAt (r.getD i 0) (letterAt ws wl i) (r.getD (i + 1) 0) l
/-- A right run. -/
def runB (n st s : Int) (l : List S68) (ws wl r : List Int) (b : Int) : Bool :=
  autoOkB n st s l && (wordOkB ws wl n && (inR r.length 2 6000 && (inR b ws.length (r.length - 2) && (hasZ s (r.getD 0 0) && (decide (Int.tmod ((r.length : Int) - 1 - b) wl.length = 0) && ((r.getD b.toNat 0 == r.getD (r.length - 1) 0) && runGo (edAt ws wl r l) b (r.length - 1) 0 false))))))
theorem spec_RunOk_l1 (n st s : Int) (l : List S68) (ws wl r : List Int) (b last : Int) (i : Nat) (hl : l.length ≤ 1099511627776) (hi : i + 1 < r.length) (hr : r.length ≤ 1099511627776) (hwl : 1 ≤ wl.length) (d : Nat) : ∀ (k j : Nat) (g fd : Bool), j + d = l.length → d < k →
    spec_RunOk.l1 k last g (i : Int) fd (j : Int) n st s l ws wl r b = if (scanE (r.getD i 0) (letterAt ws wl i) (r.getD (i + 1) 0) (decide ((i : Int) ≥ b)) g fd (l.drop j)).2 = true then spec_RunOk.l0 (k - d - 1) last (scanE (r.getD i 0) (letterAt ws wl i) (r.getD (i + 1) 0) (decide ((i : Int) ≥ b)) g fd (l.drop j)).1 ((i + 1 : Nat) : Int) n st s l ws wl r b else some false := by
  induction d with
  | zero =>
    intro k j g fd hj hk
    obtain ⟨k, rfl⟩ := succ_of hk
    simp only [spec_RunOk.l1]
    rw [if_neg (by omega), List.drop_eq_nil_of_le (by omega), wrap64_succ (by omega)]
    rfl
  | succ d ih =>
    intro k j g fd hj hk
    obtain ⟨k, rfl⟩ := succ_of hk
    simp only [spec_RunOk.l1]
    rw [if_pos (by omega), if_pos (by omega), if_pos (by omega), if_pos (by omega), rdE_at (by omega), rd_nat, spec_l3At_eq ws wl i (by omega) hwl, wrap64_succ (i := i) (by omega), wrap64_succ (i := j) (by omega), drop_cons (l := l) (i := j) (by omega)]
    simp only [Option.bind_some]
    rw [rd_nat, if_pos (show (0 : Int) ≤ ((i + 1 : Nat) : Int) by omega), if_pos (show ((i + 1 : Nat) : Int) < (r.length : Int) by omega)]
    simp only [ih k (j + 1) _ _ (by omega) (show d < k by omega), show k + 1 - (d + 1) - 1 = k - d - 1 by omega]
    by_cases h0 : l[j].f0 = r.getD i 0
    · rw [if_pos h0]
      by_cases h1 : l[j].f1 = letterAt ws wl i
      · rw [if_pos h1]
        by_cases h2 : l[j].f2 = r.getD (i + 1) 0
        · have hs : scanE (r.getD i 0) (letterAt ws wl i) (r.getD (i + 1) 0) (decide ((i : Int) ≥ b)) g fd (l[j] :: l.drop (j + 1)) = scanE (r.getD i 0) (letterAt ws wl i) (r.getD (i + 1) 0) (decide ((i : Int) ≥ b)) (g || (l[j].f3 && decide ((i : Int) ≥ b))) true (l.drop (j + 1)) := by rw [scanE, if_pos h0, if_pos h1, if_pos h2]
          rw [if_pos h2, hs]
          cases g
          · cases hf : l[j].f3
            · simp
            · simp
          · simp
        · have hs : scanE (r.getD i 0) (letterAt ws wl i) (r.getD (i + 1) 0) (decide ((i : Int) ≥ b)) g fd (l[j] :: l.drop (j + 1)) = scanE (r.getD i 0) (letterAt ws wl i) (r.getD (i + 1) 0) (decide ((i : Int) ≥ b)) g fd (l.drop (j + 1)) := by rw [scanE, if_pos h0, if_pos h1, if_neg h2]
          rw [if_neg h2, hs]
      · have hs : scanE (r.getD i 0) (letterAt ws wl i) (r.getD (i + 1) 0) (decide ((i : Int) ≥ b)) g fd (l[j] :: l.drop (j + 1)) = scanE (r.getD i 0) (letterAt ws wl i) (r.getD (i + 1) 0) (decide ((i : Int) ≥ b)) g fd (l.drop (j + 1)) := by rw [scanE, if_pos h0, if_neg h1]
        rw [if_neg h1, hs]
    · have hs : scanE (r.getD i 0) (letterAt ws wl i) (r.getD (i + 1) 0) (decide ((i : Int) ≥ b)) g fd (l[j] :: l.drop (j + 1)) = scanE (r.getD i 0) (letterAt ws wl i) (r.getD (i + 1) 0) (decide ((i : Int) ≥ b)) g fd (l.drop (j + 1)) := by rw [scanE, if_neg h0]
      rw [if_neg h0, hs]
theorem spec_RunOk_l0 (n st s : Int) (l : List S68) (ws wl r : List Int) (b : Int) (h : autoOkB n st s l = true) (hl : l.length ≤ 1099511627776) (hr : r.length ≤ 1099511627776) (hwl : 1 ≤ wl.length) (d : Nat) : ∀ (k i : Nat) (g : Bool), i + d + 1 = r.length → (d + 1) * (l.length + 3) < k →
    spec_RunOk.l0 k ((r.length : Int) - 1) g (i : Int) n st s l ws wl r b = some (runGo (edAt ws wl r l) b d i g) := by
  induction d with
  | zero =>
    intro k i g hi hk
    obtain ⟨k, rfl⟩ := succ_of (show 0 < k by omega)
    simp only [spec_RunOk.l0]
    rw [if_neg (by omega)]
    rfl
  | succ d ih =>
    intro k i g hi hk
    rw [Nat.succ_mul] at hk
    obtain ⟨k, rfl⟩ := succ_of (show 0 < k by omega)
    simp only [spec_RunOk.l0]
    have h1 := spec_RunOk_l1 n st s l ws wl r b ((r.length : Int) - 1) i hl (by omega) hr hwl l.length k 0 g false (by omega) (by omega)
    rw [show ((0 : Nat) : Int) = 0 from rfl, List.drop_zero, scanE_eq n st _ _ _ _ l none g false (autoOk_of h).2.2] at h1
    rw [if_pos (by omega), h1]
    rw [runGo_succ]
    rw [show edAt ws wl r l i = edgeAt (r.getD i 0) (letterAt ws wl i) (r.getD (i + 1) 0) l from rfl]
    cases he : (edgeAt (r.getD i 0) (letterAt ws wl i) (r.getD (i + 1) 0) l).2
    · simp
    · simp only [if_true]
      exact ih _ (i + 1) _ (by omega) (by omega)
theorem spec_RunOk_eq (n st s : Int) (l : List S68) (ws wl r : List Int) (b : Int) (hl : l.length ≤ 1048576) (hws : ws.length ≤ 1048576) (hwl : wl.length ≤ 1048576) (hr : r.length ≤ 1048576) (hb : (Lit.int .i64 b).wf = true) (k : Nat) (hk : 6001 * (l.length + 3) + 3000000 < k) : spec_RunOk.f k n st s l ws wl r b = some (runB n st s l ws wl r b) := by
  have hb' := wf_bounds hb
  unfold spec_RunOk.f runB
  obtain ⟨k, rfl⟩ : ∃ m, k = m + 1 + 1 := ⟨k - 2, by omega⟩
  rw [spec_AutoOk_eq n st s l (by omega) _ (by omega), spec_WordOk_eq ws wl n (by omega) (by omega) _ (by omega), spec_l1In_eq, wrap64_id (n := (r.length : Int) - 1) (by omega) (by omega), wrap64_id (n := (r.length : Int) - 1 - 1) (by omega) (by omega), spec_l1In_eq]
  simp only [Option.bind_some, spec_RunOk.j0, if_true]
  by_cases h1 : autoOkB n st s l = true
  · have hh := head_of (autoOk_of h1).1
    have hl2 := (autoOk_of h1).2.1
    rw [if_pos h1, h1]
    by_cases h2 : wordOkB ws wl n = true
    · have hw := wordOk_of h2
      rw [if_pos h2, h2]
      by_cases h3 : inR (r.length : Int) 2 6000 = true
      · have h3' := inR_iff.1 h3
        rw [if_pos h3, h3, if_pos (show (0 : Int) < (r.length : Int) by omega), spec_l1Has_eq s _ (by omega) (by omega), show (0 : Int) = ((0 : Nat) : Int) from rfl, rd_nat, show ((0 : Nat) : Int) = 0 from rfl]
        simp only [Option.bind_some, Bool.true_and]
        by_cases h4 : inR b 0 ((r.length : Int) - 1 - 1) = true
        · have h4' := inR_iff.1 h4
          rw [if_pos h4]
          cases h5 : hasZ s (r.getD 0 0)
          · simp
          · rw [if_neg (by simp)]
            by_cases h6 : b < (ws.length : Int)
            · rw [if_pos h6, show inR b ws.length ((r.length : Int) - 2) = false from inR_false.2 (by omega)]
              simp only [spec_RunOk.j1]
              rfl
            · rw [if_neg h6, show inR b ws.length ((r.length : Int) - 2) = true from inR_iff.2 (by omega), if_neg (show ¬ (wl.length : Int) = 0 by omega), wrap64_id (n := (r.length : Int) - 1 - b) (by omega) (by omega)]
              simp only [Bool.true_and]
              by_cases h7 : Int.tmod ((r.length : Int) - 1 - b) wl.length = 0
              · obtain ⟨m, rfl⟩ := Int.eq_ofNat_of_zero_le h4'.1
                rw [if_pos h7, decide_eq_true h7, if_pos (show (0 : Int) ≤ (m : Int) by omega), if_pos (show (m : Int) < (r.length : Int) by omega), if_pos (show (0 : Int) ≤ (r.length : Int) - 1 by omega), if_pos (show (r.length : Int) - 1 < (r.length : Int) by omega), rd_nat, show (r.length : Int) - 1 = ((r.length - 1 : Nat) : Int) by omega, rd_nat]
                simp only [spec_RunOk.j1, Bool.true_and, Int.toNat_natCast]
                have hz := spec_RunOk_l0 n st s l ws wl r (m : Int) h1 (by omega) (by omega) (by omega) (r.length - 1) k 0 false (by omega) (by
                  have : (r.length - 1 + 1) * (l.length + 3) ≤ 6000 * (l.length + 3) := Nat.mul_le_mul_right _ (by omega)
                  omega)
                rw [show (r.length : Int) - 1 = ((r.length - 1 : Nat) : Int) by omega, show ((0 : Nat) : Int) = 0 from rfl] at hz
                by_cases hxy : r.getD m 0 = r.getD (r.length - 1) 0
                · rw [hxy, bne_self_eq_false, beq_self_eq_true, if_neg (by simp), Bool.true_and]
                  exact hz
                · rw [show (r.getD m 0 != r.getD (r.length - 1) 0) = true by simpa using hxy, show (r.getD m 0 == r.getD (r.length - 1) 0) = false by simpa using hxy, if_pos rfl]
                  rfl
              · rw [if_neg h7, decide_eq_false h7]
                simp only [spec_RunOk.j1]
                rfl
        · rw [if_neg h4]
          have h4' : ¬ (0 ≤ b ∧ b ≤ (r.length : Int) - 1 - 1) := fun e => h4 (inR_iff.2 e)
          rw [show inR b ws.length ((r.length : Int) - 2) = false from inR_false.2 (by omega)]
          rfl
      · rw [if_neg h3]; simp at h3; rw [h3]; rfl
    · rw [if_neg h2]; simp at h2; rw [h2]; rfl
  · rw [if_neg h1]; simp at h1; rw [h1]; rfl
theorem impl_RunOk_l0 (n st s : Int) (l : List S68) (ws wl r : List Int) (b : Int) (h : autoOkB n st s l = true) (hl : l.length ≤ 1099511627776) (hr : r.length ≤ 1099511627776) (hws : ws.length ≤ 1000) (hwl : 1 ≤ wl.length) (hwl2 : wl.length ≤ 1000) (d : Nat) : ∀ (k i : Nat) (g : Bool), i + d + 1 = r.length → d + 3 * l.length + 30 < k →
    impl_RunOk.l0 k g ((r.length : Int) - 1) (i : Int) n st s l ws wl r b = some (runGo (edAt ws wl r l) b d i g) := by
  induction d with
  | zero =>
    intro k i g hi hk
    obtain ⟨k, rfl⟩ := succ_of (show 0 < k by omega)
    simp only [impl_RunOk.l0]
    rw [if_neg (by omega)]
    rfl
  | succ d ih =>
    intro k i g hi hk
    obtain ⟨k, rfl⟩ := succ_of (show 0 < k by omega)
    simp only [impl_RunOk.l0]
    rw [if_pos (by omega), if_pos (by omega), if_pos (by omega), impl_Word_placeOf_eq ws wl i (by omega) hws hwl hwl2]
    rw [Option.bind_some, impl_Word_letter_eq ws wl i hwl hwl2, Option.bind_some, wrap64_succ (i := i) (by omega), if_pos (by omega), if_pos (by omega), rd_nat, rd_nat, impl_AutoEdge_eq n st s _ _ _ l hl k (by omega), if_pos h]
    rw [Option.bind_some]
    rw [runGo_succ]
    rw [show edAt ws wl r l i = edgeAt (r.getD i 0) (letterAt ws wl i) (r.getD (i + 1) 0) l from rfl]
    cases he : (edgeAt (r.getD i 0) (letterAt ws wl i) (r.getD (i + 1) 0) l).2
    · simp
    · cases he1 : (edgeAt (r.getD i 0) (letterAt ws wl i) (r.getD (i + 1) 0) l).1
      · cases g <;> simp <;> exact ih k (i + 1) _ (by omega) (by omega)
      · cases g <;> simp <;> exact ih k (i + 1) _ (by omega) (by omega)
theorem impl_RunOk_eq (n st s : Int) (l : List S68) (ws wl r : List Int) (b : Int) (hl : l.length ≤ 1048576) (hws : ws.length ≤ 1048576) (hwl : wl.length ≤ 1048576) (hr : r.length ≤ 1048576) (hb : (Lit.int .i64 b).wf = true) (k : Nat) (hk : 6001 * (l.length + 3) + 4000000 < k) : impl_RunOk.f k n st s l ws wl r b = some (runB n st s l ws wl r b) := by
  have hb' := wf_bounds hb
  unfold impl_RunOk.f runB
  obtain ⟨k, rfl⟩ : ∃ m, k = m + 1 + 1 := ⟨k - 2, by omega⟩
  rw [impl_AutoOk_eq n st s l (by omega) _ (by omega), impl_WordOk_eq ws wl n (by omega) (by omega) _ (by omega), wrap64_id (n := (r.length : Int) - 1) (by omega) (by omega), impl_inRange_eq, wrap64_id (n := (r.length : Int) - 1 - 1) (by omega) (by omega), impl_inRange_eq]
  simp only [Option.bind_some, impl_RunOk.j0, if_true]
  by_cases h1 : autoOkB n st s l = true
  · have hh := head_of (autoOk_of h1).1
    rw [if_pos h1, h1]
    by_cases h2 : wordOkB ws wl n = true
    · have hw := wordOk_of h2
      rw [if_pos h2, h2]
      by_cases h3 : inR ((r.length : Int) - 1) 1 5999 = true
      · have h3' := inR_iff.1 h3
        rw [if_pos h3, show inR (r.length : Int) 2 6000 = true from inR_iff.2 (by omega), if_pos (show (0 : Int) < (r.length : Int) by omega), impl_SetHas_eq, show okB s = true from inR_iff.2 (by omega), show (0 : Int) = ((0 : Nat) : Int) from rfl, rd_nat, show ((0 : Nat) : Int) = 0 from rfl]
        simp only [Option.bind_some, Bool.true_and]
        rw [show (r.length : Int) - 1 - 1 = (r.length : Int) - 2 by omega]
        by_cases h4 : inR b ws.length ((r.length : Int) - 2) = true
        · have h4' := inR_iff.1 h4
          rw [h4, if_neg (by simp)]
          cases h5 : hasZ s (r.getD 0 0)
          · simp only [impl_RunOk.j1]; rfl
          · rw [if_pos rfl, if_neg (show ¬ (wl.length : Int) = 0 by omega), wrap64_id (n := (r.length : Int) - 1 - b) (by omega) (by omega)]
            simp only [Bool.true_and]
            by_cases h7 : Int.tmod ((r.length : Int) - 1 - b) wl.length = 0
            · obtain ⟨m, rfl⟩ := Int.eq_ofNat_of_zero_le (show 0 ≤ b by omega)
              rw [if_pos h7, decide_eq_true h7, if_pos (show (0 : Int) ≤ (m : Int) by omega), if_pos (show (m : Int) < (r.length : Int) by omega), if_pos (show (0 : Int) ≤ (r.length : Int) - 1 by omega), if_pos (show (r.length : Int) - 1 < (r.length : Int) by omega), rd_nat, show (r.length : Int) - 1 = ((r.length - 1 : Nat) : Int) by omega, rd_nat]
              simp only [impl_RunOk.j1, Bool.true_and, Int.toNat_natCast]
              have hz := impl_RunOk_l0 n st s l ws wl r (m : Int) h1 (by omega) (by omega) (by omega) (by omega) (by omega) (r.length - 1) k 0 false (by omega) (by omega)
              rw [show (r.length : Int) - 1 = ((r.length - 1 : Nat) : Int) by omega, show ((0 : Nat) : Int) = 0 from rfl] at hz
              by_cases hxy : r.getD m 0 = r.getD (r.length - 1) 0
              · rw [hxy, bne_self_eq_false, beq_self_eq_true, if_neg (by simp), Bool.true_and]
                exact hz
              · rw [show (r.getD m 0 != r.getD (r.length - 1) 0) = true by simpa using hxy, show (r.getD m 0 == r.getD (r.length - 1) 0) = false by simpa using hxy, if_pos rfl]
                rfl
            · rw [if_neg h7, decide_eq_false h7]
              simp only [impl_RunOk.j1]
              rfl
        · simp at h4
          rw [h4]; rfl
      · rw [if_neg h3]
        have h3' : ¬ (1 ≤ (r.length : Int) - 1 ∧ (r.length : Int) - 1 ≤ 5999) := fun e => h3 (inR_iff.2 e)
        rw [show inR (r.length : Int) 2 6000 = false from inR_false.2 (by omega)]
        rfl
    · rw [if_neg h2]; simp at h2; rw [h2]; rfl
  · rw [if_neg h1]; simp at h1; rw [h1]; rfl
theorem szRun_eq (l : List Int) (b a : Int) (h0 : 0 ≤ a) (h1 : a ≤ 1048576) (hl : l.length ≤ 9223372036854775807) : laws_szRun.f l b a = some (if a < l.length then -1 else a - l.length) := by
  unfold laws_szRun.f
  rw [szIntS_eq l a h0 h1 hl]
  simp only [Option.bind_some]
  by_cases h : a < (l.length : Int)
  · rw [if_pos h, if_pos (by omega)]
  · rw [if_neg h, if_neg (by omega)]
theorem toRun_eq (l : List Int) (b : Int) (hl : l.length ≤ 1099511627776) (k : Nat) (hk : l.length < k) : laws_toRun.f k l b = some (l, b) := by
  unfold laws_toRun.f
  rw [toIntS_eq l hl k hk]; rfl
theorem eqRun_self (l : List Int) (b : Int) (hl : l.length ≤ 1099511627776) (k : Nat) (hk : l.length < k) : laws_eqRun.f k l b l b = some true := by
  unfold laws_eqRun.f
  rw [eqIntS_eq l l hl k hk]
  simp
end hFnExactRunOk
open hFnExactRunOk
theorem FnExactRunOk : laws_FnExactRunOk.Pure := by
  intro n st s l ws wl r b hn hst hs hl hw hws hwws hwl hwwl hr hwr hb
  obtain ⟨M, hM⟩ : ∃ M, M = 1048576 := ⟨_, rfl⟩
  obtain ⟨K, hK⟩ : ∃ K, K = 6001 * (l.length + 3) + 5 * M := ⟨_, rfl⟩
  refine ⟨K, ?_⟩
  unfold laws_FnExactRunOk.f
  rw [szAuto_eq n st s l 1048576 (by omega) (by omega) hl]
  simp only [Option.bind_some]
  by_cases h : (1048576 : Int) < l.length
  · rw [if_pos h, if_pos (by omega)]
  · rw [if_neg h, if_neg (by omega)]
    obtain ⟨q, e, hq⟩ := szWord_eq ws wl (1048576 - l.length) (by omega) (by omega) hws hwl
    rw [e]
    simp only [Option.bind_some]
    by_cases h2 : q < 0
    · rw [if_pos h2]
    · have hq' := hq (by omega)
      rw [if_neg h2, szRun_eq r b q (by omega) (by omega) hr]
      simp only [Option.bind_some]
      by_cases h3 : q < (r.length : Int)
      · rw [if_pos h3, if_pos (by omega)]
      · have hm : (l.map convE).length = l.length := List.length_map _
        rw [if_neg h3, if_neg (by omega), toAuto_eq n st s l (by omega) K (by omega), toWord_eq ws wl (by omega) (by omega) K (by omega), toRun_eq r b (by omega) K (by omega)]
        simp only [Option.bind_some]
        rw [spec_RunOk_eq n st s _ ws wl r b (by omega) (by omega) (by omega) (by omega) hb K (by omega), impl_RunOk_eq n st s _ ws wl r b (by omega) (by omega) (by omega) (by omega) hb K (by omega)]
        simp only [Option.bind_some, bne_self_eq_false, Bool.false_eq_true, if_false]
        rw [eqAuto_eq _ _ _ _ _ _ _ _ (by omega) K (by omega), eqWord_eq ws wl ws wl (by omega) (by omega) K (by omega), eqRun_self r b (by omega) K (by omega)]
        simp
end Go.Proofs.Ytlallflpicgcmaa.Pure
