/- What the printed functions of FnExactAutoTrim come to, one lemma a function, and from these the law: for all arguments (within the bounds that the printed statement names) it answers true. -/
import Derived.Test.YtlallflpicgcmaaMFnExactAutoTrimx8
import Derived.Test.YtlallflpicgcmaaBase
import Derived.Test.YtlallflpicgcmaaBaseA
import Derived.Test.YtlallflpicgcmaaBaseK
import Derived.Test.YtlallflpicgcmaaBaseL
import Derived.Test.YtlallflpicgcmaaBaseR
import Derived.Test.YtlallflpicgcmaaBaseS
import Derived.Test.YtlallflpicgcmaaBaseW
namespace Go.Proofs.Ytlallflpicgcmaa.Pure
open Go.RowKit Go.Proofs.Ytlallflpicgcmaa.MFnExactAutoTrim Go.Proofs.YtlallflpicgcmaaW.PrintWords Go.Proofs.YtlallflpicgcmaaW.PrintLast Go.Proofs.Ytlallflpicgcmaa.Base

namespace hFnExactAutoTrim
theorem spec_l1In_eq (a b c : Int) : spec_l1In.f a b c = some (inR a b c) := by
  unfold spec_l1In.f inR
  by_cases h : a ≥ b
  · rw [if_pos h]; simp [show b ≤ a from h]
  · rw [if_neg h]; simp; omega
theorem impl_inRange_eq (a b c : Int) : impl_inRange.f a b c = some (inR a b c) := by
  unfold impl_inRange.f inR
  by_cases h : a ≥ b
  · rw [if_pos h]; simp [show b ≤ a from h]
  · rw [if_neg h]; simp; omega
theorem spec_SetOk_eq (s : Int) : spec_SetOk.f s = some (okB s) := by
  simp only [spec_SetOk.f, spec_l1In_eq, Option.bind_some, okB]
theorem impl_SetOk_eq (s : Int) : impl_SetOk.f s = some (okB s) := by
  simp only [impl_SetOk.f, impl_inRange_eq, Option.bind_some, okB]
theorem spec_l1Bit_eq (i : Int) (h0 : 0 ≤ i) (h1 : i ≤ 31) : spec_l1Bit.f i = some (bitZ i) := by
  obtain ⟨n, rfl⟩ := Int.eq_ofNat_of_zero_le h0
  unfold spec_l1Bit.f
  rw [and31 n (by omega), if_pos h0, shl_one n (by omega)]
theorem impl_only_eq (i : Int) (h0 : 0 ≤ i) (h1 : i ≤ 62) : impl_only.f i = some (bitZ i) := by
  obtain ⟨n, rfl⟩ := Int.eq_ofNat_of_zero_le h0
  unfold impl_only.f
  rw [wrap_u64_id h0 (by omega), if_pos h0, shl_one n (by omega)]
theorem spec_l1Has_eq (s i : Int) (h0 : 0 ≤ s) (h1 : s < 9223372036854775808) : spec_l1Has.f s i = some (hasZ s i) := by
  unfold spec_l1Has.f hasZ
  rw [spec_l1In_eq]
  simp only [Option.bind_some]
  by_cases h : inR i 0 30 = true
  · have hi := inR_iff.1 h
    have hp := bitZ_pos i
    rw [if_pos h, spec_l1Bit_eq i hi.1 (by omega), h]
    simp only [Option.bind_some, Bool.true_and]
    rw [and_bitZ s i h0 h1 hi.1 (by omega)]
    congr 1
    by_cases hb : s.toNat.testBit i.toNat = true
    · rw [if_pos hb, hb]; rw [bne_iff_ne]; omega
    · rw [if_neg hb]; simp at hb; rw [hb]; rfl
  · rw [if_neg h]; simp at h; rw [h]; rfl
theorem impl_has_eq (s i : Int) (h0 : 0 ≤ s) (h1 : s < 9223372036854775808) (hi0 : 0 ≤ i) (hi : i ≤ 62) : impl_has.f s i = some (s.toNat.testBit i.toNat) := by
  unfold impl_has.f
  rw [wrap_u64_id hi0 (by omega), if_pos hi0, shr_and_one s i h0 h1 hi0 (by omega)]
theorem spec_SetIn_eq (a b : Int) : spec_SetIn.f a b = some (okB a && okB b && (Go.bits .and .i64 a b == a)) := by
  unfold spec_SetIn.f
  rw [spec_SetOk_eq, spec_SetOk_eq]
  simp only [Option.bind_some]
  cases okB a <;> cases okB b <;> simp
theorem eqIntS_l0 (a b : List Int) (hab : a.length = b.length) (hl : a.length ≤ 1099511627776) (d : Nat) : ∀ (k i : Nat), i + d = a.length → d < k → laws_eqIntS.l0 k a b (i : Int) = some (decide (a.drop i = b.drop i)) := by
  induction d with
  | zero =>
    intro k i hi hk
    obtain ⟨k, rfl⟩ := succ_of hk
    simp only [laws_eqIntS.l0]
    rw [if_neg (by omega), List.drop_eq_nil_of_le (by omega), List.drop_eq_nil_of_le (by omega)]
    simp
  | succ d ih =>
    intro k i hi hk
    obtain ⟨k, rfl⟩ := succ_of hk
    simp only [laws_eqIntS.l0]
    rw [if_pos (by omega), if_pos (by omega), if_pos (by omega), rd_at (by omega), rd_at (by omega), wrap64_succ (by omega)]
    rw [drop_cons (l := a) (i := i) (by omega), drop_cons (l := b) (i := i) (by omega)]
    by_cases h : a[i] = b[i]
    · rw [if_pos h, ih k (i + 1) (by omega) (by omega), h]
      congr 1
      exact decide_eq_decide.2 ⟨fun e => by rw [e], fun e => (List.cons.inj e).2⟩
    · rw [if_neg h]
      congr 1
      exact (decide_eq_false (fun e => h (List.cons.inj e).1)).symm
theorem eqIntS_eq (a b : List Int) (hl : a.length ≤ 1099511627776) (k : Nat) (hk : a.length < k) : laws_eqIntS.f k a b = some (decide (a = b)) := by
  unfold laws_eqIntS.f
  by_cases h : a.length = b.length
  · rw [if_pos (by omega)]
    exact eqIntS_l0 a b h hl a.length k 0 (by omega) hk
  · rw [if_neg (by omega)]
    have : a ≠ b := fun e => h (by rw [e])
    simp [this]
theorem markIntS_l0 (d : Nat) : ∀ (k i : Nat) (x : List Int) (a : Int), i + d = x.length → d < k → 0 ≤ a → a + d ≤ 4611686018427387904 → x.length ≤ 1099511627776 →
    laws_markIntS.l0 k x a (i : Int) = some (a + d, x.take i ++ seqI a d) := by
  induction d with
  | zero =>
    intro k i x a hi hk h0 h1 h2
    obtain ⟨k, rfl⟩ := succ_of hk
    simp only [laws_markIntS.l0]
    rw [if_neg (by omega), List.take_of_length_le (by omega)]
    simp [seqI]
  | succ d ih =>
    intro k i x a hi hk h0 h1 h2
    obtain ⟨k, rfl⟩ := succ_of hk
    simp only [laws_markIntS.l0]
    rw [if_pos (by omega), if_pos (by omega), wrap64_succ (by omega), wrap64_id (n := a + 1) (by omega) (by omega)]
    rw [ih k (i + 1) _ (a + 1) (by rw [List.length_set]; omega) (by omega) (by omega) (by omega) (by rw [List.length_set]; omega)]
    rw [show ((i : Int)).toNat = i from rfl, take_set_self (by omega)]
    simp only [seqI, List.append_assoc, List.singleton_append]
    congr 2
    omega
theorem markIntS_eq (x : List Int) (a : Int) (h0 : 0 ≤ a) (h1 : a ≤ 1099511627776) (h2 : x.length ≤ 1099511627776) (k : Nat) (hk : x.length < k) : laws_markIntS.f k x a = some (a + x.length, seqI a x.length) := by
  unfold laws_markIntS.f
  have := markIntS_l0 x.length k 0 x a (by omega) hk h0 (by omega) h2
  simpa using this
theorem heldIntS_l0 (n : Nat) (b : Int) (hn : n ≤ 1099511627776) (hb0 : 0 ≤ b) (hb : b ≤ 1099511627776) (d : Nat) : ∀ (k i : Nat), i + d = n → d < k → laws_heldIntS.l0 k (seqI b n) (b + i) (i : Int) = some (b + n) := by
  induction d with
  | zero =>
    intro k i hi hk
    obtain ⟨k, rfl⟩ := succ_of hk
    simp only [laws_heldIntS.l0]
    rw [if_neg (by rw [seqI_length]; omega)]
    congr 1; omega
  | succ d ih =>
    intro k i hi hk
    obtain ⟨k, rfl⟩ := succ_of hk
    simp only [laws_heldIntS.l0]
    rw [if_pos (by rw [seqI_length]; omega), if_pos (by omega), rd_at (by rw [seqI_length]; omega), seqI_at b n i (by omega), if_pos rfl, wrap64_succ (by omega), wrap64_id (n := b + i + 1) (by omega) (by omega)]
    have := ih k (i + 1) (by omega) (by omega)
    rw [show b + (i : Int) + 1 = b + ((i + 1 : Nat) : Int) by omega]
    exact this
theorem heldIntS_eq (n : Nat) (b : Int) (hn : n ≤ 1099511627776) (hb0 : 0 ≤ b) (hb : b ≤ 1099511627776) (k : Nat) (hk : n < k) : laws_heldIntS.f k (seqI b n) b = some (b + n) := by
  unfold laws_heldIntS.f
  have := heldIntS_l0 n b hn hb0 hb n k 0 (by omega) hk
  simpa using this
theorem impl_SetList_l0 (s : Int) (h0 : 0 ≤ s) (h1 : s ≤ 2147483647) (d : Nat) : ∀ (k i : Nat) (out : List Int), i + d = 31 → d < k → out.length ≤ i → impl_SetList.l0 k s out (i : Int) = some (out ++ listFrom s i d) := by
  induction d with
  | zero =>
    intro k i out hi hk ho
    obtain ⟨k, rfl⟩ := succ_of hk
    simp only [impl_SetList.l0]
    rw [if_neg (by omega)]
    simp [listFrom]
  | succ d ih =>
    intro k i out hi hk ho
    obtain ⟨k, rfl⟩ := succ_of hk
    simp only [impl_SetList.l0]
    rw [if_pos (by omega), impl_has_eq s _ h0 (by omega) (by omega) (by omega)]
    simp only [Option.bind_some]
    rw [wrap64_succ (by omega)]
    unfold listFrom
    have e : hasZ s (i : Int) = s.toNat.testBit (i : Int).toNat := by
      unfold hasZ
      rw [show inR (i : Int) 0 30 = true from inR_iff.2 (by omega)]
      rfl
    rw [e]
    by_cases hb : s.toNat.testBit (i : Int).toNat = true
    · rw [if_pos hb, if_pos (by omega), ih k (i + 1) _ (by omega) (by omega) (by simp; omega), if_pos hb]
      simp
    · rw [if_neg hb, ih k (i + 1) _ (by omega) (by omega) (by omega), if_neg hb]
theorem impl_SetList_eq (s : Int) (k : Nat) (hk : 70 ≤ k) : impl_SetList.f k s = some (listOf s) := by
  unfold impl_SetList.f listOf
  rw [impl_SetOk_eq]
  simp only [Option.bind_some]
  by_cases h : okB s = true
  · have hs := inR_iff.1 h
    rw [if_pos h, if_pos h]
    have := impl_SetList_l0 s hs.1 hs.2 31 k 0 [] (by omega) (by omega) (by simp)
    simpa using this
  · rw [if_neg h, if_neg h]
theorem impl_isLetters_eq (n : Int) : impl_isLetters.f n = some (inR n 1 8) := by
  unfold impl_isLetters.f
  rw [impl_inRange_eq]; rfl
deriving instance DecidableEq for S68
theorem rdE_at {l : List S68} {i : Nat} (h : i < l.length) : rd_T68 l (i : Int) = l[i] := by
  simp [rd_T68, List.getD_eq_getElem?_getD, List.getElem?_eq_getElem h]
theorem rdE_set {l : List S68} {i : Nat} (h : i < l.length) (v : S68) : rd_T68 (l.set i v) (i : Int) = v := by
  rw [rdE_at (by rw [List.length_set]; exact h), List.getElem_set_self]
theorem eqEdge_eq (a b : S68) : laws_eqEdge.f a.f0 a.f1 a.f2 a.f3 b.f0 b.f1 b.f2 b.f3 = some (decide (a = b)) := by
  unfold laws_eqEdge.f
  obtain ⟨a0, a1, a2, a3⟩ := a
  obtain ⟨b0, b1, b2, b3⟩ := b
  by_cases h0 : a0 = b0 <;> by_cases h1 : a1 = b1 <;> by_cases h2 : a2 = b2 <;> by_cases h3 : a3 = b3 <;> simp [h0, h1, h2, h3]
theorem eqEdgeS_l0 (a b : List S68) (hab : a.length = b.length) (hl : a.length ≤ 1099511627776) (d : Nat) : ∀ (k i : Nat), i + d = a.length → d < k → laws_eqEdgeS.l0 k a b (i : Int) = some (decide (a.drop i = b.drop i)) := by
  induction d with
  | zero =>
    intro k i hi hk
    obtain ⟨k, rfl⟩ := succ_of hk
    simp only [laws_eqEdgeS.l0]
    rw [if_neg (by omega), List.drop_eq_nil_of_le (by omega), List.drop_eq_nil_of_le (by omega)]
    simp
  | succ d ih =>
    intro k i hi hk
    obtain ⟨k, rfl⟩ := succ_of hk
    simp only [laws_eqEdgeS.l0]
    rw [if_pos (by omega), if_pos (by omega), if_pos (by omega), rdE_at (by omega), rdE_at (by omega), wrap64_succ (by omega), eqEdge_eq]
    rw [drop_cons (l := a) (i := i) (by omega), drop_cons (l := b) (i := i) (by omega)]
    simp only [Option.bind_some]
    by_cases h : a[i] = b[i]
    · rw [decide_eq_true h, if_pos rfl, ih k (i + 1) (by omega) (by omega), h]
      congr 1
      exact decide_eq_decide.2 ⟨fun e => by rw [e], fun e => (List.cons.inj e).2⟩
    · rw [decide_eq_false h, if_neg (by simp)]
      congr 1
      exact (decide_eq_false (fun e => h (List.cons.inj e).1)).symm
theorem eqEdgeS_eq (a b : List S68) (hl : a.length ≤ 1099511627776) (k : Nat) (hk : a.length < k) : laws_eqEdgeS.f k a b = some (decide (a = b)) := by
  unfold laws_eqEdgeS.f
  by_cases h : a.length = b.length
  · rw [if_pos (by omega)]
    exact eqEdgeS_l0 a b h hl a.length k 0 (by omega) hk
  · rw [if_neg (by omega)]
    have : a ≠ b := fun e => h (by rw [e])
    simp [this]
theorem eqAuto_eq (a b c : Int) (l : List S68) (a' b' c' : Int) (l' : List S68) (hl : l.length ≤ 1099511627776) (k : Nat) (hk : l.length < k) :
    laws_eqAuto.f k a b c l a' b' c' l' = some (decide ((a, b, c, l) = (a', b', c', l'))) := by
  unfold laws_eqAuto.f
  rw [eqEdgeS_eq l l' hl k hk]
  by_cases h0 : a = a' <;> by_cases h1 : b = b' <;> by_cases h2 : c = c' <;> by_cases h3 : l = l' <;> simp [h0, h1, h2, h3]
/-- n marked edges, from a on. -/
def seqE : Int → Nat → List S68
  | _, 0 => []
  | a, n + 1 => ⟨a, a + 1, a + 2, ((Int.tmod (a + 3) 3) == 0)⟩ :: seqE (a + 4) n
theorem seqE_length (a : Int) (n : Nat) : (seqE a n).length = n := by
  induction n generalizing a with
  | zero => rfl
  | succ n ih => simp [seqE, ih]
theorem seqE_at (a : Int) (n i : Nat) (h : i < n) : (seqE a n)[i]'(by rw [seqE_length]; exact h) = ⟨a + 4 * i, a + 4 * i + 1, a + 4 * i + 2, ((Int.tmod (a + 4 * i + 3) 3) == 0)⟩ := by
  induction n generalizing a i with
  | zero => omega
  | succ n ih =>
    cases i with
    | zero => simp [seqE]
    | succ i =>
      simp only [seqE, List.getElem_cons_succ]
      rw [ih (a + 4) i (by omega)]
      have e : a + 4 + 4 * (i : Int) = a + 4 * ((i + 1 : Nat) : Int) := by omega
      rw [e]
theorem markEdgeS_l0 (d : Nat) : ∀ (k i : Nat) (x : List S68) (a : Int), i + d = x.length → d < k → 0 ≤ a → a + 4 * d ≤ 4611686018427387904 → x.length ≤ 1099511627776 →
    laws_markEdgeS.l0 k x a (i : Int) = some (a + 4 * d, x.take i ++ seqE a d) := by
  induction d with
  | zero =>
    intro k i x a hi hk h0 h1 h2
    obtain ⟨k, rfl⟩ := succ_of hk
    simp only [laws_markEdgeS.l0]
    rw [if_neg (by omega), List.take_of_length_le (by omega)]
    simp [seqE]
  | succ d ih =>
    intro k i x a hi hk h0 h1 h2
    obtain ⟨k, rfl⟩ := succ_of hk
    simp only [laws_markEdgeS.l0]
    rw [if_pos (by omega), if_pos (by omega)]
    simp only [Option.bind_some]
    rw [wrap64_succ (by omega), wrap64_id (n := a + 1) (by omega) (by omega), wrap64_id (n := a + 1 + 1) (by omega) (by omega), wrap64_id (n := a + 1 + 1 + 1) (by omega) (by omega), wrap64_id (n := a + 1 + 1 + 1 + 1) (by omega) (by omega)]
    rw [show ((i : Int)).toNat = i from rfl]
    simp only [rdE_set (l := x) (i := i) (by omega), List.set_set]
    rw [ih k (i + 1) _ (a + 1 + 1 + 1 + 1) (by rw [List.length_set]; omega) (by omega) (by omega) (by omega) (by rw [List.length_set]; omega)]
    rw [take_set_self (by omega)]
    simp only [seqE, List.append_assoc, List.singleton_append]
    rw [show a + 1 + 1 + 1 + 1 = a + 4 by omega, show a + 1 + 1 + 1 = a + 3 by omega, show a + 1 + 1 = a + 2 by omega]
    congr 2
    omega
theorem markEdgeS_eq (x : List S68) (a : Int) (h0 : 0 ≤ a) (h1 : a ≤ 1099511627776) (h2 : x.length ≤ 1099511627776) (k : Nat) (hk : x.length < k) : laws_markEdgeS.f k x a = some (a + 4 * x.length, seqE a x.length) := by
  unfold laws_markEdgeS.f
  have := markEdgeS_l0 x.length k 0 x a (by omega) hk h0 (by omega) h2
  simpa using this
theorem markAuto_eq (p q r : Int) (x : List S68) (a : Int) (h0 : 0 ≤ a) (h1 : a ≤ 1099511627776) (h2 : x.length ≤ 1099511627776) (k : Nat) (hk : x.length < k) : laws_markAuto.f k p q r x a = some (a + 4 * x.length, seqE a x.length) := by
  unfold laws_markAuto.f
  rw [markEdgeS_eq x a h0 h1 h2 k hk]
  rfl
theorem heldEdgeS_l0 (n : Nat) (b : Int) (hn : n ≤ 1099511627776) (hb0 : 0 ≤ b) (hb : b ≤ 1099511627776) (d : Nat) : ∀ (k i : Nat), i + d = n → d < k → laws_heldEdgeS.l0 k (seqE b n) (b + 4 * i) (i : Int) = some (b + 4 * n) := by
  induction d with
  | zero =>
    intro k i hi hk
    obtain ⟨k, rfl⟩ := succ_of hk
    simp only [laws_heldEdgeS.l0]
    rw [if_neg (by rw [seqE_length]; omega)]
    congr 1; omega
  | succ d ih =>
    intro k i hi hk
    obtain ⟨k, rfl⟩ := succ_of hk
    simp only [laws_heldEdgeS.l0]
    rw [if_pos (by rw [seqE_length]; omega), if_pos (by omega), rdE_at (by rw [seqE_length]; omega), seqE_at b n i (by omega)]
    have a1 : wrap64 (b + 4 * (i : Int) + 1) = b + 4 * (i : Int) + 1 := wrap64_id (by omega) (by omega)
    have a2 : wrap64 (b + 4 * (i : Int) + 1 + 1) = b + 4 * (i : Int) + 2 := by rw [wrap64_id (by omega) (by omega)]; omega
    have a3 : wrap64 (b + 4 * (i : Int) + 2 + 1) = b + 4 * (i : Int) + 3 := by rw [wrap64_id (by omega) (by omega)]; omega
    have a4 : wrap64 (b + 4 * (i : Int) + 3 + 1) = b + 4 * ((i + 1 : Nat) : Int) := by rw [wrap64_id (by omega) (by omega)]; omega
    rw [if_pos rfl, a1, if_pos rfl, a2, if_pos rfl, a3, if_neg (by simp), a4, wrap64_succ (by omega)]
    exact ih k (i + 1) (by omega) (by omega)
theorem heldEdgeS_eq (n : Nat) (b : Int) (hn : n ≤ 1099511627776) (hb0 : 0 ≤ b) (hb : b ≤ 1099511627776) (k : Nat) (hk : n < k) : laws_heldEdgeS.f k (seqE b n) b = some (b + 4 * n) := by
  unfold laws_heldEdgeS.f
  have := heldEdgeS_l0 n b hn hb0 hb n k 0 (by omega) hk
  simpa using this
theorem heldAuto_eq (p q r : Int) (n : Nat) (b : Int) (hn : n ≤ 1099511627776) (hb0 : 0 ≤ b) (hb : b ≤ 1099511627776) (k : Nat) (hk : n < k) : laws_heldAuto.f k p q r (seqE b n) b = some (b + 4 * n) := by
  unfold laws_heldAuto.f
  rw [heldEdgeS_eq n b hn hb0 hb k hk]
  simp only [Option.bind_some]
  rw [if_neg (by omega)]
theorem szEdgeS_eq (l : List S115) (a : Int) (h0 : 0 ≤ a) (h1 : a ≤ 1048576) (hl : l.length ≤ 9223372036854775807) : laws_szEdgeS.f l a = some (if a < l.length then -1 else a - l.length) := by
  unfold laws_szEdgeS.f
  rw [wrap64_id (by omega) (by omega)]
  by_cases h : a < (l.length : Int)
  · rw [if_pos (by omega), if_pos h]
  · rw [if_neg (by omega), if_neg h]
theorem szAuto_eq (p q s : Int) (l : List S115) (a : Int) (h0 : 0 ≤ a) (h1 : a ≤ 1048576) (hl : l.length ≤ 9223372036854775807) : laws_szAuto.f p q s l a = some (if a < l.length then -1 else a - l.length) := by
  unfold laws_szAuto.f
  rw [szEdgeS_eq l a h0 h1 hl]
  simp only [Option.bind_some]
  by_cases h : a < (l.length : Int)
  · rw [if_pos h, if_pos (by omega)]
  · rw [if_neg h, if_neg (by omega)]
def convE (e : S115) : S68 := ⟨e.f0, e.f1, e.f2, e.f3⟩
theorem rdP_at {l : List S115} {i : Nat} (h : i < l.length) : rd_T115 l (i : Int) = l[i] := by
  simp [rd_T115, List.getD_eq_getElem?_getD, List.getElem?_eq_getElem h]
theorem toEdgeS_l0 (l : List S115) (hl : l.length ≤ 1099511627776) (d : Nat) : ∀ (k i : Nat) (rest : List S68), i + d = l.length → rest.length = d → d < k → laws_toEdgeS.l0 k l ((l.map convE).take i ++ rest) (i : Int) = some (l.map convE) := by
  induction d with
  | zero =>
    intro k i rest hi hr hk
    obtain ⟨k, rfl⟩ := succ_of hk
    simp only [laws_toEdgeS.l0]
    rw [if_neg (by omega), List.eq_nil_of_length_eq_zero hr, List.append_nil, List.take_of_length_le (by rw [List.length_map]; omega)]
  | succ d ih =>
    intro k i rest hi hr hk
    obtain ⟨k, rfl⟩ := succ_of hk
    simp only [laws_toEdgeS.l0]
    have hll : ((l.map convE).take i ++ rest).length = l.length := by rw [List.length_append, List.length_take, List.length_map]; omega
    have hm : (l.map convE).length = l.length := List.length_map _
    rw [if_pos (by omega), if_pos (by omega), rdP_at (by omega), wrap64_succ (by omega)]
    simp only [laws_toEdge.f, Option.bind_some]
    rw [if_pos (by omega)]
    have e : (⟨l[i].f0, l[i].f1, l[i].f2, l[i].f3⟩ : S68) = (l.map convE)[i] := by rw [List.getElem_map]; rfl
    rw [show ((i : Int)).toNat = i from rfl, e, take_set_drop (by omega) (by omega)]
    exact ih k (i + 1) rest.tail (by omega) (by rw [List.length_tail]; omega) (by omega)
theorem toEdgeS_eq (l : List S115) (hl : l.length ≤ 1099511627776) (k : Nat) (hk : l.length < k) : laws_toEdgeS.f k l = some (l.map convE) := by
  unfold laws_toEdgeS.f
  rw [if_pos (by omega), if_pos (by simp; omega)]
  exact toEdgeS_l0 l hl l.length k 0 _ (by omega) (by simp) hk
theorem toAuto_eq (p q s : Int) (l : List S115) (hl : l.length ≤ 1099511627776) (k : Nat) (hk : l.length < k) : laws_toAuto.f k p q s l = some (p, q, s, l.map convE) := by
  unfold laws_toAuto.f
  rw [toEdgeS_eq l hl k hk]; rfl
theorem spec_l4State_eq (x n : Int) (h0 : -1000 ≤ n) (h1 : n ≤ 1000) : spec_l4State.f x n = some (inR x 0 (n - 1)) := by
  unfold spec_l4State.f
  rw [wrap64_id (by omega) (by omega), spec_l1In_eq]; rfl
theorem spec_l4Less_eq (a b c : Int) (g : Bool) (a' b' c' : Int) (g' : Bool) : spec_l4Less.f a b c g a' b' c' g' = some (lessK (a, b, c) (a', b', c')) := by
  unfold spec_l4Less.f lessK
  by_cases h : a = a'
  · rw [if_pos h, if_pos h]
    by_cases h' : b = b'
    · rw [if_pos h', if_pos h']
    · rw [if_neg h', if_neg h']
  · rw [if_neg h, if_neg h]
theorem cmp_Compare_eq (a b : Int) : cmp_Compare_int.f a b = some (cmpZ a b) := by
  unfold cmp_Compare_int.f cmp_isNaN_int.f cmpZ
  simp only [Option.bind_some, bne_self_eq_false, Bool.false_eq_true, if_false]
  by_cases h : a < b
  · rw [if_pos h, if_pos h]
  · rw [if_neg h, if_neg h]
    by_cases h' : a > b
    · rw [if_pos h', if_pos h']
    · rw [if_neg h', if_neg h']
theorem cmp_Or_eq (a b c : Int) (k : Nat) (hk : 3 < k) : cmp_Or_int.f k [a, b, c] = some (orZ a b c) := by
  unfold cmp_Or_int.f orZ
  obtain ⟨k, rfl⟩ : ∃ m, k = m + 4 := ⟨k - 4, by omega⟩
  have e0 : rd [a, b, c] 0 = a := rfl
  have e1 : rd [a, b, c] 1 = b := rfl
  have e2 : rd [a, b, c] 2 = c := rfl
  have w0 : wrap64 (0 + 1) = 1 := by rw [wrap64_id (by omega) (by omega)]; rfl
  have w1 : wrap64 (1 + 1) = 2 := by rw [wrap64_id (by omega) (by omega)]; rfl
  have w2 : wrap64 (2 + 1) = 3 := by rw [wrap64_id (by omega) (by omega)]; rfl
  have l3 : (([a, b, c].length : Nat) : Int) = 3 := rfl
  rw [l3]
  simp only [cmp_Or_int.l0, e0, e1, e2, w0, w1, w2, l3]
  by_cases ha : a = 0
  · by_cases hb : b = 0
    · by_cases hc : c = 0
      · simp [ha, hb, hc]
      · simp [ha, hb, hc]
    · simp [ha, hb]
  · simp [ha]
theorem impl_compareEdges_eq (a b c : Int) (g : Bool) (a' b' c' : Int) (g' : Bool) (k : Nat) (hk : 3 < k) : impl_compareEdges.f k a b c g a' b' c' g' = some (cmpK (a, b, c) (a', b', c')) := by
  unfold impl_compareEdges.f
  simp only [cmp_Compare_eq, Option.bind_some, cmp_Or_eq _ _ _ k hk]
  rfl
theorem impl_headOk_eq (n st s : Int) : impl_headOk.f n st s = some (headB n st s) := by
  unfold impl_headOk.f headB
  rw [impl_isLetters_eq, impl_inRange_eq, impl_SetOk_eq]
  simp only [Option.bind_some]
  by_cases h1 : inR n 1 8 = true
  · rw [if_pos h1, h1]
    by_cases h2 : inR st 0 31 = true
    · have h2' := inR_iff.1 h2
      have hb := bitZ_le31 h2'.2
      rw [if_pos h2, h2, impl_only_eq st h2'.1 (by omega)]
      simp only [Option.bind_some, Bool.true_and]
      by_cases h3 : okB s = true
      · have h3' := inR_iff.1 h3
        rw [if_pos h3]
        congr 1
        rw [Bool.eq_iff_iff]
        simp only [decide_eq_true_eq, inR_iff]
        omega
      · rw [if_neg h3]
        congr 1
        simp only [okB, inR_iff] at h3
        symm
        rw [inR_false]
        omega
    · rw [if_neg h2]; simp at h2; rw [h2]; rfl
  · rw [if_neg h1]; simp at h1; rw [h1]; rfl
def keyE (e : S68) : Key := (e.f0, e.f1, e.f2)
def anyE (_ : S68) : Bool := true
/-- A right automaton. -/
def autoOkB (n st s : Int) (l : List S68) : Bool := headB n st s && (decide (l.length ≤ 2000) && edgesB keyE anyE n st none l)
theorem autoOk_of {n st s : Int} {l : List S68} (h : autoOkB n st s l = true) : headB n st s = true ∧ l.length ≤ 2000 ∧ edgesB keyE anyE n st none l = true := by
  simpa only [autoOkB, Bool.and_eq_true, decide_eq_true_eq] using h
theorem spec_AutoOk_l0 (n st s : Int) (l : List S68) (h0 : 0 ≤ n) (h1 : n ≤ 8) (h2 : 0 ≤ st) (h3 : st ≤ 31) (hl : l.length ≤ 1099511627776) (d : Nat) : ∀ (k i : Nat), i + d = l.length → d < k → spec_AutoOk.l0 k (i : Int) n st s l = some (edgesB keyE anyE n st (prevOf l i) (l.drop i)) := by
  induction d with
  | zero =>
    intro k i hi hk
    obtain ⟨k, rfl⟩ := succ_of hk
    simp only [spec_AutoOk.l0]
    rw [if_neg (by omega), List.drop_eq_nil_of_le (by omega)]
    rfl
  | succ d ih =>
    intro k i hi hk
    obtain ⟨k, rfl⟩ := succ_of hk
    simp only [spec_AutoOk.l0]
    rw [if_pos (by omega), if_pos (by omega), rdE_at (by omega), spec_l4State_eq _ _ (by omega) (by omega), spec_l4State_eq _ _ (by omega) (by omega), spec_l1In_eq, wrap64_id (n := n - 1) (by omega) (by omega), wrap64_succ (by omega), drop_cons (l := l) (i := i) (by omega)]
    simp only [Option.bind_some, edgesB, stOk, keyE, anyE]
    have ih' := ih k (i + 1) (by omega) (by omega)
    rw [prevOf_succ l i (by omega)] at ih'
    cases e1 : inR l[i].f0 0 (st - 1)
    · simp
    · cases e2 : inR l[i].f2 0 (st - 1)
      · simp
      · cases e3 : inR l[i].f1 0 (n - 1)
        · simp
        · simp only [if_true, Bool.true_and]
          cases i with
          | zero => rw [if_neg (by omega), ih']; simp only [prevOf, aheadK, Bool.true_and]
          | succ j =>
            have ej : wrap64 (((j + 1 : Nat) : Int) - 1) = (j : Int) := by rw [wrap64_id (by omega) (by omega)]; omega
            rw [if_pos (by omega), ej, if_pos (by omega), if_pos (by omega), rdE_at (by omega), spec_l4Less_eq, prevOf_succ l j (by omega)]
            simp only [Option.bind_some, aheadK, keyE]
            cases e4 : lessK (l[j].f0, l[j].f1, l[j].f2) (l[j + 1].f0, l[j + 1].f1, l[j + 1].f2)
            · simp
            · simp only [if_true, Bool.true_and]; exact ih'
theorem spec_AutoOk_eq (n st s : Int) (l : List S68) (hl : l.length ≤ 1099511627776) (k : Nat) (hk : l.length + 1 < k) : spec_AutoOk.f k n st s l = some (autoOkB n st s l) := by
  unfold spec_AutoOk.f autoOkB headB
  obtain ⟨k, rfl⟩ := succ_of hk
  rw [spec_l1In_eq, spec_l1In_eq]
  simp only [Option.bind_some, spec_AutoOk.j0, if_true]
  cases e1 : inR n 1 8
  · simp
  · have h1 := inR_iff.1 e1
    cases e2 : inR st 0 31
    · simp
    · have h2 := inR_iff.1 e2
      have hb := bitZ_le31 h2.2
      have hp := bitZ_pos st
      obtain ⟨m, rfl⟩ := Int.eq_ofNat_of_zero_le h2.1
      simp only [if_true, Bool.true_and]
      rw [if_pos h2.1, shl_one m (by omega), wrap64_id (by omega) (by omega), spec_SetIn_eq, in_mask s m h2.1 h2.2]
      simp only [Option.bind_some]
      cases e3 : inR s 0 (bitZ m - 1)
      · simp
      · simp only [if_true, Bool.true_and]
        by_cases h4 : (l.length : Int) > 2000
        · rw [decide_eq_true h4, if_pos rfl, decide_eq_false (by omega)]; rfl
        · rw [decide_eq_false h4, if_neg (by simp), decide_eq_true (by omega)]
          exact spec_AutoOk_l0 n m s l (by omega) (by omega) h2.1 h2.2 hl l.length k 0 (by omega) (by omega)
theorem impl_AutoOk_l0 (n st s : Int) (l : List S68) (h0 : 0 ≤ n) (h1 : n ≤ 8) (h2 : 0 ≤ st) (h3 : st ≤ 31) (hl : l.length ≤ 1099511627776) (d : Nat) : ∀ (k i : Nat), i + d = l.length → 2 * d + 10 < k → impl_AutoOk.l0 k l (l.length : Int) (i : Int) n st s l = some (edgesB keyE anyE n st (prevOf l i) (l.drop i)) := by
  induction d with
  | zero =>
    intro k i hi hk
    obtain ⟨k, rfl⟩ := succ_of hk
    simp only [impl_AutoOk.l0]
    rw [if_neg (by omega), List.drop_eq_nil_of_le (by omega)]
    rfl
  | succ d ih =>
    intro k i hi hk
    obtain ⟨k, rfl⟩ : ∃ m, k = m + 1 + 1 := ⟨k - 2, by omega⟩
    simp only [impl_AutoOk.l0]
    rw [if_pos (by omega), if_pos (by omega), if_pos (by omega), rdE_at (by omega), impl_inRange_eq, impl_inRange_eq, impl_inRange_eq, wrap64_id (n := st - 1) (by omega) (by omega), wrap64_id (n := n - 1) (by omega) (by omega), drop_cons (l := l) (i := i) (by omega)]
    simp only [Option.bind_some, edgesB, stOk, keyE, anyE, impl_AutoOk.j2, if_true]
    have ih' := ih k (i + 1) (by omega) (by omega)
    rw [prevOf_succ l i (by omega)] at ih'
    cases e1 : inR l[i].f0 0 (st - 1)
    · simp
    · cases e2 : inR l[i].f2 0 (st - 1)
      · simp
      · cases e3 : inR l[i].f1 0 (n - 1)
        · simp
        · simp only [if_true, Bool.true_and, Bool.not_true, Bool.false_eq_true, if_false]
          rw [wrap64_succ (by omega)]
          cases i with
          | zero => rw [if_neg (by omega), ih']; simp only [prevOf, aheadK, Bool.true_and]
          | succ j =>
            have ej : wrap64 (((j + 1 : Nat) : Int) - 1) = (j : Int) := by rw [wrap64_id (by omega) (by omega)]; omega
            rw [if_pos (by omega), ej, if_pos (by omega), if_pos (by omega), rdE_at (by omega), impl_compareEdges_eq _ _ _ _ _ _ _ _ k (by omega), prevOf_succ l j (by omega)]
            simp only [Option.bind_some, aheadK, keyE]
            by_cases e4 : lessK (l[j].f0, l[j].f1, l[j].f2) (l[j + 1].f0, l[j + 1].f1, l[j + 1].f2) = true
            · rw [if_neg (fun h => (cmpK_neg _ _).1 h e4), e4]
              simp only [Bool.true_and]; exact ih'
            · rw [if_pos ((cmpK_neg _ _).2 e4)]
              simp at e4; rw [e4]; rfl
theorem impl_AutoOk_eq (n st s : Int) (l : List S68) (hl : l.length ≤ 1099511627776) (k : Nat) (hk : 2 * l.length + 20 < k) : impl_AutoOk.f k n st s l = some (autoOkB n st s l) := by
  unfold impl_AutoOk.f autoOkB
  obtain ⟨k, rfl⟩ := succ_of hk
  rw [impl_headOk_eq]
  simp only [Option.bind_some, impl_AutoOk.j0, if_true]
  cases e1 : headB n st s
  · simp
  · have h := head_of e1
    simp only [if_true, Bool.true_and]
    by_cases h4 : (l.length : Int) > 2000
    · rw [decide_eq_true h4, if_pos rfl, decide_eq_false (by omega)]; rfl
    · rw [decide_eq_false h4, if_neg (by simp), decide_eq_true (by omega)]
      exact impl_AutoOk_l0 n st s l (by omega) (by omega) h.2.1.1 h.2.1.2 hl l.length k 0 (by omega) (by omega)
theorem hasZ_in {s i : Int} (h0 : 0 ≤ i) (h1 : i ≤ 30) : hasZ s i = s.toNat.testBit i.toNat := by
  unfold hasZ
  rw [inR_iff.2 ⟨h0, h1⟩]; rfl
/-- Where from and where to: numbers of states. -/
def EdgesIn (st : Int) (l : List S68) : Prop := ∀ e ∈ l, (0 ≤ e.f0 ∧ e.f0 < st) ∧ 0 ≤ e.f2 ∧ e.f2 < st
theorem edgesIn_of {n st s : Int} {l : List S68} (h : autoOkB n st s l = true) : EdgesIn st l ∧ 0 ≤ st ∧ st ≤ 31 ∧ SetZ s := by
  obtain ⟨a1, a2, a3⟩ := autoOk_of h
  have g := head_of a1
  refine ⟨fun e he => ?_, g.2.1.1, g.2.1.2, g.2.2.1, g.2.2.2.2⟩
  have := (edgesB_mem a3 he).1
  rw [stOk_iff] at this
  simp only [keyE] at this
  omega
abbrev fromZ (e : S68) : Int := e.f0
abbrev toZ (e : S68) : Int := e.f2
theorem edgesIn_to {st : Int} {l : List S68} (h0 : 0 ≤ st) (h : EdgesIn st l) : ∀ e ∈ l, 0 ≤ toZ e ∧ toZ e < (st.toNat : Int) := by
  intro e he
  have := h e he
  simp only [toZ]
  omega
theorem spec_l4Reach_l1 (p q r st x : Int) (l : List S68) (hl : l.length ≤ 1099511627776) (hst : st ≤ 31) (he : EdgesIn st l) (d : Nat) : ∀ (k i : Nat) (s : Int), SetZ s → i + d = l.length → d < k → spec_l4Reach.l1 k s x (i : Int) p q r l = spec_l4Reach.l0 (k - d - 1) (passZ fromZ toZ s (l.drop i)) (wrap64 (x + 1)) p q r l := by
  induction d with
  | zero =>
    intro k i s hs hi hk
    obtain ⟨k, rfl⟩ := succ_of hk
    simp only [spec_l4Reach.l1]
    rw [if_neg (by omega), List.drop_eq_nil_of_le (by omega)]
    rfl
  | succ d ih =>
    intro k i s hs hi hk
    obtain ⟨k, rfl⟩ := succ_of hk
    have h1 := he _ (List.getElem_mem (show i < l.length by omega))
    have hs1 := hs.1
    have hs2 := hs.2
    simp only [spec_l4Reach.l1]
    rw [if_pos (by omega), if_pos (by omega), rdE_at (by omega), drop_cons (l := l) (i := i) (by omega), spec_l1Has_eq s _ (by omega) (by omega), spec_l1Bit_eq _ (by omega) (by omega), wrap64_succ (by omega)]
    simp only [Option.bind_some]
    rw [or_bitZ s _ (by omega) (by omega) (by omega) (by omega), ih k (i + 1) s hs (by omega) (by omega), ih k (i + 1) _ (SetZ_put hs (by omega)) (by omega) (by omega), show k + 1 - (d + 1) - 1 = k - d - 1 by omega]
    simp only [passZ, fromZ, toZ]
    by_cases h : hasZ s l[i].f0 = true
    · rw [if_pos h, if_pos h]
    · rw [if_neg h, if_neg h]
theorem spec_l4Reach_l0 (p st r : Int) (l : List S68) (hl : l.length ≤ 1099511627776) (hst0 : 0 ≤ st) (hst : st ≤ 31) (he : EdgesIn st l) (d : Nat) : ∀ (k j : Nat) (s : Int), SetZ s → (j : Int) + d = st + 1 → d * (l.length + 2) < k → spec_l4Reach.l0 k s (j : Int) p st r l = some (iterZ fromZ toZ l d s) := by
  induction d with
  | zero =>
    intro k j s hs hj hk
    obtain ⟨k, rfl⟩ := succ_of hk
    simp only [spec_l4Reach.l0]
    rw [if_neg (by omega)]
    rfl
  | succ d ih =>
    intro k j s hs hj hk
    rw [Nat.succ_mul] at hk
    obtain ⟨k, rfl⟩ := succ_of (show 0 < k by omega)
    simp only [spec_l4Reach.l0]
    rw [if_pos (by omega)]
    have h1 := spec_l4Reach_l1 p st r st (j : Int) l hl hst he l.length k 0 s hs (by omega) (by omega)
    rw [show ((0 : Nat) : Int) = 0 from rfl, List.drop_zero, wrap64_succ (by omega)] at h1
    rw [h1, ih _ (j + 1) _ (passZ_set _ _ l (fun e h => by have := edgesIn_to hst0 he e h; omega) s hs) (by omega) (by omega)]
    rfl
theorem spec_l4Reach_eq (p st r s : Int) (l : List S68) (hl : l.length ≤ 1099511627776) (hst0 : 0 ≤ st) (hst : st ≤ 31) (he : EdgesIn st l) (hs : SetZ s) (k : Nat) (hk : 32 * (l.length + 2) < k) : spec_l4Reach.f k p st r l s = some (reachZ fromZ toZ l st.toNat s) := by
  unfold spec_l4Reach.f reachZ
  refine spec_l4Reach_l0 p st r l hl hst0 hst he (st.toNat + 1) k 0 s hs (by omega) ?_
  have : (st.toNat + 1) * (l.length + 2) ≤ 32 * (l.length + 2) := Nat.mul_le_mul_right _ (by omega)
  omega
theorem impl_Auto_reach_l1 (p q r st s0 : Int) (l : List S68) (hl : l.length ≤ 1099511627776) (hst : st ≤ 31) (he : EdgesIn st l) (d : Nat) : ∀ (k i : Nat) (s : Int), SetZ s → i + d = l.length → d < k → impl_Auto_reach.l1 k s0 s l (l.length : Int) (i : Int) p q r l = if passZ fromZ toZ s (l.drop i) = s0 then some (s0, p, q, r) else impl_Auto_reach.l0 (k - d - 1) (passZ fromZ toZ s (l.drop i)) p q r l := by
  induction d with
  | zero =>
    intro k i s hs hi hk
    obtain ⟨k, rfl⟩ := succ_of hk
    simp only [impl_Auto_reach.l1]
    rw [if_neg (by omega), List.drop_eq_nil_of_le (by omega)]
    rfl
  | succ d ih =>
    intro k i s hs hi hk
    obtain ⟨k, rfl⟩ := succ_of hk
    have h1 := he _ (List.getElem_mem (show i < l.length by omega))
    have hs1 := hs.1
    have hs2 := hs.2
    simp only [impl_Auto_reach.l1]
    rw [if_pos (by omega), if_pos (by omega), if_pos (by omega), rdE_at (by omega), drop_cons (l := l) (i := i) (by omega), impl_has_eq s _ (by omega) (by omega) (by omega) (by omega), impl_only_eq _ (by omega) (by omega), wrap64_succ (by omega)]
    simp only [Option.bind_some]
    rw [or_bitZ s _ (by omega) (by omega) (by omega) (by omega), ih k (i + 1) s hs (by omega) (by omega), ih k (i + 1) _ (SetZ_put hs (by omega)) (by omega) (by omega), show k + 1 - (d + 1) - 1 = k - d - 1 by omega, ← hasZ_in (s := s) (i := l[i].f0) (by omega) (by omega)]
    simp only [passZ, fromZ, toZ]
    by_cases h : hasZ s l[i].f0 = true
    · rw [if_pos h, if_pos h]
    · rw [if_neg h, if_neg h]
theorem impl_Auto_reach_l0 (p q r st : Int) (l : List S68) (hl : l.length ≤ 1099511627776) (hst0 : 0 ≤ st) (hst : st ≤ 31) (he : EdgesIn st l) (d : Nat) : ∀ (k : Nat) (s : Int), SetZ s → lackZ s st.toNat ≤ d → (d + 1) * (l.length + 2) < k → impl_Auto_reach.l0 k s p q r l = some (iterZ fromZ toZ l d s, p, q, r) := by
  have hto := edgesIn_to hst0 he
  have hto' : ∀ e ∈ l, 0 ≤ toZ e ∧ toZ e ≤ 30 := fun e h => by have := hto e h; omega
  induction d with
  | zero =>
    intro k s hs hd hk
    obtain ⟨k, rfl⟩ := succ_of (show 0 < k by omega)
    simp only [impl_Auto_reach.l0]
    have h1 := impl_Auto_reach_l1 p q r st s l hl hst he l.length k 0 s hs (by omega) (by omega)
    rw [show ((0 : Nat) : Int) = 0 from rfl, List.drop_zero] at h1
    rw [h1]
    rcases passZ_lack fromZ toZ st.toNat (by omega) l hto s hs with e | e
    · rw [if_pos e]; rfl
    · omega
  | succ d ih =>
    intro k s hs hd hk
    rw [Nat.succ_mul] at hk
    obtain ⟨k, rfl⟩ := succ_of (show 0 < k by omega)
    simp only [impl_Auto_reach.l0]
    have h1 := impl_Auto_reach_l1 p q r st s l hl hst he l.length k 0 s hs (by omega) (by omega)
    rw [show ((0 : Nat) : Int) = 0 from rfl, List.drop_zero] at h1
    rw [h1]
    rcases passZ_lack fromZ toZ st.toNat (by omega) l hto s hs with e | e
    · rw [if_pos e, iterZ_fix e]
    · by_cases e' : passZ fromZ toZ s l = s
      · rw [if_pos e', iterZ_fix e']
      · rw [if_neg e', ih _ _ (passZ_set _ _ l hto' s hs) (by omega) (by omega)]
        rfl
theorem impl_Auto_reach_eq (p q r st s : Int) (l : List S68) (hl : l.length ≤ 1099511627776) (hst0 : 0 ≤ st) (hst : st ≤ 31) (he : EdgesIn st l) (hs : SetZ s) (k : Nat) (hk : 32 * (l.length + 2) < k) : impl_Auto_reach.f k p q r l s = some (reachZ fromZ toZ l st.toNat s, p, q, r) := by
  unfold impl_Auto_reach.f reachZ
  have h1 : (st.toNat + 1) * (l.length + 2) ≤ 32 * (l.length + 2) := Nat.mul_le_mul_right _ (by omega)
  rw [impl_Auto_reach_l0 p q r st l hl hst0 hst he st.toNat k s hs (lackZ_le _ _) (by omega), (iterZ_rest fromZ toZ l st.toNat (by omega) (edgesIn_to hst0 he) st.toNat s hs (lackZ_le _ _) (st.toNat + 1) (by omega)).2]
/-- The edges that stay, with the states' new numbers. -/
def keepE (s : Int) (e : S68) : List S68 := if hasZ s e.f0 then (if hasZ s e.f2 then [⟨rankZ s e.f0.toNat, e.f1, rankZ s e.f2.toNat, e.f3⟩] else []) else []
def keepEs (s : Int) : List S68 → List S68
  | [] => []
  | e :: l => keepE s e ++ keepEs s l
theorem keepEs_length (s : Int) (l : List S68) : (keepEs s l).length ≤ l.length := by
  induction l with
  | nil => exact Nat.le_refl _
  | cons e l ih =>
    rw [show keepEs s (e :: l) = keepE s e ++ keepEs s l from rfl, List.length_append, List.length_cons]
    have : (keepE s e).length ≤ 1 := by
      unfold keepE
      split
      · split <;> simp
      · simp
    omega
theorem spec_l4Keep_l2 (p st r s A B C : Int) (l : List S68) (lst names : List Int) (hs : SetZ s) (hl : l.length ≤ 1048576) (he : EdgesIn st l) (hst0 : 0 ≤ st) (hst : st ≤ 31) (hnl : names.length = st.toNat) (hn : ∀ j, j < st.toNat → names.getD j 0 = rankZ s j) (d : Nat) : ∀ (k i : Nat) (acc : List S68), i + d = l.length → acc.length ≤ i → d < k →
    spec_l4Keep.l2 k s lst names (i : Int) p st r l A B C acc = some (A, B, C, acc ++ keepEs s (l.drop i), lst) := by
  induction d with
  | zero =>
    intro k i acc hi ha hk
    obtain ⟨k, rfl⟩ := succ_of hk
    simp only [spec_l4Keep.l2]
    rw [if_neg (by omega), List.drop_eq_nil_of_le (by omega), show keepEs s [] = [] from rfl, List.append_nil]
  | succ d ih =>
    intro k i acc hi ha hk
    obtain ⟨k, rfl⟩ := succ_of hk
    have g := he _ (List.getElem_mem (show i < l.length by omega))
    have hs1 := hs.1
    have hs2 := hs.2
    simp only [spec_l4Keep.l2]
    rw [if_pos (by omega), if_pos (by omega), rdE_at (by omega), drop_cons (l := l) (i := i) (by omega), spec_l1Has_eq s _ (by omega) (by omega), Option.bind_some, spec_l1Has_eq s _ (by omega) (by omega), Option.bind_some, wrap64_succ (by omega)]
    generalize l[i] = e at g ⊢
    rw [show keepEs s (e :: l.drop (i + 1)) = keepE s e ++ keepEs s (l.drop (i + 1)) from rfl]
    by_cases h0 : hasZ s e.f0 = true
    · rw [if_pos h0]
      by_cases h2 : hasZ s e.f2 = true
      · obtain ⟨a, ea⟩ := Int.eq_ofNat_of_zero_le g.1.1
        obtain ⟨b, eb⟩ := Int.eq_ofNat_of_zero_le g.2.1
        have hk1 : keepE s e = [⟨rankZ s a, e.f1, rankZ s b, e.f3⟩] := by
          unfold keepE
          rw [if_pos h0, if_pos h2, ea, eb, Int.toNat_natCast, Int.toNat_natCast]
        rw [if_pos h2, if_pos (by omega), if_pos (by omega), if_pos (by omega), if_pos (by omega), if_pos (by omega), hk1, ea, eb, rd_nat, rd_nat, hn a (by omega), hn b (by omega), ih k (i + 1) _ (by omega) (by rw [List.length_append, List.length_singleton]; omega) (by omega), List.append_assoc]
      · have hk1 : keepE s e = [] := by
          unfold keepE
          rw [if_pos h0, if_neg h2]
        rw [if_neg h2, hk1, List.nil_append, ih k (i + 1) _ (by omega) (by omega) (by omega)]
    · have hk1 : keepE s e = [] := by
        unfold keepE
        rw [if_neg h0]
      rw [if_neg h0, hk1, List.nil_append, ih k (i + 1) _ (by omega) (by omega) (by omega)]
theorem spec_l4Keep_l1 (p st r s A B : Int) (l : List S68) (lst names : List Int) (hs : SetZ s) (hr : SetZ r) (hl : l.length ≤ 1048576) (he : EdgesIn st l) (hst0 : 0 ≤ st) (hst : st ≤ 31) (hnl : names.length = st.toNat) (hn : ∀ j, j < st.toNat → names.getD j 0 = rankZ s j) (d : Nat) : ∀ (k i : Nat) (a : Int), i + d = st.toNat → l.length + d + 2 < k →
    spec_l4Keep.l1 k s lst names (i : Int) p st r l A B a = some (A, B, startF s r d i a, keepEs s l, lst) := by
  have hs1 := hs.1
  have hs2 := hs.2
  have hr1 := hr.1
  have hr2 := hr.2
  induction d with
  | zero =>
    intro k i a hi hk
    obtain ⟨k, rfl⟩ := succ_of (show 0 < k by omega)
    simp only [spec_l4Keep.l1]
    have := spec_l4Keep_l2 p st r s A B a l lst names hs hl he hst0 hst hnl hn l.length k 0 [] (by omega) (by simp) (by omega)
    rw [if_neg (by omega), show (0 : Int) = ((0 : Nat) : Int) from rfl, this]
    rfl
  | succ d ih =>
    intro k i a hi hk
    obtain ⟨k, rfl⟩ := succ_of (show 0 < k by omega)
    have hrk := rankZ_range s i
    simp only [spec_l4Keep.l1]
    rw [if_pos (by omega), spec_l1Has_eq s _ (by omega) (by omega), Option.bind_some, spec_l1Has_eq r _ (by omega) (by omega), Option.bind_some, rd_nat, hn i (by omega), spec_l1Bit_eq _ (by omega) (by omega), Option.bind_some, wrap64_succ (by omega)]
    rw [ih k (i + 1) _ (by omega) (by omega), ih k (i + 1) _ (by omega) (by omega)]
    rw [show startF s r (d + 1) i a = startF s r d (i + 1) (if hasZ s (i : Int) then (if hasZ r (i : Int) then Go.bits .or .i64 a (bitZ (rankZ s i)) else a) else a) from rfl]
    by_cases h0 : hasZ s (i : Int) = true
    · rw [if_pos h0, if_pos h0]
      by_cases h2 : hasZ r (i : Int) = true
      · rw [if_pos h2, if_pos h2, if_pos (by omega), if_pos (by omega)]
      · rw [if_neg h2, if_neg h2]
    · rw [if_neg h0, if_neg h0]
theorem spec_l4Keep_l0 (p st r s : Int) (l : List S68) (hs : SetZ s) (hr : SetZ r) (hl : l.length ≤ 1048576) (he : EdgesIn st l) (hst0 : 0 ≤ st) (hst : st ≤ 31) (d : Nat) : ∀ (k i : Nat) (names : List Int), i + d = st.toNat → names.length = i → (∀ j, j < i → names.getD j 0 = rankZ s j) → l.length + d + 40 < k →
    spec_l4Keep.l0 k s (listFrom s 0 i) names (i : Int) p st r l = some (p, rankZ s st.toNat, startF s r st.toNat 0 0, keepEs s l, listFrom s 0 st.toNat) := by
  have hs1 := hs.1
  have hs2 := hs.2
  induction d with
  | zero =>
    intro k i names hi hnl hn hk
    obtain ⟨k, rfl⟩ := succ_of (show 0 < k by omega)
    obtain rfl : i = st.toNat := by omega
    simp only [spec_l4Keep.l0]
    have := spec_l4Keep_l1 p st r s p ((listFrom s 0 st.toNat).length : Int) l (listFrom s 0 st.toNat) names hs hr hl he hst0 hst hnl hn st.toNat k 0 0 (by omega) (by omega)
    rw [if_neg (by omega)]
    exact this
  | succ d ih =>
    intro k i names hi hnl hn hk
    obtain ⟨k, rfl⟩ := succ_of (show 0 < k by omega)
    have hll := listFrom_length s i 0
    have hn' : ∀ j, j < i + 1 → (names ++ [((listFrom s 0 i).length : Int)]).getD j 0 = rankZ s j := by
      intro j hj
      by_cases h : j < i
      · rw [List.getD_eq_getElem?_getD, List.getElem?_append_left (by omega), ← List.getD_eq_getElem?_getD, hn j h]
      · obtain rfl : j = i := by omega
        rw [List.getD_eq_getElem?_getD, List.getElem?_append_right (by omega), hnl, Nat.sub_self]; rfl
    have h1 := ih k (i + 1) _ (by omega) (by rw [List.length_append, List.length_singleton, hnl]) hn' (by omega)
    simp only [spec_l4Keep.l0]
    rw [if_pos (by omega), if_pos (by omega), Option.bind_some, spec_l1Has_eq s _ (by omega) (by omega), Option.bind_some, wrap64_succ (by omega)]
    rw [listFrom_one] at h1
    by_cases h0 : hasZ s (i : Int) = true
    · rw [if_pos h0] at h1
      rw [if_pos h0, if_pos (by omega), h1]
    · rw [if_neg h0, List.append_nil] at h1
      rw [if_neg h0, h1]
theorem spec_l4Keep_eq (p st r s : Int) (l : List S68) (hs : SetZ s) (hr : SetZ r) (hl : l.length ≤ 1048576) (he : EdgesIn st l) (hst0 : 0 ≤ st) (hst : st ≤ 31) (k : Nat) (hk : l.length + 100 < k) : spec_l4Keep.f k p st r l s = some (p, rankZ s st.toNat, startF s r st.toNat 0 0, keepEs s l, listFrom s 0 st.toNat) := by
  unfold spec_l4Keep.f
  exact spec_l4Keep_l0 p st r s l hs hr hl he hst0 hst st.toNat k 0 [] (by omega) rfl (fun j h => absurd h (Nat.not_lt_zero _)) (by omega)
theorem impl_Auto_kept_l1 (p q t st s A B C : Int) (l : List S68) (lst P : List Int) (hs : SetZ s) (hl : l.length ≤ 1048576) (he : EdgesIn st l) (hst0 : 0 ≤ st) (hst : st ≤ 31) (hnl : P.length = st.toNat) (hn : ∀ j : Nat, j < st.toNat → hasZ s (j : Int) = true → P.getD j 0 = rankZ s j) (d : Nat) : ∀ (k i : Nat) (acc : List S68), i + d = l.length → acc.length ≤ i → d < k →
    impl_Auto_kept.l1 k s lst P l (l.length : Int) (i : Int) p q t l A B C acc = some (A, B, C, acc ++ keepEs s (l.drop i), lst, p, q, t) := by
  induction d with
  | zero =>
    intro k i acc hi ha hk
    obtain ⟨k, rfl⟩ := succ_of hk
    simp only [impl_Auto_kept.l1]
    rw [if_neg (by omega), List.drop_eq_nil_of_le (by omega), show keepEs s [] = [] from rfl, List.append_nil]
  | succ d ih =>
    intro k i acc hi ha hk
    obtain ⟨k, rfl⟩ := succ_of hk
    have g := he _ (List.getElem_mem (show i < l.length by omega))
    have hs1 := hs.1
    have hs2 := hs.2
    simp only [impl_Auto_kept.l1]
    rw [if_pos (by omega), if_pos (by omega), if_pos (by omega), rdE_at (by omega), drop_cons (l := l) (i := i) (by omega), impl_has_eq s _ (by omega) (by omega) (by omega) (by omega), ← hasZ_in (by omega) (by omega), Option.bind_some, impl_has_eq s _ (by omega) (by omega) (by omega) (by omega), ← hasZ_in (by omega) (by omega), Option.bind_some, wrap64_succ (by omega)]
    generalize l[i] = e at g ⊢
    rw [show keepEs s (e :: l.drop (i + 1)) = keepE s e ++ keepEs s (l.drop (i + 1)) from rfl]
    by_cases h0 : hasZ s e.f0 = true
    · rw [if_pos h0]
      by_cases h2 : hasZ s e.f2 = true
      · obtain ⟨a, ea⟩ := Int.eq_ofNat_of_zero_le g.1.1
        obtain ⟨b, eb⟩ := Int.eq_ofNat_of_zero_le g.2.1
        have hk1 : keepE s e = [⟨rankZ s a, e.f1, rankZ s b, e.f3⟩] := by
          unfold keepE
          rw [if_pos h0, if_pos h2, ea, eb, Int.toNat_natCast, Int.toNat_natCast]
        rw [ea] at h0
        rw [eb] at h2
        rw [show hasZ s e.f2 = true by rw [eb]; exact h2, if_pos rfl, if_pos (by omega), if_pos (by omega), if_pos (by omega), if_pos (by omega), if_pos (by omega), hk1, ea, eb, rd_nat, rd_nat, hn a (by omega) h0, hn b (by omega) h2, ih k (i + 1) _ (by omega) (by rw [List.length_append, List.length_singleton]; omega) (by omega), List.append_assoc]
      · have hk1 : keepE s e = [] := by
          unfold keepE
          rw [if_pos h0, if_neg h2]
        rw [if_neg h2, hk1, List.nil_append, ih k (i + 1) _ (by omega) (by omega) (by omega)]
    · have hk1 : keepE s e = [] := by
        unfold keepE
        rw [if_neg h0]
      rw [if_neg h0, hk1, List.nil_append, ih k (i + 1) _ (by omega) (by omega) (by omega)]
theorem impl_Auto_kept_l0 (p q t st s A B : Int) (l : List S68) (hs : SetZ s) (ht : SetZ t) (hl : l.length ≤ 1048576) (he : EdgesIn st l) (hst0 : 0 ≤ st) (hst : st ≤ 31) (d : Nat) : ∀ (k i : Nat) (P : List Int) (a : Int), i + d = st.toNat → P.length = st.toNat → (∀ j : Nat, j < i → hasZ s (j : Int) = true → P.getD j 0 = rankZ s j) → l.length + d + 40 < k →
    impl_Auto_kept.l0 k s (listFrom s 0 st.toNat) P (listFrom s 0 st.toNat) ((listFrom s 0 st.toNat).length : Int) (rankZ s i) p q t l A B a = some (A, B, startF s t d i a, keepEs s l, listFrom s 0 st.toNat, p, q, t) := by
  have ht1 := ht.1
  have ht2 := ht.2
  induction d with
  | zero =>
    intro k i P a hi hP hn hk
    obtain ⟨k, rfl⟩ := succ_of (show 0 < k by omega)
    obtain rfl : i = st.toNat := by omega
    simp only [impl_Auto_kept.l0]
    have := impl_Auto_kept_l1 p q t st s A B a l (listFrom s 0 st.toNat) P hs hl he hst0 hst hP hn l.length k 0 [] (by omega) (by simp) (by omega)
    rw [show rankZ s st.toNat = ((listFrom s 0 st.toNat).length : Int) from rfl, if_neg (by omega), show (0 : Int) = ((0 : Nat) : Int) from rfl, this]
    rfl
  | succ d ih =>
    intro k i P a hi hP hn hk
    rw [show startF s t (d + 1) i a = startF s t d (i + 1) (if hasZ s (i : Int) then (if hasZ t (i : Int) then Go.bits .or .i64 a (bitZ (rankZ s i)) else a) else a) from rfl]
    by_cases h0 : hasZ s (i : Int) = true
    · obtain ⟨k, rfl⟩ := succ_of (show 0 < k by omega)
      have hrk := rankZ_range s i
      obtain ⟨h1, h2⟩ := listFrom_rank (n := st.toNat) (show i < st.toNat by omega) h0
      have hrd : rd (listFrom s 0 st.toNat) (rankZ s i) = (i : Int) := h2
      have hn' : ∀ j : Nat, j < i + 1 → hasZ s (j : Int) = true → (P.set i (rankZ s i)).getD j 0 = rankZ s j := by
        intro j hj hb
        by_cases h : j = i
        · subst h
          rw [List.getD_eq_getElem?_getD, List.getElem?_set_self (by omega)]; rfl
        · rw [List.getD_eq_getElem?_getD, List.getElem?_set_ne (by omega), ← List.getD_eq_getElem?_getD, hn j (by omega) hb]
      have hrec : ∀ a, impl_Auto_kept.l0 k s (listFrom s 0 st.toNat) (P.set i (rankZ s i)) (listFrom s 0 st.toNat) ((listFrom s 0 st.toNat).length : Int) (rankZ s (i + 1)) p q t l A B a = some (A, B, startF s t d (i + 1) a, keepEs s l, listFrom s 0 st.toNat, p, q, t) :=
        fun a => ih k (i + 1) _ a (by omega) (by rw [List.length_set]; exact hP) hn' (by omega)
      rw [rankZ_has h0] at hrec
      simp only [impl_Auto_kept.l0]
      rw [if_pos h1, if_pos hrk.1, if_pos h1, hrd, if_pos (by omega), if_pos (by omega), Option.bind_some, impl_has_eq t _ (by omega) (by omega) (by omega) (by omega), ← hasZ_in (by omega) (by omega), Option.bind_some, impl_only_eq _ hrk.1 (by omega), Option.bind_some, wrap64_id (n := rankZ s i + 1) (by omega) (by omega), Int.toNat_natCast, hrec, hrec, if_pos h0]
      by_cases h3 : hasZ t (i : Int) = true
      · rw [if_pos h3, if_pos h3]
      · rw [if_neg h3, if_neg h3]
    · rw [if_neg h0]
      have := ih k (i + 1) P a (by omega) hP (fun j hj hb => hn j (by
        have : j ≠ i := fun e => h0 (by rw [← e]; exact hb)
        omega) hb) (by omega)
      rw [rankZ_not h0] at this
      exact this
theorem impl_Auto_kept_eq (p st t s : Int) (l : List S68) (hs : SetZ s) (ht : SetZ t) (hl : l.length ≤ 1048576) (he : EdgesIn st l) (hst0 : 0 ≤ st) (hst : st ≤ 31) (k : Nat) (hk : l.length + 200 < k) : impl_Auto_kept.f k p st t l s = some (p, rankZ s st.toNat, startF s t st.toNat 0 0, keepEs s l, listFrom s 0 st.toNat, p, st, t) := by
  have hs1 := hs.1
  have hs2 := hs.2
  have hb := bitZ_le31 hst
  have hb0 := bitZ_pos st
  have hmod := Int.emod_nonneg s (show bitZ st ≠ 0 by omega)
  have hmod2 := Int.emod_lt_of_pos s hb0
  have hlist : listOf (s % bitZ st) = listFrom s 0 st.toNat := by
    unfold listOf
    rw [if_pos (show okB (s % bitZ st) = true from inR_iff.2 (by omega)), listFrom_mask s st hs1 hst0 31 0, show min 31 (st.toNat - 0) = st.toNat by omega]
  unfold impl_Auto_kept.f
  rw [impl_only_eq st hst0 (by omega), Option.bind_some, wrap64_id (n := bitZ st - 1) (by omega) (by omega), and_mask s st hs1 (by omega) hst0 hst, impl_SetList_eq _ k (by omega), Option.bind_some, hlist, if_pos hst0, if_pos (by omega)]
  have := impl_Auto_kept_l0 p st t st s p ((listFrom s 0 st.toNat).length : Int) l hs ht hl he hst0 hst st.toNat k 0 (List.replicate st.toNat 0) 0 (by omega) (by simp) (fun j h => absurd h (Nat.not_lt_zero _)) (by omega)
  rw [show rankZ s 0 = 0 from rfl] at this
  rw [this]
  rfl
def trimZ (n st s : Int) (l : List S68) : Int × Int × Int × List S68 × List Int := if autoOkB n st s l then (n, rankZ (reachZ fromZ toZ l st.toNat s) st.toNat, startF (reachZ fromZ toZ l st.toNat s) s st.toNat 0 0, keepEs (reachZ fromZ toZ l st.toNat s) l, listFrom (reachZ fromZ toZ l st.toNat s) 0 st.toNat) else (0, 0, 0, [], [])
theorem trimZ_length (n st s : Int) (l : List S68) : (trimZ n st s l).2.2.2.1.length ≤ l.length ∧ (trimZ n st s l).2.2.2.2.length ≤ 31 := by
  unfold trimZ
  by_cases h : autoOkB n st s l = true
  · obtain ⟨e1, e2, e3, _⟩ := edgesIn_of h
    rw [if_pos h]
    have := listFrom_length (reachZ fromZ toZ l st.toNat s) st.toNat 0
    refine ⟨keepEs_length _ _, ?_⟩
    show (listFrom (reachZ fromZ toZ l st.toNat s) 0 st.toNat).length ≤ 31
    omega
  · rw [if_neg h]; simp
theorem reach_set {st s : Int} {l : List S68} (hst0 : 0 ≤ st) (hst : st ≤ 31) (he : EdgesIn st l) (hs : SetZ s) : SetZ (reachZ fromZ toZ l st.toNat s) :=
  iterZ_set _ _ l (fun e h => by have := edgesIn_to hst0 he e h; omega) _ s hs
theorem spec_AutoTrim_eq (n st s : Int) (l : List S68) (hl : l.length ≤ 1048576) (k : Nat) (hk : 40 * l.length + 200 < k) : spec_AutoTrim.f k n st s l = some (trimZ n st s l) := by
  unfold spec_AutoTrim.f trimZ
  rw [spec_AutoOk_eq n st s l (by omega) k (by omega), Option.bind_some]
  by_cases h : autoOkB n st s l = true
  · obtain ⟨e1, e2, e3, e4⟩ := edgesIn_of h
    rw [if_pos h, if_pos h, spec_l4Reach_eq n st s s l (by omega) e2 e3 e1 e4 k (by omega), Option.bind_some, spec_l4Keep_eq n st s _ l (reach_set e2 e3 e1 e4) e4 hl e1 e2 e3 k (by omega), Option.bind_some]
  · rw [if_neg h, if_neg h]
theorem impl_AutoTrim_eq (n st s : Int) (l : List S68) (hl : l.length ≤ 1048576) (k : Nat) (hk : 40 * l.length + 300 < k) : impl_AutoTrim.f k n st s l = some (trimZ n st s l) := by
  unfold impl_AutoTrim.f trimZ
  rw [impl_AutoOk_eq n st s l (by omega) k (by omega), Option.bind_some]
  by_cases h : autoOkB n st s l = true
  · obtain ⟨e1, e2, e3, e4⟩ := edgesIn_of h
    rw [if_pos h, if_pos h, impl_Auto_reach_eq n st s st s l (by omega) e2 e3 e1 e4 k (by omega), Option.bind_some, impl_Auto_kept_eq n st s _ l (reach_set e2 e3 e1 e4) e4 hl e1 e2 e3 k (by omega), Option.bind_some]
  · rw [if_neg h, if_neg h]
end hFnExactAutoTrim
open hFnExactAutoTrim
theorem FnExactAutoTrim : laws_FnExactAutoTrim.Pure := by
  intro n st s l hn hst hs hl hw
  obtain ⟨M, hM⟩ : ∃ M, M = 1048576 := ⟨_, rfl⟩
  obtain ⟨k, hk⟩ : ∃ k, k = 80 * M + 1000 := ⟨_, rfl⟩
  refine ⟨k + 3, ?_⟩
  unfold laws_FnExactAutoTrim.f
  rw [szAuto_eq n st s l 1048576 (by omega) (by omega) hl, Option.bind_some]
  by_cases h : (1048576 : Int) < l.length
  · rw [if_pos h, if_pos (by omega)]
  · have hm : (l.map convE).length = l.length := List.length_map _
    have hL := trimZ_length n st s (l.map convE)
    have e1 : ∀ j : Nat, laws_toAuto.f (k + j) n st s l = some (n, st, s, l.map convE) := fun j => toAuto_eq n st s l (by omega) _ (by omega)
    have hA : ∀ j : Nat, spec_AutoTrim.f (k + j) n st s (l.map convE) = some (trimZ n st s (l.map convE)) := fun j => spec_AutoTrim_eq n st s _ (by omega) _ (by omega)
    have hB : ∀ j : Nat, impl_AutoTrim.f (k + j) n st s (l.map convE) = some (trimZ n st s (l.map convE)) := fun j => impl_AutoTrim_eq n st s _ (by omega) _ (by omega)
    generalize trimZ n st s (l.map convE) = T at hA hB hL
    obtain ⟨a, b, c, es, ps⟩ := T
    simp only at hL
    have e2 : ∀ j : Nat, laws_eqAuto.f (k + j) a b c es a b c es = some true := fun j => by rw [eqAuto_eq _ _ _ _ _ _ _ _ (by omega) _ (by omega)]; simp
    have e3 : ∀ j : Nat, laws_eqAuto.f (k + j) n st s (l.map convE) n st s (l.map convE) = some true := fun j => by rw [eqAuto_eq _ _ _ _ _ _ _ _ (by omega) _ (by omega)]; simp
    have e7 : ∀ j : Nat, laws_eqIntS.f (k + j) ps ps = some true := fun j => by rw [eqIntS_eq ps ps (by omega) _ (by omega)]; simp
    obtain ⟨z, q4, n1, e4⟩ : ∃ (z : Int) (q4 : List S68), ¬ z < 0 ∧ ∀ j : Nat, laws_markAuto.f (k + j) n st s (l.map convE) 1 = some (z, q4) := ⟨_, _, by omega, fun j => markAuto_eq n st s _ 1 (by omega) (by omega) (by omega) _ (by omega)⟩
    obtain ⟨y, p4, y2, p5, n2, n3, e5, e6, e8, e9⟩ : ∃ (y : Int) (p4 : List S68) (y2 : Int) (p5 : List Int), ¬ y < 0 ∧ ¬ y2 < 0 ∧ (∀ j : Nat, laws_markAuto.f (k + j) a b c es 1 = some (y, p4)) ∧ (∀ j : Nat, laws_heldAuto.f (k + j) a b c p4 1 = some y) ∧ (∀ j : Nat, laws_markIntS.f (k + j) ps y = some (y2, p5)) ∧ ∀ j : Nat, laws_heldIntS.f (k + j) p5 y = some y2 :=
      ⟨1 + 4 * (es.length : Int), _, 1 + 4 * (es.length : Int) + (ps.length : Int), _, by omega, by omega, fun j => markAuto_eq a b c es 1 (by omega) (by omega) (by omega) _ (by omega), fun j => heldAuto_eq a b c es.length 1 (by omega) (by omega) (by omega) _ (by omega), fun j => markIntS_eq ps _ (by omega) (by omega) (by omega) _ (by omega), fun j => heldIntS_eq ps.length _ (by omega) (by omega) (by omega) _ (by omega)⟩
    have e60 : laws_heldAuto.f k a b c p4 1 = some y := e6 0
    have e90 : laws_heldIntS.f k p5 y = some y2 := e9 0
    clear hk hL hm
    rw [if_neg h, if_neg (by omega), e1, Option.bind_some, hA, Option.bind_some, Option.bind_some, hB, Option.bind_some, e2, Option.bind_some, if_pos rfl, e7, Option.bind_some]
    rw [laws_FnExactAutoTrim.j0, if_neg (by simp), e1, Option.bind_some, e3, Option.bind_some, if_pos rfl, e4, Option.bind_some, if_neg n1, e2, Option.bind_some, if_pos rfl, e7, Option.bind_some]
    rw [laws_FnExactAutoTrim.j1, if_neg (by simp), e5, Option.bind_some, e8, Option.bind_some, e6, Option.bind_some, if_neg n2, e9, Option.bind_some, if_neg n3, if_pos rfl, e1, Option.bind_some, hB, Option.bind_some, e2, Option.bind_some, if_pos rfl, e7, Option.bind_some]
    rw [laws_FnExactAutoTrim.j2, if_neg (by simp), e60, Option.bind_some, if_neg n2, e90, Option.bind_some, if_neg n3, if_pos rfl]
end Go.Proofs.Ytlallflpicgcmaa.Pure
