/- What the printed functions of FnReach4 come to, one lemma a function, and from these the law: for all arguments (within the bounds that the printed statement names) it answers true. -/
import Derived.Test.YtlallflpicgcmaaMFnReach4x9
import Derived.Test.YtlallflpicgcmaaBase
import Derived.Test.YtlallflpicgcmaaBaseA
import Derived.Test.YtlallflpicgcmaaBaseD
import Derived.Test.YtlallflpicgcmaaBaseK
import Derived.Test.YtlallflpicgcmaaBaseL
import Derived.Test.YtlallflpicgcmaaBaseR
import Derived.Test.YtlallflpicgcmaaBaseS
import Derived.Test.YtlallflpicgcmaaBaseV
import Derived.Test.YtlallflpicgcmaaBaseW
namespace Go.Proofs.Ytlallflpicgcmaa.Pure
open Go.RowKit Go.Proofs.Ytlallflpicgcmaa.MFnReach4 Go.Proofs.YtlallflpicgcmaaW.PrintWords Go.Proofs.YtlallflpicgcmaaW.PrintLast Go.Proofs.Ytlallflpicgcmaa.Base

namespace hFnReach4
theorem spec_l1In_eq (a b c : Int) : spec_l1In.f a b c = some (inR a b c) := by
  unfold spec_l1In.f inR
  by_cases h : a ≥ b
  · rw [if_pos h]; simp [show b ≤ a from h]
  · rw [if_neg h]; simp; omega
theorem impl_inRange_eq (a b c : Int) : impl_inRange.f a b c = some (inR a b c) := by
  unfold impl_inRange.f inR
  by_cases h : a ≥ b
  · rw [if_pos h]; simp [show b ≤ a from h]
  · rw [if_neg h]; simp; omega
theorem spec_SetOk_eq (s : Int) : spec_SetOk.f s = some (okB s) := by
  simp only [spec_SetOk.f, spec_l1In_eq, Option.bind_some, okB]
theorem impl_SetOk_eq (s : Int) : impl_SetOk.f s = some (okB s) := by
  simp only [impl_SetOk.f, impl_inRange_eq, Option.bind_some, okB]
theorem spec_l1Bit_eq (i : Int) (h0 : 0 ≤ i) (h1 : i ≤ 31) : spec_l1Bit.f i = some (bitZ i) := by
  obtain ⟨n, rfl⟩ := Int.eq_ofNat_of_zero_le h0
  unfold spec_l1Bit.f
  rw [and31 n (by omega), if_pos h0, shl_one n (by omega)]
theorem impl_only_eq (i : Int) (h0 : 0 ≤ i) (h1 : i ≤ 62) : impl_only.f i = some (bitZ i) := by
  obtain ⟨n, rfl⟩ := Int.eq_ofNat_of_zero_le h0
  unfold impl_only.f
  rw [wrap_u64_id h0 (by omega), if_pos h0, shl_one n (by omega)]
theorem spec_l1Has_eq (s i : Int) (h0 : 0 ≤ s) (h1 : s < 9223372036854775808) : spec_l1Has.f s i = some (hasZ s i) := by
  unfold spec_l1Has.f hasZ
  rw [spec_l1In_eq]
  simp only [Option.bind_some]
  by_cases h : inR i 0 30 = true
  · have hi := inR_iff.1 h
    have hp := bitZ_pos i
    rw [if_pos h, spec_l1Bit_eq i hi.1 (by omega), h]
    simp only [Option.bind_some, Bool.true_and]
    rw [and_bitZ s i h0 h1 hi.1 (by omega)]
    congr 1
    by_cases hb : s.toNat.testBit i.toNat = true
    · rw [if_pos hb, hb]; rw [bne_iff_ne]; omega
    · rw [if_neg hb]; simp at hb; rw [hb]; rfl
  · rw [if_neg h]; simp at h; rw [h]; rfl
theorem impl_has_eq (s i : Int) (h0 : 0 ≤ s) (h1 : s < 9223372036854775808) (hi0 : 0 ≤ i) (hi : i ≤ 62) : impl_has.f s i = some (s.toNat.testBit i.toNat) := by
  unfold impl_has.f
  rw [wrap_u64_id hi0 (by omega), if_pos hi0, shr_and_one s i h0 h1 hi0 (by omega)]
theorem spec_SetIn_eq (a b : Int) : spec_SetIn.f a b = some (okB a && okB b && (Go.bits .and .i64 a b == a)) := by
  unfold spec_SetIn.f
  rw [spec_SetOk_eq, spec_SetOk_eq]
  simp only [Option.bind_some]
  cases okB a <;> cases okB b <;> simp
theorem impl_isIn_eq (a b : Int) (h0 : 0 ≤ a) (h1 : a < 9223372036854775808) (h2 : 0 ≤ b) (h3 : b < 9223372036854775808) : impl_isIn.f a b = some (Go.bits .and .i64 a b == a) := by
  unfold impl_isIn.f
  rw [andNot_and a b h0 h1 h2 h3]
  congr 1
  rw [Bool.eq_iff_iff]
  simp only [beq_iff_eq]
  omega
theorem impl_SetIn_eq (a b : Int) : impl_SetIn.f a b = some (okB a && okB b && (Go.bits .and .i64 a b == a)) := by
  unfold impl_SetIn.f
  rw [impl_SetOk_eq, impl_SetOk_eq]
  simp only [Option.bind_some]
  by_cases ha : okB a = true
  · have ha' := inR_iff.1 ha
    by_cases hb : okB b = true
    · have hb' := inR_iff.1 hb
      rw [if_pos ha, if_pos hb, impl_isIn_eq a b ha'.1 (by omega) hb'.1 (by omega), ha, hb]; rfl
    · rw [if_pos ha, if_neg hb]; simp at hb; rw [hb]; simp
  · rw [if_neg ha]; simp at ha; rw [ha]; simp
theorem spec_SetList_l0 (s : Int) (d : Nat) : ∀ (k i : Nat) (out : List Int), i + d = 31 → 2 * d + 1 < k → out.length ≤ i → spec_SetList.l0 k s out (i : Int) = some (if okB s then out ++ listFrom s i d else out) := by
  induction d with
  | zero =>
    intro k i out hi hk ho
    obtain ⟨k, rfl⟩ : ∃ m, k = m + 2 := ⟨k - 2, by omega⟩
    simp only [spec_SetList.l0]
    rw [if_neg (by omega)]
    simp only [spec_SetList.j1]
    simp [listFrom]
  | succ d ih =>
    intro k i out hi hk ho
    obtain ⟨k, rfl⟩ : ∃ m, k = m + 2 := ⟨k - 2, by omega⟩
    simp only [spec_SetList.l0]
    rw [if_pos (by omega), spec_SetOk_eq]
    simp only [Option.bind_some, spec_SetList.j1]
    by_cases h : okB s = true
    · have hs := inR_iff.1 h
      rw [if_pos h, if_pos h, spec_l1Has_eq s _ hs.1 (by omega)]
      simp only [Option.bind_some]
      rw [wrap64_succ (by omega)]
      unfold listFrom
      by_cases hb : hasZ s (i : Int) = true
      · rw [if_pos hb, if_pos (by omega), ih k (i + 1) _ (by omega) (by omega) (by simp; omega), if_pos h, if_pos hb]
        simp
      · rw [if_neg hb, ih k (i + 1) _ (by omega) (by omega) (by omega), if_pos h, if_neg hb]
    · rw [if_neg h, if_neg h]
theorem spec_SetList_eq (s : Int) (k : Nat) (hk : 70 ≤ k) : spec_SetList.f k s = some (listOf s) := by
  unfold spec_SetList.f
  have := spec_SetList_l0 s 31 k 0 [] (by omega) (by omega) (by simp)
  simpa [listOf] using this
theorem impl_SetList_l0 (s : Int) (h0 : 0 ≤ s) (h1 : s ≤ 2147483647) (d : Nat) : ∀ (k i : Nat) (out : List Int), i + d = 31 → d < k → out.length ≤ i → impl_SetList.l0 k s out (i : Int) = some (out ++ listFrom s i d) := by
  induction d with
  | zero =>
    intro k i out hi hk ho
    obtain ⟨k, rfl⟩ := succ_of hk
    simp only [impl_SetList.l0]
    rw [if_neg (by omega)]
    simp [listFrom]
  | succ d ih =>
    intro k i out hi hk ho
    obtain ⟨k, rfl⟩ := succ_of hk
    simp only [impl_SetList.l0]
    rw [if_pos (by omega), impl_has_eq s _ h0 (by omega) (by omega) (by omega)]
    simp only [Option.bind_some]
    rw [wrap64_succ (by omega)]
    unfold listFrom
    have e : hasZ s (i : Int) = s.toNat.testBit (i : Int).toNat := by
      unfold hasZ
      rw [show inR (i : Int) 0 30 = true from inR_iff.2 (by omega)]
      rfl
    rw [e]
    by_cases hb : s.toNat.testBit (i : Int).toNat = true
    · rw [if_pos hb, if_pos (by omega), ih k (i + 1) _ (by omega) (by omega) (by simp; omega), if_pos hb]
      simp
    · rw [if_neg hb, ih k (i + 1) _ (by omega) (by omega) (by omega), if_neg hb]
theorem impl_SetList_eq (s : Int) (k : Nat) (hk : 70 ≤ k) : impl_SetList.f k s = some (listOf s) := by
  unfold impl_SetList.f listOf
  rw [impl_SetOk_eq]
  simp only [Option.bind_some]
  by_cases h : okB s = true
  · have hs := inR_iff.1 h
    rw [if_pos h, if_pos h]
    have := impl_SetList_l0 s hs.1 hs.2 31 k 0 [] (by omega) (by omega) (by simp)
    simpa using this
  · rw [if_neg h, if_neg h]
theorem spec_SetCount_eq (s : Int) (k : Nat) (hk : 70 ≤ k) : spec_SetCount.f k s = some ((listOf s).length : Int) := by
  unfold spec_SetCount.f
  rw [spec_SetList_eq s k hk]
  rfl
theorem l1New_l0 (b : List Int) (d : Nat) : ∀ (k i : Nat) (h : Int), i + d = 4000 → d < k → ∃ h', spec_l1New.l0 k b h (i : Int) = some (b, 0, h') := by
  induction d with
  | zero =>
    intro k i h hi hk
    obtain ⟨k, rfl⟩ := succ_of hk
    simp only [spec_l1New.l0]
    by_cases h1 : (i : Int) < b.length
    · rw [if_pos h1, if_neg (by omega)]; exact ⟨_, rfl⟩
    · rw [if_neg h1]; exact ⟨_, rfl⟩
  | succ d ih =>
    intro k i h hi hk
    obtain ⟨k, rfl⟩ := succ_of hk
    simp only [spec_l1New.l0]
    by_cases h1 : (i : Int) < b.length
    · rw [if_pos h1, if_pos (by omega), if_pos (by omega), wrap64_succ (by omega)]
      exact ih k (i + 1) _ (by omega) (by omega)
    · rw [if_neg h1]; exact ⟨_, rfl⟩
theorem l1New_ok (b : List Int) (k : Nat) (hk : 4000 < k) : ∃ h, spec_l1New.f k b = some (b, 0, h) := by
  unfold spec_l1New.f
  exact l1New_l0 b 4000 k 0 _ (by omega) hk
theorem l1Byte_ok (b : List Int) (i h : Int) (hl : b.length ≤ 1048576) (hi : CurOk b i) : ∃ r i' h', spec_l1Byte.f b i h = some (r, i', h') ∧ 0 ≤ r ∧ r ≤ 255 ∧ CurOk b i' := by
  unfold spec_l1Byte.f
  obtain ⟨h0, h1⟩ := hi
  by_cases hlt : i < b.length
  · rw [if_pos hlt, if_pos h0]
    refine ⟨_, _, _, rfl, (and255_range _).1, (and255_range _).2, ?_⟩
    rw [wrap64_id (by omega) (by omega)]
    exact ⟨by omega, by omega⟩
  · rw [if_neg hlt]
    exact ⟨_, _, _, rfl, (and255_range _).1, (and255_range _).2, h0, h1⟩
theorem l1Below_ok (b : List Int) (i h n : Int) (hl : b.length ≤ 1048576) (hi : CurOk b i) : ∃ r i' h', spec_l1Below.f b i h n = some (r, i', h') ∧ 0 ≤ r ∧ (0 < n → r < n) ∧ (n ≤ 0 → r = 0) ∧ CurOk b i' := by
  unfold spec_l1Below.f
  by_cases h0 : n ≤ 0
  · rw [if_pos h0]
    exact ⟨_, _, _, rfl, by omega, by omega, fun _ => rfl, hi⟩
  · rw [if_neg h0]
    by_cases h1 : n ≤ 256
    · rw [if_pos h1]
      obtain ⟨r, i1, h1', e, a, b', c⟩ := l1Byte_ok b i h hl hi
      rw [e]
      simp only [Option.bind_some]
      rw [if_neg (by omega)]
      have := tmod_range a (show 0 < n by omega)
      exact ⟨_, _, _, rfl, this.1, fun _ => this.2, fun h => absurd h h0, c⟩
    · rw [if_neg h1]
      obtain ⟨r1, i1, h1', e1, a1, b1, c1⟩ := l1Byte_ok b i h hl hi
      obtain ⟨r2, i2, h2', e2, a2, b2, c2⟩ := l1Byte_ok b i1 h1' hl c1
      obtain ⟨r3, i3, h3', e3, a3, b3, c3⟩ := l1Byte_ok b i2 h2' hl c2
      obtain ⟨r4, i4, h4', e4, a4, b4, c4⟩ := l1Byte_ok b i3 h3' hl c3
      rw [e1]; simp only [Option.bind_some]
      rw [e2]; simp only [Option.bind_some]
      rw [e3]; simp only [Option.bind_some]
      rw [e4]; simp only [Option.bind_some]
      rw [if_neg (by omega), wrap64_id (n := r1 * 16777216) (by omega) (by omega), wrap64_id (n := r2 * 65536) (by omega) (by omega), wrap64_id (n := r1 * 16777216 + r2 * 65536) (by omega) (by omega), wrap64_id (n := r3 * 256) (by omega) (by omega),
        wrap64_id (n := r1 * 16777216 + r2 * 65536 + r3 * 256) (by omega) (by omega), wrap64_id (n := r1 * 16777216 + r2 * 65536 + r3 * 256 + r4) (by omega) (by omega)]
      have := tmod_range (a := r1 * 16777216 + r2 * 65536 + r3 * 256 + r4) (n := n) (by omega) (by omega)
      exact ⟨_, _, _, rfl, this.1, fun _ => this.2, fun h => absurd h h0, c4⟩
theorem big_eq (l : List Int) : laws_big.f l = some (decide (1048576 < l.length)) := by
  unfold laws_big.f
  congr 1
  exact decide_eq_decide.2 ⟨fun h => by omega, fun h => by omega⟩
theorem impl_isLetters_eq (n : Int) : impl_isLetters.f n = some (inR n 1 8) := by
  unfold impl_isLetters.f
  rw [impl_inRange_eq]; rfl
theorem l1PickInt_ok (b : List Int) (i h : Int) (l : List Int) (hl : b.length ≤ 1048576) (hi : CurOk b i) (h1 : 1 ≤ l.length) : ∃ r i' h', spec_l1PickInt.f b i h l = some (r, i', h') ∧ CurOk b i' := by
  unfold spec_l1PickInt.f
  obtain ⟨r, i1, h1', e, a, b1, _, c⟩ := l1Below_ok b i h (l.length : Int) hl hi
  have := b1 (by omega)
  rw [e, Option.bind_some, if_pos a, if_pos this]
  exact ⟨_, _, _, rfl, c⟩
theorem l1Once_ok (b : List Int) (i h n : Int) (hl : b.length ≤ 1048576) (hi : CurOk b i) : ∃ r i' h', spec_l1Once.f b i h n = some (r, i', h') ∧ CurOk b i' := by
  unfold spec_l1Once.f
  obtain ⟨r, i1, h1', e, a, b1, _, c⟩ := l1Below_ok b i h n hl hi
  rw [e, Option.bind_some]
  exact ⟨_, _, _, rfl, c⟩
deriving instance DecidableEq for S68
theorem rdE_at {l : List S68} {i : Nat} (h : i < l.length) : rd_T68 l (i : Int) = l[i] := by
  simp [rd_T68, List.getD_eq_getElem?_getD, List.getElem?_eq_getElem h]
theorem rdE_set {l : List S68} {i : Nat} (h : i < l.length) (v : S68) : rd_T68 (l.set i v) (i : Int) = v := by
  rw [rdE_at (by rw [List.length_set]; exact h), List.getElem_set_self]
theorem spec_l4State_eq (x n : Int) (h0 : -1000 ≤ n) (h1 : n ≤ 1000) : spec_l4State.f x n = some (inR x 0 (n - 1)) := by
  unfold spec_l4State.f
  rw [wrap64_id (by omega) (by omega), spec_l1In_eq]; rfl
theorem spec_l4Less_eq (a b c : Int) (g : Bool) (a' b' c' : Int) (g' : Bool) : spec_l4Less.f a b c g a' b' c' g' = some (lessK (a, b, c) (a', b', c')) := by
  unfold spec_l4Less.f lessK
  by_cases h : a = a'
  · rw [if_pos h, if_pos h]
    by_cases h' : b = b'
    · rw [if_pos h', if_pos h']
    · rw [if_neg h', if_neg h']
  · rw [if_neg h, if_neg h]
theorem cmp_Compare_eq (a b : Int) : cmp_Compare_int.f a b = some (cmpZ a b) := by
  unfold cmp_Compare_int.f cmp_isNaN_int.f cmpZ
  simp only [Option.bind_some, bne_self_eq_false, Bool.false_eq_true, if_false]
  by_cases h : a < b
  · rw [if_pos h, if_pos h]
  · rw [if_neg h, if_neg h]
    by_cases h' : a > b
    · rw [if_pos h', if_pos h']
    · rw [if_neg h', if_neg h']
theorem cmp_Or_eq (a b c : Int) (k : Nat) (hk : 3 < k) : cmp_Or_int.f k [a, b, c] = some (orZ a b c) := by
  unfold cmp_Or_int.f orZ
  obtain ⟨k, rfl⟩ : ∃ m, k = m + 4 := ⟨k - 4, by omega⟩
  have e0 : rd [a, b, c] 0 = a := rfl
  have e1 : rd [a, b, c] 1 = b := rfl
  have e2 : rd [a, b, c] 2 = c := rfl
  have w0 : wrap64 (0 + 1) = 1 := by rw [wrap64_id (by omega) (by omega)]; rfl
  have w1 : wrap64 (1 + 1) = 2 := by rw [wrap64_id (by omega) (by omega)]; rfl
  have w2 : wrap64 (2 + 1) = 3 := by rw [wrap64_id (by omega) (by omega)]; rfl
  have l3 : (([a, b, c].length : Nat) : Int) = 3 := rfl
  rw [l3]
  simp only [cmp_Or_int.l0, e0, e1, e2, w0, w1, w2, l3]
  by_cases ha : a = 0
  · by_cases hb : b = 0
    · by_cases hc : c = 0
      · simp [ha, hb, hc]
      · simp [ha, hb, hc]
    · simp [ha, hb]
  · simp [ha]
theorem impl_compareEdges_eq (a b c : Int) (g : Bool) (a' b' c' : Int) (g' : Bool) (k : Nat) (hk : 3 < k) : impl_compareEdges.f k a b c g a' b' c' g' = some (cmpK (a, b, c) (a', b', c')) := by
  unfold impl_compareEdges.f
  simp only [cmp_Compare_eq, Option.bind_some, cmp_Or_eq _ _ _ k hk]
  rfl
theorem impl_headOk_eq (n st s : Int) : impl_headOk.f n st s = some (headB n st s) := by
  unfold impl_headOk.f headB
  rw [impl_isLetters_eq, impl_inRange_eq, impl_SetOk_eq]
  simp only [Option.bind_some]
  by_cases h1 : inR n 1 8 = true
  · rw [if_pos h1, h1]
    by_cases h2 : inR st 0 31 = true
    · have h2' := inR_iff.1 h2
      have hb := bitZ_le31 h2'.2
      rw [if_pos h2, h2, impl_only_eq st h2'.1 (by omega)]
      simp only [Option.bind_some, Bool.true_and]
      by_cases h3 : okB s = true
      · have h3' := inR_iff.1 h3
        rw [if_pos h3]
        congr 1
        rw [Bool.eq_iff_iff]
        simp only [decide_eq_true_eq, inR_iff]
        omega
      · rw [if_neg h3]
        congr 1
        simp only [okB, inR_iff] at h3
        symm
        rw [inR_false]
        omega
    · rw [if_neg h2]; simp at h2; rw [h2]; rfl
  · rw [if_neg h1]; simp at h1; rw [h1]; rfl
def keyE (e : S68) : Key := (e.f0, e.f1, e.f2)
def anyE (_ : S68) : Bool := true
/-- A right automaton. -/
def autoOkB (n st s : Int) (l : List S68) : Bool := headB n st s && (decide (l.length ≤ 2000) && edgesB keyE anyE n st none l)
theorem autoOk_of {n st s : Int} {l : List S68} (h : autoOkB n st s l = true) : headB n st s = true ∧ l.length ≤ 2000 ∧ edgesB keyE anyE n st none l = true := by
  simpa only [autoOkB, Bool.and_eq_true, decide_eq_true_eq] using h
theorem spec_AutoOk_l0 (n st s : Int) (l : List S68) (h0 : 0 ≤ n) (h1 : n ≤ 8) (h2 : 0 ≤ st) (h3 : st ≤ 31) (hl : l.length ≤ 1099511627776) (d : Nat) : ∀ (k i : Nat), i + d = l.length → d < k → spec_AutoOk.l0 k (i : Int) n st s l = some (edgesB keyE anyE n st (prevOf l i) (l.drop i)) := by
  induction d with
  | zero =>
    intro k i hi hk
    obtain ⟨k, rfl⟩ := succ_of hk
    simp only [spec_AutoOk.l0]
    rw [if_neg (by omega), List.drop_eq_nil_of_le (by omega)]
    rfl
  | succ d ih =>
    intro k i hi hk
    obtain ⟨k, rfl⟩ := succ_of hk
    simp only [spec_AutoOk.l0]
    rw [if_pos (by omega), if_pos (by omega), rdE_at (by omega), spec_l4State_eq _ _ (by omega) (by omega), spec_l4State_eq _ _ (by omega) (by omega), spec_l1In_eq, wrap64_id (n := n - 1) (by omega) (by omega), wrap64_succ (by omega), drop_cons (l := l) (i := i) (by omega)]
    simp only [Option.bind_some, edgesB, stOk, keyE, anyE]
    have ih' := ih k (i + 1) (by omega) (by omega)
    rw [prevOf_succ l i (by omega)] at ih'
    cases e1 : inR l[i].f0 0 (st - 1)
    · simp
    · cases e2 : inR l[i].f2 0 (st - 1)
      · simp
      · cases e3 : inR l[i].f1 0 (n - 1)
        · simp
        · simp only [if_true, Bool.true_and]
          cases i with
          | zero => rw [if_neg (by omega), ih']; simp only [prevOf, aheadK, Bool.true_and]
          | succ j =>
            have ej : wrap64 (((j + 1 : Nat) : Int) - 1) = (j : Int) := by rw [wrap64_id (by omega) (by omega)]; omega
            rw [if_pos (by omega), ej, if_pos (by omega), if_pos (by omega), rdE_at (by omega), spec_l4Less_eq, prevOf_succ l j (by omega)]
            simp only [Option.bind_some, aheadK, keyE]
            cases e4 : lessK (l[j].f0, l[j].f1, l[j].f2) (l[j + 1].f0, l[j + 1].f1, l[j + 1].f2)
            · simp
            · simp only [if_true, Bool.true_and]; exact ih'
theorem spec_AutoOk_eq (n st s : Int) (l : List S68) (hl : l.length ≤ 1099511627776) (k : Nat) (hk : l.length + 1 < k) : spec_AutoOk.f k n st s l = some (autoOkB n st s l) := by
  unfold spec_AutoOk.f autoOkB headB
  obtain ⟨k, rfl⟩ := succ_of hk
  rw [spec_l1In_eq, spec_l1In_eq]
  simp only [Option.bind_some, spec_AutoOk.j0, if_true]
  cases e1 : inR n 1 8
  · simp
  · have h1 := inR_iff.1 e1
    cases e2 : inR st 0 31
    · simp
    · have h2 := inR_iff.1 e2
      have hb := bitZ_le31 h2.2
      have hp := bitZ_pos st
      obtain ⟨m, rfl⟩ := Int.eq_ofNat_of_zero_le h2.1
      simp only [if_true, Bool.true_and]
      rw [if_pos h2.1, shl_one m (by omega), wrap64_id (by omega) (by omega), spec_SetIn_eq, in_mask s m h2.1 h2.2]
      simp only [Option.bind_some]
      cases e3 : inR s 0 (bitZ m - 1)
      · simp
      · simp only [if_true, Bool.true_and]
        by_cases h4 : (l.length : Int) > 2000
        · rw [decide_eq_true h4, if_pos rfl, decide_eq_false (by omega)]; rfl
        · rw [decide_eq_false h4, if_neg (by simp), decide_eq_true (by omega)]
          exact spec_AutoOk_l0 n m s l (by omega) (by omega) h2.1 h2.2 hl l.length k 0 (by omega) (by omega)
theorem impl_AutoOk_l0 (n st s : Int) (l : List S68) (h0 : 0 ≤ n) (h1 : n ≤ 8) (h2 : 0 ≤ st) (h3 : st ≤ 31) (hl : l.length ≤ 1099511627776) (d : Nat) : ∀ (k i : Nat), i + d = l.length → 2 * d + 10 < k → impl_AutoOk.l0 k l (l.length : Int) (i : Int) n st s l = some (edgesB keyE anyE n st (prevOf l i) (l.drop i)) := by
  induction d with
  | zero =>
    intro k i hi hk
    obtain ⟨k, rfl⟩ := succ_of hk
    simp only [impl_AutoOk.l0]
    rw [if_neg (by omega), List.drop_eq_nil_of_le (by omega)]
    rfl
  | succ d ih =>
    intro k i hi hk
    obtain ⟨k, rfl⟩ : ∃ m, k = m + 1 + 1 := ⟨k - 2, by omega⟩
    simp only [impl_AutoOk.l0]
    rw [if_pos (by omega), if_pos (by omega), if_pos (by omega), rdE_at (by omega), impl_inRange_eq, impl_inRange_eq, impl_inRange_eq, wrap64_id (n := st - 1) (by omega) (by omega), wrap64_id (n := n - 1) (by omega) (by omega), drop_cons (l := l) (i := i) (by omega)]
    simp only [Option.bind_some, edgesB, stOk, keyE, anyE, impl_AutoOk.j2, if_true]
    have ih' := ih k (i + 1) (by omega) (by omega)
    rw [prevOf_succ l i (by omega)] at ih'
    cases e1 : inR l[i].f0 0 (st - 1)
    · simp
    · cases e2 : inR l[i].f2 0 (st - 1)
      · simp
      · cases e3 : inR l[i].f1 0 (n - 1)
        · simp
        · simp only [if_true, Bool.true_and, Bool.not_true, Bool.false_eq_true, if_false]
          rw [wrap64_succ (by omega)]
          cases i with
          | zero => rw [if_neg (by omega), ih']; simp only [prevOf, aheadK, Bool.true_and]
          | succ j =>
            have ej : wrap64 (((j + 1 : Nat) : Int) - 1) = (j : Int) := by rw [wrap64_id (by omega) (by omega)]; omega
            rw [if_pos (by omega), ej, if_pos (by omega), if_pos (by omega), rdE_at (by omega), impl_compareEdges_eq _ _ _ _ _ _ _ _ k (by omega), prevOf_succ l j (by omega)]
            simp only [Option.bind_some, aheadK, keyE]
            by_cases e4 : lessK (l[j].f0, l[j].f1, l[j].f2) (l[j + 1].f0, l[j + 1].f1, l[j + 1].f2) = true
            · rw [if_neg (fun h => (cmpK_neg _ _).1 h e4), e4]
              simp only [Bool.true_and]; exact ih'
            · rw [if_pos ((cmpK_neg _ _).2 e4)]
              simp at e4; rw [e4]; rfl
theorem impl_AutoOk_eq (n st s : Int) (l : List S68) (hl : l.length ≤ 1099511627776) (k : Nat) (hk : 2 * l.length + 20 < k) : impl_AutoOk.f k n st s l = some (autoOkB n st s l) := by
  unfold impl_AutoOk.f autoOkB
  obtain ⟨k, rfl⟩ := succ_of hk
  rw [impl_headOk_eq]
  simp only [Option.bind_some, impl_AutoOk.j0, if_true]
  cases e1 : headB n st s
  · simp
  · have h := head_of e1
    simp only [if_true, Bool.true_and]
    by_cases h4 : (l.length : Int) > 2000
    · rw [decide_eq_true h4, if_pos rfl, decide_eq_false (by omega)]; rfl
    · rw [decide_eq_false h4, if_neg (by simp), decide_eq_true (by omega)]
      exact impl_AutoOk_l0 n st s l (by omega) (by omega) h.2.1.1 h.2.1.2 hl l.length k 0 (by omega) (by omega)
/-- Is there such an edge, and is it good? -/
def edgeAt (f x t : Int) : List S68 → Bool × Bool
  | [] => (false, false)
  | e :: es => if e.f0 = f then (if e.f1 = x then (if e.f2 = t then (e.f3, true) else edgeAt f x t es) else edgeAt f x t es) else edgeAt f x t es
theorem impl_AutoEdge_l0 (f x t : Int) (l : List S68) (hl : l.length ≤ 1099511627776) (d : Nat) : ∀ (k i : Nat), i + d = l.length → d < k → impl_AutoEdge.l0 k f x t l (l.length : Int) (i : Int) = some (edgeAt f x t (l.drop i)) := by
  induction d with
  | zero =>
    intro k i hi hk
    obtain ⟨k, rfl⟩ := succ_of hk
    simp only [impl_AutoEdge.l0]
    rw [if_neg (by omega), List.drop_eq_nil_of_le (by omega)]
    rfl
  | succ d ih =>
    intro k i hi hk
    obtain ⟨k, rfl⟩ := succ_of hk
    simp only [impl_AutoEdge.l0]
    rw [if_pos (by omega), if_pos (by omega), if_pos (by omega), rdE_at (by omega), wrap64_succ (by omega), ih k (i + 1) (by omega) (by omega), drop_cons (l := l) (i := i) (by omega)]
    simp only [edgeAt]
    split <;> (try split) <;> (try split) <;> rfl
theorem impl_AutoEdge_eq (n st s f x t : Int) (l : List S68) (hl : l.length ≤ 1099511627776) (k : Nat) (hk : 3 * l.length + 20 < k) : impl_AutoEdge.f k n st s l f x t = some (if autoOkB n st s l then edgeAt f x t l else (false, false)) := by
  unfold impl_AutoEdge.f
  rw [impl_AutoOk_eq n st s l hl k (by omega)]
  simp only [Option.bind_some]
  by_cases h : autoOkB n st s l = true
  · rw [if_pos h, if_pos h]
    exact impl_AutoEdge_l0 f x t l hl l.length k 0 (by omega) (by omega)
  · rw [if_neg h, if_neg h]
theorem hasZ_in {s i : Int} (h0 : 0 ≤ i) (h1 : i ≤ 30) : hasZ s i = s.toNat.testBit i.toNat := by
  unfold hasZ
  rw [inR_iff.2 ⟨h0, h1⟩]; rfl
/-- Where from and where to: numbers of states. -/
def EdgesIn (st : Int) (l : List S68) : Prop := ∀ e ∈ l, (0 ≤ e.f0 ∧ e.f0 < st) ∧ 0 ≤ e.f2 ∧ e.f2 < st
theorem edgesIn_of {n st s : Int} {l : List S68} (h : autoOkB n st s l = true) : EdgesIn st l ∧ 0 ≤ st ∧ st ≤ 31 ∧ SetZ s := by
  obtain ⟨a1, a2, a3⟩ := autoOk_of h
  have g := head_of a1
  refine ⟨fun e he => ?_, g.2.1.1, g.2.1.2, g.2.2.1, g.2.2.2.2⟩
  have := (edgesB_mem a3 he).1
  rw [stOk_iff] at this
  simp only [keyE] at this
  omega
/-- What one step by a letter leads to. -/
def stepZ (x s : Int) : Int → List S68 → Int
  | o, [] => o
  | o, e :: l => stepZ x s (if e.f1 = x then (if hasZ s e.f0 then putZ o e.f2 else o) else o) l
theorem impl_Auto_step_l0 (s x p q r st : Int) (l : List S68) (hs : SetZ s) (hl : l.length ≤ 1099511627776) (hst : st ≤ 31) (he : EdgesIn st l) (d : Nat) : ∀ (k i : Nat) (o : Int), SetZ o → i + d = l.length → d < k → impl_Auto_step.l0 k s x o l (l.length : Int) (i : Int) p q r l = some (stepZ x s o (l.drop i), p, q, r) := by
  induction d with
  | zero =>
    intro k i o ho hi hk
    obtain ⟨k, rfl⟩ := succ_of hk
    simp only [impl_Auto_step.l0]
    rw [if_neg (by omega), List.drop_eq_nil_of_le (by omega)]
    rfl
  | succ d ih =>
    intro k i o ho hi hk
    obtain ⟨k, rfl⟩ := succ_of hk
    have h1 := he _ (List.getElem_mem (show i < l.length by omega))
    have hs1 := hs.1
    have hs2 := hs.2
    have ho1 := ho.1
    have ho2 := ho.2
    simp only [impl_Auto_step.l0]
    rw [if_pos (by omega), if_pos (by omega), if_pos (by omega), rdE_at (by omega), drop_cons (l := l) (i := i) (by omega), impl_has_eq s _ (by omega) (by omega) (by omega) (by omega), impl_only_eq _ (by omega) (by omega), wrap64_succ (by omega)]
    simp only [Option.bind_some]
    rw [or_bitZ o _ (by omega) (by omega) (by omega) (by omega), ih k (i + 1) o ho (by omega) (by omega), ih k (i + 1) _ (SetZ_put ho (by omega)) (by omega) (by omega), ← hasZ_in (s := s) (i := l[i].f0) (by omega) (by omega)]
    simp only [stepZ]
    split <;> (try split) <;> rfl
theorem impl_Auto_step_eq (s x p q r st : Int) (l : List S68) (hs : SetZ s) (hl : l.length ≤ 1099511627776) (hst : st ≤ 31) (he : EdgesIn st l) (k : Nat) (hk : l.length < k) : impl_Auto_step.f k p q r l s x = some (stepZ x s 0 l, p, q, r) := by
  unfold impl_Auto_step.f
  exact impl_Auto_step_l0 s x p q r st l hs hl hst he l.length k 0 0 ⟨by omega, by omega⟩ (by omega) hk
theorem impl_AutoNext_eq (n st s a x : Int) (l : List S68) (hl : l.length ≤ 1099511627776) (k : Nat) (hk : 2 * l.length + 20 < k) : impl_AutoNext.f k n st s l a x = some (if autoOkB n st s l then (if okB a then stepZ x a 0 l else 0) else 0) := by
  unfold impl_AutoNext.f
  rw [impl_AutoOk_eq n st s l hl k (by omega), impl_SetOk_eq]
  simp only [Option.bind_some]
  by_cases h : autoOkB n st s l = true
  · rw [if_pos h, if_pos h]
    by_cases h' : okB a = true
    · obtain ⟨e1, e2, e3, _⟩ := edgesIn_of h
      rw [if_pos h', if_pos h', impl_Auto_step_eq a x n st s st l (inR_iff.1 h') hl e3 e1 k (by omega)]; rfl
    · rw [if_neg h', if_neg h']
  · rw [if_neg h, if_neg h]; split <;> rfl
abbrev fromZ (e : S68) : Int := e.f0
abbrev toZ (e : S68) : Int := e.f2
theorem edgesIn_to {st : Int} {l : List S68} (h0 : 0 ≤ st) (h : EdgesIn st l) : ∀ e ∈ l, 0 ≤ toZ e ∧ toZ e < (st.toNat : Int) := by
  intro e he
  have := h e he
  simp only [toZ]
  omega
theorem spec_l4Reach_l1 (p q r st x : Int) (l : List S68) (hl : l.length ≤ 1099511627776) (hst : st ≤ 31) (he : EdgesIn st l) (d : Nat) : ∀ (k i : Nat) (s : Int), SetZ s → i + d = l.length → d < k → spec_l4Reach.l1 k s x (i : Int) p q r l = spec_l4Reach.l0 (k - d - 1) (passZ fromZ toZ s (l.drop i)) (wrap64 (x + 1)) p q r l := by
  induction d with
  | zero =>
    intro k i s hs hi hk
    obtain ⟨k, rfl⟩ := succ_of hk
    simp only [spec_l4Reach.l1]
    rw [if_neg (by omega), List.drop_eq_nil_of_le (by omega)]
    rfl
  | succ d ih =>
    intro k i s hs hi hk
    obtain ⟨k, rfl⟩ := succ_of hk
    have h1 := he _ (List.getElem_mem (show i < l.length by omega))
    have hs1 := hs.1
    have hs2 := hs.2
    simp only [spec_l4Reach.l1]
    rw [if_pos (by omega), if_pos (by omega), rdE_at (by omega), drop_cons (l := l) (i := i) (by omega), spec_l1Has_eq s _ (by omega) (by omega), spec_l1Bit_eq _ (by omega) (by omega), wrap64_succ (by omega)]
    simp only [Option.bind_some]
    rw [or_bitZ s _ (by omega) (by omega) (by omega) (by omega), ih k (i + 1) s hs (by omega) (by omega), ih k (i + 1) _ (SetZ_put hs (by omega)) (by omega) (by omega), show k + 1 - (d + 1) - 1 = k - d - 1 by omega]
    simp only [passZ, fromZ, toZ]
    by_cases h : hasZ s l[i].f0 = true
    · rw [if_pos h, if_pos h]
    · rw [if_neg h, if_neg h]
theorem spec_l4Reach_l0 (p st r : Int) (l : List S68) (hl : l.length ≤ 1099511627776) (hst0 : 0 ≤ st) (hst : st ≤ 31) (he : EdgesIn st l) (d : Nat) : ∀ (k j : Nat) (s : Int), SetZ s → (j : Int) + d = st + 1 → d * (l.length + 2) < k → spec_l4Reach.l0 k s (j : Int) p st r l = some (iterZ fromZ toZ l d s) := by
  induction d with
  | zero =>
    intro k j s hs hj hk
    obtain ⟨k, rfl⟩ := succ_of hk
    simp only [spec_l4Reach.l0]
    rw [if_neg (by omega)]
    rfl
  | succ d ih =>
    intro k j s hs hj hk
    rw [Nat.succ_mul] at hk
    obtain ⟨k, rfl⟩ := succ_of (show 0 < k by omega)
    simp only [spec_l4Reach.l0]
    rw [if_pos (by omega)]
    have h1 := spec_l4Reach_l1 p st r st (j : Int) l hl hst he l.length k 0 s hs (by omega) (by omega)
    rw [show ((0 : Nat) : Int) = 0 from rfl, List.drop_zero, wrap64_succ (by omega)] at h1
    rw [h1, ih _ (j + 1) _ (passZ_set _ _ l (fun e h => by have := edgesIn_to hst0 he e h; omega) s hs) (by omega) (by omega)]
    rfl
theorem spec_l4Reach_eq (p st r s : Int) (l : List S68) (hl : l.length ≤ 1099511627776) (hst0 : 0 ≤ st) (hst : st ≤ 31) (he : EdgesIn st l) (hs : SetZ s) (k : Nat) (hk : 32 * (l.length + 2) < k) : spec_l4Reach.f k p st r l s = some (reachZ fromZ toZ l st.toNat s) := by
  unfold spec_l4Reach.f reachZ
  refine spec_l4Reach_l0 p st r l hl hst0 hst he (st.toNat + 1) k 0 s hs (by omega) ?_
  have : (st.toNat + 1) * (l.length + 2) ≤ 32 * (l.length + 2) := Nat.mul_le_mul_right _ (by omega)
  omega
theorem spec_AutoReach_eq (n st s a : Int) (l : List S68) (hl : l.length ≤ 1099511627776) (k : Nat) (hk : 40 * l.length + 200 < k) : spec_AutoReach.f k n st s l a = some (if autoOkB n st s l then (if okB a then reachZ fromZ toZ l st.toNat a else 0) else 0) := by
  unfold spec_AutoReach.f
  rw [spec_AutoOk_eq n st s l hl k (by omega), spec_SetOk_eq]
  simp only [Option.bind_some]
  by_cases h : autoOkB n st s l = true
  · rw [if_pos h, if_pos h]
    by_cases h' : okB a = true
    · obtain ⟨e1, e2, e3, _⟩ := edgesIn_of h
      rw [if_pos h', if_pos h', spec_l4Reach_eq n st s a l hl e2 e3 e1 (inR_iff.1 h') k (by omega)]; rfl
    · rw [if_neg h', if_neg h']
  · rw [if_neg h, if_neg h]
theorem impl_Auto_reach_l1 (p q r st s0 : Int) (l : List S68) (hl : l.length ≤ 1099511627776) (hst : st ≤ 31) (he : EdgesIn st l) (d : Nat) : ∀ (k i : Nat) (s : Int), SetZ s → i + d = l.length → d < k → impl_Auto_reach.l1 k s0 s l (l.length : Int) (i : Int) p q r l = if passZ fromZ toZ s (l.drop i) = s0 then some (s0, p, q, r) else impl_Auto_reach.l0 (k - d - 1) (passZ fromZ toZ s (l.drop i)) p q r l := by
  induction d with
  | zero =>
    intro k i s hs hi hk
    obtain ⟨k, rfl⟩ := succ_of hk
    simp only [impl_Auto_reach.l1]
    rw [if_neg (by omega), List.drop_eq_nil_of_le (by omega)]
    rfl
  | succ d ih =>
    intro k i s hs hi hk
    obtain ⟨k, rfl⟩ := succ_of hk
    have h1 := he _ (List.getElem_mem (show i < l.length by omega))
    have hs1 := hs.1
    have hs2 := hs.2
    simp only [impl_Auto_reach.l1]
    rw [if_pos (by omega), if_pos (by omega), if_pos (by omega), rdE_at (by omega), drop_cons (l := l) (i := i) (by omega), impl_has_eq s _ (by omega) (by omega) (by omega) (by omega), impl_only_eq _ (by omega) (by omega), wrap64_succ (by omega)]
    simp only [Option.bind_some]
    rw [or_bitZ s _ (by omega) (by omega) (by omega) (by omega), ih k (i + 1) s hs (by omega) (by omega), ih k (i + 1) _ (SetZ_put hs (by omega)) (by omega) (by omega), show k + 1 - (d + 1) - 1 = k - d - 1 by omega, ← hasZ_in (s := s) (i := l[i].f0) (by omega) (by omega)]
    simp only [passZ, fromZ, toZ]
    by_cases h : hasZ s l[i].f0 = true
    · rw [if_pos h, if_pos h]
    · rw [if_neg h, if_neg h]
theorem impl_Auto_reach_l0 (p q r st : Int) (l : List S68) (hl : l.length ≤ 1099511627776) (hst0 : 0 ≤ st) (hst : st ≤ 31) (he : EdgesIn st l) (d : Nat) : ∀ (k : Nat) (s : Int), SetZ s → lackZ s st.toNat ≤ d → (d + 1) * (l.length + 2) < k → impl_Auto_reach.l0 k s p q r l = some (iterZ fromZ toZ l d s, p, q, r) := by
  have hto := edgesIn_to hst0 he
  have hto' : ∀ e ∈ l, 0 ≤ toZ e ∧ toZ e ≤ 30 := fun e h => by have := hto e h; omega
  induction d with
  | zero =>
    intro k s hs hd hk
    obtain ⟨k, rfl⟩ := succ_of (show 0 < k by omega)
    simp only [impl_Auto_reach.l0]
    have h1 := impl_Auto_reach_l1 p q r st s l hl hst he l.length k 0 s hs (by omega) (by omega)
    rw [show ((0 : Nat) : Int) = 0 from rfl, List.drop_zero] at h1
    rw [h1]
    rcases passZ_lack fromZ toZ st.toNat (by omega) l hto s hs with e | e
    · rw [if_pos e]; rfl
    · omega
  | succ d ih =>
    intro k s hs hd hk
    rw [Nat.succ_mul] at hk
    obtain ⟨k, rfl⟩ := succ_of (show 0 < k by omega)
    simp only [impl_Auto_reach.l0]
    have h1 := impl_Auto_reach_l1 p q r st s l hl hst he l.length k 0 s hs (by omega) (by omega)
    rw [show ((0 : Nat) : Int) = 0 from rfl, List.drop_zero] at h1
    rw [h1]
    rcases passZ_lack fromZ toZ st.toNat (by omega) l hto s hs with e | e
    · rw [if_pos e, iterZ_fix e]
    · by_cases e' : passZ fromZ toZ s l = s
      · rw [if_pos e', iterZ_fix e']
      · rw [if_neg e', ih _ _ (passZ_set _ _ l hto' s hs) (by omega) (by omega)]
        rfl
theorem impl_Auto_reach_eq (p q r st s : Int) (l : List S68) (hl : l.length ≤ 1099511627776) (hst0 : 0 ≤ st) (hst : st ≤ 31) (he : EdgesIn st l) (hs : SetZ s) (k : Nat) (hk : 32 * (l.length + 2) < k) : impl_Auto_reach.f k p q r l s = some (reachZ fromZ toZ l st.toNat s, p, q, r) := by
  unfold impl_Auto_reach.f reachZ
  have h1 : (st.toNat + 1) * (l.length + 2) ≤ 32 * (l.length + 2) := Nat.mul_le_mul_right _ (by omega)
  rw [impl_Auto_reach_l0 p q r st l hl hst0 hst he st.toNat k s hs (lackZ_le _ _) (by omega), (iterZ_rest fromZ toZ l st.toNat (by omega) (edgesIn_to hst0 he) st.toNat s hs (lackZ_le _ _) (st.toNat + 1) (by omega)).2]
theorem impl_AutoReach_eq (n st s a : Int) (l : List S68) (hl : l.length ≤ 1099511627776) (k : Nat) (hk : 40 * l.length + 200 < k) : impl_AutoReach.f k n st s l a = some (if autoOkB n st s l then (if okB a then reachZ fromZ toZ l st.toNat a else 0) else 0) := by
  unfold impl_AutoReach.f
  rw [impl_AutoOk_eq n st s l hl k (by omega), impl_SetOk_eq]
  simp only [Option.bind_some]
  by_cases h : autoOkB n st s l = true
  · rw [if_pos h, if_pos h]
    by_cases h' : okB a = true
    · obtain ⟨e1, e2, e3, _⟩ := edgesIn_of h
      rw [if_pos h', if_pos h', impl_Auto_reach_eq n st s st a l hl e2 e3 e1 (inR_iff.1 h') k (by omega)]; rfl
    · rw [if_neg h', if_neg h']
  · rw [if_neg h, if_neg h]; split <;> rfl
/-- The edges that stay, with the states' new numbers. -/
def keepE (s : Int) (e : S68) : List S68 := if hasZ s e.f0 then (if hasZ s e.f2 then [⟨rankZ s e.f0.toNat, e.f1, rankZ s e.f2.toNat, e.f3⟩] else []) else []
def keepEs (s : Int) : List S68 → List S68
  | [] => []
  | e :: l => keepE s e ++ keepEs s l
theorem keepEs_length (s : Int) (l : List S68) : (keepEs s l).length ≤ l.length := by
  induction l with
  | nil => exact Nat.le_refl _
  | cons e l ih =>
    rw [show keepEs s (e :: l) = keepE s e ++ keepEs s l from rfl, List.length_append, List.length_cons]
    have : (keepE s e).length ≤ 1 := by
      unfold keepE
      split
      · split <;> simp
      · simp
    omega
theorem impl_Auto_kept_l1 (p q t st s A B C : Int) (l : List S68) (lst P : List Int) (hs : SetZ s) (hl : l.length ≤ 1048576) (he : EdgesIn st l) (hst0 : 0 ≤ st) (hst : st ≤ 31) (hnl : P.length = st.toNat) (hn : ∀ j : Nat, j < st.toNat → hasZ s (j : Int) = true → P.getD j 0 = rankZ s j) (d : Nat) : ∀ (k i : Nat) (acc : List S68), i + d = l.length → acc.length ≤ i → d < k →
    impl_Auto_kept.l1 k s lst P l (l.length : Int) (i : Int) p q t l A B C acc = some (A, B, C, acc ++ keepEs s (l.drop i), lst, p, q, t) := by
  induction d with
  | zero =>
    intro k i acc hi ha hk
    obtain ⟨k, rfl⟩ := succ_of hk
    simp only [impl_Auto_kept.l1]
    rw [if_neg (by omega), List.drop_eq_nil_of_le (by omega), show keepEs s [] = [] from rfl, List.append_nil]
  | succ d ih =>
    intro k i acc hi ha hk
    obtain ⟨k, rfl⟩ := succ_of hk
    have g := he _ (List.getElem_mem (show i < l.length by omega))
    have hs1 := hs.1
    have hs2 := hs.2
    simp only [impl_Auto_kept.l1]
    rw [if_pos (by omega), if_pos (by omega), if_pos (by omega), rdE_at (by omega), drop_cons (l := l) (i := i) (by omega), impl_has_eq s _ (by omega) (by omega) (by omega) (by omega), ← hasZ_in (by omega) (by omega), Option.bind_some, impl_has_eq s _ (by omega) (by omega) (by omega) (by omega), ← hasZ_in (by omega) (by omega), Option.bind_some, wrap64_succ (by omega)]
    generalize l[i] = e at g ⊢
    rw [show keepEs s (e :: l.drop (i + 1)) = keepE s e ++ keepEs s (l.drop (i + 1)) from rfl]
    by_cases h0 : hasZ s e.f0 = true
    · rw [if_pos h0]
      by_cases h2 : hasZ s e.f2 = true
      · obtain ⟨a, ea⟩ := Int.eq_ofNat_of_zero_le g.1.1
        obtain ⟨b, eb⟩ := Int.eq_ofNat_of_zero_le g.2.1
        have hk1 : keepE s e = [⟨rankZ s a, e.f1, rankZ s b, e.f3⟩] := by
          unfold keepE
          rw [if_pos h0, if_pos h2, ea, eb, Int.toNat_natCast, Int.toNat_natCast]
        rw [ea] at h0
        rw [eb] at h2
        rw [show hasZ s e.f2 = true by rw [eb]; exact h2, if_pos rfl, if_pos (by omega), if_pos (by omega), if_pos (by omega), if_pos (by omega), if_pos (by omega), hk1, ea, eb, rd_nat, rd_nat, hn a (by omega) h0, hn b (by omega) h2, ih k (i + 1) _ (by omega) (by rw [List.length_append, List.length_singleton]; omega) (by omega), List.append_assoc]
      · have hk1 : keepE s e = [] := by
          unfold keepE
          rw [if_pos h0, if_neg h2]
        rw [if_neg h2, hk1, List.nil_append, ih k (i + 1) _ (by omega) (by omega) (by omega)]
    · have hk1 : keepE s e = [] := by
        unfold keepE
        rw [if_neg h0]
      rw [if_neg h0, hk1, List.nil_append, ih k (i + 1) _ (by omega) (by omega) (by omega)]
theorem impl_Auto_kept_l0 (p q t st s A B : Int) (l : List S68) (hs : SetZ s) (ht : SetZ t) (hl : l.length ≤ 1048576) (he : EdgesIn st l) (hst0 : 0 ≤ st) (hst : st ≤ 31) (d : Nat) : ∀ (k i : Nat) (P : List Int) (a : Int), i + d = st.toNat → P.length = st.toNat → (∀ j : Nat, j < i → hasZ s (j : Int) = true → P.getD j 0 = rankZ s j) → l.length + d + 40 < k →
    impl_Auto_kept.l0 k s (listFrom s 0 st.toNat) P (listFrom s 0 st.toNat) ((listFrom s 0 st.toNat).length : Int) (rankZ s i) p q t l A B a = some (A, B, startF s t d i a, keepEs s l, listFrom s 0 st.toNat, p, q, t) := by
  have ht1 := ht.1
  have ht2 := ht.2
  induction d with
  | zero =>
    intro k i P a hi hP hn hk
    obtain ⟨k, rfl⟩ := succ_of (show 0 < k by omega)
    obtain rfl : i = st.toNat := by omega
    simp only [impl_Auto_kept.l0]
    have := impl_Auto_kept_l1 p q t st s A B a l (listFrom s 0 st.toNat) P hs hl he hst0 hst hP hn l.length k 0 [] (by omega) (by simp) (by omega)
    rw [show rankZ s st.toNat = ((listFrom s 0 st.toNat).length : Int) from rfl, if_neg (by omega), show (0 : Int) = ((0 : Nat) : Int) from rfl, this]
    rfl
  | succ d ih =>
    intro k i P a hi hP hn hk
    rw [show startF s t (d + 1) i a = startF s t d (i + 1) (if hasZ s (i : Int) then (if hasZ t (i : Int) then Go.bits .or .i64 a (bitZ (rankZ s i)) else a) else a) from rfl]
    by_cases h0 : hasZ s (i : Int) = true
    · obtain ⟨k, rfl⟩ := succ_of (show 0 < k by omega)
      have hrk := rankZ_range s i
      obtain ⟨h1, h2⟩ := listFrom_rank (n := st.toNat) (show i < st.toNat by omega) h0
      have hrd : rd (listFrom s 0 st.toNat) (rankZ s i) = (i : Int) := h2
      have hn' : ∀ j : Nat, j < i + 1 → hasZ s (j : Int) = true → (P.set i (rankZ s i)).getD j 0 = rankZ s j := by
        intro j hj hb
        by_cases h : j = i
        · subst h
          rw [List.getD_eq_getElem?_getD, List.getElem?_set_self (by omega)]; rfl
        · rw [List.getD_eq_getElem?_getD, List.getElem?_set_ne (by omega), ← List.getD_eq_getElem?_getD, hn j (by omega) hb]
      have hrec : ∀ a, impl_Auto_kept.l0 k s (listFrom s 0 st.toNat) (P.set i (rankZ s i)) (listFrom s 0 st.toNat) ((listFrom s 0 st.toNat).length : Int) (rankZ s (i + 1)) p q t l A B a = some (A, B, startF s t d (i + 1) a, keepEs s l, listFrom s 0 st.toNat, p, q, t) :=
        fun a => ih k (i + 1) _ a (by omega) (by rw [List.length_set]; exact hP) hn' (by omega)
      rw [rankZ_has h0] at hrec
      simp only [impl_Auto_kept.l0]
      rw [if_pos h1, if_pos hrk.1, if_pos h1, hrd, if_pos (by omega), if_pos (by omega), Option.bind_some, impl_has_eq t _ (by omega) (by omega) (by omega) (by omega), ← hasZ_in (by omega) (by omega), Option.bind_some, impl_only_eq _ hrk.1 (by omega), Option.bind_some, wrap64_id (n := rankZ s i + 1) (by omega) (by omega), Int.toNat_natCast, hrec, hrec, if_pos h0]
      by_cases h3 : hasZ t (i : Int) = true
      · rw [if_pos h3, if_pos h3]
      · rw [if_neg h3, if_neg h3]
    · rw [if_neg h0]
      have := ih k (i + 1) P a (by omega) hP (fun j hj hb => hn j (by
        have : j ≠ i := fun e => h0 (by rw [← e]; exact hb)
        omega) hb) (by omega)
      rw [rankZ_not h0] at this
      exact this
theorem impl_Auto_kept_eq (p st t s : Int) (l : List S68) (hs : SetZ s) (ht : SetZ t) (hl : l.length ≤ 1048576) (he : EdgesIn st l) (hst0 : 0 ≤ st) (hst : st ≤ 31) (k : Nat) (hk : l.length + 200 < k) : impl_Auto_kept.f k p st t l s = some (p, rankZ s st.toNat, startF s t st.toNat 0 0, keepEs s l, listFrom s 0 st.toNat, p, st, t) := by
  have hs1 := hs.1
  have hs2 := hs.2
  have hb := bitZ_le31 hst
  have hb0 := bitZ_pos st
  have hmod := Int.emod_nonneg s (show bitZ st ≠ 0 by omega)
  have hmod2 := Int.emod_lt_of_pos s hb0
  have hlist : listOf (s % bitZ st) = listFrom s 0 st.toNat := by
    unfold listOf
    rw [if_pos (show okB (s % bitZ st) = true from inR_iff.2 (by omega)), listFrom_mask s st hs1 hst0 31 0, show min 31 (st.toNat - 0) = st.toNat by omega]
  unfold impl_Auto_kept.f
  rw [impl_only_eq st hst0 (by omega), Option.bind_some, wrap64_id (n := bitZ st - 1) (by omega) (by omega), and_mask s st hs1 (by omega) hst0 hst, impl_SetList_eq _ k (by omega), Option.bind_some, hlist, if_pos hst0, if_pos (by omega)]
  have := impl_Auto_kept_l0 p st t st s p ((listFrom s 0 st.toNat).length : Int) l hs ht hl he hst0 hst st.toNat k 0 (List.replicate st.toNat 0) 0 (by omega) (by simp) (fun j h => absurd h (Nat.not_lt_zero _)) (by omega)
  rw [show rankZ s 0 = 0 from rfl] at this
  rw [this]
  rfl
def trimZ (n st s : Int) (l : List S68) : Int × Int × Int × List S68 × List Int := if autoOkB n st s l then (n, rankZ (reachZ fromZ toZ l st.toNat s) st.toNat, startF (reachZ fromZ toZ l st.toNat s) s st.toNat 0 0, keepEs (reachZ fromZ toZ l st.toNat s) l, listFrom (reachZ fromZ toZ l st.toNat s) 0 st.toNat) else (0, 0, 0, [], [])
theorem trimZ_length (n st s : Int) (l : List S68) : (trimZ n st s l).2.2.2.1.length ≤ l.length ∧ (trimZ n st s l).2.2.2.2.length ≤ 31 := by
  unfold trimZ
  by_cases h : autoOkB n st s l = true
  · obtain ⟨e1, e2, e3, _⟩ := edgesIn_of h
    rw [if_pos h]
    have := listFrom_length (reachZ fromZ toZ l st.toNat s) st.toNat 0
    refine ⟨keepEs_length _ _, ?_⟩
    show (listFrom (reachZ fromZ toZ l st.toNat s) 0 st.toNat).length ≤ 31
    omega
  · rw [if_neg h]; simp
theorem reach_set {st s : Int} {l : List S68} (hst0 : 0 ≤ st) (hst : st ≤ 31) (he : EdgesIn st l) (hs : SetZ s) : SetZ (reachZ fromZ toZ l st.toNat s) :=
  iterZ_set _ _ l (fun e h => by have := edgesIn_to hst0 he e h; omega) _ s hs
theorem impl_AutoTrim_eq (n st s : Int) (l : List S68) (hl : l.length ≤ 1048576) (k : Nat) (hk : 40 * l.length + 300 < k) : impl_AutoTrim.f k n st s l = some (trimZ n st s l) := by
  unfold impl_AutoTrim.f trimZ
  rw [impl_AutoOk_eq n st s l (by omega) k (by omega), Option.bind_some]
  by_cases h : autoOkB n st s l = true
  · obtain ⟨e1, e2, e3, e4⟩ := edgesIn_of h
    rw [if_pos h, if_pos h, impl_Auto_reach_eq n st s st s l (by omega) e2 e3 e1 e4 k (by omega), Option.bind_some, impl_Auto_kept_eq n st s _ l (reach_set e2 e3 e1 e4) e4 hl e1 e2 e3 k (by omega), Option.bind_some]
  · rw [if_neg h, if_neg h]
theorem keepEs_mem {s : Int} {l : List S68} {x : S68} (h : x ∈ keepEs s l) : ∃ e ∈ l, hasZ s e.f0 = true ∧ hasZ s e.f2 = true ∧ x = ⟨rankZ s e.f0.toNat, e.f1, rankZ s e.f2.toNat, e.f3⟩ := by
  induction l with
  | nil => simp [keepEs] at h
  | cons e l ih =>
    rw [show keepEs s (e :: l) = keepE s e ++ keepEs s l from rfl] at h
    rcases List.mem_append.1 h with h | h
    · unfold keepE at h
      by_cases h0 : hasZ s e.f0 = true
      · rw [if_pos h0] at h
        by_cases h2 : hasZ s e.f2 = true
        · rw [if_pos h2] at h
          exact ⟨e, List.mem_cons_self, h0, h2, List.mem_singleton.1 h⟩
        · rw [if_neg h2] at h; simp at h
      · rw [if_neg h0] at h; simp at h
    · obtain ⟨e', h1, h2⟩ := ih h
      exact ⟨e', List.mem_cons_of_mem _ h1, h2⟩
theorem rankI_less {s a b : Int} (ha : hasZ s a = true) (h : a < b) : rankZ s a.toNat < rankZ s b.toNat := by
  have := hasZ_range ha
  obtain ⟨m, rfl⟩ := Int.eq_ofNat_of_zero_le this.1
  exact rankZ_less ha (by omega)
theorem keepEs_right {n st s : Int} (l : List S68) : ∀ (p p' : Option S68), edgesB keyE anyE n st p l = true →
    (∀ q', p' = some q' → ∃ q0 : S68, hasZ s q0.f0 = true ∧ hasZ s q0.f2 = true ∧ q'.f0 = rankZ s q0.f0.toNat ∧ q'.f1 = q0.f1 ∧ q'.f2 = rankZ s q0.f2.toNat ∧ ∀ e ∈ l, lessK (keyE q0) (keyE e) = true) →
    edgesB keyE anyE n (rankZ s st.toNat) p' (keepEs s l) = true := by
  induction l with
  | nil => intros; rfl
  | cons e l ih =>
    intro p p' h hp
    simp only [edgesB, Bool.and_eq_true] at h
    obtain ⟨h1, h2, h3, h4⟩ := h
    have hp1 : ∀ q', p' = some q' → ∃ q0 : S68, hasZ s q0.f0 = true ∧ hasZ s q0.f2 = true ∧ q'.f0 = rankZ s q0.f0.toNat ∧ q'.f1 = q0.f1 ∧ q'.f2 = rankZ s q0.f2.toNat ∧ ∀ x ∈ l, lessK (keyE q0) (keyE x) = true := fun q' hq => by
      obtain ⟨q0, a0, a1, a2, a3, a4, a5⟩ := hp q' hq
      exact ⟨q0, a0, a1, a2, a3, a4, fun x hx => a5 x (List.mem_cons_of_mem _ hx)⟩
    rw [show keepEs s (e :: l) = keepE s e ++ keepEs s l from rfl]
    unfold keepE
    by_cases b0 : hasZ s e.f0 = true
    · rw [if_pos b0]
      by_cases b2 : hasZ s e.f2 = true
      · rw [if_pos b2, List.singleton_append]
        rw [stOk_iff] at h1
        simp only [keyE] at h1
        simp only [edgesB, Bool.and_eq_true]
        have r0 := rankZ_range s e.f0.toNat
        have r2 := rankZ_range s e.f2.toNat
        refine ⟨?_, rfl, ?_, ih (some e) _ h4 ?_⟩
        · rw [stOk_iff]
          simp only [keyE]
          have t0 := rankI_less b0 (show e.f0 < st by omega)
          have t2 := rankI_less b2 (show e.f2 < st by omega)
          omega
        · cases p' with
          | none => rfl
          | some q' =>
            obtain ⟨q0, a0, a1, a2, a3, a4, a5⟩ := hp q' rfl
            have hl := a5 e List.mem_cons_self
            show lessK (keyE q') _ = true
            rw [lessK_iff] at hl ⊢
            simp only [keyE] at hl ⊢
            rw [a2, a3, a4]
            rcases hl with hl | ⟨e0, hl | ⟨e1, hl⟩⟩
            · exact .inl (rankI_less a0 hl)
            · exact .inr ⟨by rw [e0], .inl hl⟩
            · exact .inr ⟨by rw [e0], .inr ⟨e1, rankI_less a1 hl⟩⟩
        · intro q' hq
          obtain rfl := Option.some.inj hq
          exact ⟨e, b0, b2, rfl, rfl, rfl, edgesB_less h4⟩
      · rw [if_neg b2, List.nil_append]
        exact ih (some e) p' h4 hp1
    · rw [if_neg b0, List.nil_append]
      exact ih (some e) p' h4 hp1
theorem edgeAt_mem {n st : Int} (l : List S68) : ∀ (p : Option S68), edgesB keyE anyE n st p l = true → ∀ e ∈ l, edgeAt e.f0 e.f1 e.f2 l = (e.f3, true) := by
  induction l with
  | nil => intro p _ e he; simp at he
  | cons y l ih =>
    intro p h e he
    simp only [edgesB, Bool.and_eq_true] at h
    obtain ⟨h1, h2, h3, h4⟩ := h
    rcases List.mem_cons.1 he with rfl | he
    · simp [edgeAt]
    · have hl := edgesB_less h4 e he
      rw [lessK_iff] at hl
      simp only [keyE] at hl
      simp only [edgeAt]
      rw [ih (some y) h4 e he]
      by_cases c0 : y.f0 = e.f0
      · rw [if_pos c0]
        by_cases c1 : y.f1 = e.f1
        · rw [if_pos c1, if_neg (by omega)]
        · rw [if_neg c1]
      · rw [if_neg c0]
theorem stepZ_sub {x s b : Int} (l : List S68) : (∀ e ∈ l, 0 ≤ e.f2 ∧ e.f2 ≤ 30) → (∀ e ∈ l, hasZ s e.f0 = true → hasZ b e.f2 = true) → ∀ o, SetZ o → subZ o b → SetZ (stepZ x s o l) ∧ subZ (stepZ x s o l) b := by
  induction l with
  | nil => intro _ _ o h1 h2; exact ⟨h1, h2⟩
  | cons e l ih =>
    intro hl hc o h1 h2
    have he := hl e List.mem_cons_self
    have ih' := ih (fun y hy => hl y (List.mem_cons_of_mem _ hy)) (fun y hy => hc y (List.mem_cons_of_mem _ hy))
    simp only [stepZ]
    by_cases c1 : e.f1 = x
    · rw [if_pos c1]
      by_cases c2 : hasZ s e.f0 = true
      · rw [if_pos c2]
        refine ih' _ (SetZ_put h1 he.2) (fun i hi => ?_)
        rw [hasZ_put he.1 he.2, Bool.or_eq_true] at hi
        rcases hi with hi | hi
        · exact h2 i hi
        · rw [decide_eq_true_eq] at hi
          rw [hi]
          exact hc e List.mem_cons_self c2
      · rw [if_neg c2]; exact ih' o h1 h2
    · rw [if_neg c1]; exact ih' o h1 h2
/-- What FnReach4 asks of a right automaton, as plain facts. -/
theorem reach4_facts {n st s a : Int} {l : List S68} (h : autoOkB n st s l = true) (ha : SetZ a) :
    (∀ x, (okB (stepZ x (reachZ fromZ toZ l st.toNat a) 0 l) && okB (reachZ fromZ toZ l st.toNat a) && (Go.bits .and .i64 (stepZ x (reachZ fromZ toZ l st.toNat a) 0 l) (reachZ fromZ toZ l st.toNat a) == stepZ x (reachZ fromZ toZ l st.toNat a) 0 l)) = true) ∧
    (okB a && okB (reachZ fromZ toZ l st.toNat a) && (Go.bits .and .i64 a (reachZ fromZ toZ l st.toNat a) == a)) = true := by
  obtain ⟨e1, e2, e3, e4⟩ := edgesIn_of h
  have hto := edgesIn_to e2 e1
  have hto' : ∀ e ∈ l, 0 ≤ toZ e ∧ toZ e ≤ 30 := fun e he => by have := hto e he; omega
  have hR := reach_set e2 e3 e1 ha
  have hcl := passZ_closed fromZ toZ l hto' _ hR (reachZ_rest fromZ toZ l st.toNat (by omega) hto a ha)
  have hsub : subZ a (reachZ fromZ toZ l st.toNat a) := iterZ_mono fromZ toZ l hto' _ a
  constructor
  · intro x
    have h1 := stepZ_sub (x := x) (s := reachZ fromZ toZ l st.toNat a) l hto' hcl 0 ⟨by omega, by omega⟩ (fun i hi => by
      exfalso
      unfold hasZ at hi
      simp at hi)
    rw [and_subZ h1.1 hR h1.2, beq_self_eq_true, show okB (stepZ x (reachZ fromZ toZ l st.toNat a) 0 l) = true from inR_iff.2 h1.1, show okB (reachZ fromZ toZ l st.toNat a) = true from inR_iff.2 hR]
    rfl
  · rw [and_subZ ha hR hsub, beq_self_eq_true, show okB a = true from inR_iff.2 ha, show okB (reachZ fromZ toZ l st.toNat a) = true from inR_iff.2 hR]
    rfl
theorem trim_facts {n st s : Int} {l : List S68} (h : autoOkB n st s l = true) (R : Int) (hR : R = reachZ fromZ toZ l st.toNat s) :
    autoOkB n (rankZ R st.toNat) (startF R s st.toNat 0 0) (keepEs R l) = true ∧ ((listOf R).length : Int) = rankZ R st.toNat ∧
    ∀ x ∈ keepEs R l, 0 ≤ x.f0 ∧ x.f0 < rankZ R st.toNat ∧ 0 ≤ x.f2 ∧ x.f2 < rankZ R st.toNat ∧ edgeAt (rd (listFrom R 0 st.toNat) x.f0) x.f1 (rd (listFrom R 0 st.toNat) x.f2) l = (x.f3, true) := by
  obtain ⟨e1, e2, e3, e4⟩ := edgesIn_of h
  obtain ⟨a1, a2, a3⟩ := autoOk_of h
  have g := head_of a1
  have hto := edgesIn_to e2 e1
  have hto' : ∀ e ∈ l, 0 ≤ toZ e ∧ toZ e ≤ 30 ∧ toZ e < st := fun e he => by have := hto e he; omega
  have hRz := reach_set e2 e3 e1 e4
  rw [← hR] at hRz
  have hbel : ∀ i, hasZ R i = true → i < st := by
    rw [hR]
    exact iterZ_below fromZ toZ st l hto' _ s (hasZ_below g.2.2.1 g.2.2.2.1 e2)
  have hrk := rankZ_range R st.toNat
  have hst := startF_range R s st.toNat 0 0 (by omega) (Int.le_refl _) (by
    have := bitZ_pos (rankZ R 0)
    exact this)
  rw [Nat.zero_add] at hst
  refine ⟨?_, ?_, ?_⟩
  · unfold autoOkB headB
    rw [inR_iff.2 g.1, inR_iff.2 (show 0 ≤ rankZ R st.toNat ∧ rankZ R st.toNat ≤ 31 by omega), inR_iff.2 (show 0 ≤ startF R s st.toNat 0 0 ∧ startF R s st.toNat 0 0 ≤ bitZ (rankZ R st.toNat) - 1 by omega), decide_eq_true (show (keepEs R l).length ≤ 2000 by have := keepEs_length R l; omega), keepEs_right l none none a3 (fun q' hq => by cases hq)]
    rfl
  · unfold listOf
    rw [if_pos (show okB R = true from inR_iff.2 hRz), listFrom_all (n := st.toNat) (by omega) (fun i hi => by have := hbel i hi; omega)]
    rfl
  · intro x hx
    obtain ⟨e, he, b0, b2, rfl⟩ := keepEs_mem hx
    have hin := e1 e he
    have r0 := rankZ_range R e.f0.toNat
    have r2 := rankZ_range R e.f2.toNat
    have t0 := rankI_less b0 hin.1.2
    have t2 := rankI_less b2 hin.2.2
    have hrd : ∀ y : Int, hasZ R y = true → y < st → rd (listFrom R 0 st.toNat) (rankZ R y.toNat) = y := by
      intro y hy hlt
      have hr := hasZ_range hy
      obtain ⟨m, rfl⟩ := Int.eq_ofNat_of_zero_le hr.1
      exact (listFrom_rank (n := st.toNat) (show m < st.toNat by omega) hy).2
    refine ⟨r0.1, t0, r2.1, t2, ?_⟩
    show edgeAt (rd (listFrom R 0 st.toNat) (rankZ R e.f0.toNat)) e.f1 (rd (listFrom R 0 st.toNat) (rankZ R e.f2.toNat)) l = (e.f3, true)
    rw [hrd _ b0 hin.1.2, hrd _ b2 hin.2.2]
    exact edgeAt_mem l none a3 e he
theorem l1PickInt_mem (b : List Int) (i h : Int) (l : List Int) (hl : b.length ≤ 1048576) (hi : CurOk b i) (h1 : 1 ≤ l.length) : ∃ r i' h', spec_l1PickInt.f b i h l = some (r, i', h') ∧ r ∈ l ∧ CurOk b i' := by
  unfold spec_l1PickInt.f
  obtain ⟨r, i1, h1', e, a, b1, _, c⟩ := l1Below_ok b i h (l.length : Int) hl hi
  have hlt := b1 (by omega)
  rw [e, Option.bind_some, if_pos a, if_pos hlt]
  refine ⟨_, _, _, rfl, ?_, c⟩
  obtain ⟨m, rfl⟩ := Int.eq_ofNat_of_zero_le a
  show rd l (m : Int) ∈ l
  rw [rd_at (show m < l.length by omega)]
  exact List.getElem_mem _
theorem drawEdges_l0 (b : List Int) (x y : Int) (hl : b.length ≤ 1048576) (n : Nat) (hn : n ≤ 1000) (d : Nat) : ∀ (k j : Nat) (i h : Int) (o : List S68), CurOk b i → j + d = n → o.length ≤ j → d < k → ∃ o' i' h', spec_l4DrawEdges.l0 k x y (n : Int) o (j : Int) b i h = some (o', i', h') ∧ o'.length ≤ n ∧ CurOk b i' := by
  induction d with
  | zero =>
    intro k j i h o hi hj ho hk
    obtain ⟨k, rfl⟩ := succ_of hk
    simp only [spec_l4DrawEdges.l0]
    rw [if_neg (by omega)]
    exact ⟨_, _, _, rfl, by omega, hi⟩
  | succ d ih =>
    intro k j i h o hi hj ho hk
    obtain ⟨k, rfl⟩ := succ_of hk
    obtain ⟨r1, i1, h1, e1, _, _, _, c1⟩ := l1Below_ok b i h y hl hi
    obtain ⟨r2, i2, h2, e2, _, _, _, c2⟩ := l1Below_ok b i1 h1 x hl c1
    obtain ⟨r3, i3, h3, e3, _, _, _, c3⟩ := l1Below_ok b i2 h2 y hl c2
    obtain ⟨r4, i4, h4, e4, c4⟩ := l1Once_ok b i3 h3 3 hl c3
    simp only [spec_l4DrawEdges.l0]
    rw [if_pos (by omega), e1, Option.bind_some]
    dsimp only
    rw [e2, Option.bind_some]
    dsimp only
    rw [e3, Option.bind_some]
    dsimp only
    rw [e4, Option.bind_some]
    dsimp only
    rw [if_pos (by omega), wrap64_succ (by omega)]
    exact ih k (j + 1) _ _ _ c4 (by omega) (by rw [List.length_append, List.length_singleton]; omega) (by omega)
theorem drawEdges_ok (b : List Int) (i h x y m : Int) (hl : b.length ≤ 1048576) (hi : CurOk b i) (h0 : 0 ≤ m) (hm : m ≤ 1000) (k : Nat) (hk : 1001 < k) : ∃ o' i' h', spec_l4DrawEdges.f k b i h x y m = some (o', i', h') ∧ o'.length ≤ 1000 ∧ CurOk b i' := by
  unfold spec_l4DrawEdges.f
  obtain ⟨n, rfl⟩ := Int.eq_ofNat_of_zero_le h0
  obtain ⟨o', i', h', e, e1, e2⟩ := drawEdges_l0 b x y hl n (by omega) n k 0 i h [] hi (by omega) (by simp) (by omega)
  exact ⟨o', i', h', e, by omega, e2⟩
theorem autoMake_l1 (n st p q r : Int) (M : List Int) (hM : M.length ≤ 1000000) (hst : 0 < M.length → st ≠ 0) (hn : n ≠ 0) (d : Nat) : ∀ (k i : Nat) (o : List S68), i + d = M.length → o.length ≤ i → d < k → ∃ l', spec_AutoMake.l1 k n st M (i : Int) p q r o = some (p, q, r, l', true) ∧ l'.length ≤ M.length := by
  induction d with
  | zero =>
    intro k i o hi ho hk
    obtain ⟨k, rfl⟩ := succ_of hk
    simp only [spec_AutoMake.l1]
    rw [if_neg (by omega)]
    exact ⟨_, rfl, by omega⟩
  | succ d ih =>
    intro k i o hi ho hk
    obtain ⟨k, rfl⟩ := succ_of hk
    simp only [spec_AutoMake.l1]
    rw [if_pos (by omega), if_pos (by omega), wrap64_succ (by omega)]
    by_cases h : rd M (i : Int) > 0
    · rw [if_pos h, if_neg (hst (by omega)), if_neg hn, if_pos (by omega)]
      exact ih k (i + 1) _ (by omega) (by rw [List.length_append, List.length_singleton]; omega) (by omega)
    · rw [if_neg h]
      exact ih k (i + 1) _ (by omega) (by omega) (by omega)
theorem l1Max_ok (a b : Int) : ∃ m, spec_l1Max.f a b = some m := by
  unfold spec_l1Max.f
  split <;> exact ⟨_, rfl⟩
theorem cube_le {n st : Int} (hn0 : 0 ≤ n) (hn : n ≤ 8) (h0 : 0 ≤ st) (h1 : st ≤ 31) : 0 ≤ st * n ∧ st * n ≤ 248 ∧ 0 ≤ st * n * st ∧ st * n * st ≤ 7688 := by
  have a1 : 0 ≤ st * n := Int.mul_nonneg h0 hn0
  have a2 : st * n ≤ 31 * 8 := Int.mul_le_mul h1 hn hn0 (by omega)
  have a3 : 0 ≤ st * n * st := Int.mul_nonneg a1 h0
  have a4 : st * n * st ≤ 248 * 31 := Int.mul_le_mul (by omega) h1 h0 (by omega)
  omega
theorem autoMake_at {n st a x c : Int} (hn : 1 ≤ n ∧ n ≤ 8) (hst : 0 ≤ st ∧ st ≤ 31) (ha : 0 ≤ a ∧ a ≤ st - 1) (hx : 0 ≤ x ∧ x ≤ n - 1) (hc : 0 ≤ c ∧ c ≤ st - 1) :
    wrap64 ((wrap64 ((wrap64 ((wrap64 (a * n)) + x)) * st)) + c) = (a * n + x) * st + c ∧ 0 ≤ (a * n + x) * st + c ∧ (a * n + x) * st + c < st * n * st := by
  have hb := cube_le (n := n) (st := st) (by omega) hn.2 hst.1 hst.2
  have h0 : 0 ≤ a * n := Int.mul_nonneg ha.1 (by omega)
  have h1 : (a + 1) * n ≤ st * n := Int.mul_le_mul_of_nonneg_right (by omega) (by omega)
  rw [Int.add_mul, Int.one_mul] at h1
  have h2 : 0 ≤ (a * n + x) * st := Int.mul_nonneg (by omega) hst.1
  have h3 : (a * n + x + 1) * st ≤ st * n * st := Int.mul_le_mul_of_nonneg_right (by omega) hst.1
  rw [Int.add_mul, Int.one_mul] at h3
  rw [wrap64_id (n := a * n) (by omega) (by omega), wrap64_id (n := a * n + x) (by omega) (by omega), wrap64_id (n := (a * n + x) * st) (by omega) (by omega), wrap64_id (n := (a * n + x) * st + c) (by omega) (by omega)]
  omega
theorem autoMake_l0 (n st p q r : Int) (hn : 1 ≤ n ∧ n ≤ 8) (hst : 0 ≤ st ∧ st ≤ 31) (l : List S68) (hl : l.length ≤ 2000) (d : Nat) : ∀ (k i : Nat) (M : List Int), (M.length : Int) = st * n * st → i + d = l.length → 2 * d + 8000 < k →
    ∃ a b c l' ok, spec_AutoMake.l0 k n st l M (i : Int) p q r = some (a, b, c, l', ok) ∧ l'.length ≤ 7688 := by
  have hb := cube_le (n := n) (st := st) (by omega) hn.2 hst.1 hst.2
  induction d with
  | zero =>
    intro k i M hM hi hk
    obtain ⟨k, rfl⟩ := succ_of (show 0 < k by omega)
    simp only [spec_AutoMake.l0]
    rw [if_neg (by omega)]
    obtain ⟨l', e, h⟩ := autoMake_l1 n st p q r M (by omega) (fun h0 e => by rw [e, Int.mul_zero] at hM; omega) (by omega) M.length k 0 [] (by omega) (by simp) (by omega)
    exact ⟨_, _, _, _, _, e, by omega⟩
  | succ d ih =>
    intro k i M hM hi hk
    obtain ⟨k, rfl⟩ : ∃ k', k = k' + 2 := ⟨k - 2, by omega⟩
    have hbad : ∀ (a b c : Int) (g : Bool), ∃ a' b' c' l' ok, spec_AutoMake.j2 (k + 1) n st l M (i : Int) true p q r a b c g = some (a', b', c', l', ok) ∧ l'.length ≤ 7688 := fun a b c g => by
      rw [spec_AutoMake.j2, if_pos rfl]
      exact ⟨_, _, _, _, _, rfl, by simp⟩
    rw [spec_AutoMake.l0, if_pos (by omega), if_pos (by omega), rdE_at (by omega), spec_l4State_eq _ st (by omega) (by omega), Option.bind_some]
    generalize l[i] = e
    by_cases c0 : inR e.f0 0 (st - 1) = true
    · rw [if_pos c0, spec_l4State_eq _ st (by omega) (by omega), Option.bind_some]
      by_cases c2 : inR e.f2 0 (st - 1) = true
      · rw [if_pos c2, wrap64_id (n := n - 1) (by omega) (by omega), spec_l1In_eq, Option.bind_some]
        by_cases c1 : inR e.f1 0 (n - 1) = true
        · obtain ⟨a1, a2, a3⟩ := autoMake_at hn hst (inR_iff.1 c0) (inR_iff.1 c1) (inR_iff.1 c2)
          rw [c1, spec_AutoMake.j2, if_neg (by simp)]
          by_cases g : e.f3 = true
          · obtain ⟨m, hm⟩ := l1Max_ok (rd M ((e.f0 * n + e.f1) * st + e.f2)) 2
            rw [if_pos g, a1, if_pos a2, if_pos (by omega), hm, Option.bind_some, wrap64_succ (by omega)]
            exact ih k (i + 1) _ (by rw [List.length_set]; exact hM) (by omega) (by omega)
          · obtain ⟨m, hm⟩ := l1Max_ok (rd M ((e.f0 * n + e.f1) * st + e.f2)) 1
            rw [if_neg g, a1, if_pos a2, if_pos (by omega), hm, Option.bind_some, wrap64_succ (by omega)]
            exact ih k (i + 1) _ (by rw [List.length_set]; exact hM) (by omega) (by omega)
        · simp at c1
          rw [c1]
          exact hbad _ _ _ _
      · rw [if_neg c2]
        exact hbad _ _ _ _
    · rw [if_neg c0]
      exact hbad _ _ _ _
theorem autoMake_ok (n st s : Int) (l : List S68) (hl : l.length ≤ 2000) (k : Nat) (hk : 20000 < k) : ∃ a b c l' ok, spec_AutoMake.f k n st s l = some (a, b, c, l', ok) ∧ l'.length ≤ 7688 := by
  unfold spec_AutoMake.f
  obtain ⟨k, rfl⟩ : ∃ k', k = k' + 1 := ⟨k - 1, by omega⟩
  rw [spec_AutoOk_eq n st s [] (by simp) _ (by simp; omega), Option.bind_some, spec_AutoMake.j0, spec_AutoMake.j0]
  by_cases h : autoOkB n st s ([] : List S68) = true
  · have g := head_of (autoOk_of h).1
    have hb := cube_le (n := n) (st := st) (by omega) g.1.2 g.2.1.1 g.2.1.2
    rw [if_pos h, decide_eq_false (by omega), if_neg (by simp), wrap64_id (n := st * n) (by omega) (by omega), wrap64_id (n := st * n * st) (by omega) (by omega), if_pos (by omega), if_pos (by omega)]
    exact autoMake_l0 n st n st s g.1 g.2.1 l hl l.length k 0 _ (by rw [List.length_replicate]; omega) (by omega) (by omega)
  · rw [if_neg h, if_pos rfl]
    exact ⟨_, _, _, _, _, rfl, by simp⟩
theorem drawRight4_ok (b : List Int) (i h a : Int) (hl : b.length ≤ 1048576) (hi : CurOk b i) (ha : 1 ≤ a ∧ a ≤ 4) (k : Nat) (hk : 20000 < k) : ∃ n st s l i' h', spec_l4DrawRight.f k b i h a 8 = some (n, st, s, l, i', h') ∧ l.length ≤ 7688 ∧ CurOk b i' := by
  unfold spec_l4DrawRight.f
  obtain ⟨r1, i1, h1, e1, p1, q1, _, c1⟩ := l1Below_ok b i h 8 hl hi
  have q1' := q1 (by omega)
  rw [e1, Option.bind_some]
  dsimp only
  rw [wrap64_id (n := 1 + r1) (by omega) (by omega), if_pos (by omega)]
  obtain ⟨r2, i2, h2, e2, p2, q2, _, c2⟩ := l1Below_ok b i1 h1 (shl .i64 1 (1 + r1)) hl c1
  rw [e2, Option.bind_some]
  dsimp only
  have m1 : 0 ≤ (2 * (1 + r1)) * a := Int.mul_nonneg (by omega) (by omega)
  have m2 : (2 * (1 + r1)) * a ≤ 16 * 4 := Int.mul_le_mul (by omega) ha.2 (by omega) (by omega)
  rw [wrap64_id (n := 2 * (1 + r1)) (by omega) (by omega), wrap64_id (n := 2 * (1 + r1) * a) (by omega) (by omega)]
  obtain ⟨r3, i3, h3, e3, p3, q3, z3, c3⟩ := l1Below_ok b i2 h2 (2 * (1 + r1) * a) hl c2
  rw [e3, Option.bind_some]
  dsimp only
  have m3 : r3 ≤ 64 := by
    by_cases hz : 0 < 2 * (1 + r1) * a
    · have := q3 hz; omega
    · have := z3 (by omega); omega
  rw [wrap64_id (n := 1 + r3) (by omega) (by omega)]
  obtain ⟨o, i4, h4, e4, l4, c4⟩ := drawEdges_ok b i3 h3 a (1 + r1) (1 + r3) hl c3 (by omega) (by omega) k (by omega)
  rw [e4, Option.bind_some]
  dsimp only
  obtain ⟨n, st, s, l, ok, e5, l5⟩ := autoMake_ok a (1 + r1) (Go.bits .or .i64 1 r2) o (by omega) k hk
  rw [e5, Option.bind_some]
  exact ⟨_, _, _, _, _, _, rfl, l5, c4⟩
theorem drawAuto_ok (b : List Int) (i h : Int) (hl : b.length ≤ 1048576) (hi : CurOk b i) (k : Nat) (hk : 20000 < k) : ∃ n st s l i' h', spec_l4DrawAuto.f k b i h 8 = some (n, st, s, l, i', h') ∧ l.length ≤ 7689 ∧ CurOk b i' := by
  unfold spec_l4DrawAuto.f
  obtain ⟨a, i1, h1, e1, m1, c1⟩ := l1PickInt_mem b i h [1, 2, 2, 2, 3, 4] hl hi (by simp)
  have ha : 1 ≤ a ∧ a ≤ 4 := by
    simp only [List.mem_cons, List.not_mem_nil, or_false] at m1
    omega
  rw [e1, Option.bind_some]
  dsimp only
  obtain ⟨n, st, s, l, i2, h2, e2, l2, c2⟩ := drawRight4_ok b i1 h1 a hl c1 ha k hk
  rw [e2, Option.bind_some]
  dsimp only
  obtain ⟨r, i3, h3, e3, _, _, _, c3⟩ := l1Below_ok b i2 h2 30 hl c2
  rw [e3, Option.bind_some]
  dsimp only
  obtain ⟨x0, j0, g0, f0, d0⟩ := l1PickInt_ok b i3 h3 [0, 8, 9] hl c3 (by simp)
  obtain ⟨x1, j1, g1, f1, d1⟩ := l1PickInt_ok b i3 h3 [0, -1, 31, 32] hl c3 (by simp)
  obtain ⟨x2, j2, g2, f2, d2⟩ := l1PickInt_ok b i3 h3 [-1, 0, 1048576] hl c3 (by simp)
  rw [f0, Option.bind_some, f1, Option.bind_some, f2, Option.bind_some]
  dsimp only
  by_cases z0 : r = 0
  · rw [if_pos z0]; exact ⟨_, _, _, _, _, _, rfl, by omega, d0⟩
  · rw [if_neg z0]
    by_cases z1 : r = 1
    · rw [if_pos z1]; exact ⟨_, _, _, _, _, _, rfl, by omega, d1⟩
    · rw [if_neg z1]
      by_cases z2 : r = 2
      · rw [if_pos z2]; exact ⟨_, _, _, _, _, _, rfl, by omega, d2⟩
      · rw [if_neg z2]
        by_cases z3 : r = 3
        · rw [if_pos z3, if_pos (by omega)]; exact ⟨_, _, _, _, _, _, rfl, by rw [List.length_append, List.length_singleton]; omega, c3⟩
        · rw [if_neg z3]
          by_cases z4 : r = 4
          · rw [if_pos z4, if_pos (by omega)]; exact ⟨_, _, _, _, _, _, rfl, by rw [List.length_append, List.length_singleton]; omega, c3⟩
          · rw [if_neg z4]; exact ⟨_, _, _, _, _, _, rfl, by omega, c3⟩
theorem drawSet_ok (b : List Int) (i h : Int) (hl : b.length ≤ 1048576) (hi : CurOk b i) : ∃ x i' h', spec_l1DrawSet.f b i h = some (x, i', h') := by
  unfold spec_l1DrawSet.f
  obtain ⟨r, i3, h3, e3, _, _, _, c3⟩ := l1Below_ok b i h 15 hl hi
  rw [e3, Option.bind_some]
  dsimp only
  obtain ⟨x0, j0, g0, f0, d0⟩ := l1PickInt_ok b i3 h3 [0, -1, 2147483647, 2147483648, 1073741824] hl c3 (by simp)
  obtain ⟨x1, j1, g1, f1, _⟩ := l1Below_ok b i3 h3 2147483647 hl c3
  obtain ⟨x2, j2, g2, f2, _⟩ := l1Below_ok b i3 h3 256 hl c3
  rw [f0, Option.bind_some, f1, Option.bind_some, f2, Option.bind_some]
  split
  · exact ⟨_, _, _, rfl⟩
  · split <;> exact ⟨_, _, _, rfl⟩
theorem drawAutoReach_ok (b : List Int) (hl : b.length ≤ 1048576) (k : Nat) (hk : 20000 < k) : ∃ n st s l x, spec_DrawAutoReach.f k b = some (n, st, s, l, x) ∧ l.length ≤ 7689 := by
  unfold spec_DrawAutoReach.f
  obtain ⟨h, e1⟩ := l1New_ok b k (by omega)
  rw [e1, Option.bind_some]
  dsimp only
  obtain ⟨n, st, s, l, i', h', e2, l2, c2⟩ := drawAuto_ok b 0 h hl ⟨by omega, by omega⟩ k hk
  rw [e2, Option.bind_some]
  dsimp only
  obtain ⟨x, i3, h3, e3⟩ := drawSet_ok b i' h' hl c2
  rw [e3, Option.bind_some]
  exact ⟨_, _, _, _, _, rfl, l2⟩
end hFnReach4
open hFnReach4
theorem reach4_l1 (n st s p q r : Int) (es E : List S68) (ps : List Int) (h : autoOkB n st s es = true) (hes : es.length ≤ 10000) (hE : E.length ≤ 10000)
    (hf : ∀ x ∈ E, 0 ≤ x.f0 ∧ x.f0 < (ps.length : Int) ∧ 0 ≤ x.f2 ∧ x.f2 < (ps.length : Int) ∧ edgeAt (rd ps x.f0) x.f1 (rd ps x.f2) es = (x.f3, true)) (d : Nat) : ∀ (k i : Nat), i + d = E.length → d + 300000 < k → laws_FnReach4.l1 k ps (i : Int) n st s es p q r E = some true := by
  induction d with
  | zero =>
    intro k i hi hk
    obtain ⟨k, rfl⟩ := succ_of (show 0 < k by omega)
    rw [laws_FnReach4.l1, if_neg (by omega)]
  | succ d ih =>
    intro k i hi hk
    obtain ⟨k, rfl⟩ := succ_of (show 0 < k by omega)
    obtain ⟨h0, h1, h2, h3, h4⟩ := hf _ (List.getElem_mem (show i < E.length by omega))
    rw [laws_FnReach4.l1, if_pos (by omega), if_pos (by omega), rdE_at (by omega), if_pos h0, if_pos h1, if_pos h2, if_pos h3, impl_AutoEdge_eq n st s _ _ _ es (by omega) k (by omega), Option.bind_some, if_pos h, h4, if_pos rfl, if_neg (by simp), wrap64_succ (by omega)]
    exact ih k (i + 1) (by omega) (by omega)
theorem reach4_l0 (n st s x : Int) (es : List S68) (h : autoOkB n st s es = true) (hx : okB x = true) (hes : es.length ≤ 7689) (d : Nat) : ∀ (k i : Nat), (i : Int) + d = n → d + 400000 < k → laws_FnReach4.l0 k x (reachZ fromZ toZ es st.toNat x) (i : Int) n st s es = some true := by
  obtain ⟨f1, f2⟩ := reach4_facts h (inR_iff.1 hx : SetZ x)
  have g := head_of (autoOk_of h).1
  induction d with
  | zero =>
    intro k i hi hk
    obtain ⟨k, rfl⟩ := succ_of (show 0 < k by omega)
    obtain ⟨R, hR⟩ : ∃ R, R = reachZ fromZ toZ es st.toNat s := ⟨_, rfl⟩
    obtain ⟨t1, t2, t3⟩ := trim_facts h R hR
    have hsz : okB s = true := inR_iff.2 ⟨g.2.2.1, g.2.2.2.2⟩
    have hlen : ((listFrom R 0 st.toNat).length : Int) = rankZ R st.toNat := rfl
    have hK := keepEs_length R es
    rw [laws_FnReach4.l0, if_neg (by omega), impl_AutoTrim_eq n st s es (by omega) k (by omega), Option.bind_some]
    unfold trimZ
    rw [if_pos h, ← hR]
    dsimp only
    rw [spec_AutoReach_eq n st s s es (by omega) k (by omega), Option.bind_some, if_pos h, if_pos hsz, ← hR, impl_AutoOk_eq _ _ _ _ (by omega) k (by omega), Option.bind_some, if_pos t1, if_pos hlen, spec_SetCount_eq R k (by omega), Option.bind_some, if_pos t2.symm, impl_SetIn_eq, Option.bind_some, f2]
    obtain ⟨k, rfl⟩ := succ_of (show 0 < k by omega)
    rw [laws_FnReach4.j2, if_neg (by simp)]
    exact reach4_l1 n st s _ _ _ es (keepEs R es) (listFrom R 0 st.toNat) h (by omega) (by omega) (fun y hy => by
      rw [hlen]
      exact t3 y hy) (keepEs R es).length k 0 (by omega) (by omega)
  | succ d ih =>
    intro k i hi hk
    obtain ⟨k, rfl⟩ := succ_of (show 0 < k by omega)
    rw [laws_FnReach4.l0, if_pos (by omega), impl_AutoNext_eq n st s _ _ es (by omega) k (by omega), Option.bind_some, if_pos h]
    have hok : okB (reachZ fromZ toZ es st.toNat x) = true := by
      rw [Bool.and_eq_true, Bool.and_eq_true] at f2
      exact f2.1.2
    rw [if_pos hok, impl_SetIn_eq, f1, Option.bind_some, if_pos rfl, wrap64_succ (by omega)]
    exact ih k (i + 1) (by omega) (by omega)
theorem FnReach4 : laws_FnReach4.Pure := by
  intro b hb _
  obtain ⟨K, hK⟩ : ∃ K, K = 1000000 := ⟨_, rfl⟩
  refine ⟨K + 1, ?_⟩
  unfold laws_FnReach4.f laws_big.f
  rw [Option.bind_some]
  by_cases hbig : (b.length : Int) > 1048576
  · rw [decide_eq_true hbig, if_pos rfl]
  · rw [decide_eq_false hbig, if_neg (by simp)]
    obtain ⟨n, st, s, es, x, e, he⟩ := drawAutoReach_ok b (by omega) (K + 1) (by omega)
    rw [e, Option.bind_some]
    dsimp only
    rw [impl_AutoReach_eq n st s x es (by omega) _ (by omega), Option.bind_some, spec_AutoReach_eq n st s x es (by omega) _ (by omega), Option.bind_some, if_pos rfl, spec_AutoOk_eq n st s es (by omega) _ (by omega), Option.bind_some]
    by_cases h : autoOkB n st s es = true
    · rw [if_pos h, if_pos h, spec_SetOk_eq, Option.bind_some]
      by_cases hx : okB x = true
      · have g := head_of (autoOk_of h).1
        rw [hx, if_pos rfl, laws_FnReach4.j0, if_neg (by simp)]
        have := reach4_l0 n st s x es h hx he n.toNat K 0 (by omega) (by omega)
        exact this
      · simp at hx
        rw [hx, if_neg (by simp), laws_FnReach4.j0, if_pos (show (!false) = true from rfl)]
        rfl
    · rw [if_neg h, if_neg h, laws_FnReach4.j0, if_pos rfl]
      rfl
end Go.Proofs.Ytlallflpicgcmaa.Pure
