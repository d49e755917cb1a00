/- What the printed functions of FnSets come to, one lemma a function, and from these the law: for all arguments (within the bounds that the printed statement names) it answers true. -/
import Derived.Test.YtgnjacjinhadaaaDoorMFnSetsx3
import Derived.Test.YtgnjacjinhadaaaDoorBase
import Derived.Test.YtgnjacjinhadaaaDoorBaseA
import Derived.Test.YtgnjacjinhadaaaDoorBaseC
import Derived.Test.YtgnjacjinhadaaaDoorBaseD
import Derived.Test.YtgnjacjinhadaaaDoorBaseG
import Derived.Test.YtgnjacjinhadaaaDoorBaseK
import Derived.Test.YtgnjacjinhadaaaDoorBaseL
import Derived.Test.YtgnjacjinhadaaaDoorBaseR
import Derived.Test.YtgnjacjinhadaaaDoorBaseS
import Derived.Test.YtgnjacjinhadaaaDoorBaseV
namespace Go.Proofs.YtgnjacjinhadaaaDoor.Pure
open Go.RowKit Go.Proofs.YtgnjacjinhadaaaDoor.MFnSets Go.Proofs.YtgnjacjinhadaaaDoorW.PrintWords Go.Proofs.YtgnjacjinhadaaaDoorW.PrintLast Go.Proofs.YtgnjacjinhadaaaDoor.Base

namespace hFnSets
theorem spec_l1In_eq (a b c : Int) : spec_l1In.f a b c = some (inR a b c) := by
  unfold spec_l1In.f inR
  by_cases h : a ≥ b
  · rw [if_pos h]; simp [show b ≤ a from h]
  · rw [if_neg h]; simp; omega
theorem impl_inRange_eq (a b c : Int) : impl_inRange.f a b c = some (inR a b c) := by
  unfold impl_inRange.f inR
  by_cases h : a ≥ b
  · rw [if_pos h]; simp [show b ≤ a from h]
  · rw [if_neg h]; simp; omega
theorem impl_SetOk_eq (s : Int) : impl_SetOk.f s = some (okB s) := by
  simp only [impl_SetOk.f, impl_inRange_eq, Option.bind_some, okB]
theorem impl_isMember_eq (i : Int) : impl_isMember.f i = some (inR i 0 30) := by
  simp only [impl_isMember.f, impl_inRange_eq, Option.bind_some]
theorem spec_l1Bit_eq (i : Int) (h0 : 0 ≤ i) (h1 : i ≤ 31) : spec_l1Bit.f i = some (bitZ i) := by
  obtain ⟨n, rfl⟩ := Int.eq_ofNat_of_zero_le h0
  unfold spec_l1Bit.f
  rw [and31 n (by omega), if_pos h0, shl_one n (by omega)]
theorem impl_only_eq (i : Int) (h0 : 0 ≤ i) (h1 : i ≤ 62) : impl_only.f i = some (bitZ i) := by
  obtain ⟨n, rfl⟩ := Int.eq_ofNat_of_zero_le h0
  unfold impl_only.f
  rw [wrap_u64_id h0 (by omega), if_pos h0, shl_one n (by omega)]
theorem impl_has_eq (s i : Int) (h0 : 0 ≤ s) (h1 : s < 9223372036854775808) (hi0 : 0 ≤ i) (hi : i ≤ 62) : impl_has.f s i = some (s.toNat.testBit i.toNat) := by
  unfold impl_has.f
  rw [wrap_u64_id hi0 (by omega), if_pos hi0, shr_and_one s i h0 h1 hi0 (by omega)]
theorem impl_SetHas_eq (s i : Int) : impl_SetHas.f s i = some (okB s && hasZ s i) := by
  unfold impl_SetHas.f
  rw [impl_SetOk_eq, impl_isMember_eq]
  simp only [Option.bind_some]
  by_cases h : okB s = true
  · have hs := inR_iff.1 h
    rw [if_pos h, h]
    unfold hasZ
    by_cases hi : inR i 0 30 = true
    · have hi' := inR_iff.1 hi
      rw [if_pos hi, hi, impl_has_eq s i hs.1 (by omega) hi'.1 (by omega)]; rfl
    · rw [if_neg hi]; simp at hi; rw [hi]; rfl
  · rw [if_neg h]; simp at h; rw [h]; rfl
theorem impl_SetPut_eq (s i : Int) : impl_SetPut.f s i = some (if okB s then (if inR i 0 30 then putZ s i else s) else 0) := by
  unfold impl_SetPut.f
  rw [impl_SetOk_eq, impl_isMember_eq]
  simp only [Option.bind_some]
  by_cases h : okB s = true
  · have hs := inR_iff.1 h
    rw [if_pos h, if_pos h]
    by_cases hi : inR i 0 30 = true
    · have hi' := inR_iff.1 hi
      rw [if_pos hi, if_pos hi, impl_only_eq i hi'.1 (by omega)]
      simp only [Option.bind_some]
      rw [or_bitZ s i hs.1 (by omega) hi'.1 (by omega)]
    · rw [if_neg hi, if_neg hi]
  · rw [if_neg h, if_neg h]
theorem impl_SetLess_eq (s i : Int) : impl_SetLess.f s i = some (if okB s then (if hasZ s i then s - bitZ i else s) else 0) := by
  unfold impl_SetLess.f
  rw [impl_SetOk_eq, impl_isMember_eq]
  simp only [Option.bind_some]
  by_cases h : okB s = true
  · have hs := inR_iff.1 h
    rw [if_pos h, if_pos h]
    unfold hasZ
    by_cases hi : inR i 0 30 = true
    · have hi' := inR_iff.1 hi
      have hp := bitZ_pos i
      have hq := bitZ_le hi'.2
      rw [if_pos hi, hi, impl_only_eq i hi'.1 (by omega)]
      simp only [Option.bind_some, Bool.true_and]
      rw [andNot_and s _ hs.1 (by omega) (by omega) (by omega), and_bitZ s i hs.1 (by omega) hi'.1 (by omega)]
      split <;> simp
    · rw [if_neg hi]; simp at hi; rw [hi]; rfl
  · rw [if_neg h, if_neg h]
theorem impl_isIn_eq (a b : Int) (h0 : 0 ≤ a) (h1 : a < 9223372036854775808) (h2 : 0 ≤ b) (h3 : b < 9223372036854775808) : impl_isIn.f a b = some (Go.bits .and .i64 a b == a) := by
  unfold impl_isIn.f
  rw [andNot_and a b h0 h1 h2 h3]
  congr 1
  rw [Bool.eq_iff_iff]
  simp only [beq_iff_eq]
  omega
theorem impl_SetIn_eq (a b : Int) : impl_SetIn.f a b = some (okB a && okB b && (Go.bits .and .i64 a b == a)) := by
  unfold impl_SetIn.f
  rw [impl_SetOk_eq, impl_SetOk_eq]
  simp only [Option.bind_some]
  by_cases ha : okB a = true
  · have ha' := inR_iff.1 ha
    by_cases hb : okB b = true
    · have hb' := inR_iff.1 hb
      rw [if_pos ha, if_pos hb, impl_isIn_eq a b ha'.1 (by omega) hb'.1 (by omega), ha, hb]; rfl
    · rw [if_pos ha, if_neg hb]; simp at hb; rw [hb]; simp
  · rw [if_neg ha]; simp at ha; rw [ha]; simp
theorem spec_SetOf_l0 (l : List Int) (hl : l.length ≤ 1000) (d : Nat) : ∀ (k i : Nat) (s : Int), i + d = l.length → d < k → 0 ≤ s → s ≤ 2147483647 → spec_SetOf.l0 k l s (i : Int) = some (setOfL s (l.drop i)) := by
  induction d with
  | zero =>
    intro k i s hi hk h0 h1
    obtain ⟨k, rfl⟩ := succ_of hk
    simp only [spec_SetOf.l0]
    rw [if_neg (by omega), List.drop_eq_nil_of_le (by omega)]
    rfl
  | succ d ih =>
    intro k i s hi hk h0 h1
    obtain ⟨k, rfl⟩ := succ_of hk
    simp only [spec_SetOf.l0]
    rw [if_pos (by omega), if_pos (by omega), rd_at (by omega), spec_l1In_eq]
    simp only [Option.bind_some]
    rw [drop_cons (l := l) (i := i) (by omega)]
    unfold setOfL
    by_cases h : inR l[i] 0 30 = true
    · have hi' := inR_iff.1 h
      have hp := putZ_range s l[i] h0 h1 hi'.2
      rw [if_pos h, if_pos h, spec_l1Bit_eq _ hi'.1 (by omega)]
      simp only [Option.bind_some]
      rw [or_bitZ s _ h0 (by omega) hi'.1 (by omega), wrap64_succ (by omega)]
      exact ih k (i + 1) _ (by omega) (by omega) hp.1 hp.2
    · rw [if_neg h, if_neg h]
theorem spec_SetOf_eq (l : List Int) (k : Nat) (hk : 1001 ≤ k) : spec_SetOf.f k l = some (if l.length ≤ 1000 then setOfL 0 l else (0, false)) := by
  unfold spec_SetOf.f
  by_cases h : l.length ≤ 1000
  · rw [if_neg (by omega), if_pos h]
    exact spec_SetOf_l0 l h l.length k 0 0 (by omega) (by omega) (by omega) (by omega)
  · rw [if_pos (by omega), if_neg h]
theorem impl_SetOf_l0 (l : List Int) (hl : l.length ≤ 1000) (d : Nat) : ∀ (k i : Nat) (s : Int), i + d = l.length → d < k → 0 ≤ s → s ≤ 2147483647 → impl_SetOf.l0 k s l (l.length : Int) (i : Int) = some (setOfL s (l.drop i)) := by
  induction d with
  | zero =>
    intro k i s hi hk h0 h1
    obtain ⟨k, rfl⟩ := succ_of hk
    simp only [impl_SetOf.l0]
    rw [if_neg (by omega), List.drop_eq_nil_of_le (by omega)]
    rfl
  | succ d ih =>
    intro k i s hi hk h0 h1
    obtain ⟨k, rfl⟩ := succ_of hk
    simp only [impl_SetOf.l0]
    rw [if_pos (by omega), if_pos (by omega), if_pos (by omega), rd_at (by omega), impl_isMember_eq]
    simp only [Option.bind_some]
    rw [drop_cons (l := l) (i := i) (by omega)]
    unfold setOfL
    by_cases h : inR l[i] 0 30 = true
    · have hi' := inR_iff.1 h
      have hp := putZ_range s l[i] h0 h1 hi'.2
      rw [if_pos h, if_pos h, impl_only_eq _ hi'.1 (by omega)]
      simp only [Option.bind_some]
      rw [or_bitZ s _ h0 (by omega) hi'.1 (by omega), wrap64_succ (by omega)]
      exact ih k (i + 1) _ (by omega) (by omega) hp.1 hp.2
    · rw [if_neg h, if_neg h]
theorem impl_SetOf_eq (l : List Int) (k : Nat) (hk : 1001 ≤ k) : impl_SetOf.f k l = some (if l.length ≤ 1000 then setOfL 0 l else (0, false)) := by
  unfold impl_SetOf.f
  by_cases h : l.length ≤ 1000
  · rw [if_neg (by omega), if_pos h]
    exact impl_SetOf_l0 l h l.length k 0 0 (by omega) (by omega) (by omega) (by omega)
  · rw [if_pos (by omega), if_neg h]
theorem impl_SetList_l0 (s : Int) (h0 : 0 ≤ s) (h1 : s ≤ 2147483647) (d : Nat) : ∀ (k i : Nat) (out : List Int), i + d = 31 → d < k → out.length ≤ i → impl_SetList.l0 k s out (i : Int) = some (out ++ listFrom s i d) := by
  induction d with
  | zero =>
    intro k i out hi hk ho
    obtain ⟨k, rfl⟩ := succ_of hk
    simp only [impl_SetList.l0]
    rw [if_neg (by omega)]
    simp [listFrom]
  | succ d ih =>
    intro k i out hi hk ho
    obtain ⟨k, rfl⟩ := succ_of hk
    simp only [impl_SetList.l0]
    rw [if_pos (by omega), impl_has_eq s _ h0 (by omega) (by omega) (by omega)]
    simp only [Option.bind_some]
    rw [wrap64_succ (by omega)]
    unfold listFrom
    have e : hasZ s (i : Int) = s.toNat.testBit (i : Int).toNat := by
      unfold hasZ
      rw [show inR (i : Int) 0 30 = true from inR_iff.2 (by omega)]
      rfl
    rw [e]
    by_cases hb : s.toNat.testBit (i : Int).toNat = true
    · rw [if_pos hb, if_pos (by omega), ih k (i + 1) _ (by omega) (by omega) (by simp; omega), if_pos hb]
      simp
    · rw [if_neg hb, ih k (i + 1) _ (by omega) (by omega) (by omega), if_neg hb]
theorem impl_SetList_eq (s : Int) (k : Nat) (hk : 70 ≤ k) : impl_SetList.f k s = some (listOf s) := by
  unfold impl_SetList.f listOf
  rw [impl_SetOk_eq]
  simp only [Option.bind_some]
  by_cases h : okB s = true
  · have hs := inR_iff.1 h
    rw [if_pos h, if_pos h]
    have := impl_SetList_l0 s hs.1 hs.2 31 k 0 [] (by omega) (by omega) (by simp)
    simpa using this
  · rw [if_neg h, if_neg h]
theorem bits_OnesCount64_eq (s : Int) (h : okB s = true) : bits_OnesCount64.f s = some ((listOf s).length : Int) := by
  have hs := inR_iff.1 h
  rw [listOf_count s h]
  unfold bits_OnesCount64.f
  obtain ⟨x, rfl⟩ := Int.eq_ofNat_of_zero_le hs.1
  congr 1
  exact ones_formula x (by omega)
theorem bits_OnesCount_eq (s : Int) (h : okB s = true) : bits_OnesCount.f s = some ((listOf s).length : Int) := by
  unfold bits_OnesCount.f
  rw [bits_OnesCount64_eq s h]
  rfl
theorem impl_SetCount_eq (s : Int) : impl_SetCount.f s = some ((listOf s).length : Int) := by
  unfold impl_SetCount.f
  rw [impl_SetOk_eq]
  simp only [Option.bind_some]
  by_cases h : okB s = true
  · have hs := inR_iff.1 h
    rw [if_pos h, wrap_u64_id hs.1 (by omega), bits_OnesCount_eq s h]
    rfl
  · rw [if_neg h]
    unfold listOf
    rw [if_neg h]
    rfl
/-- The least member, -1 if there is none. -/
def leastZ (s : Int) : Int := match listOf s with | [] => -1 | x :: _ => x
theorem listFrom_least {s : Int} {c : Nat} (hc : hasZ s (c : Int) = true) (d : Nat) : ∀ j : Nat, (∀ i : Nat, j ≤ i → i < c → hasZ s (i : Int) = false) → j ≤ c → c < j + d → ∃ l, listFrom s j d = (c : Int) :: l := by
  induction d with
  | zero => intro j _ h1 h2; omega
  | succ d ih =>
    intro j h h1 h2
    unfold listFrom
    by_cases e : j = c
    · subst e
      rw [if_pos hc]
      exact ⟨_, rfl⟩
    · rw [h j (Nat.le_refl _) (by omega)]
      exact ih (j + 1) (fun i hi hlt => h i (by omega) hlt) (by omega) (by omega)
theorem ctz_least (s : Int) (h : okB s = true) (h0 : s ≠ 0) : hasZ s ((Lib.ctz 64 s.toNat : Nat) : Int) = true ∧ Lib.ctz 64 s.toNat < 31 ∧ ∀ i : Nat, i < Lib.ctz 64 s.toNat → hasZ s (i : Int) = false := by
  have hs := inR_iff.1 h
  obtain ⟨x, rfl⟩ := Int.eq_ofNat_of_zero_le hs.1
  rw [Int.toNat_natCast]
  obtain ⟨m, hm, hc⟩ := Lib.ctzFrom_spec 64 x (by omega) (by omega)
  have e : Lib.ctz 64 x = Lib.ctzFrom 64 x := by unfold Lib.ctz; rw [if_neg (by omega)]
  rw [e]
  generalize Lib.ctzFrom 64 x = c at hm hc
  have h31 : c < 31 := by
    by_cases hlt : c < 31
    · exact hlt
    · have h1 : 2 ^ 31 ≤ 2 ^ c := Nat.pow_le_pow_right (by decide) (by omega)
      have h2 : 2 ^ c * 1 ≤ 2 ^ c * (2 * m + 1) := Nat.mul_le_mul_left _ (by omega)
      omega
  refine ⟨?_, h31, fun i hi => ?_⟩
  · unfold hasZ
    rw [inR_iff.2 (by omega), Int.toNat_natCast, Int.toNat_natCast, hm, Nat.testBit_two_pow_mul]
    simp
  · unfold hasZ
    rw [Int.toNat_natCast, Int.toNat_natCast, hm, Nat.testBit_two_pow_mul, decide_eq_false (by omega), Bool.false_and, Bool.and_false]
theorem bits_TrailingZeros_eq (s : Int) (h : okB s = true) (h0 : s ≠ 0) : bits_TrailingZeros.f (IntKind.u64.wrap s) = some (leastZ s) := by
  have hs := inR_iff.1 h
  obtain ⟨h1, h2, h3⟩ := ctz_least s h h0
  obtain ⟨l, hl⟩ := listFrom_least h1 31 0 (fun i _ hi => h3 i hi) (by omega) (by omega)
  unfold bits_TrailingZeros.f leastZ listOf
  rw [wrap_u64_id hs.1 (by omega), if_pos (by omega), if_pos h, hl]
theorem impl_SetLeast_eq (s : Int) : impl_SetLeast.f s = some (leastZ s) := by
  unfold impl_SetLeast.f
  rw [impl_SetOk_eq, Option.bind_some]
  by_cases h0 : s = 0
  · subst h0
    rw [if_pos rfl]
    rfl
  · rw [if_neg h0]
    by_cases h : okB s = true
    · rw [if_pos h, bits_TrailingZeros_eq s h h0, Option.bind_some]
    · rw [if_neg h]
      unfold leastZ listOf
      rw [if_neg h]
theorem l1New_l0 (b : List Int) (d : Nat) : ∀ (k i : Nat) (h : Int), i + d = 4000 → d < k → ∃ h', spec_l1New.l0 k b h (i : Int) = some (b, 0, h') := by
  induction d with
  | zero =>
    intro k i h hi hk
    obtain ⟨k, rfl⟩ := succ_of hk
    simp only [spec_l1New.l0]
    by_cases h1 : (i : Int) < b.length
    · rw [if_pos h1, if_neg (by omega)]; exact ⟨_, rfl⟩
    · rw [if_neg h1]; exact ⟨_, rfl⟩
  | succ d ih =>
    intro k i h hi hk
    obtain ⟨k, rfl⟩ := succ_of hk
    simp only [spec_l1New.l0]
    by_cases h1 : (i : Int) < b.length
    · rw [if_pos h1, if_pos (by omega), if_pos (by omega), wrap64_succ (by omega)]
      exact ih k (i + 1) _ (by omega) (by omega)
    · rw [if_neg h1]; exact ⟨_, rfl⟩
theorem l1New_ok (b : List Int) (k : Nat) (hk : 4000 < k) : ∃ h, spec_l1New.f k b = some (b, 0, h) := by
  unfold spec_l1New.f
  exact l1New_l0 b 4000 k 0 _ (by omega) hk
theorem l1Byte_ok (b : List Int) (i h : Int) (hl : b.length ≤ 1048576) (hi : CurOk b i) : ∃ r i' h', spec_l1Byte.f b i h = some (r, i', h') ∧ 0 ≤ r ∧ r ≤ 255 ∧ CurOk b i' := by
  unfold spec_l1Byte.f
  obtain ⟨h0, h1⟩ := hi
  by_cases hlt : i < b.length
  · rw [if_pos hlt, if_pos h0]
    refine ⟨_, _, _, rfl, (and255_range _).1, (and255_range _).2, ?_⟩
    rw [wrap64_id (by omega) (by omega)]
    exact ⟨by omega, by omega⟩
  · rw [if_neg hlt]
    exact ⟨_, _, _, rfl, (and255_range _).1, (and255_range _).2, h0, h1⟩
theorem l1Below_ok (b : List Int) (i h n : Int) (hl : b.length ≤ 1048576) (hi : CurOk b i) : ∃ r i' h', spec_l1Below.f b i h n = some (r, i', h') ∧ 0 ≤ r ∧ (0 < n → r < n) ∧ (n ≤ 0 → r = 0) ∧ CurOk b i' := by
  unfold spec_l1Below.f
  by_cases h0 : n ≤ 0
  · rw [if_pos h0]
    exact ⟨_, _, _, rfl, by omega, by omega, fun _ => rfl, hi⟩
  · rw [if_neg h0]
    by_cases h1 : n ≤ 256
    · rw [if_pos h1]
      obtain ⟨r, i1, h1', e, a, b', c⟩ := l1Byte_ok b i h hl hi
      rw [e]
      simp only [Option.bind_some]
      rw [if_neg (by omega)]
      have := tmod_range a (show 0 < n by omega)
      exact ⟨_, _, _, rfl, this.1, fun _ => this.2, fun h => absurd h h0, c⟩
    · rw [if_neg h1]
      obtain ⟨r1, i1, h1', e1, a1, b1, c1⟩ := l1Byte_ok b i h hl hi
      obtain ⟨r2, i2, h2', e2, a2, b2, c2⟩ := l1Byte_ok b i1 h1' hl c1
      obtain ⟨r3, i3, h3', e3, a3, b3, c3⟩ := l1Byte_ok b i2 h2' hl c2
      obtain ⟨r4, i4, h4', e4, a4, b4, c4⟩ := l1Byte_ok b i3 h3' hl c3
      rw [e1]; simp only [Option.bind_some]
      rw [e2]; simp only [Option.bind_some]
      rw [e3]; simp only [Option.bind_some]
      rw [e4]; simp only [Option.bind_some]
      rw [if_neg (by omega), wrap64_id (n := r1 * 16777216) (by omega) (by omega), wrap64_id (n := r2 * 65536) (by omega) (by omega), wrap64_id (n := r1 * 16777216 + r2 * 65536) (by omega) (by omega), wrap64_id (n := r3 * 256) (by omega) (by omega),
        wrap64_id (n := r1 * 16777216 + r2 * 65536 + r3 * 256) (by omega) (by omega), wrap64_id (n := r1 * 16777216 + r2 * 65536 + r3 * 256 + r4) (by omega) (by omega)]
      have := tmod_range (a := r1 * 16777216 + r2 * 65536 + r3 * 256 + r4) (n := n) (by omega) (by omega)
      exact ⟨_, _, _, rfl, this.1, fun _ => this.2, fun h => absurd h h0, c4⟩
theorem big_eq (l : List Int) : laws_big.f l = some (decide (1048576 < l.length)) := by
  unfold laws_big.f
  congr 1
  exact decide_eq_decide.2 ⟨fun h => by omega, fun h => by omega⟩
theorem l1PickInt_ok (b : List Int) (i h : Int) (l : List Int) (hl : b.length ≤ 1048576) (hi : CurOk b i) (h1 : 1 ≤ l.length) : ∃ r i' h', spec_l1PickInt.f b i h l = some (r, i', h') ∧ CurOk b i' := by
  unfold spec_l1PickInt.f
  obtain ⟨r, i1, h1', e, a, b1, _, c⟩ := l1Below_ok b i h (l.length : Int) hl hi
  have := b1 (by omega)
  rw [e, Option.bind_some, if_pos a, if_pos this]
  exact ⟨_, _, _, rfl, c⟩
theorem l1Once_ok (b : List Int) (i h n : Int) (hl : b.length ≤ 1048576) (hi : CurOk b i) : ∃ r i' h', spec_l1Once.f b i h n = some (r, i', h') ∧ CurOk b i' := by
  unfold spec_l1Once.f
  obtain ⟨r, i1, h1', e, a, b1, _, c⟩ := l1Below_ok b i h n hl hi
  rw [e, Option.bind_some]
  exact ⟨_, _, _, rfl, c⟩
theorem least_le {s i : Int} (hs : SetZ s) (hi : hasZ s i = true) : leastZ s ≤ i := by
  have hr := hasZ_range hi
  have h0 : s ≠ 0 := by
    rintro rfl
    unfold hasZ at hi
    simp at hi
  obtain ⟨h1, h2, h3⟩ := ctz_least s (inR_iff.2 hs) h0
  obtain ⟨l, hl⟩ := listFrom_least h1 31 0 (fun i _ hi => h3 i hi) (by omega) (by omega)
  have hc : ((Lib.ctz 64 s.toNat : Nat) : Int) ≤ i := by
    obtain ⟨n, rfl⟩ := Int.eq_ofNat_of_zero_le hr.1
    by_cases hlt : n < Lib.ctz 64 s.toNat
    · rw [h3 n hlt] at hi; cases hi
    · omega
  unfold leastZ listOf
  rw [if_pos (show okB s = true from inR_iff.2 hs), hl]
  exact hc
theorem laws_at_eq (l : List Int) (hl : l.length ≤ 1048576) (hw : ∀ x ∈ l, 0 ≤ x ∧ x ≤ 255) : ∃ v, laws_at.f l 1 = some v ∧ 0 ≤ v := by
  unfold laws_at.f
  by_cases h : (1 : Int) < l.length
  · have hm : rd l 1 ∈ l := by
      have e := rd_at (l := l) (i := 1) (by omega)
      rw [show ((1 : Nat) : Int) = 1 from rfl] at e
      rw [e]
      exact List.getElem_mem _
    have hr := hw _ hm
    rw [if_pos h, if_pos (by omega), wrap64_id (n := rd l 1) (by omega) (by omega)]
    exact ⟨_, rfl, hr.1⟩
  · rw [if_neg h, wrap64_id (n := 1 * 7) (by omega) (by omega), wrap64_id (n := 1 * 7 + (l.length : Int)) (by omega) (by omega)]
    exact ⟨_, rfl, (tmod_range (show 0 ≤ 1 * 7 + (l.length : Int) by omega) (show (0 : Int) < 256 by omega)).1⟩
theorem drawMember_ok (b : List Int) (i h : Int) (hl : b.length ≤ 1048576) (hi : CurOk b i) : ∃ x i' h', spec_l1DrawMember.f b i h = some (x, i', h') ∧ CurOk b i' := by
  unfold spec_l1DrawMember.f
  obtain ⟨r, i1, h1, e1, c1⟩ := l1Once_ok b i h 8 hl hi
  obtain ⟨x0, j0, g0, f0, d0⟩ := l1PickInt_ok b i1 h1 [-1, 30, 31, 64, -9223372036854775807] hl c1 (by simp)
  obtain ⟨x1, j1, g1, f1, _, _, _, d1⟩ := l1Below_ok b i1 h1 9 hl c1
  rw [e1, Option.bind_some]
  dsimp only
  rw [f0, Option.bind_some, f1, Option.bind_some]
  split
  · exact ⟨_, _, _, rfl, d0⟩
  · exact ⟨_, _, _, rfl, d1⟩
theorem drawSetOf_j1 (b : List Int) (i h : Int) (o : List Int) (hl : b.length ≤ 1048576) (hi : CurOk b i) (ho : o.length ≤ 1000) (k : Nat) : ∃ L, spec_DrawSetOf.j1 (k + 1) o b i h = some L ∧ L.length ≤ 1001 := by
  rw [spec_DrawSetOf.j1]
  obtain ⟨r, i1, h1, e1, c1⟩ := l1Once_ok b i h 30 hl hi
  rw [e1, Option.bind_some]
  dsimp only
  by_cases hr : r = true
  · obtain ⟨x, i2, h2, e2, p2, q2, _, c2⟩ := l1Below_ok b i1 h1 2 hl c1
    have q2' := q2 (by omega)
    rw [if_pos hr, e2, Option.bind_some]
    dsimp only
    rw [wrap64_id (n := 1000 + x) (by omega) (by omega), if_pos (by omega), if_pos (by omega)]
    exact ⟨_, rfl, by rw [List.length_replicate]; omega⟩
  · rw [if_neg hr]
    exact ⟨_, rfl, by omega⟩
theorem drawSetOf_l0 (b : List Int) (hl : b.length ≤ 1048576) (d : Nat) : ∀ (k j : Nat) (i h : Int) (o : List Int), CurOk b i → j + d = 9 → o.length ≤ j → d + 2 < k → ∃ L, spec_DrawSetOf.l0 k o (j : Int) b i h = some L ∧ L.length ≤ 1001 := by
  have last : ∀ (k : Nat) (i h : Int) (o : List Int), CurOk b i → o.length ≤ 9 → ∃ L, ((spec_l1Once.f b i h 4).bind fun bt158 => (if bt158.1 = true then ((spec_l1DrawMember.f b bt158.2.1 bt158.2.2).bind fun bt161 => (if o.length < 17592186044416 then (spec_DrawSetOf.j1 (k + 1) (o ++ [bt161.1]) b bt161.2.1 bt161.2.2) else (none))) else (spec_DrawSetOf.j1 (k + 1) o b bt158.2.1 bt158.2.2))) = some L ∧ L.length ≤ 1001 := by
    intro k i h o hi ho
    obtain ⟨r, i1, h1, e1, c1⟩ := l1Once_ok b i h 4 hl hi
    obtain ⟨x, i2, h2, e2, c2⟩ := drawMember_ok b i1 h1 hl c1
    rw [e1, Option.bind_some]
    dsimp only
    by_cases hr : r = true
    · rw [if_pos hr, e2, Option.bind_some]
      dsimp only
      rw [if_pos (by omega)]
      exact drawSetOf_j1 b i2 h2 _ hl c2 (by rw [List.length_append, List.length_singleton]; omega) k
    · rw [if_neg hr]
      exact drawSetOf_j1 b i1 h1 o hl c1 (by omega) k
  induction d with
  | zero =>
    intro k j i h o hi hj ho hk
    obtain ⟨k, rfl⟩ : ∃ k', k = k' + 2 := ⟨k - 2, by omega⟩
    obtain ⟨r, i1, h1, e1, p1, q1, _, c1⟩ := l1Below_ok b i h 9 hl hi
    have q1' := q1 (by omega)
    rw [spec_DrawSetOf.l0, e1, Option.bind_some]
    dsimp only
    rw [if_neg (by omega)]
    exact last k i1 h1 o c1 (by omega)
  | succ d ih =>
    intro k j i h o hi hj ho hk
    obtain ⟨k, rfl⟩ : ∃ k', k = k' + 2 := ⟨k - 2, by omega⟩
    obtain ⟨r, i1, h1, e1, p1, q1, _, c1⟩ := l1Below_ok b i h 9 hl hi
    rw [spec_DrawSetOf.l0, e1, Option.bind_some]
    dsimp only
    by_cases hr : (j : Int) < r
    · obtain ⟨x, i2, h2, e2, _, _, _, c2⟩ := l1Below_ok b i1 h1 12 hl c1
      rw [if_pos hr, e2, Option.bind_some]
      dsimp only
      rw [if_pos (by omega), wrap64_succ (by omega)]
      exact ih (k + 1) (j + 1) _ _ _ c2 (by omega) (by rw [List.length_append, List.length_singleton]; omega) (by omega)
    · rw [if_neg hr]
      exact last k i1 h1 o c1 (by omega)
theorem drawSetOf_ok (b : List Int) (hl : b.length ≤ 1048576) (k : Nat) (hk : 5000 < k) : ∃ L, spec_DrawSetOf.f k b = some L ∧ L.length ≤ 1001 := by
  unfold spec_DrawSetOf.f
  obtain ⟨h, e1⟩ := l1New_ok b k (by omega)
  rw [e1, Option.bind_some]
  dsimp only
  exact drawSetOf_l0 b hl 9 k 0 0 h [] ⟨by omega, by omega⟩ (by omega) (by simp) (by omega)
end hFnSets
open hFnSets
theorem sets_l0 (s : Int) (hs : SetZ s) (L : List Int) (hL : ∀ x ∈ L, hasZ s x = true) (hn : (listOf s).length ≤ L.length) (hl : L.length ≤ 1001) (d : Nat) : ∀ (k i : Nat), i + d = L.length → d + 100 < k → laws_FnSets.l0 k L s (i : Int) = some true := by
  have hok : okB s = true := inR_iff.2 hs
  induction d with
  | zero =>
    intro k i hi hk
    obtain ⟨k, rfl⟩ := succ_of (show 0 < k by omega)
    rw [laws_FnSets.l0, if_neg (by omega), impl_SetCount_eq, Option.bind_some, decide_eq_true (by omega)]
  | succ d ih =>
    intro k i hi hk
    obtain ⟨k, rfl⟩ := succ_of (show 0 < k by omega)
    have hm := hL _ (List.getElem_mem (show i < L.length by omega))
    have hle := least_le hs hm
    rw [laws_FnSets.l0, if_pos (by omega), if_pos (by omega), rd_at (by omega), impl_SetHas_eq, hok, hm, Option.bind_some, Bool.and_self, if_pos rfl, impl_SetLeast_eq, Option.bind_some, if_neg (by omega), wrap64_succ (by omega)]
    exact ih k (i + 1) (by omega) (by omega)
theorem FnSets : laws_FnSets.Pure := by
  intro b hb hw
  obtain ⟨K, hK⟩ : ∃ K, K = 100000 := ⟨_, rfl⟩
  refine ⟨K + 2, ?_⟩
  unfold laws_FnSets.f
  rw [big_eq, Option.bind_some]
  by_cases hbig : 1048576 < b.length
  · rw [decide_eq_true hbig, if_pos rfl]
  · rw [decide_eq_false hbig, if_neg (by simp)]
    obtain ⟨L, e, hl⟩ := drawSetOf_ok b (by omega) (K + 2) (by omega)
    rw [e, Option.bind_some, impl_SetOf_eq L _ (by omega), Option.bind_some, spec_SetOf_eq L _ (by omega), Option.bind_some, bne_self_eq_false, if_neg (by simp)]
    by_cases hlen : L.length ≤ 1000
    · rw [if_pos hlen]
      obtain ⟨s, ok, hsl⟩ : ∃ s ok, setOfL 0 L = (s, ok) := ⟨_, _, rfl⟩
      rw [hsl]
      dsimp only
      cases ok with
      | false =>
        rw [if_neg (by simp), setOfL_bad L 0 s hsl]
        rfl
      | true =>
        obtain ⟨hs, hr, hm⟩ := setOfL_of L 0 s ⟨by omega, by omega⟩ hsl
        have hok : okB s = true := inR_iff.2 hs
        have hlist := setOfL_listOf hs
        have hcount := setOfL_count L 0 s hsl
        have h00 : listFrom 0 0 31 = [] := by decide +kernel
        rw [h00, List.length_nil, Nat.zero_add] at hcount
        have hlo : listOf s = listFrom s 0 31 := by unfold listOf; rw [if_pos hok]
        have hll := listOf_length s
        rw [if_pos rfl, impl_SetList_eq s _ (by omega), Option.bind_some, impl_SetOf_eq _ _ (by omega), Option.bind_some, if_pos (show (listOf s).length ≤ 1000 by omega), hlist]
        dsimp only
        rw [if_pos rfl, if_pos rfl, impl_SetCount_eq, Option.bind_some, Option.bind_some, bne_self_eq_false, laws_FnSets.j0, if_neg (by simp)]
        obtain ⟨v, hv, hv0⟩ := laws_at_eq b (by omega) (fun x hx => by
          have := hw x hx
          simp [Lit.wf, IntKind.min, IntKind.max, IntKind.signed, IntKind.bits] at this
          omega)
        rw [hv, Option.bind_some]
        have hi := tmod_range hv0 (show (0 : Int) < 31 by omega)
        generalize Int.tmod v 31 = i at hi
        have hin : inR i 0 30 = true := inR_iff.2 (by omega)
        have hput := SetZ_put (t := i) hs (by omega)
        have hpo : okB (putZ s i) = true := inR_iff.2 hput
        have hph : hasZ (putZ s i) i = true := by rw [hasZ_put (by omega) (by omega)]; simp
        have hsub : Go.bits .and .i64 s (putZ s i) = s := and_subZ hs hput (fun j hj => by rw [hasZ_put (by omega) (by omega), hj]; rfl)
        obtain ⟨t, ht, hto, hth, htin⟩ : ∃ t, (if hasZ s i then s - bitZ i else s) = t ∧ okB t = true ∧ hasZ t i = false ∧ Go.bits .and .i64 t s = t := by
          by_cases hc : hasZ s i = true
          · obtain ⟨l1, l2⟩ := less_bit hs hc
            refine ⟨_, by rw [if_pos hc], inR_iff.2 l1, by rw [l2 i]; simp, and_subZ l1 hs (fun j hj => ?_)⟩
            rw [l2 j, Bool.and_eq_true] at hj
            exact hj.1
          · refine ⟨_, by rw [if_neg hc], hok, by simpa using hc, and_subZ hs hs (fun j hj => hj)⟩
        have hP : impl_SetPut.f s i = some (putZ s i) := by rw [impl_SetPut_eq, if_pos hok, if_pos hin]
        have hLs : impl_SetLess.f s i = some t := by rw [impl_SetLess_eq, if_pos hok, ht]
        rw [hP, Option.bind_some, impl_SetHas_eq, hpo, hph, Option.bind_some, Bool.and_self, if_pos rfl, hLs, Option.bind_some, impl_SetHas_eq, hto, hth, Option.bind_some, Bool.and_false, if_neg (by simp), Option.bind_some, impl_SetIn_eq, hok, hpo, hsub, beq_self_eq_true, Option.bind_some, Bool.and_self, Bool.and_self, if_pos rfl, Option.bind_some, impl_SetIn_eq, hto, hok, htin, beq_self_eq_true, Option.bind_some, laws_FnSets.j1, if_neg (by simp)]
        have hhas : ∀ x ∈ L, hasZ s x = true := fun x hx => by rw [hm x, decide_eq_true hx, Bool.or_true]
        exact sets_l0 s hs L hhas (by rw [hlo]; exact hcount) hl L.length K 0 (by omega) (by omega)
    · rw [if_neg hlen]
      dsimp only
      rw [if_neg (by simp)]
      rfl
end Go.Proofs.YtgnjacjinhadaaaDoor.Pure
