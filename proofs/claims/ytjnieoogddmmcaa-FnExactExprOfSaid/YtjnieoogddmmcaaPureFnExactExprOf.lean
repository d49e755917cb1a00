/- What the printed functions of FnExactExprOf come to, one lemma a function, and from these the law: for all arguments (within the bounds that the printed statement names) it answers true. -/
import Derived.Test.YtjnieoogddmmcaaMFnExactExprOfx4
import Derived.Test.YtjnieoogddmmcaaBase
import Derived.Test.YtjnieoogddmmcaaBaseL
import Derived.Test.YtjnieoogddmmcaaBaseS
import Derived.Test.YtjnieoogddmmcaaBaseW
namespace Go.Proofs.Ytjnieoogddmmcaa.Pure
open Go.RowKit Go.Proofs.Ytjnieoogddmmcaa.MFnExactExprOf Go.Proofs.YtjnieoogddmmcaaW.PrintWords Go.Proofs.YtjnieoogddmmcaaW.PrintLast Go.Proofs.Ytjnieoogddmmcaa.Base

namespace hFnExactExprOf
theorem spec_l1In_eq (a b c : Int) : spec_l1In.f a b c = some (inR a b c) := by
  unfold spec_l1In.f inR
  by_cases h : a ≥ b
  · rw [if_pos h]; simp [show b ≤ a from h]
  · rw [if_neg h]; simp; omega
theorem impl_inRange_eq (a b c : Int) : impl_inRange.f a b c = some (inR a b c) := by
  unfold impl_inRange.f inR
  by_cases h : a ≥ b
  · rw [if_pos h]; simp [show b ≤ a from h]
  · rw [if_neg h]; simp; omega
theorem spec_SetOk_eq (s : Int) : spec_SetOk.f s = some (okB s) := by
  simp only [spec_SetOk.f, spec_l1In_eq, Option.bind_some, okB]
theorem impl_SetOk_eq (s : Int) : impl_SetOk.f s = some (okB s) := by
  simp only [impl_SetOk.f, impl_inRange_eq, Option.bind_some, okB]
theorem spec_l1Bit_eq (i : Int) (h0 : 0 ≤ i) (h1 : i ≤ 31) : spec_l1Bit.f i = some (bitZ i) := by
  obtain ⟨n, rfl⟩ := Int.eq_ofNat_of_zero_le h0
  unfold spec_l1Bit.f
  rw [and31 n (by omega), if_pos h0, shl_one n (by omega)]
theorem impl_only_eq (i : Int) (h0 : 0 ≤ i) (h1 : i ≤ 62) : impl_only.f i = some (bitZ i) := by
  obtain ⟨n, rfl⟩ := Int.eq_ofNat_of_zero_le h0
  unfold impl_only.f
  rw [wrap_u64_id h0 (by omega), if_pos h0, shl_one n (by omega)]
theorem spec_l1Has_eq (s i : Int) (h0 : 0 ≤ s) (h1 : s < 9223372036854775808) : spec_l1Has.f s i = some (hasZ s i) := by
  unfold spec_l1Has.f hasZ
  rw [spec_l1In_eq]
  simp only [Option.bind_some]
  by_cases h : inR i 0 30 = true
  · have hi := inR_iff.1 h
    have hp := bitZ_pos i
    rw [if_pos h, spec_l1Bit_eq i hi.1 (by omega), h]
    simp only [Option.bind_some, Bool.true_and]
    rw [and_bitZ s i h0 h1 hi.1 (by omega)]
    congr 1
    by_cases hb : s.toNat.testBit i.toNat = true
    · rw [if_pos hb, hb]; rw [bne_iff_ne]; omega
    · rw [if_neg hb]; simp at hb; rw [hb]; rfl
  · rw [if_neg h]; simp at h; rw [h]; rfl
theorem impl_has_eq (s i : Int) (h0 : 0 ≤ s) (h1 : s < 9223372036854775808) (hi0 : 0 ≤ i) (hi : i ≤ 62) : impl_has.f s i = some (s.toNat.testBit i.toNat) := by
  unfold impl_has.f
  rw [wrap_u64_id hi0 (by omega), if_pos hi0, shr_and_one s i h0 h1 hi0 (by omega)]
theorem spec_SetIn_eq (a b : Int) : spec_SetIn.f a b = some (okB a && okB b && (Go.bits .and .i64 a b == a)) := by
  unfold spec_SetIn.f
  rw [spec_SetOk_eq, spec_SetOk_eq]
  simp only [Option.bind_some]
  cases okB a <;> cases okB b <;> simp
theorem impl_SetList_l0 (s : Int) (h0 : 0 ≤ s) (h1 : s ≤ 2147483647) (d : Nat) : ∀ (k i : Nat) (out : List Int), i + d = 31 → d < k → out.length ≤ i → impl_SetList.l0 k s out (i : Int) = some (out ++ listFrom s i d) := by
  induction d with
  | zero =>
    intro k i out hi hk ho
    obtain ⟨k, rfl⟩ := succ_of hk
    simp only [impl_SetList.l0]
    rw [if_neg (by omega)]
    simp [listFrom]
  | succ d ih =>
    intro k i out hi hk ho
    obtain ⟨k, rfl⟩ := succ_of hk
    simp only [impl_SetList.l0]
    rw [if_pos (by omega), impl_has_eq s _ h0 (by omega) (by omega) (by omega)]
    simp only [Option.bind_some]
    rw [wrap64_succ (by omega)]
    unfold listFrom
    have e : hasZ s (i : Int) = s.toNat.testBit (i : Int).toNat := by
      unfold hasZ
      rw [show inR (i : Int) 0 30 = true from inR_iff.2 (by omega)]
      rfl
    rw [e]
    by_cases hb : s.toNat.testBit (i : Int).toNat = true
    · rw [if_pos hb, if_pos (by omega), ih k (i + 1) _ (by omega) (by omega) (by simp; omega), if_pos hb]
      simp
    · rw [if_neg hb, ih k (i + 1) _ (by omega) (by omega) (by omega), if_neg hb]
theorem impl_SetList_eq (s : Int) (k : Nat) (hk : 70 ≤ k) : impl_SetList.f k s = some (listOf s) := by
  unfold impl_SetList.f listOf
  rw [impl_SetOk_eq]
  simp only [Option.bind_some]
  by_cases h : okB s = true
  · have hs := inR_iff.1 h
    rw [if_pos h, if_pos h]
    have := impl_SetList_l0 s hs.1 hs.2 31 k 0 [] (by omega) (by omega) (by simp)
    simpa using this
  · rw [if_neg h, if_neg h]
deriving instance DecidableEq for S45
theorem rdD_at {l : List S45} {i : Nat} (h : i < l.length) : rd_T45 l (i : Int) = l[i] := by
  simp [rd_T45, List.getD_eq_getElem?_getD, List.getElem?_eq_getElem h]
theorem eqNode_eq (a b : S45) : laws_eqNode.f a.f0 a.f1 a.f2 b.f0 b.f1 b.f2 = some (decide (a = b)) := by
  unfold laws_eqNode.f
  obtain ⟨a0, a1, a2⟩ := a
  obtain ⟨b0, b1, b2⟩ := b
  by_cases h0 : a0 = b0 <;> by_cases h1 : a1 = b1 <;> by_cases h2 : a2 = b2 <;> simp [h0, h1, h2]
theorem eqNodeS_l0 (a b : List S45) (hab : a.length = b.length) (hl : a.length ≤ 1099511627776) (d : Nat) : ∀ (k i : Nat), i + d = a.length → d < k → laws_eqNodeS.l0 k a b (i : Int) = some (decide (a.drop i = b.drop i)) := by
  induction d with
  | zero =>
    intro k i hi hk
    obtain ⟨k, rfl⟩ := succ_of hk
    simp only [laws_eqNodeS.l0]
    rw [if_neg (by omega), List.drop_eq_nil_of_le (by omega), List.drop_eq_nil_of_le (by omega)]
    simp
  | succ d ih =>
    intro k i hi hk
    obtain ⟨k, rfl⟩ := succ_of hk
    simp only [laws_eqNodeS.l0]
    rw [if_pos (by omega), if_pos (by omega), if_pos (by omega), rdD_at (by omega), rdD_at (by omega), wrap64_succ (by omega), eqNode_eq]
    rw [drop_cons (l := a) (i := i) (by omega), drop_cons (l := b) (i := i) (by omega)]
    simp only [Option.bind_some]
    by_cases h : a[i] = b[i]
    · rw [decide_eq_true h, if_pos rfl, ih k (i + 1) (by omega) (by omega), h]
      congr 1
      exact decide_eq_decide.2 ⟨fun e => by rw [e], fun e => (List.cons.inj e).2⟩
    · rw [decide_eq_false h, if_neg (by simp)]
      congr 1
      exact (decide_eq_false (fun e => h (List.cons.inj e).1)).symm
theorem eqNodeS_eq (a b : List S45) (hl : a.length ≤ 1099511627776) (k : Nat) (hk : a.length < k) : laws_eqNodeS.f k a b = some (decide (a = b)) := by
  unfold laws_eqNodeS.f
  by_cases h : a.length = b.length
  · rw [if_pos (by omega)]
    exact eqNodeS_l0 a b h hl a.length k 0 (by omega) hk
  · rw [if_neg (by omega)]
    have : a ≠ b := fun e => h (by rw [e])
    simp [this]
theorem rdD_set {l : List S45} {i : Nat} (h : i < l.length) (v : S45) : rd_T45 (l.set i v) (i : Int) = v := by
  rw [rdD_at (by rw [List.length_set]; exact h), List.getElem_set_self]
/-- n marked nodes, from a on. -/
def seqD : Int → Nat → List S45
  | _, 0 => []
  | a, n + 1 => ⟨a, a + 1, a + 2⟩ :: seqD (a + 3) n
theorem seqD_length (a : Int) (n : Nat) : (seqD a n).length = n := by
  induction n generalizing a with
  | zero => rfl
  | succ n ih => simp [seqD, ih]
theorem seqD_at (a : Int) (n i : Nat) (h : i < n) : (seqD a n)[i]'(by rw [seqD_length]; exact h) = ⟨a + 3 * i, a + 3 * i + 1, a + 3 * i + 2⟩ := by
  induction n generalizing a i with
  | zero => omega
  | succ n ih =>
    cases i with
    | zero => simp [seqD]
    | succ i =>
      simp only [seqD, List.getElem_cons_succ]
      rw [ih (a + 3) i (by omega)]
      have e : a + 3 + 3 * (i : Int) = a + 3 * ((i + 1 : Nat) : Int) := by omega
      rw [e]
theorem markNodeS_l0 (d : Nat) : ∀ (k i : Nat) (x : List S45) (a : Int), i + d = x.length → d < k → 0 ≤ a → a + 3 * d ≤ 4611686018427387904 → x.length ≤ 1099511627776 →
    laws_markNodeS.l0 k x a (i : Int) = some (a + 3 * d, x.take i ++ seqD a d) := by
  induction d with
  | zero =>
    intro k i x a hi hk h0 h1 h2
    obtain ⟨k, rfl⟩ := succ_of hk
    simp only [laws_markNodeS.l0]
    rw [if_neg (by omega), List.take_of_length_le (by omega)]
    simp [seqD]
  | succ d ih =>
    intro k i x a hi hk h0 h1 h2
    obtain ⟨k, rfl⟩ := succ_of hk
    simp only [laws_markNodeS.l0]
    rw [if_pos (by omega), if_pos (by omega)]
    simp only [Option.bind_some]
    rw [wrap64_succ (by omega), wrap64_id (n := a + 1) (by omega) (by omega), wrap64_id (n := a + 1 + 1) (by omega) (by omega), wrap64_id (n := a + 1 + 1 + 1) (by omega) (by omega)]
    rw [show ((i : Int)).toNat = i from rfl]
    simp only [rdD_set (l := x) (i := i) (by omega), List.set_set]
    rw [ih k (i + 1) _ (a + 1 + 1 + 1) (by rw [List.length_set]; omega) (by omega) (by omega) (by omega) (by rw [List.length_set]; omega)]
    rw [take_set_self (by omega)]
    simp only [seqD, List.append_assoc, List.singleton_append]
    rw [show a + 1 + 1 + 1 = a + 3 by omega, show a + 1 + 1 = a + 2 by omega]
    congr 2
    omega
theorem markNodeS_eq (x : List S45) (a : Int) (h0 : 0 ≤ a) (h1 : a ≤ 1099511627776) (h2 : x.length ≤ 1099511627776) (k : Nat) (hk : x.length < k) : laws_markNodeS.f k x a = some (a + 3 * x.length, seqD a x.length) := by
  unfold laws_markNodeS.f
  have := markNodeS_l0 x.length k 0 x a (by omega) hk h0 (by omega) h2
  simpa using this
theorem heldNodeS_l0 (n : Nat) (b : Int) (hn : n ≤ 1099511627776) (hb0 : 0 ≤ b) (hb : b ≤ 1099511627776) (d : Nat) : ∀ (k i : Nat), i + d = n → d < k → laws_heldNodeS.l0 k (seqD b n) (b + 3 * i) (i : Int) = some (b + 3 * n) := by
  induction d with
  | zero =>
    intro k i hi hk
    obtain ⟨k, rfl⟩ := succ_of hk
    simp only [laws_heldNodeS.l0]
    rw [if_neg (by rw [seqD_length]; omega)]
    congr 1; omega
  | succ d ih =>
    intro k i hi hk
    obtain ⟨k, rfl⟩ := succ_of hk
    simp only [laws_heldNodeS.l0]
    rw [if_pos (by rw [seqD_length]; omega), if_pos (by omega), rdD_at (by rw [seqD_length]; omega), seqD_at b n i (by omega)]
    have a1 : wrap64 (b + 3 * (i : Int) + 1) = b + 3 * (i : Int) + 1 := wrap64_id (by omega) (by omega)
    have a2 : wrap64 (b + 3 * (i : Int) + 1 + 1) = b + 3 * (i : Int) + 2 := by rw [wrap64_id (by omega) (by omega)]; omega
    have a4 : wrap64 (b + 3 * (i : Int) + 2 + 1) = b + 3 * ((i + 1 : Nat) : Int) := by rw [wrap64_id (by omega) (by omega)]; omega
    rw [if_pos rfl, a1, if_pos rfl, a2, if_pos rfl, a4, wrap64_succ (by omega)]
    exact ih k (i + 1) (by omega) (by omega)
theorem heldNodeS_eq (n : Nat) (b : Int) (hn : n ≤ 1099511627776) (hb0 : 0 ≤ b) (hb : b ≤ 1099511627776) (k : Nat) (hk : n < k) : laws_heldNodeS.f k (seqD b n) b = some (b + 3 * n) := by
  unfold laws_heldNodeS.f
  have := heldNodeS_l0 n b hn hb0 hb n k 0 (by omega) hk
  simpa using this
/-- The letters of a product, p places looked at. -/
def prodE (x : Nat) : Nat → List S45 → List S45
  | 0, xs => xs
  | n + 1, xs => impl_ExprOf.stepL (x.testBit n) n (prodE x n xs)
/-- The sum of the products of the letters of s below n. -/
def sumE (s p : Nat) : Nat → List S45
  | 0 => []
  | n + 1 => if s.testBit n then (if sumE s p n = [] then prodE n p [] else prodE n p (sumE s p n) ++ [⟨6, ((sumE s p n).length : Int) - 1, ((prodE n p (sumE s p n)).length : Int) - 1⟩]) else sumE s p n
theorem stepL_length (b : Bool) (i : Nat) (xs : List S45) : xs.length + 1 ≤ (impl_ExprOf.stepL b i xs).length ∧ (impl_ExprOf.stepL b i xs).length ≤ xs.length + 3 := by
  unfold impl_ExprOf.stepL
  cases b <;> by_cases h : 0 < i <;> simp [h] <;> omega
theorem prodE_length (x p : Nat) (xs : List S45) : xs.length + p ≤ (prodE x p xs).length ∧ (prodE x p xs).length ≤ xs.length + 3 * p := by
  induction p with
  | zero => simp [prodE]
  | succ p ih =>
    have := stepL_length (x.testBit p) p (prodE x p xs)
    simp only [prodE]
    omega
theorem sumE_length (s p n : Nat) : (sumE s p n).length ≤ n * (3 * p + 1) := by
  induction n with
  | zero => simp [sumE]
  | succ n ih =>
    have e : (n + 1) * (3 * p + 1) = n * (3 * p + 1) + (3 * p + 1) := Nat.succ_mul _ _
    simp only [sumE]
    split
    · split
      · have := prodE_length n p ([] : List S45)
        simp at this
        omega
      · have := prodE_length n p (sumE s p n)
        rw [List.length_append, List.length_singleton]
        omega
    · omega
theorem prodO_eq (x : Nat) (hx : x < 1000) (xs : List S45) (hl : xs.length ≤ 1000) (p : Nat) (hp : p ≤ 3) : impl_ExprOf.prodO (x : Int) p xs = some (prodE x p xs) := by
  induction p with
  | zero => rfl
  | succ p ih =>
    have hpl := prodE_length x p xs
    rw [impl_ExprOf.prodO, ih (by omega), Option.bind_some, impl_has_eq (x : Int) _ (by omega) (by omega) (by omega) (by omega), Option.bind_some, if_pos (by omega)]
    rfl
theorem listFrom_snoc (s : Int) (d : Nat) : ∀ i, listFrom s i (d + 1) = listFrom s i d ++ (if hasZ s ((i + d : Nat) : Int) then [((i + d : Nat) : Int)] else []) := by
  induction d with
  | zero => intro i; simp [listFrom]
  | succ d ih =>
    intro i
    rw [show listFrom s i (d + 1 + 1) = (if hasZ s (i : Int) then (i : Int) :: listFrom s (i + 1) (d + 1) else listFrom s (i + 1) (d + 1)) from rfl, ih (i + 1), show listFrom s i (d + 1) = (if hasZ s (i : Int) then (i : Int) :: listFrom s (i + 1) d else listFrom s (i + 1) d) from rfl, show i + 1 + d = i + (d + 1) by omega]
    split <;> rfl
theorem sumO_congr (p : Nat) (A B : List Int) (n : Nat) (h : n ≤ A.length) : impl_ExprOf.sumO p (A ++ B) n = impl_ExprOf.sumO p A n := by
  induction n with
  | zero => rfl
  | succ n ih =>
    have e : rd (A ++ B) (n : Int) = rd A (n : Int) := by
      rw [rd_at (l := A ++ B) (i := n) (by rw [List.length_append]; omega), rd_at (l := A) (i := n) (by omega), List.getElem_append_left (by omega)]
    rw [impl_ExprOf.sumO, impl_ExprOf.sumO, ih (by omega), e]
theorem hasZ_nat {s : Nat} {n : Nat} (h : n ≤ 30) : hasZ (s : Int) (n : Int) = s.testBit n := by
  unfold hasZ
  rw [inR_iff.2 (by omega)]; rfl
theorem sumO_eq (s p : Nat) (hp0 : 1 ≤ p) (hp : p ≤ 3) (n : Nat) (hn : n ≤ 8) : impl_ExprOf.sumO p (listFrom s 0 n) (listFrom s 0 n).length = some (sumE s p n) ∧ (sumE s p n = [] ↔ (listFrom s 0 n).length = 0) := by
  induction n with
  | zero => exact ⟨rfl, by simp [sumE, listFrom]⟩
  | succ n ih =>
    obtain ⟨ih1, ih2⟩ := ih (by omega)
    have hl := sumE_length s p n
    have hl2 : n * (3 * p + 1) ≤ 7 * 10 := Nat.mul_le_mul (by omega) (by omega)
    have hll := listFrom_length s n 0
    rw [listFrom_snoc, Nat.zero_add, hasZ_nat (by omega)]
    simp only [sumE]
    cases hb : s.testBit n
    · simp only [Bool.false_eq_true, if_false, List.append_nil]
      exact ⟨ih1, ih2⟩
    · simp only [if_true]
      have e1 : rd (listFrom s 0 n ++ [(n : Int)]) ((listFrom s 0 n).length : Int) = n := by
        rw [rd_at (by simp)]; simp
      have hpl := prodE_length n p (sumE s p n)
      rw [List.length_append, List.length_singleton, impl_ExprOf.sumO, sumO_congr p _ _ _ (Nat.le_refl _), ih1, Option.bind_some, e1, if_pos (by omega), prodO_eq n (by omega) _ (by omega) p hp, Option.bind_some, if_pos (by omega)]
      by_cases h0 : sumE s p n = []
      · have := ih2.1 h0
        rw [if_neg (by omega), if_pos h0, h0]
        refine ⟨rfl, ⟨fun h => ?_, fun h => by omega⟩⟩
        rw [h0] at hpl
        rw [h] at hpl
        simp at hpl
        omega
      · rw [if_pos (Nat.pos_of_ne_zero fun h => h0 (ih2.2 h)), if_neg h0]
        exact ⟨rfl, ⟨fun h => by simp at h, fun h => by omega⟩⟩
/-- The expression of a set of letters of p places. -/
def exprZ (s p : Int) : List S45 × Bool :=
  if inR p 0 3 && (okB s && decide (s < 2 ^ 2 ^ p.toNat)) then (if s = 0 then ([⟨2, 0, 0⟩], true) else if s = 2 ^ 2 ^ p.toNat - 1 then ([⟨1, 0, 0⟩], true) else if (sumE s.toNat p.toNat (2 ^ p.toNat)).length > 31 then ([], false) else (sumE s.toNat p.toNat (2 ^ p.toNat), true)) else ([], false)
theorem exprZ_length (s p : Int) : (exprZ s p).1.length ≤ 31 := by
  unfold exprZ
  split
  · split
    · simp
    · split
      · simp
      · split
        · simp
        · simp only; omega
  · simp
theorem listFrom_far (s m : Nat) (hm : s < 2 ^ m) (d : Nat) : ∀ i, m ≤ i → listFrom (s : Int) i d = [] := by
  induction d with
  | zero => intro i _; rfl
  | succ d ih =>
    intro i hi
    have : hasZ (s : Int) (i : Int) = false := by
      unfold hasZ
      rw [Int.toNat_natCast, Int.toNat_natCast, Nat.testBit_lt_two_pow (Nat.lt_of_lt_of_le hm (Nat.pow_le_pow_right (by omega) hi)), Bool.and_false]
    rw [listFrom, this, if_neg (by simp), ih (i + 1) (by omega)]
theorem listFrom_add (s : Int) (a : Nat) : ∀ i b, listFrom s i (a + b) = listFrom s i a ++ listFrom s (i + a) b := by
  induction a with
  | zero => intro i b; simp [listFrom]
  | succ a ih =>
    intro i b
    rw [show a + 1 + b = (a + b) + 1 by omega, show listFrom s i (a + b + 1) = (if hasZ s (i : Int) then (i : Int) :: listFrom s (i + 1) (a + b) else listFrom s (i + 1) (a + b)) from rfl, ih (i + 1) b, show listFrom s i (a + 1) = (if hasZ s (i : Int) then (i : Int) :: listFrom s (i + 1) a else listFrom s (i + 1) a) from rfl, show i + 1 + a = i + (a + 1) by omega]
    split <;> rfl
theorem full_eq (p : Nat) (hp : p ≤ 3) : shl .i64 1 (shl .u64 1 (p : Int)) = (2 : Int) ^ 2 ^ p ∧ bitZ (bitZ (p : Int)) = (2 : Int) ^ 2 ^ p ∧ bitZ (p : Int) = ((2 ^ p : Nat) : Int) ∧ (2 : Int) ^ 2 ^ p ≤ 256 ∧ 2 ^ p ≤ 8 ∧ (2 : Int) ≤ 2 ^ 2 ^ p := by
  have : p = 0 ∨ p = 1 ∨ p = 2 ∨ p = 3 := by omega
  rcases this with rfl | rfl | rfl | rfl <;> refine ⟨by decide +kernel, by decide +kernel, by decide +kernel, by decide +kernel, by decide +kernel, by decide +kernel⟩
theorem impl_ExprOf_eq (s p : Int) (k : Nat) (hk : 70 ≤ k) : impl_ExprOf.f k s p = some (exprZ s p) := by
  unfold impl_ExprOf.f exprZ impl_isProps.f
  rw [impl_inRange_eq, Option.bind_some, Option.bind_some]
  cases hr : inR p 0 3
  · rw [if_neg (by simp), Bool.false_and, if_neg (by simp)]
  · obtain ⟨h0, h3⟩ := inR_iff.1 hr
    obtain ⟨q, rfl⟩ := Int.eq_ofNat_of_zero_le h0
    obtain ⟨_, f2, f3, f4, f5, f6⟩ := full_eq q (by omega)
    have f7 : bitZ (q : Int) ≤ 8 := by rw [f3]; exact Int.ofNat_le.2 f5
    have f8 := bitZ_pos (q : Int)
    rw [if_pos rfl, impl_SetOk_eq, Option.bind_some, Bool.true_and]
    cases hs : okB s
    · rw [if_neg (by simp), Bool.false_and, if_neg (by simp)]
    · obtain ⟨s0, s1⟩ := inR_iff.1 hs
      rw [if_pos rfl, impl_only_eq _ (by omega) (by omega), Option.bind_some, impl_only_eq _ (by omega) (by omega), Option.bind_some, f2, Bool.true_and, Int.toNat_natCast]
      by_cases hlt : s < 2 ^ 2 ^ q
      · rw [if_neg (by omega), decide_eq_true hlt, if_pos rfl, wrap64_id (by omega) (by omega)]
        by_cases e0 : s = 0
        · rw [if_pos e0, if_pos e0]
        · rw [if_neg e0, if_neg e0]
          by_cases e1 : s = 2 ^ 2 ^ q - 1
          · rw [if_pos e1, if_pos e1]
          · rw [if_neg e1, if_neg e1, if_pos (by omega)]
            obtain ⟨t, rfl⟩ := Int.eq_ofNat_of_zero_le s0
            have q1 : 1 ≤ q := by
              rcases Nat.eq_zero_or_pos q with rfl | h
              · have h2 : (2 : Int) ^ 2 ^ 0 = 2 := by decide
                rw [h2] at hlt e1
                omega
              · exact h
            have ht : t < 2 ^ 2 ^ q := by
              have : ((2 ^ 2 ^ q : Nat) : Int) = (2 : Int) ^ 2 ^ q := by simp
              omega
            have hL : listOf (t : Int) = listFrom t 0 (2 ^ q) := by
              unfold listOf
              rw [if_pos hs, show 31 = 2 ^ q + (31 - 2 ^ q) by omega, listFrom_add, listFrom_far t (2 ^ q) ht (31 - 2 ^ q) (0 + 2 ^ q) (by omega), List.append_nil]
            have hlen := sumE_length t q (2 ^ q)
            have hlen2 : 2 ^ q * (3 * q + 1) ≤ 8 * 10 := Nat.mul_le_mul (by omega) (by omega)
            unfold impl_ExprOf.restO
            rw [impl_SetList_eq _ k hk, Option.bind_some, hL, (sumO_eq t q q1 (by omega) (2 ^ q) (by omega)).1, Option.bind_some, if_pos (by omega), Int.toNat_natCast]
            split <;> rfl
      · rw [if_pos (by omega), decide_eq_false hlt, if_neg (by simp)]
theorem shr_and_one0 (x i : Nat) (hx : x < 1000) (hi : i ≤ 63) : (Go.bits .and .i64 (shr .i64 (x : Int) (i : Int)) 1 = 0) ↔ x.testBit i = false := by
  have hle : x / 2 ^ i ≤ x := Nat.div_le_self _ _
  rw [shr_nat _ _ (by omega)]
  have := i64_and (x / 2 ^ i) 1 (by omega) (by omega)
  rw [nat_mask1] at this
  rw [show (1 : Int) = ((1 : Nat) : Int) from rfl, this, Nat.testBit_eq_decide_div_mod_eq, decide_eq_false_iff_not]
  omega
theorem spec_l2Product_l0 (x p : Nat) (hx : x < 1000) (hp : p ≤ 3) (xs : List S45) (hl : xs.length ≤ 1000) (d : Nat) : ∀ (k i : Nat), i + d = p → d < k → spec_l2Product.l0 k (prodE x i xs) x p (i : Int) = some (prodE x p xs) := by
  induction d with
  | zero =>
    intro k i hi hk
    obtain ⟨k, rfl⟩ := succ_of hk
    obtain rfl : i = p := by omega
    simp only [spec_l2Product.l0]
    rw [if_neg (by omega)]
  | succ d ih =>
    intro k i hi hk
    obtain ⟨k, rfl⟩ := succ_of hk
    have hpl := prodE_length x i xs
    have ih' := ih k (i + 1) (by omega) (by omega)
    rw [prodE] at ih'
    unfold impl_ExprOf.stepL at ih'
    generalize prodE x i xs = ys at ih' hpl ⊢
    simp only [spec_l2Product.l0]
    rw [if_pos (by omega), if_pos (by omega), Option.bind_some, if_pos (by omega), wrap64_succ (by omega)]
    have el : ∀ z : S45, (ys ++ [z]).length = ys.length + 1 := fun z => by simp
    by_cases hb : x.testBit i = true
    · rw [if_neg (fun h => by rw [(shr_and_one0 x i hx (by omega)).1 h] at hb; cases hb)]
      rw [hb] at ih'
      simp only [if_true] at ih'
      by_cases h0 : 0 < i
      · rw [if_pos h0] at ih'
        rw [if_pos (by omega), if_pos (by rw [el]; omega), el, wrap64_id (n := (ys.length : Int) - 1) (by omega) (by omega), wrap64_id (n := ((ys.length + 1 : Nat) : Int) - 1) (by omega) (by omega)]
        rw [el] at ih'
        exact ih'
      · rw [if_neg h0] at ih'
        rw [if_neg (by omega)]
        exact ih'
    · simp only [Bool.not_eq_true] at hb
      rw [if_pos ((shr_and_one0 x i hx (by omega)).2 hb), if_pos (by rw [el]; omega), Option.bind_some, el, wrap64_id (n := ((ys.length + 1 : Nat) : Int) - 1) (by omega) (by omega)]
      rw [hb] at ih'
      simp only [Bool.false_eq_true, if_false, el] at ih'
      have el2 : ∀ z z' : S45, ((ys ++ [z]) ++ [z']).length = ys.length + 2 := fun z z' => by simp
      by_cases h0 : 0 < i
      · rw [if_pos h0] at ih'
        rw [if_pos (by omega), if_pos (by rw [el2]; omega), el2, wrap64_id (n := (ys.length : Int) - 1) (by omega) (by omega), wrap64_id (n := ((ys.length + 2 : Nat) : Int) - 1) (by omega) (by omega)]
        rw [el2] at ih'
        exact ih'
      · rw [if_neg h0] at ih'
        rw [if_neg (by omega)]
        exact ih'
theorem spec_ExprOf_l0 (s p : Nat) (hs : s ≤ 2147483647) (hp0 : 1 ≤ p) (hp : p ≤ 3) (d : Nat) : ∀ (k i : Nat), i + d = 2 ^ p → d + 10 < k →
    spec_ExprOf.l0 k (s : Int) (p : Int) [] (sumE s p i) (i : Int) = some (if (sumE s p (2 ^ p)).length > 31 then ([], false) else (sumE s p (2 ^ p), true)) := by
  have h8 : 2 ^ p ≤ 8 := (full_eq p hp).2.2.2.2.1
  have hsh : shl .i64 1 (p : Int) = ((2 ^ p : Nat) : Int) := by rw [shl_one p (by omega), bitZ_nat]
  induction d with
  | zero =>
    intro k i hi hk
    obtain ⟨k, rfl⟩ := succ_of (show 0 < k by omega)
    obtain rfl : i = 2 ^ p := by omega
    simp only [spec_ExprOf.l0]
    rw [if_pos (by omega), hsh, if_neg (by omega)]
    by_cases h : (sumE s p (2 ^ p)).length > 31
    · rw [if_pos h, if_pos (by omega)]
    · rw [if_neg h, if_neg (by omega)]
  | succ d ih =>
    intro k i hi hk
    obtain ⟨k, rfl⟩ := succ_of (show 0 < k by omega)
    have hl := sumE_length s p i
    have hl2 : i * (3 * p + 1) ≤ 8 * 10 := Nat.mul_le_mul (by omega) (by omega)
    have ih' := ih k (i + 1) (by omega) (by omega)
    simp only [sumE] at ih'
    simp only [spec_ExprOf.l0]
    rw [if_pos (by omega), hsh, if_pos (by omega), spec_l1Has_eq _ _ (by omega) (by omega), Option.bind_some, hasZ_nat (by omega), wrap64_succ (by omega)]
    cases hb : s.testBit i
    · rw [hb] at ih'
      rw [if_neg (by simp)]
      simpa using ih'
    · rw [hb] at ih'
      simp only [if_true] at ih'
      have hp1 := spec_l2Product_l0 i p (by omega) hp (sumE s p i) (by omega) p k 0 (by omega) (by omega)
      rw [prodE] at hp1
      have hpl := prodE_length i p (sumE s p i)
      unfold spec_l2Product.f
      rw [if_pos rfl, show (0 : Int) = ((0 : Nat) : Int) from rfl, hp1, Option.bind_some, wrap64_id (n := ((sumE s p i).length : Int) - 1) (by omega) (by omega), wrap64_id (n := ((prodE i p (sumE s p i)).length : Int) - 1) (by omega) (by omega)]
      by_cases h0 : sumE s p i = []
      · rw [h0] at ih' ⊢
        rw [if_pos rfl] at ih'
        rw [if_neg (by simp)]
        exact ih'
      · rw [if_neg h0] at ih'
        have : 0 < (sumE s p i).length := List.length_pos_iff.2 h0
        rw [if_pos (by omega), if_pos (by omega)]
        exact ih'
theorem spec_ExprOf_eq (s p : Int) (k : Nat) (hk : 70 ≤ k) : spec_ExprOf.f k s p = some (exprZ s p) := by
  unfold spec_ExprOf.f exprZ
  rw [Option.bind_some, spec_l1In_eq, Option.bind_some]
  cases hr : inR p 0 3
  · rw [if_neg (by simp), Bool.false_and, if_neg (by simp)]
  · obtain ⟨h0, h3⟩ := inR_iff.1 hr
    obtain ⟨q, rfl⟩ := Int.eq_ofNat_of_zero_le h0
    obtain ⟨f1, f2, f3, f4, f5, f6⟩ := full_eq q (by omega)
    obtain ⟨k, rfl⟩ := succ_of (show 0 < k by omega)
    rw [if_pos rfl, if_pos h0, spec_SetOk_eq, Option.bind_some, Bool.true_and, f1, wrap64_id (by omega) (by omega), Int.toNat_natCast]
    simp only [spec_ExprOf.j0]
    cases hs : okB s
    · rw [if_neg Bool.false_ne_true, if_pos trivial, Bool.false_and, if_neg Bool.false_ne_true]
    · obtain ⟨s0, s1⟩ := inR_iff.1 hs
      obtain ⟨t, rfl⟩ := Int.eq_ofNat_of_zero_le s0
      have hpn : ((2 ^ 2 ^ q : Nat) : Int) = (2 : Int) ^ 2 ^ q := by simp
      have hpp := Nat.two_pow_pos (2 ^ q)
      have hIn : (okB (t : Int) && okB ((2 : Int) ^ 2 ^ q - 1) && (Go.bits .and .i64 (t : Int) ((2 : Int) ^ 2 ^ q - 1) == (t : Int))) = decide ((t : Int) < 2 ^ 2 ^ q) := by
        have e : (2 : Int) ^ 2 ^ q - 1 = ((2 ^ 2 ^ q - 1 : Nat) : Int) := by omega
        have ok2 : okB ((2 : Int) ^ 2 ^ q - 1) = true := inR_iff.2 (by omega)
        rw [hs, ok2, Bool.true_and, Bool.true_and, e, i64_and _ _ (by omega) (by omega), Nat.and_two_pow_sub_one_eq_mod]
        rw [Bool.eq_iff_iff, beq_iff_eq, decide_eq_true_iff, ← hpn]
        constructor
        · intro h
          have := Nat.mod_lt t hpp
          omega
        · intro h
          rw [Nat.mod_eq_of_lt (by omega)]
      rw [if_pos rfl, spec_SetIn_eq, Option.bind_some, hIn, Bool.true_and]
      by_cases hlt : (t : Int) < 2 ^ 2 ^ q
      · rw [decide_eq_true hlt, if_pos rfl, Bool.not_true, if_neg (by simp)]
        by_cases e0 : (t : Int) = 0
        · rw [if_pos e0, if_pos e0]
        · rw [if_neg e0, if_neg e0]
          by_cases e1 : (t : Int) = 2 ^ 2 ^ q - 1
          · rw [if_pos e1, if_pos e1]
          · rw [if_neg e1, if_neg e1]
            have q1 : 1 ≤ q := by
              rcases Nat.eq_zero_or_pos q with rfl | h
              · have h2 : (2 : Int) ^ 2 ^ 0 = 2 := by decide
                rw [h2] at hlt e1
                omega
              · exact h
            have := spec_ExprOf_l0 t q (by omega) q1 (by omega) (2 ^ q) k 0 (by omega) (by omega)
            rw [sumE] at this
            exact this
      · rw [decide_eq_false hlt, Bool.not_false, if_pos rfl, if_neg Bool.false_ne_true]
end hFnExactExprOf
open hFnExactExprOf
theorem FnExactExprOf : laws_FnExactExprOf.Pure := by
  intro s p ws wp
  obtain ⟨k, hk⟩ : ∃ k, k = 5000 := ⟨_, rfl⟩
  refine ⟨k + 3, ?_⟩
  unfold laws_FnExactExprOf.f
  have hA : ∀ j : Nat, spec_ExprOf.f (k + j) s p = some (exprZ s p) := fun j => spec_ExprOf_eq s p _ (by omega)
  have hB : ∀ j : Nat, impl_ExprOf.f (k + j) s p = some (exprZ s p) := fun j => impl_ExprOf_eq s p _ (by omega)
  have hL := exprZ_length s p
  generalize exprZ s p = T at hA hB hL
  obtain ⟨u, ok⟩ := T
  simp only at hL
  have e2 : ∀ j : Nat, laws_eqNodeS.f (k + j) u u = some true := fun j => by rw [eqNodeS_eq u u (by omega) _ (by omega)]; simp
  obtain ⟨y, p4, n2, e5, e6⟩ : ∃ (y : Int) (p4 : List S45), ¬ y < 0 ∧ (∀ j : Nat, laws_markNodeS.f (k + j) u 1 = some (y, p4)) ∧ ∀ j : Nat, laws_heldNodeS.f (k + j) p4 1 = some y := ⟨1 + 3 * (u.length : Int), _, by omega, fun j => markNodeS_eq u 1 (by omega) (by omega) (by omega) _ (by omega), fun j => heldNodeS_eq u.length 1 (by omega) (by omega) (by omega) _ (by omega)⟩
  have e60 : laws_heldNodeS.f k p4 1 = some y := e6 0
  have e61 : laws_heldNodeS.f (k + 1) p4 1 = some y := e6 1
  rw [hA, Option.bind_some, hB, Option.bind_some, e2, Option.bind_some, if_pos rfl, bne_self_eq_false]
  rw [laws_FnExactExprOf.j0, if_neg (by simp), e5, Option.bind_some, e6, Option.bind_some, if_neg n2, if_pos rfl, hB, Option.bind_some, e2, Option.bind_some, if_pos rfl, bne_self_eq_false]
  rw [laws_FnExactExprOf.j1, if_neg (by simp), e61, Option.bind_some, if_neg n2, if_pos rfl]
end Go.Proofs.Ytjnieoogddmmcaa.Pure
