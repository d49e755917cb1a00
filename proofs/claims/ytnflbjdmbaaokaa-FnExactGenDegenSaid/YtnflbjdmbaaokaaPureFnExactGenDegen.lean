/- What the printed functions of FnExactGenDegen come to, one lemma a function, and from these the law: for all arguments (within the bounds that the printed statement names) it answers true. -/
import Derived.Test.YtnflbjdmbaaokaaMFnExactGenDegenx13
import Derived.Test.YtnflbjdmbaaokaaBase
import Derived.Test.YtnflbjdmbaaokaaBaseA
import Derived.Test.YtnflbjdmbaaokaaBaseG
import Derived.Test.YtnflbjdmbaaokaaBaseL
import Derived.Test.YtnflbjdmbaaokaaBaseS
import Derived.Test.YtnflbjdmbaaokaaBaseV
import Derived.Test.YtnflbjdmbaaokaaBaseW
namespace Go.Proofs.Ytnflbjdmbaaokaa.Pure
open Go.RowKit Go.Proofs.Ytnflbjdmbaaokaa.MFnExactGenDegen Go.Proofs.YtnflbjdmbaaokaaW.PrintWords Go.Proofs.YtnflbjdmbaaokaaW.PrintLast Go.Proofs.Ytnflbjdmbaaokaa.Base

namespace hFnExactGenDegen
theorem spec_l1In_eq (a b c : Int) : spec_l1In.f a b c = some (inR a b c) := by
  unfold spec_l1In.f inR
  by_cases h : a ≥ b
  · rw [if_pos h]; simp [show b ≤ a from h]
  · rw [if_neg h]; simp; omega
theorem impl_inRange_eq (a b c : Int) : impl_inRange.f a b c = some (inR a b c) := by
  unfold impl_inRange.f inR
  by_cases h : a ≥ b
  · rw [if_pos h]; simp [show b ≤ a from h]
  · rw [if_neg h]; simp; omega
theorem spec_SetOk_eq (s : Int) : spec_SetOk.f s = some (okB s) := by
  simp only [spec_SetOk.f, spec_l1In_eq, Option.bind_some, okB]
theorem impl_SetOk_eq (s : Int) : impl_SetOk.f s = some (okB s) := by
  simp only [impl_SetOk.f, impl_inRange_eq, Option.bind_some, okB]
theorem spec_l1Bit_eq (i : Int) (h0 : 0 ≤ i) (h1 : i ≤ 31) : spec_l1Bit.f i = some (bitZ i) := by
  obtain ⟨n, rfl⟩ := Int.eq_ofNat_of_zero_le h0
  unfold spec_l1Bit.f
  rw [and31 n (by omega), if_pos h0, shl_one n (by omega)]
theorem impl_only_eq (i : Int) (h0 : 0 ≤ i) (h1 : i ≤ 62) : impl_only.f i = some (bitZ i) := by
  obtain ⟨n, rfl⟩ := Int.eq_ofNat_of_zero_le h0
  unfold impl_only.f
  rw [wrap_u64_id h0 (by omega), if_pos h0, shl_one n (by omega)]
theorem spec_l1Has_eq (s i : Int) (h0 : 0 ≤ s) (h1 : s < 9223372036854775808) : spec_l1Has.f s i = some (hasZ s i) := by
  unfold spec_l1Has.f hasZ
  rw [spec_l1In_eq]
  simp only [Option.bind_some]
  by_cases h : inR i 0 30 = true
  · have hi := inR_iff.1 h
    have hp := bitZ_pos i
    rw [if_pos h, spec_l1Bit_eq i hi.1 (by omega), h]
    simp only [Option.bind_some, Bool.true_and]
    rw [and_bitZ s i h0 h1 hi.1 (by omega)]
    congr 1
    by_cases hb : s.toNat.testBit i.toNat = true
    · rw [if_pos hb, hb]; rw [bne_iff_ne]; omega
    · rw [if_neg hb]; simp at hb; rw [hb]; rfl
  · rw [if_neg h]; simp at h; rw [h]; rfl
theorem impl_has_eq (s i : Int) (h0 : 0 ≤ s) (h1 : s < 9223372036854775808) (hi0 : 0 ≤ i) (hi : i ≤ 62) : impl_has.f s i = some (s.toNat.testBit i.toNat) := by
  unfold impl_has.f
  rw [wrap_u64_id hi0 (by omega), if_pos hi0, shr_and_one s i h0 h1 hi0 (by omega)]
theorem spec_SetIn_eq (a b : Int) : spec_SetIn.f a b = some (okB a && okB b && (Go.bits .and .i64 a b == a)) := by
  unfold spec_SetIn.f
  rw [spec_SetOk_eq, spec_SetOk_eq]
  simp only [Option.bind_some]
  cases okB a <;> cases okB b <;> simp
theorem impl_SetList_l0 (s : Int) (h0 : 0 ≤ s) (h1 : s ≤ 2147483647) (d : Nat) : ∀ (k i : Nat) (out : List Int), i + d = 31 → d < k → out.length ≤ i → impl_SetList.l0 k s out (i : Int) = some (out ++ listFrom s i d) := by
  induction d with
  | zero =>
    intro k i out hi hk ho
    obtain ⟨k, rfl⟩ := succ_of hk
    simp only [impl_SetList.l0]
    rw [if_neg (by omega)]
    simp [listFrom]
  | succ d ih =>
    intro k i out hi hk ho
    obtain ⟨k, rfl⟩ := succ_of hk
    simp only [impl_SetList.l0]
    rw [if_pos (by omega), impl_has_eq s _ h0 (by omega) (by omega) (by omega)]
    simp only [Option.bind_some]
    rw [wrap64_succ (by omega)]
    unfold listFrom
    have e : hasZ s (i : Int) = s.toNat.testBit (i : Int).toNat := by
      unfold hasZ
      rw [show inR (i : Int) 0 30 = true from inR_iff.2 (by omega)]
      rfl
    rw [e]
    by_cases hb : s.toNat.testBit (i : Int).toNat = true
    · rw [if_pos hb, if_pos (by omega), ih k (i + 1) _ (by omega) (by omega) (by simp; omega), if_pos hb]
      simp
    · rw [if_neg hb, ih k (i + 1) _ (by omega) (by omega) (by omega), if_neg hb]
theorem impl_SetList_eq (s : Int) (k : Nat) (hk : 70 ≤ k) : impl_SetList.f k s = some (listOf s) := by
  unfold impl_SetList.f listOf
  rw [impl_SetOk_eq]
  simp only [Option.bind_some]
  by_cases h : okB s = true
  · have hs := inR_iff.1 h
    rw [if_pos h, if_pos h]
    have := impl_SetList_l0 s hs.1 hs.2 31 k 0 [] (by omega) (by omega) (by simp)
    simpa using this
  · rw [if_neg h, if_neg h]
theorem impl_isLetters_eq (n : Int) : impl_isLetters.f n = some (inR n 1 8) := by
  unfold impl_isLetters.f
  rw [impl_inRange_eq]; rfl
deriving instance DecidableEq for S48
theorem rdE_at {l : List S48} {i : Nat} (h : i < l.length) : rd_T48 l (i : Int) = l[i] := by
  simp [rd_T48, List.getD_eq_getElem?_getD, List.getElem?_eq_getElem h]
theorem rdE_set {l : List S48} {i : Nat} (h : i < l.length) (v : S48) : rd_T48 (l.set i v) (i : Int) = v := by
  rw [rdE_at (by rw [List.length_set]; exact h), List.getElem_set_self]
theorem eqEdge_eq (a b : S48) : laws_eqEdge.f a.f0 a.f1 a.f2 a.f3 b.f0 b.f1 b.f2 b.f3 = some (decide (a = b)) := by
  unfold laws_eqEdge.f
  obtain ⟨a0, a1, a2, a3⟩ := a
  obtain ⟨b0, b1, b2, b3⟩ := b
  by_cases h0 : a0 = b0 <;> by_cases h1 : a1 = b1 <;> by_cases h2 : a2 = b2 <;> by_cases h3 : a3 = b3 <;> simp [h0, h1, h2, h3]
theorem eqEdgeS_l0 (a b : List S48) (hab : a.length = b.length) (hl : a.length ≤ 1099511627776) (d : Nat) : ∀ (k i : Nat), i + d = a.length → d < k → laws_eqEdgeS.l0 k a b (i : Int) = some (decide (a.drop i = b.drop i)) := by
  induction d with
  | zero =>
    intro k i hi hk
    obtain ⟨k, rfl⟩ := succ_of hk
    simp only [laws_eqEdgeS.l0]
    rw [if_neg (by omega), List.drop_eq_nil_of_le (by omega), List.drop_eq_nil_of_le (by omega)]
    simp
  | succ d ih =>
    intro k i hi hk
    obtain ⟨k, rfl⟩ := succ_of hk
    simp only [laws_eqEdgeS.l0]
    rw [if_pos (by omega), if_pos (by omega), if_pos (by omega), rdE_at (by omega), rdE_at (by omega), wrap64_succ (by omega), eqEdge_eq]
    rw [drop_cons (l := a) (i := i) (by omega), drop_cons (l := b) (i := i) (by omega)]
    simp only [Option.bind_some]
    by_cases h : a[i] = b[i]
    · rw [decide_eq_true h, if_pos rfl, ih k (i + 1) (by omega) (by omega), h]
      congr 1
      exact decide_eq_decide.2 ⟨fun e => by rw [e], fun e => (List.cons.inj e).2⟩
    · rw [decide_eq_false h, if_neg (by simp)]
      congr 1
      exact (decide_eq_false (fun e => h (List.cons.inj e).1)).symm
theorem eqEdgeS_eq (a b : List S48) (hl : a.length ≤ 1099511627776) (k : Nat) (hk : a.length < k) : laws_eqEdgeS.f k a b = some (decide (a = b)) := by
  unfold laws_eqEdgeS.f
  by_cases h : a.length = b.length
  · rw [if_pos (by omega)]
    exact eqEdgeS_l0 a b h hl a.length k 0 (by omega) hk
  · rw [if_neg (by omega)]
    have : a ≠ b := fun e => h (by rw [e])
    simp [this]
theorem eqAuto_eq (a b c : Int) (l : List S48) (a' b' c' : Int) (l' : List S48) (hl : l.length ≤ 1099511627776) (k : Nat) (hk : l.length < k) :
    laws_eqAuto.f k a b c l a' b' c' l' = some (decide ((a, b, c, l) = (a', b', c', l'))) := by
  unfold laws_eqAuto.f
  rw [eqEdgeS_eq l l' hl k hk]
  by_cases h0 : a = a' <;> by_cases h1 : b = b' <;> by_cases h2 : c = c' <;> by_cases h3 : l = l' <;> simp [h0, h1, h2, h3]
/-- n marked edges, from a on. -/
def seqE : Int → Nat → List S48
  | _, 0 => []
  | a, n + 1 => ⟨a, a + 1, a + 2, ((Int.tmod (a + 3) 3) == 0)⟩ :: seqE (a + 4) n
theorem seqE_length (a : Int) (n : Nat) : (seqE a n).length = n := by
  induction n generalizing a with
  | zero => rfl
  | succ n ih => simp [seqE, ih]
theorem seqE_at (a : Int) (n i : Nat) (h : i < n) : (seqE a n)[i]'(by rw [seqE_length]; exact h) = ⟨a + 4 * i, a + 4 * i + 1, a + 4 * i + 2, ((Int.tmod (a + 4 * i + 3) 3) == 0)⟩ := by
  induction n generalizing a i with
  | zero => omega
  | succ n ih =>
    cases i with
    | zero => simp [seqE]
    | succ i =>
      simp only [seqE, List.getElem_cons_succ]
      rw [ih (a + 4) i (by omega)]
      have e : a + 4 + 4 * (i : Int) = a + 4 * ((i + 1 : Nat) : Int) := by omega
      rw [e]
theorem markEdgeS_l0 (d : Nat) : ∀ (k i : Nat) (x : List S48) (a : Int), i + d = x.length → d < k → 0 ≤ a → a + 4 * d ≤ 4611686018427387904 → x.length ≤ 1099511627776 →
    laws_markEdgeS.l0 k x a (i : Int) = some (a + 4 * d, x.take i ++ seqE a d) := by
  induction d with
  | zero =>
    intro k i x a hi hk h0 h1 h2
    obtain ⟨k, rfl⟩ := succ_of hk
    simp only [laws_markEdgeS.l0]
    rw [if_neg (by omega), List.take_of_length_le (by omega)]
    simp [seqE]
  | succ d ih =>
    intro k i x a hi hk h0 h1 h2
    obtain ⟨k, rfl⟩ := succ_of hk
    simp only [laws_markEdgeS.l0]
    rw [if_pos (by omega), if_pos (by omega)]
    simp only [Option.bind_some]
    rw [wrap64_succ (by omega), wrap64_id (n := a + 1) (by omega) (by omega), wrap64_id (n := a + 1 + 1) (by omega) (by omega), wrap64_id (n := a + 1 + 1 + 1) (by omega) (by omega), wrap64_id (n := a + 1 + 1 + 1 + 1) (by omega) (by omega)]
    rw [show ((i : Int)).toNat = i from rfl]
    simp only [rdE_set (l := x) (i := i) (by omega), List.set_set]
    rw [ih k (i + 1) _ (a + 1 + 1 + 1 + 1) (by rw [List.length_set]; omega) (by omega) (by omega) (by omega) (by rw [List.length_set]; omega)]
    rw [take_set_self (by omega)]
    simp only [seqE, List.append_assoc, List.singleton_append]
    rw [show a + 1 + 1 + 1 + 1 = a + 4 by omega, show a + 1 + 1 + 1 = a + 3 by omega, show a + 1 + 1 = a + 2 by omega]
    congr 2
    omega
theorem markEdgeS_eq (x : List S48) (a : Int) (h0 : 0 ≤ a) (h1 : a ≤ 1099511627776) (h2 : x.length ≤ 1099511627776) (k : Nat) (hk : x.length < k) : laws_markEdgeS.f k x a = some (a + 4 * x.length, seqE a x.length) := by
  unfold laws_markEdgeS.f
  have := markEdgeS_l0 x.length k 0 x a (by omega) hk h0 (by omega) h2
  simpa using this
theorem markAuto_eq (p q r : Int) (x : List S48) (a : Int) (h0 : 0 ≤ a) (h1 : a ≤ 1099511627776) (h2 : x.length ≤ 1099511627776) (k : Nat) (hk : x.length < k) : laws_markAuto.f k p q r x a = some (a + 4 * x.length, seqE a x.length) := by
  unfold laws_markAuto.f
  rw [markEdgeS_eq x a h0 h1 h2 k hk]
  rfl
theorem heldEdgeS_l0 (n : Nat) (b : Int) (hn : n ≤ 1099511627776) (hb0 : 0 ≤ b) (hb : b ≤ 1099511627776) (d : Nat) : ∀ (k i : Nat), i + d = n → d < k → laws_heldEdgeS.l0 k (seqE b n) (b + 4 * i) (i : Int) = some (b + 4 * n) := by
  induction d with
  | zero =>
    intro k i hi hk
    obtain ⟨k, rfl⟩ := succ_of hk
    simp only [laws_heldEdgeS.l0]
    rw [if_neg (by rw [seqE_length]; omega)]
    congr 1; omega
  | succ d ih =>
    intro k i hi hk
    obtain ⟨k, rfl⟩ := succ_of hk
    simp only [laws_heldEdgeS.l0]
    rw [if_pos (by rw [seqE_length]; omega), if_pos (by omega), rdE_at (by rw [seqE_length]; omega), seqE_at b n i (by omega)]
    have a1 : wrap64 (b + 4 * (i : Int) + 1) = b + 4 * (i : Int) + 1 := wrap64_id (by omega) (by omega)
    have a2 : wrap64 (b + 4 * (i : Int) + 1 + 1) = b + 4 * (i : Int) + 2 := by rw [wrap64_id (by omega) (by omega)]; omega
    have a3 : wrap64 (b + 4 * (i : Int) + 2 + 1) = b + 4 * (i : Int) + 3 := by rw [wrap64_id (by omega) (by omega)]; omega
    have a4 : wrap64 (b + 4 * (i : Int) + 3 + 1) = b + 4 * ((i + 1 : Nat) : Int) := by rw [wrap64_id (by omega) (by omega)]; omega
    rw [if_pos rfl, a1, if_pos rfl, a2, if_pos rfl, a3, if_neg (by simp), a4, wrap64_succ (by omega)]
    exact ih k (i + 1) (by omega) (by omega)
theorem heldEdgeS_eq (n : Nat) (b : Int) (hn : n ≤ 1099511627776) (hb0 : 0 ≤ b) (hb : b ≤ 1099511627776) (k : Nat) (hk : n < k) : laws_heldEdgeS.f k (seqE b n) b = some (b + 4 * n) := by
  unfold laws_heldEdgeS.f
  have := heldEdgeS_l0 n b hn hb0 hb n k 0 (by omega) hk
  simpa using this
theorem heldAuto_eq (p q r : Int) (n : Nat) (b : Int) (hn : n ≤ 1099511627776) (hb0 : 0 ≤ b) (hb : b ≤ 1099511627776) (k : Nat) (hk : n < k) : laws_heldAuto.f k p q r (seqE b n) b = some (b + 4 * n) := by
  unfold laws_heldAuto.f
  rw [heldEdgeS_eq n b hn hb0 hb k hk]
  simp only [Option.bind_some]
  rw [if_neg (by omega)]
theorem spec_l4State_eq (x n : Int) (h0 : -1000 ≤ n) (h1 : n ≤ 1000) : spec_l4State.f x n = some (inR x 0 (n - 1)) := by
  unfold spec_l4State.f
  rw [wrap64_id (by omega) (by omega), spec_l1In_eq]; rfl
theorem spec_l4Less_eq (a b c : Int) (g : Bool) (a' b' c' : Int) (g' : Bool) : spec_l4Less.f a b c g a' b' c' g' = some (lessK (a, b, c) (a', b', c')) := by
  unfold spec_l4Less.f lessK
  by_cases h : a = a'
  · rw [if_pos h, if_pos h]
    by_cases h' : b = b'
    · rw [if_pos h', if_pos h']
    · rw [if_neg h', if_neg h']
  · rw [if_neg h, if_neg h]
theorem spec_l5Less_eq (a b c g a' b' c' g' : Int) : spec_l5Less.f a b c g a' b' c' g' = some (lessK (a, b, c) (a', b', c')) := by
  unfold spec_l5Less.f
  rw [spec_l4Less_eq]; rfl
theorem cmp_Compare_eq (a b : Int) : cmp_Compare_int.f a b = some (cmpZ a b) := by
  unfold cmp_Compare_int.f cmp_isNaN_int.f cmpZ
  simp only [Option.bind_some, bne_self_eq_false, Bool.false_eq_true, if_false]
  by_cases h : a < b
  · rw [if_pos h, if_pos h]
  · rw [if_neg h, if_neg h]
    by_cases h' : a > b
    · rw [if_pos h', if_pos h']
    · rw [if_neg h', if_neg h']
theorem cmp_Or_eq (a b c : Int) (k : Nat) (hk : 3 < k) : cmp_Or_int.f k [a, b, c] = some (orZ a b c) := by
  unfold cmp_Or_int.f orZ
  obtain ⟨k, rfl⟩ : ∃ m, k = m + 4 := ⟨k - 4, by omega⟩
  have e0 : rd [a, b, c] 0 = a := rfl
  have e1 : rd [a, b, c] 1 = b := rfl
  have e2 : rd [a, b, c] 2 = c := rfl
  have w0 : wrap64 (0 + 1) = 1 := by rw [wrap64_id (by omega) (by omega)]; rfl
  have w1 : wrap64 (1 + 1) = 2 := by rw [wrap64_id (by omega) (by omega)]; rfl
  have w2 : wrap64 (2 + 1) = 3 := by rw [wrap64_id (by omega) (by omega)]; rfl
  have l3 : (([a, b, c].length : Nat) : Int) = 3 := rfl
  rw [l3]
  simp only [cmp_Or_int.l0, e0, e1, e2, w0, w1, w2, l3]
  by_cases ha : a = 0
  · by_cases hb : b = 0
    · by_cases hc : c = 0
      · simp [ha, hb, hc]
      · simp [ha, hb, hc]
    · simp [ha, hb]
  · simp [ha]
theorem impl_compareEdges_eq (a b c : Int) (g : Bool) (a' b' c' : Int) (g' : Bool) (k : Nat) (hk : 3 < k) : impl_compareEdges.f k a b c g a' b' c' g' = some (cmpK (a, b, c) (a', b', c')) := by
  unfold impl_compareEdges.f
  simp only [cmp_Compare_eq, Option.bind_some, cmp_Or_eq _ _ _ k hk]
  rfl
theorem impl_compareGEdges_eq (a b c g a' b' c' g' : Int) (k : Nat) (hk : 3 < k) : impl_compareGEdges.f k a b c g a' b' c' g' = some (cmpK (a, b, c) (a', b', c')) := by
  unfold impl_compareGEdges.f
  simp only [cmp_Compare_eq, Option.bind_some, cmp_Or_eq _ _ _ k hk]
  rfl
theorem impl_headOk_eq (n st s : Int) : impl_headOk.f n st s = some (headB n st s) := by
  unfold impl_headOk.f headB
  rw [impl_isLetters_eq, impl_inRange_eq, impl_SetOk_eq]
  simp only [Option.bind_some]
  by_cases h1 : inR n 1 8 = true
  · rw [if_pos h1, h1]
    by_cases h2 : inR st 0 31 = true
    · have h2' := inR_iff.1 h2
      have hb := bitZ_le31 h2'.2
      rw [if_pos h2, h2, impl_only_eq st h2'.1 (by omega)]
      simp only [Option.bind_some, Bool.true_and]
      by_cases h3 : okB s = true
      · have h3' := inR_iff.1 h3
        rw [if_pos h3]
        congr 1
        rw [Bool.eq_iff_iff]
        simp only [decide_eq_true_eq, inR_iff]
        omega
      · rw [if_neg h3]
        congr 1
        simp only [okB, inR_iff] at h3
        symm
        rw [inR_false]
        omega
    · rw [if_neg h2]; simp at h2; rw [h2]; rfl
  · rw [if_neg h1]; simp at h1; rw [h1]; rfl
def keyE (e : S48) : Key := (e.f0, e.f1, e.f2)
def anyE (_ : S48) : Bool := true
/-- A right automaton. -/
def autoOkB (n st s : Int) (l : List S48) : Bool := headB n st s && (decide (l.length ≤ 2000) && edgesB keyE anyE n st none l)
theorem autoOk_of {n st s : Int} {l : List S48} (h : autoOkB n st s l = true) : headB n st s = true ∧ l.length ≤ 2000 ∧ edgesB keyE anyE n st none l = true := by
  simpa only [autoOkB, Bool.and_eq_true, decide_eq_true_eq] using h
theorem spec_AutoOk_l0 (n st s : Int) (l : List S48) (h0 : 0 ≤ n) (h1 : n ≤ 8) (h2 : 0 ≤ st) (h3 : st ≤ 31) (hl : l.length ≤ 1099511627776) (d : Nat) : ∀ (k i : Nat), i + d = l.length → d < k → spec_AutoOk.l0 k (i : Int) n st s l = some (edgesB keyE anyE n st (prevOf l i) (l.drop i)) := by
  induction d with
  | zero =>
    intro k i hi hk
    obtain ⟨k, rfl⟩ := succ_of hk
    simp only [spec_AutoOk.l0]
    rw [if_neg (by omega), List.drop_eq_nil_of_le (by omega)]
    rfl
  | succ d ih =>
    intro k i hi hk
    obtain ⟨k, rfl⟩ := succ_of hk
    simp only [spec_AutoOk.l0]
    rw [if_pos (by omega), if_pos (by omega), rdE_at (by omega), spec_l4State_eq _ _ (by omega) (by omega), spec_l4State_eq _ _ (by omega) (by omega), spec_l1In_eq, wrap64_id (n := n - 1) (by omega) (by omega), wrap64_succ (by omega), drop_cons (l := l) (i := i) (by omega)]
    simp only [Option.bind_some, edgesB, stOk, keyE, anyE]
    have ih' := ih k (i + 1) (by omega) (by omega)
    rw [prevOf_succ l i (by omega)] at ih'
    cases e1 : inR l[i].f0 0 (st - 1)
    · simp
    · cases e2 : inR l[i].f2 0 (st - 1)
      · simp
      · cases e3 : inR l[i].f1 0 (n - 1)
        · simp
        · simp only [if_true, Bool.true_and]
          cases i with
          | zero => rw [if_neg (by omega), ih']; simp only [prevOf, aheadK, Bool.true_and]
          | succ j =>
            have ej : wrap64 (((j + 1 : Nat) : Int) - 1) = (j : Int) := by rw [wrap64_id (by omega) (by omega)]; omega
            rw [if_pos (by omega), ej, if_pos (by omega), if_pos (by omega), rdE_at (by omega), spec_l4Less_eq, prevOf_succ l j (by omega)]
            simp only [Option.bind_some, aheadK, keyE]
            cases e4 : lessK (l[j].f0, l[j].f1, l[j].f2) (l[j + 1].f0, l[j + 1].f1, l[j + 1].f2)
            · simp
            · simp only [if_true, Bool.true_and]; exact ih'
theorem spec_AutoOk_eq (n st s : Int) (l : List S48) (hl : l.length ≤ 1099511627776) (k : Nat) (hk : l.length + 1 < k) : spec_AutoOk.f k n st s l = some (autoOkB n st s l) := by
  unfold spec_AutoOk.f autoOkB headB
  obtain ⟨k, rfl⟩ := succ_of hk
  rw [spec_l1In_eq, spec_l1In_eq]
  simp only [Option.bind_some, spec_AutoOk.j0, if_true]
  cases e1 : inR n 1 8
  · simp
  · have h1 := inR_iff.1 e1
    cases e2 : inR st 0 31
    · simp
    · have h2 := inR_iff.1 e2
      have hb := bitZ_le31 h2.2
      have hp := bitZ_pos st
      obtain ⟨m, rfl⟩ := Int.eq_ofNat_of_zero_le h2.1
      simp only [if_true, Bool.true_and]
      rw [if_pos h2.1, shl_one m (by omega), wrap64_id (by omega) (by omega), spec_SetIn_eq, in_mask s m h2.1 h2.2]
      simp only [Option.bind_some]
      cases e3 : inR s 0 (bitZ m - 1)
      · simp
      · simp only [if_true, Bool.true_and]
        by_cases h4 : (l.length : Int) > 2000
        · rw [decide_eq_true h4, if_pos rfl, decide_eq_false (by omega)]; rfl
        · rw [decide_eq_false h4, if_neg (by simp), decide_eq_true (by omega)]
          exact spec_AutoOk_l0 n m s l (by omega) (by omega) h2.1 h2.2 hl l.length k 0 (by omega) (by omega)
theorem impl_AutoOk_l0 (n st s : Int) (l : List S48) (h0 : 0 ≤ n) (h1 : n ≤ 8) (h2 : 0 ≤ st) (h3 : st ≤ 31) (hl : l.length ≤ 1099511627776) (d : Nat) : ∀ (k i : Nat), i + d = l.length → 2 * d + 10 < k → impl_AutoOk.l0 k l (l.length : Int) (i : Int) n st s l = some (edgesB keyE anyE n st (prevOf l i) (l.drop i)) := by
  induction d with
  | zero =>
    intro k i hi hk
    obtain ⟨k, rfl⟩ := succ_of hk
    simp only [impl_AutoOk.l0]
    rw [if_neg (by omega), List.drop_eq_nil_of_le (by omega)]
    rfl
  | succ d ih =>
    intro k i hi hk
    obtain ⟨k, rfl⟩ : ∃ m, k = m + 1 + 1 := ⟨k - 2, by omega⟩
    simp only [impl_AutoOk.l0]
    rw [if_pos (by omega), if_pos (by omega), if_pos (by omega), rdE_at (by omega), impl_inRange_eq, impl_inRange_eq, impl_inRange_eq, wrap64_id (n := st - 1) (by omega) (by omega), wrap64_id (n := n - 1) (by omega) (by omega), drop_cons (l := l) (i := i) (by omega)]
    simp only [Option.bind_some, edgesB, stOk, keyE, anyE, impl_AutoOk.j2, if_true]
    have ih' := ih k (i + 1) (by omega) (by omega)
    rw [prevOf_succ l i (by omega)] at ih'
    cases e1 : inR l[i].f0 0 (st - 1)
    · simp
    · cases e2 : inR l[i].f2 0 (st - 1)
      · simp
      · cases e3 : inR l[i].f1 0 (n - 1)
        · simp
        · simp only [if_true, Bool.true_and, Bool.not_true, Bool.false_eq_true, if_false]
          rw [wrap64_succ (by omega)]
          cases i with
          | zero => rw [if_neg (by omega), ih']; simp only [prevOf, aheadK, Bool.true_and]
          | succ j =>
            have ej : wrap64 (((j + 1 : Nat) : Int) - 1) = (j : Int) := by rw [wrap64_id (by omega) (by omega)]; omega
            rw [if_pos (by omega), ej, if_pos (by omega), if_pos (by omega), rdE_at (by omega), impl_compareEdges_eq _ _ _ _ _ _ _ _ k (by omega), prevOf_succ l j (by omega)]
            simp only [Option.bind_some, aheadK, keyE]
            by_cases e4 : lessK (l[j].f0, l[j].f1, l[j].f2) (l[j + 1].f0, l[j + 1].f1, l[j + 1].f2) = true
            · rw [if_neg (fun h => (cmpK_neg _ _).1 h e4), e4]
              simp only [Bool.true_and]; exact ih'
            · rw [if_pos ((cmpK_neg _ _).2 e4)]
              simp at e4; rw [e4]; rfl
theorem impl_AutoOk_eq (n st s : Int) (l : List S48) (hl : l.length ≤ 1099511627776) (k : Nat) (hk : 2 * l.length + 20 < k) : impl_AutoOk.f k n st s l = some (autoOkB n st s l) := by
  unfold impl_AutoOk.f autoOkB
  obtain ⟨k, rfl⟩ := succ_of hk
  rw [impl_headOk_eq]
  simp only [Option.bind_some, impl_AutoOk.j0, if_true]
  cases e1 : headB n st s
  · simp
  · have h := head_of e1
    simp only [if_true, Bool.true_and]
    by_cases h4 : (l.length : Int) > 2000
    · rw [decide_eq_true h4, if_pos rfl, decide_eq_false (by omega)]; rfl
    · rw [decide_eq_false h4, if_neg (by simp), decide_eq_true (by omega)]
      exact impl_AutoOk_l0 n st s l (by omega) (by omega) h.2.1.1 h.2.1.2 hl l.length k 0 (by omega) (by omega)
theorem impl_rightAuto_eq (n st s : Int) (l : List S48) (hl : l.length ≤ 1099511627776) (k : Nat) (hk : 2 * l.length + 20 < k) : impl_rightAuto.f k n st s l = some (if autoOkB n st s l then (n, st, s, l, true) else (0, 0, 0, [], false)) := by
  unfold impl_rightAuto.f
  rw [impl_AutoOk_eq n st s l hl k hk]
  simp only [Option.bind_some]
  by_cases h : autoOkB n st s l = true
  · rw [if_pos h, if_pos h]
  · rw [if_neg h, if_neg h]
deriving instance DecidableEq for S46
theorem rdG_at {l : List S46} {i : Nat} (h : i < l.length) : rd_T46 l (i : Int) = l[i] := by
  simp [rd_T46, List.getD_eq_getElem?_getD, List.getElem?_eq_getElem h]
theorem rdG_set {l : List S46} {i : Nat} (h : i < l.length) (v : S46) : rd_T46 (l.set i v) (i : Int) = v := by
  rw [rdG_at (by rw [List.length_set]; exact h), List.getElem_set_self]
theorem eqGEdge_eq (a b : S46) : laws_eqGEdge.f a.f0 a.f1 a.f2 a.f3 b.f0 b.f1 b.f2 b.f3 = some (decide (a = b)) := by
  unfold laws_eqGEdge.f
  obtain ⟨a0, a1, a2, a3⟩ := a
  obtain ⟨b0, b1, b2, b3⟩ := b
  by_cases h0 : a0 = b0 <;> by_cases h1 : a1 = b1 <;> by_cases h2 : a2 = b2 <;> by_cases h3 : a3 = b3 <;> simp [h0, h1, h2, h3]
theorem eqGEdgeS_l0 (a b : List S46) (hab : a.length = b.length) (hl : a.length ≤ 1099511627776) (d : Nat) : ∀ (k i : Nat), i + d = a.length → d < k → laws_eqGEdgeS.l0 k a b (i : Int) = some (decide (a.drop i = b.drop i)) := by
  induction d with
  | zero =>
    intro k i hi hk
    obtain ⟨k, rfl⟩ := succ_of hk
    simp only [laws_eqGEdgeS.l0]
    rw [if_neg (by omega), List.drop_eq_nil_of_le (by omega), List.drop_eq_nil_of_le (by omega)]
    simp
  | succ d ih =>
    intro k i hi hk
    obtain ⟨k, rfl⟩ := succ_of hk
    simp only [laws_eqGEdgeS.l0]
    rw [if_pos (by omega), if_pos (by omega), if_pos (by omega), rdG_at (by omega), rdG_at (by omega), wrap64_succ (by omega), eqGEdge_eq]
    rw [drop_cons (l := a) (i := i) (by omega), drop_cons (l := b) (i := i) (by omega)]
    simp only [Option.bind_some]
    by_cases h : a[i] = b[i]
    · rw [decide_eq_true h, if_pos rfl, ih k (i + 1) (by omega) (by omega), h]
      congr 1
      exact decide_eq_decide.2 ⟨fun e => by rw [e], fun e => (List.cons.inj e).2⟩
    · rw [decide_eq_false h, if_neg (by simp)]
      congr 1
      exact (decide_eq_false (fun e => h (List.cons.inj e).1)).symm
theorem eqGEdgeS_eq (a b : List S46) (hl : a.length ≤ 1099511627776) (k : Nat) (hk : a.length < k) : laws_eqGEdgeS.f k a b = some (decide (a = b)) := by
  unfold laws_eqGEdgeS.f
  by_cases h : a.length = b.length
  · rw [if_pos (by omega)]
    exact eqGEdgeS_l0 a b h hl a.length k 0 (by omega) hk
  · rw [if_neg (by omega)]
    have : a ≠ b := fun e => h (by rw [e])
    simp [this]
theorem szGEdgeS_eq (l : List S65) (a : Int) (h0 : 0 ≤ a) (h1 : a ≤ 1048576) (hl : l.length ≤ 9223372036854775807) : laws_szGEdgeS.f l a = some (if a < l.length then -1 else a - l.length) := by
  unfold laws_szGEdgeS.f
  rw [wrap64_id (by omega) (by omega)]
  by_cases h : a < (l.length : Int)
  · rw [if_pos (by omega), if_pos h]
  · rw [if_neg (by omega), if_neg h]
def convG (e : S65) : S46 := ⟨e.f0, e.f1, e.f2, e.f3⟩
theorem rdGP_at {l : List S65} {i : Nat} (h : i < l.length) : rd_T65 l (i : Int) = l[i] := by
  simp [rd_T65, List.getD_eq_getElem?_getD, List.getElem?_eq_getElem h]
theorem toGEdgeS_l0 (l : List S65) (hl : l.length ≤ 1099511627776) (d : Nat) : ∀ (k i : Nat) (rest : List S46), i + d = l.length → rest.length = d → d < k → laws_toGEdgeS.l0 k l ((l.map convG).take i ++ rest) (i : Int) = some (l.map convG) := by
  induction d with
  | zero =>
    intro k i rest hi hr hk
    obtain ⟨k, rfl⟩ := succ_of hk
    simp only [laws_toGEdgeS.l0]
    rw [if_neg (by omega), List.eq_nil_of_length_eq_zero hr, List.append_nil, List.take_of_length_le (by rw [List.length_map]; omega)]
  | succ d ih =>
    intro k i rest hi hr hk
    obtain ⟨k, rfl⟩ := succ_of hk
    simp only [laws_toGEdgeS.l0]
    have hll : ((l.map convG).take i ++ rest).length = l.length := by rw [List.length_append, List.length_take, List.length_map]; omega
    have hm : (l.map convG).length = l.length := List.length_map _
    rw [if_pos (by omega), if_pos (by omega), rdGP_at (by omega), wrap64_succ (by omega)]
    simp only [laws_toGEdge.f, Option.bind_some]
    rw [if_pos (by omega)]
    have e : (⟨l[i].f0, l[i].f1, l[i].f2, l[i].f3⟩ : S46) = (l.map convG)[i] := by rw [List.getElem_map]; rfl
    rw [show ((i : Int)).toNat = i from rfl, e, take_set_drop (by omega) (by omega)]
    exact ih k (i + 1) rest.tail (by omega) (by rw [List.length_tail]; omega) (by omega)
theorem toGEdgeS_eq (l : List S65) (hl : l.length ≤ 1099511627776) (k : Nat) (hk : l.length < k) : laws_toGEdgeS.f k l = some (l.map convG) := by
  unfold laws_toGEdgeS.f
  rw [if_pos (by omega), if_pos (by simp; omega)]
  exact toGEdgeS_l0 l hl l.length k 0 _ (by omega) (by simp) hk
theorem eqGen_eq (a b c d : Int) (l : List S46) (a' b' c' d' : Int) (l' : List S46) (hl : l.length ≤ 1099511627776) (k : Nat) (hk : l.length < k) :
    laws_eqGen.f k a b c d l a' b' c' d' l' = some (decide ((a, b, c, d, l) = (a', b', c', d', l'))) := by
  unfold laws_eqGen.f
  rw [eqGEdgeS_eq l l' hl k hk]
  by_cases h0 : a = a' <;> by_cases h1 : b = b' <;> by_cases h2 : c = c' <;> by_cases h3 : d = d' <;> by_cases h4 : l = l' <;> simp [h0, h1, h2, h3, h4]
theorem szGen_eq (p q s c : Int) (l : List S65) (a : Int) (h0 : 0 ≤ a) (h1 : a ≤ 1048576) (hl : l.length ≤ 9223372036854775807) : laws_szGen.f p q s c l a = some (if a < l.length then -1 else a - l.length) := by
  unfold laws_szGen.f
  rw [szGEdgeS_eq l a h0 h1 hl]
  simp only [Option.bind_some]
  by_cases h : a < (l.length : Int)
  · rw [if_pos h, if_pos (by omega)]
  · rw [if_neg h, if_neg (by omega)]
theorem toGen_eq (p q s c : Int) (l : List S65) (hl : l.length ≤ 1099511627776) (k : Nat) (hk : l.length < k) : laws_toGen.f k p q s c l = some (p, q, s, c, l.map convG) := by
  unfold laws_toGen.f
  rw [toGEdgeS_eq l hl k hk]; rfl
def keyG (e : S46) : Key := (e.f0, e.f1, e.f2)
def marksOk (c : Int) (e : S46) : Bool := inR e.f3 0 (bitZ c - 1)
/-- A right general automaton. -/
def genOkB (n st s c : Int) (l : List S46) : Bool := headB n st s && (inR c 0 4 && (decide (l.length ≤ 2000) && edgesB keyG (marksOk c) n st none l))
theorem genOk_of {n st s c : Int} {l : List S46} (h : genOkB n st s c l = true) : headB n st s = true ∧ inR c 0 4 = true ∧ l.length ≤ 2000 ∧ edgesB keyG (marksOk c) n st none l = true := by
  simpa only [genOkB, Bool.and_eq_true, decide_eq_true_eq] using h
theorem spec_GenOk_l0 (n st s c : Int) (l : List S46) (h0 : 0 ≤ n) (h1 : n ≤ 8) (h2 : 0 ≤ st) (h3 : st ≤ 31) (hc0 : 0 ≤ c) (hc1 : c ≤ 4) (hl : l.length ≤ 1099511627776) (d : Nat) : ∀ (k i : Nat), i + d = l.length → d < k → spec_GenOk.l0 k (i : Int) n st s c l = some (edgesB keyG (marksOk c) n st (prevOf l i) (l.drop i)) := by
  induction d with
  | zero =>
    intro k i hi hk
    obtain ⟨k, rfl⟩ := succ_of hk
    simp only [spec_GenOk.l0]
    rw [if_neg (by omega), List.drop_eq_nil_of_le (by omega)]
    rfl
  | succ d ih =>
    intro k i hi hk
    obtain ⟨k, rfl⟩ := succ_of hk
    simp only [spec_GenOk.l0]
    have hb := bitZ_le31 (i := c) (by omega)
    have hp := bitZ_pos c
    have hsh : shl .i64 1 c = bitZ c := by
      obtain ⟨m, rfl⟩ := Int.eq_ofNat_of_zero_le hc0
      exact shl_one m (by omega)
    rw [if_pos (by omega), if_pos (by omega), rdG_at (by omega), spec_l4State_eq _ _ (by omega) (by omega), spec_l4State_eq _ _ (by omega) (by omega), spec_l1In_eq, wrap64_id (n := n - 1) (by omega) (by omega), wrap64_succ (by omega), drop_cons (l := l) (i := i) (by omega), if_pos hc0, hsh, wrap64_id (n := bitZ c - 1) (by omega) (by omega), spec_SetIn_eq, in_mask _ c hc0 (by omega)]
    simp only [Option.bind_some, edgesB, stOk, keyG, marksOk]
    have ih' := ih k (i + 1) (by omega) (by omega)
    rw [prevOf_succ l i (by omega)] at ih'
    cases e1 : inR l[i].f0 0 (st - 1)
    · simp
    · cases e2 : inR l[i].f2 0 (st - 1)
      · simp
      · cases e3 : inR l[i].f1 0 (n - 1)
        · simp
        · cases e5 : inR l[i].f3 0 (bitZ c - 1)
          · simp
          · simp only [if_true, Bool.true_and]
            cases i with
            | zero => rw [if_neg (by omega), ih']; simp only [prevOf, aheadK, Bool.true_and]
            | succ j =>
              have ej : wrap64 (((j + 1 : Nat) : Int) - 1) = (j : Int) := by rw [wrap64_id (by omega) (by omega)]; omega
              rw [if_pos (by omega), ej, if_pos (by omega), if_pos (by omega), rdG_at (by omega), spec_l5Less_eq, prevOf_succ l j (by omega)]
              simp only [Option.bind_some, aheadK, keyG]
              cases e4 : lessK (l[j].f0, l[j].f1, l[j].f2) (l[j + 1].f0, l[j + 1].f1, l[j + 1].f2)
              · simp
              · simp only [if_true, Bool.true_and]; exact ih'
theorem spec_GenOk_eq (n st s c : Int) (l : List S46) (hl : l.length ≤ 1099511627776) (k : Nat) (hk : l.length + 1 < k) : spec_GenOk.f k n st s c l = some (genOkB n st s c l) := by
  unfold spec_GenOk.f genOkB headB
  obtain ⟨k, rfl⟩ := succ_of hk
  rw [spec_l1In_eq, spec_l1In_eq, spec_l1In_eq]
  simp only [Option.bind_some, spec_GenOk.j0, if_true]
  cases e1 : inR n 1 8
  · simp
  · have h1 := inR_iff.1 e1
    cases e2 : inR st 0 31
    · simp
    · have h2 := inR_iff.1 e2
      have hb := bitZ_le31 h2.2
      have hp := bitZ_pos st
      obtain ⟨m, rfl⟩ := Int.eq_ofNat_of_zero_le h2.1
      simp only [if_true, Bool.true_and]
      rw [if_pos h2.1, shl_one m (by omega), wrap64_id (by omega) (by omega), spec_SetIn_eq, in_mask s m h2.1 h2.2]
      simp only [Option.bind_some]
      cases e3 : inR s 0 (bitZ m - 1)
      · simp
      · cases e4 : inR c 0 4
        · simp
        · have h3 := inR_iff.1 e4
          simp only [if_true, Bool.true_and]
          by_cases h4 : (l.length : Int) > 2000
          · rw [decide_eq_true h4, if_pos rfl, decide_eq_false (by omega)]; rfl
          · rw [decide_eq_false h4, if_neg (by simp), decide_eq_true (by omega)]
            exact spec_GenOk_l0 n m s c l (by omega) (by omega) h2.1 h2.2 h3.1 h3.2 hl l.length k 0 (by omega) (by omega)
theorem impl_GenOk_l0 (n st s c : Int) (l : List S46) (h0 : 0 ≤ n) (h1 : n ≤ 8) (h2 : 0 ≤ st) (h3 : st ≤ 31) (hc0 : 0 ≤ c) (hc1 : c ≤ 4) (hl : l.length ≤ 1099511627776) (d : Nat) : ∀ (k i : Nat), i + d = l.length → 2 * d + 10 < k → impl_GenOk.l0 k l (l.length : Int) (i : Int) n st s c l = some (edgesB keyG (marksOk c) n st (prevOf l i) (l.drop i)) := by
  induction d with
  | zero =>
    intro k i hi hk
    obtain ⟨k, rfl⟩ := succ_of hk
    simp only [impl_GenOk.l0]
    rw [if_neg (by omega), List.drop_eq_nil_of_le (by omega)]
    rfl
  | succ d ih =>
    intro k i hi hk
    obtain ⟨k, rfl⟩ : ∃ m, k = m + 1 + 1 := ⟨k - 2, by omega⟩
    have hb := bitZ_le31 (i := c) (by omega)
    have hp := bitZ_pos c
    simp only [impl_GenOk.l0]
    rw [if_pos (by omega), if_pos (by omega), if_pos (by omega), rdG_at (by omega), impl_inRange_eq, impl_inRange_eq, impl_inRange_eq, wrap64_id (n := st - 1) (by omega) (by omega), wrap64_id (n := n - 1) (by omega) (by omega), drop_cons (l := l) (i := i) (by omega)]
    simp only [Option.bind_some, edgesB, stOk, keyG, marksOk, impl_GenOk.j2, if_true]
    have ih' := ih k (i + 1) (by omega) (by omega)
    rw [prevOf_succ l i (by omega)] at ih'
    cases e1 : inR l[i].f0 0 (st - 1)
    · simp
    · cases e2 : inR l[i].f2 0 (st - 1)
      · simp
      · cases e3 : inR l[i].f1 0 (n - 1)
        · simp
        · simp only [if_true, Bool.true_and, Bool.not_true, Bool.false_eq_true, if_false]
          rw [wrap64_succ (by omega), impl_only_eq c hc0 (by omega)]
          simp only [Option.bind_some]
          rw [impl_inRange_eq, wrap64_id (n := bitZ c - 1) (by omega) (by omega)]
          simp only [Option.bind_some]
          cases e5 : inR l[i].f3 0 (bitZ c - 1)
          · simp
          · simp only [if_true, Bool.true_and]
            cases i with
            | zero => rw [if_neg (by omega), ih']; simp only [prevOf, aheadK, Bool.true_and]
            | succ j =>
              have ej : wrap64 (((j + 1 : Nat) : Int) - 1) = (j : Int) := by rw [wrap64_id (by omega) (by omega)]; omega
              rw [if_pos (by omega), ej, if_pos (by omega), if_pos (by omega), rdG_at (by omega), impl_compareGEdges_eq _ _ _ _ _ _ _ _ k (by omega), prevOf_succ l j (by omega)]
              simp only [Option.bind_some, aheadK, keyG]
              by_cases e4 : lessK (l[j].f0, l[j].f1, l[j].f2) (l[j + 1].f0, l[j + 1].f1, l[j + 1].f2) = true
              · rw [if_neg (fun h => (cmpK_neg _ _).1 h e4), e4]
                simp only [Bool.true_and]; exact ih'
              · rw [if_pos ((cmpK_neg _ _).2 e4)]
                simp at e4; rw [e4]; rfl
theorem impl_GenOk_eq (n st s c : Int) (l : List S46) (hl : l.length ≤ 1099511627776) (k : Nat) (hk : 2 * l.length + 20 < k) : impl_GenOk.f k n st s c l = some (genOkB n st s c l) := by
  unfold impl_GenOk.f genOkB
  obtain ⟨k, rfl⟩ := succ_of hk
  rw [impl_headOk_eq, impl_inRange_eq]
  simp only [Option.bind_some, impl_GenOk.j0, if_true]
  cases e1 : headB n st s
  · simp
  · have h := head_of e1
    cases e4 : inR c 0 4
    · simp
    · have h3 := inR_iff.1 e4
      simp only [if_true, Bool.true_and]
      by_cases h4 : (l.length : Int) > 2000
      · rw [decide_eq_true h4, if_pos rfl, decide_eq_false (by omega)]; rfl
      · rw [decide_eq_false h4, if_neg (by simp), decide_eq_true (by omega)]
        exact impl_GenOk_l0 n st s c l (by omega) (by omega) h.2.1.1 h.2.1.2 h3.1 h3.2 hl l.length k 0 (by omega) (by omega)
/-- n marked edges, from a on. -/
def seqG : Int → Nat → List S46
  | _, 0 => []
  | a, n + 1 => ⟨a, a + 1, a + 2, a + 3⟩ :: seqG (a + 4) n
theorem seqG_length (a : Int) (n : Nat) : (seqG a n).length = n := by
  induction n generalizing a with
  | zero => rfl
  | succ n ih => simp [seqG, ih]
theorem seqG_at (a : Int) (n i : Nat) (h : i < n) : (seqG a n)[i]'(by rw [seqG_length]; exact h) = ⟨a + 4 * i, a + 4 * i + 1, a + 4 * i + 2, a + 4 * i + 3⟩ := by
  induction n generalizing a i with
  | zero => omega
  | succ n ih =>
    cases i with
    | zero => simp [seqG]
    | succ i =>
      simp only [seqG, List.getElem_cons_succ]
      rw [ih (a + 4) i (by omega)]
      have e : a + 4 + 4 * (i : Int) = a + 4 * ((i + 1 : Nat) : Int) := by omega
      rw [e]
theorem markGEdgeS_l0 (d : Nat) : ∀ (k i : Nat) (x : List S46) (a : Int), i + d = x.length → d < k → 0 ≤ a → a + 4 * d ≤ 4611686018427387904 → x.length ≤ 1099511627776 →
    laws_markGEdgeS.l0 k x a (i : Int) = some (a + 4 * d, x.take i ++ seqG a d) := by
  induction d with
  | zero =>
    intro k i x a hi hk h0 h1 h2
    obtain ⟨k, rfl⟩ := succ_of hk
    simp only [laws_markGEdgeS.l0]
    rw [if_neg (by omega), List.take_of_length_le (by omega)]
    simp [seqG]
  | succ d ih =>
    intro k i x a hi hk h0 h1 h2
    obtain ⟨k, rfl⟩ := succ_of hk
    simp only [laws_markGEdgeS.l0]
    rw [if_pos (by omega), if_pos (by omega)]
    simp only [Option.bind_some]
    rw [wrap64_succ (by omega), wrap64_id (n := a + 1) (by omega) (by omega), wrap64_id (n := a + 1 + 1) (by omega) (by omega), wrap64_id (n := a + 1 + 1 + 1) (by omega) (by omega), wrap64_id (n := a + 1 + 1 + 1 + 1) (by omega) (by omega)]
    rw [show ((i : Int)).toNat = i from rfl]
    simp only [rdG_set (l := x) (i := i) (by omega), List.set_set]
    rw [ih k (i + 1) _ (a + 1 + 1 + 1 + 1) (by rw [List.length_set]; omega) (by omega) (by omega) (by omega) (by rw [List.length_set]; omega)]
    rw [take_set_self (by omega)]
    simp only [seqG, List.append_assoc, List.singleton_append]
    rw [show a + 1 + 1 + 1 + 1 = a + 4 by omega, show a + 1 + 1 + 1 = a + 3 by omega, show a + 1 + 1 = a + 2 by omega]
    congr 2
    omega
theorem markGEdgeS_eq (x : List S46) (a : Int) (h0 : 0 ≤ a) (h1 : a ≤ 1099511627776) (h2 : x.length ≤ 1099511627776) (k : Nat) (hk : x.length < k) : laws_markGEdgeS.f k x a = some (a + 4 * x.length, seqG a x.length) := by
  unfold laws_markGEdgeS.f
  have := markGEdgeS_l0 x.length k 0 x a (by omega) hk h0 (by omega) h2
  simpa using this
theorem markGen_eq (p q r s : Int) (x : List S46) (a : Int) (h0 : 0 ≤ a) (h1 : a ≤ 1099511627776) (h2 : x.length ≤ 1099511627776) (k : Nat) (hk : x.length < k) : laws_markGen.f k p q r s x a = some (a + 4 * x.length, seqG a x.length) := by
  unfold laws_markGen.f
  rw [markGEdgeS_eq x a h0 h1 h2 k hk]
  rfl
theorem autoMake_l1 (n st p q r : Int) (M : List Int) (hM : M.length ≤ 1000000) (hst : 0 < M.length → st ≠ 0) (hn : n ≠ 0) (d : Nat) : ∀ (k i : Nat) (o : List S48), i + d = M.length → o.length ≤ i → d < k → ∃ l', spec_AutoMake.l1 k n st M (i : Int) p q r o = some (p, q, r, l', true) ∧ l'.length ≤ M.length := by
  induction d with
  | zero =>
    intro k i o hi ho hk
    obtain ⟨k, rfl⟩ := succ_of hk
    simp only [spec_AutoMake.l1]
    rw [if_neg (by omega)]
    exact ⟨_, rfl, by omega⟩
  | succ d ih =>
    intro k i o hi ho hk
    obtain ⟨k, rfl⟩ := succ_of hk
    simp only [spec_AutoMake.l1]
    rw [if_pos (by omega), if_pos (by omega), wrap64_succ (by omega)]
    by_cases h : rd M (i : Int) > 0
    · rw [if_pos h, if_neg (hst (by omega)), if_neg hn, if_pos (by omega)]
      exact ih k (i + 1) _ (by omega) (by rw [List.length_append, List.length_singleton]; omega) (by omega)
    · rw [if_neg h]
      exact ih k (i + 1) _ (by omega) (by omega) (by omega)
theorem l1Max_ok (a b : Int) : ∃ m, spec_l1Max.f a b = some m := by
  unfold spec_l1Max.f
  split <;> exact ⟨_, rfl⟩
theorem cube_le {n st : Int} (hn0 : 0 ≤ n) (hn : n ≤ 8) (h0 : 0 ≤ st) (h1 : st ≤ 31) : 0 ≤ st * n ∧ st * n ≤ 248 ∧ 0 ≤ st * n * st ∧ st * n * st ≤ 7688 := by
  have a1 : 0 ≤ st * n := Int.mul_nonneg h0 hn0
  have a2 : st * n ≤ 31 * 8 := Int.mul_le_mul h1 hn hn0 (by omega)
  have a3 : 0 ≤ st * n * st := Int.mul_nonneg a1 h0
  have a4 : st * n * st ≤ 248 * 31 := Int.mul_le_mul (by omega) h1 h0 (by omega)
  omega
theorem autoMake_at {n st a x c : Int} (hn : 1 ≤ n ∧ n ≤ 8) (hst : 0 ≤ st ∧ st ≤ 31) (ha : 0 ≤ a ∧ a ≤ st - 1) (hx : 0 ≤ x ∧ x ≤ n - 1) (hc : 0 ≤ c ∧ c ≤ st - 1) :
    wrap64 ((wrap64 ((wrap64 ((wrap64 (a * n)) + x)) * st)) + c) = (a * n + x) * st + c ∧ 0 ≤ (a * n + x) * st + c ∧ (a * n + x) * st + c < st * n * st := by
  have hb := cube_le (n := n) (st := st) (by omega) hn.2 hst.1 hst.2
  have h0 : 0 ≤ a * n := Int.mul_nonneg ha.1 (by omega)
  have h1 : (a + 1) * n ≤ st * n := Int.mul_le_mul_of_nonneg_right (by omega) (by omega)
  rw [Int.add_mul, Int.one_mul] at h1
  have h2 : 0 ≤ (a * n + x) * st := Int.mul_nonneg (by omega) hst.1
  have h3 : (a * n + x + 1) * st ≤ st * n * st := Int.mul_le_mul_of_nonneg_right (by omega) hst.1
  rw [Int.add_mul, Int.one_mul] at h3
  rw [wrap64_id (n := a * n) (by omega) (by omega), wrap64_id (n := a * n + x) (by omega) (by omega), wrap64_id (n := (a * n + x) * st) (by omega) (by omega), wrap64_id (n := (a * n + x) * st + c) (by omega) (by omega)]
  omega
theorem autoMake_l0 (n st p q r : Int) (hn : 1 ≤ n ∧ n ≤ 8) (hst : 0 ≤ st ∧ st ≤ 31) (l : List S48) (hl : l.length ≤ 2000) (d : Nat) : ∀ (k i : Nat) (M : List Int), (M.length : Int) = st * n * st → i + d = l.length → 2 * d + 8000 < k →
    ∃ a b c l' ok, spec_AutoMake.l0 k n st l M (i : Int) p q r = some (a, b, c, l', ok) ∧ l'.length ≤ 7688 := by
  have hb := cube_le (n := n) (st := st) (by omega) hn.2 hst.1 hst.2
  induction d with
  | zero =>
    intro k i M hM hi hk
    obtain ⟨k, rfl⟩ := succ_of (show 0 < k by omega)
    simp only [spec_AutoMake.l0]
    rw [if_neg (by omega)]
    obtain ⟨l', e, h⟩ := autoMake_l1 n st p q r M (by omega) (fun h0 e => by rw [e, Int.mul_zero] at hM; omega) (by omega) M.length k 0 [] (by omega) (by simp) (by omega)
    exact ⟨_, _, _, _, _, e, by omega⟩
  | succ d ih =>
    intro k i M hM hi hk
    obtain ⟨k, rfl⟩ : ∃ k', k = k' + 2 := ⟨k - 2, by omega⟩
    have hbad : ∀ (a b c : Int) (g : Bool), ∃ a' b' c' l' ok, spec_AutoMake.j2 (k + 1) n st l M (i : Int) true p q r a b c g = some (a', b', c', l', ok) ∧ l'.length ≤ 7688 := fun a b c g => by
      rw [spec_AutoMake.j2, if_pos rfl]
      exact ⟨_, _, _, _, _, rfl, by simp⟩
    rw [spec_AutoMake.l0, if_pos (by omega), if_pos (by omega), rdE_at (by omega), spec_l4State_eq _ st (by omega) (by omega), Option.bind_some]
    generalize l[i] = e
    by_cases c0 : inR e.f0 0 (st - 1) = true
    · rw [if_pos c0, spec_l4State_eq _ st (by omega) (by omega), Option.bind_some]
      by_cases c2 : inR e.f2 0 (st - 1) = true
      · rw [if_pos c2, wrap64_id (n := n - 1) (by omega) (by omega), spec_l1In_eq, Option.bind_some]
        by_cases c1 : inR e.f1 0 (n - 1) = true
        · obtain ⟨a1, a2, a3⟩ := autoMake_at hn hst (inR_iff.1 c0) (inR_iff.1 c1) (inR_iff.1 c2)
          rw [c1, spec_AutoMake.j2, if_neg (by simp)]
          by_cases g : e.f3 = true
          · obtain ⟨m, hm⟩ := l1Max_ok (rd M ((e.f0 * n + e.f1) * st + e.f2)) 2
            rw [if_pos g, a1, if_pos a2, if_pos (by omega), hm, Option.bind_some, wrap64_succ (by omega)]
            exact ih k (i + 1) _ (by rw [List.length_set]; exact hM) (by omega) (by omega)
          · obtain ⟨m, hm⟩ := l1Max_ok (rd M ((e.f0 * n + e.f1) * st + e.f2)) 1
            rw [if_neg g, a1, if_pos a2, if_pos (by omega), hm, Option.bind_some, wrap64_succ (by omega)]
            exact ih k (i + 1) _ (by rw [List.length_set]; exact hM) (by omega) (by omega)
        · simp at c1
          rw [c1]
          exact hbad _ _ _ _
      · rw [if_neg c2]
        exact hbad _ _ _ _
    · rw [if_neg c0]
      exact hbad _ _ _ _
theorem autoMake_ok (n st s : Int) (l : List S48) (hl : l.length ≤ 2000) (k : Nat) (hk : 20000 < k) : ∃ a b c l' ok, spec_AutoMake.f k n st s l = some (a, b, c, l', ok) ∧ l'.length ≤ 7688 := by
  unfold spec_AutoMake.f
  obtain ⟨k, rfl⟩ : ∃ k', k = k' + 1 := ⟨k - 1, by omega⟩
  rw [spec_AutoOk_eq n st s [] (by simp) _ (by simp; omega), Option.bind_some, spec_AutoMake.j0, spec_AutoMake.j0]
  by_cases h : autoOkB n st s ([] : List S48) = true
  · have g := head_of (autoOk_of h).1
    have hb := cube_le (n := n) (st := st) (by omega) g.1.2 g.2.1.1 g.2.1.2
    rw [if_pos h, decide_eq_false (by omega), if_neg (by simp), wrap64_id (n := st * n) (by omega) (by omega), wrap64_id (n := st * n * st) (by omega) (by omega), if_pos (by omega), if_pos (by omega)]
    exact autoMake_l0 n st n st s g.1 g.2.1 l hl l.length k 0 _ (by rw [List.length_replicate]; omega) (by omega) (by omega)
  · rw [if_neg h, if_pos rfl]
    exact ⟨_, _, _, _, _, rfl, by simp⟩
theorem ex_cons {α : Type} {x : α} {l : List α} {P : α → Prop} : (∃ e, e ∈ x :: l ∧ P e) ↔ P x ∨ ∃ e, e ∈ l ∧ P e := by simp [List.mem_cons, or_and_right, exists_or]
/-- An edge ahead of merged ones: of those alike one. -/
def mcons (e : S48) : List S48 → List S48
  | [] => [e]
  | q :: r => if keyE q = keyE e then ⟨e.f0, e.f1, e.f2, e.f3 || q.f3⟩ :: r else e :: q :: r
/-- Edges in order, merged. -/
def mergeR : List S48 → List S48
  | [] => []
  | e :: l => mcons e (mergeR l)
theorem mcons_head (e : S48) (T : List S48) : ∃ p r, mcons e T = p :: r ∧ keyE p = keyE e := by
  cases T with
  | nil => exact ⟨e, [], rfl, rfl⟩
  | cons q r =>
    simp only [mcons]
    by_cases h : keyE q = keyE e
    · rw [if_pos h]; exact ⟨_, _, rfl, rfl⟩
    · rw [if_neg h]; exact ⟨_, _, rfl, rfl⟩
theorem mcons_join (q e : S48) (T : List S48) (h : keyE q = keyE e) : mcons q (mcons e T) = mcons ⟨q.f0, q.f1, q.f2, q.f3 || e.f3⟩ T := by
  have hk : keyE (⟨q.f0, q.f1, q.f2, q.f3 || e.f3⟩ : S48) = keyE q := rfl
  cases T with
  | nil => simp only [mcons]; rw [if_pos h.symm]
  | cons p r =>
    by_cases hp : keyE p = keyE e
    · have hp2 : keyE p = keyE q := hp.trans h.symm
      have hk2 : keyE (⟨e.f0, e.f1, e.f2, e.f3 || p.f3⟩ : S48) = keyE q := h.symm
      simp only [mcons]
      rw [if_pos hp, hk, if_pos hp2]
      dsimp only
      rw [if_pos hk2, Bool.or_assoc]
    · have hp2 : ¬ keyE p = keyE q := fun e2 => hp (e2.trans h)
      simp only [mcons]
      rw [if_neg hp, hk, if_neg hp2]
      dsimp only
      rw [if_pos h.symm]
theorem mcons_ne {q e : S48} {T : List S48} (h : ¬ keyE q = keyE e) : mcons q (mcons e T) = q :: mcons e T := by
  obtain ⟨p, r, e1, e2⟩ := mcons_head e T
  rw [e1]
  simp only [mcons]
  rw [if_neg (fun e3 => h (e3.symm.trans e2))]
theorem mergeR_length (l : List S48) : (mergeR l).length ≤ l.length := by
  induction l with
  | nil => exact Nat.le_refl _
  | cons e l ih =>
    have : (mcons e (mergeR l)).length ≤ (mergeR l).length + 1 := by
      cases mergeR l with
      | nil => exact Nat.le_refl _
      | cons q r =>
        simp only [mcons]
        split <;> simp
    simp only [mergeR, List.length_cons]
    omega
theorem orderedStep (k : Nat) (hk : 3 < k) (S : List S48) (hS : S.length ≤ 1099511627776) (i : Nat) (hi : i < S.length) (out : List S48) (q : S48) (ho : out.length ≤ i) :
    impl_ordered.l0 (k + 1) (out ++ [q]) S (S.length : Int) (i : Int) = if keyE q = keyE S[i] then impl_ordered.l0 k (out ++ [⟨q.f0, q.f1, q.f2, q.f3 || S[i].f3⟩]) S (S.length : Int) ((i + 1 : Nat) : Int) else impl_ordered.l0 k ((out ++ [q]) ++ [S[i]]) S (S.length : Int) ((i + 1 : Nat) : Int) := by
  have hl : (out ++ [q]).length = out.length + 1 := by simp
  have hrd : rd_T48 S (i : Int) = S[i] := by simp [rd_T48, List.getD_eq_getElem?_getD, List.getElem?_eq_getElem hi]
  have hw : wrap64 (((out ++ [q]).length : Int) - 1) = (out.length : Int) := by rw [hl, wrap64_id (by omega) (by omega)]; omega
  have hrq : rd_T48 (out ++ [q]) (out.length : Int) = q := by simp [rd_T48, List.getD_eq_getElem?_getD]
  have hset : ∀ v : S48, (out ++ [q]).set out.length v = out ++ [v] := fun v => by simp
  simp only [impl_ordered.l0]
  rw [if_pos (by omega), if_pos (by omega), if_pos (by omega), hw, if_pos (by omega), if_pos (by omega), if_pos (by rw [hl]; omega), hrq, hrd, impl_compareEdges_eq _ _ _ _ _ _ _ _ k hk, Option.bind_some, wrap64_succ (by omega), Int.toNat_natCast, hset, hset, hl, if_pos (show out.length + 1 < 4398046511104 by omega)]
  have hz := cmpK_zero (keyE q) (keyE S[i])
  by_cases h : keyE q = keyE S[i]
  · rw [if_pos h, if_pos (show cmpK (q.f0, q.f1, q.f2) (S[i].f0, S[i].f1, S[i].f2) = 0 from hz.2 h)]
    cases hq : q.f3
    · rw [if_neg (by simp), Bool.false_or]
    · rw [if_pos rfl, Bool.true_or]
  · rw [if_neg h, if_neg (show ¬ cmpK (q.f0, q.f1, q.f2) (S[i].f0, S[i].f1, S[i].f2) = 0 from fun e => h (hz.1 e))]
theorem ordered_l0 (S : List S48) (hS : S.length ≤ 1099511627776) (d : Nat) : ∀ (k i : Nat) (out : List S48) (q : S48), i + d = S.length → d + 10 < k → out.length < i →
    impl_ordered.l0 k (out ++ [q]) S (S.length : Int) (i : Int) = some (out ++ mergeR (q :: S.drop i)) := by
  induction d with
  | zero =>
    intro k i out q hi hk ho
    obtain ⟨k, rfl⟩ := succ_of (show 0 < k by omega)
    simp only [impl_ordered.l0]
    rw [if_neg (by omega), List.drop_eq_nil_of_le (by omega)]
    rfl
  | succ d ih =>
    intro k i out q hi hk ho
    obtain ⟨k, rfl⟩ := succ_of (show 0 < k by omega)
    rw [orderedStep k (by omega) S hS i (by omega) out q (by omega), drop_cons (l := S) (i := i) (by omega)]
    by_cases h : keyE q = keyE S[i]
    · rw [if_pos h, ih k (i + 1) out _ (by omega) (by omega) (by omega)]
      simp only [mergeR]
      rw [mcons_join _ _ _ h]
    · rw [if_neg h, ih k (i + 1) (out ++ [q]) _ (by omega) (by omega) (by simp; omega)]
      simp only [mergeR]
      rw [mcons_ne h, List.append_assoc]; rfl
theorem ordered_run (S : List S48) (hS : S.length ≤ 1099511627776) (k : Nat) (hk : S.length + 20 < k) : impl_ordered.l0 k [] S (S.length : Int) 0 = some (mergeR S) := by
  obtain ⟨k, rfl⟩ := succ_of (show 0 < k by omega)
  cases S with
  | nil => rfl
  | cons e l =>
    have h := ordered_l0 (e :: l) hS l.length k 1 [] e (by simp; omega) (by simp at hk; omega) (by simp)
    have hw : wrap64 ((([] : List S48).length : Int) - 1) = -1 := by rw [List.length_nil, wrap64_id (by omega) (by omega)]; rfl
    have hrd : rd_T48 (e :: l) 0 = e := rfl
    simp only [impl_ordered.l0]
    rw [if_pos (by simp), if_pos (by omega), if_pos (by simp), hw, if_neg (by omega), if_pos (by simp), hrd, show wrap64 (0 + 1) = ((1 : Nat) : Int) from wrap64_succ (i := 0) (by omega)]
    exact h
/-- Edges, put in order by the sort. -/
def srtE (l : List S48) : List S48 := (Sort.pdq (Go.Proofs.ltOf impl_Edge_43.cf) l.toArray 0 l.toArray.size (Lib.bitLen l.toArray.size) true true).toList
theorem srtE_sorts (l : List S48) : (srtE l).Perm l ∧ (srtE l).Pairwise (fun x y => lessK (keyE y) (keyE x) = false) := by
  have h := Sort.pdq_sorts (Go.Proofs.ltOf impl_Edge_43.cf) impl_Edge_43.swo l.toArray 0 l.toArray.size (Lib.bitLen l.toArray.size) true true (Nat.zero_le _) (Nat.le_refl _) (Or.inl rfl)
  obtain ⟨⟨h1, _, h2⟩, h3⟩ := h
  unfold srtE
  generalize Sort.pdq (Go.Proofs.ltOf impl_Edge_43.cf) l.toArray 0 l.toArray.size (Lib.bitLen l.toArray.size) true true = d at h1 h2 h3 ⊢
  refine ⟨?_, ?_⟩
  · have e1 : d.extract 0 l.toArray.size = d := by rw [← h1]; exact Array.extract_size
    rw [e1, Array.extract_size] at h2
    exact h2
  · rw [List.pairwise_iff_getElem]
    intro i j hi hj hij
    have h4 := h3 i j (Nat.zero_le _) hij (by rw [← h1]; simpa using hj)
    rw [getElem!_pos d j (by simpa using hj), getElem!_pos d i (by simpa using hi), impl_Edge_43.lt_eq] at h4
    rw [Array.getElem_toList, Array.getElem_toList]
    rw [← Bool.not_eq_true, lessK_iff]
    unfold impl_Edge_43.lt at h4
    rw [decide_eq_false_iff_not] at h4
    exact h4
theorem srtE_length (l : List S48) : (srtE l).length = l.length := (srtE_sorts l).1.length_eq
theorem impl_ordered_eq (l : List S48) (hl : l.length ≤ 1000000) (k : Nat) (hk : l.length + 20 < k) : impl_ordered.f k l = some (mergeR (srtE l)) := by
  have hs := srtE_length l
  unfold impl_ordered.f
  have e1 : impl_Edge_42.f l = some l := by unfold impl_Edge_42.f; rw [if_pos (by omega)]
  have e2 : impl_Edge_43.f l = some (srtE l) := by unfold impl_Edge_43.f; rw [if_pos (by omega)]; rfl
  rw [e1, Option.bind_some, e2, Option.bind_some, ← hs]
  exact ordered_run _ (by omega) k (by omega)
/-- Strictly ascending by key. -/
def Asc (l : List S48) : Prop := l.Pairwise fun x y => lessK (keyE x) (keyE y) = true
theorem key_trans {a b c : Key} (h1 : lessK b a = false) (h2 : lessK c b = false) : lessK c a = false := by
  rw [← Bool.not_eq_true, lessK_iff] at *; omega
theorem key_lt_of_le {a b c : Key} (h1 : lessK b a = false) (h2 : lessK b c = true) : lessK a c = true := by
  rw [← Bool.not_eq_true, lessK_iff] at h1; rw [lessK_iff] at *; omega
theorem key_lt_of_ne {a b : Key} (h1 : lessK b a = false) (h2 : a ≠ b) : lessK a b = true := by
  obtain ⟨a0, a1, a2⟩ := a
  obtain ⟨b0, b1, b2⟩ := b
  rw [← Bool.not_eq_true, lessK_iff] at h1; rw [lessK_iff]
  simp only [ne_eq, Prod.mk.injEq] at h1 h2 ⊢
  omega
theorem key_irrefl (a : Key) : lessK a a = false := by
  rw [← Bool.not_eq_true, lessK_iff]; omega
theorem key_lt_trans {a b c : Key} (h1 : lessK a b = true) (h2 : lessK b c = true) : lessK a c = true := by
  rw [lessK_iff] at *; omega
/-- What the merged ones of a sorted list are. -/
theorem mergeR_spec (l : List S48) (h : l.Pairwise (fun x y => lessK (keyE y) (keyE x) = false)) : Asc (mergeR l) ∧ ∀ e : S48, e ∈ mergeR l ↔ (∃ x ∈ l, keyE x = keyE e) ∧ (e.f3 = true ↔ ∃ x ∈ l, keyE x = keyE e ∧ x.f3 = true) := by
  induction l with
  | nil => exact ⟨List.Pairwise.nil, fun e => by simp [mergeR]⟩
  | cons x l ih =>
    obtain ⟨hx, hl⟩ := List.pairwise_cons.1 h
    obtain ⟨ih1, ih2⟩ := ih hl
    simp only [mergeR]
    have hge : ∀ e ∈ mergeR l, lessK (keyE e) (keyE x) = false := fun e he => by
      obtain ⟨y, hy, hk⟩ := ((ih2 e).1 he).1
      rw [← hk]; exact hx y hy
    by_cases hex : ∃ y ∈ l, keyE y = keyE x
    · -- the head has x's key
      obtain ⟨y, hy, hyk⟩ := hex
      cases hT : mergeR l with
      | nil =>
        cases l with
        | nil => simp at hy
        | cons z l2 =>
          obtain ⟨p, r, e1, _⟩ := mcons_head z (mergeR l2)
          rw [show mergeR (z :: l2) = mcons z (mergeR l2) from rfl, e1] at hT
          cases hT
      | cons q r =>
        rw [hT] at ih1 ih2 hge
        obtain ⟨hq1, hq2⟩ := List.pairwise_cons.1 ih1
        have hqk : keyE q = keyE x := by
          -- some element of T has x's key, and q is the least
          have hz := (ih2 ⟨x.f0, x.f1, x.f2, true⟩)
          by_cases hg : ∃ y ∈ l, keyE y = keyE x ∧ y.f3 = true
          · have hm : (⟨x.f0, x.f1, x.f2, true⟩ : S48) ∈ q :: r := hz.2 ⟨⟨y, hy, hyk⟩, ⟨fun _ => hg, fun _ => rfl⟩⟩
            rcases List.mem_cons.1 hm with e1 | hm
            · rw [← e1]; rfl
            · have h1 := hq1 _ hm
              have h2 := hge q List.mem_cons_self
              have h3 : lessK (keyE q) (keyE x) = true := h1
              rw [h2] at h3; cases h3
          · have hz := (ih2 ⟨x.f0, x.f1, x.f2, false⟩)
            have hm : (⟨x.f0, x.f1, x.f2, false⟩ : S48) ∈ q :: r := hz.2 ⟨⟨y, hy, hyk⟩, ⟨fun h => absurd h Bool.false_ne_true, fun h => absurd h hg⟩⟩
            rcases List.mem_cons.1 hm with e1 | hm
            · rw [← e1]; rfl
            · have h1 := hq1 _ hm
              have h2 := hge q List.mem_cons_self
              have h3 : lessK (keyE q) (keyE x) = true := h1
              rw [h2] at h3; cases h3
        simp only [mcons]
        rw [if_pos hqk]
        have hqg := ((ih2 q).1 List.mem_cons_self).2
        refine ⟨List.pairwise_cons.2 ⟨fun e he => ?_, hq2⟩, fun e => ?_⟩
        · have := hq1 e he
          rw [hqk] at this
          exact this
        · by_cases hek : keyE e = keyE x
          · constructor
            · intro he
              rcases List.mem_cons.1 he with e1 | he
              · refine ⟨⟨x, List.mem_cons_self, hek.symm⟩, ?_⟩
                rw [e1]
                constructor
                · intro hb
                  rcases Bool.or_eq_true_iff.1 hb with hb | hb
                  · exact ⟨x, List.mem_cons_self, rfl, hb⟩
                  · obtain ⟨z, hz, hzk, hzg⟩ := hqg.1 hb
                    exact ⟨z, List.mem_cons_of_mem _ hz, hzk.trans hqk, hzg⟩
                · rintro ⟨z, hz, hzk, hzg⟩
                  apply Bool.or_eq_true_iff.2
                  rcases List.mem_cons.1 hz with rfl | hz
                  · exact Or.inl hzg
                  · exact Or.inr (hqg.2 ⟨z, hz, (show keyE z = keyE x from hzk).trans hqk.symm, hzg⟩)
              · have h1 := hq1 e he
                rw [hqk, ← hek, key_irrefl] at h1
                cases h1
            · rintro ⟨_, hg⟩
              apply List.mem_cons.2
              left
              obtain ⟨e0, e1, e2, e3⟩ := e
              have hk : e0 = x.f0 ∧ e1 = x.f1 ∧ e2 = x.f2 := by
                have := hek
                unfold keyE at this
                simpa using this
              obtain ⟨rfl, rfl, rfl⟩ := hk
              have : e3 = (x.f3 || q.f3) := by
                rw [Bool.eq_iff_iff, Bool.or_eq_true_iff]
                refine hg.trans ⟨?_, ?_⟩
                · rintro ⟨z, hz, hzk, hzg⟩
                  rcases List.mem_cons.1 hz with rfl | hz
                  · exact Or.inl hzg
                  · exact Or.inr (hqg.2 ⟨z, hz, (show keyE z = keyE x from hzk).trans hqk.symm, hzg⟩)
                · rintro (hb | hb)
                  · exact ⟨x, List.mem_cons_self, rfl, hb⟩
                  · obtain ⟨z, hz, hzk, hzg⟩ := hqg.1 hb
                    exact ⟨z, List.mem_cons_of_mem _ hz, hzk.trans hqk, hzg⟩
              rw [this]
          · have hne : ∀ z, keyE z = keyE e → z ≠ x := fun z hz he => hek (by rw [← hz, he])
            have A : (∃ z ∈ x :: l, keyE z = keyE e) ↔ ∃ z ∈ l, keyE z = keyE e := ⟨fun ⟨z, hz, hzk⟩ => ⟨z, (List.mem_cons.1 hz).resolve_left (hne z hzk), hzk⟩, fun ⟨z, hz, hzk⟩ => ⟨z, List.mem_cons_of_mem _ hz, hzk⟩⟩
            have B : (∃ z ∈ x :: l, keyE z = keyE e ∧ z.f3 = true) ↔ ∃ z ∈ l, keyE z = keyE e ∧ z.f3 = true := ⟨fun ⟨z, hz, hzk, hzg⟩ => ⟨z, (List.mem_cons.1 hz).resolve_left (hne z hzk), hzk, hzg⟩, fun ⟨z, hz, hzk, hzg⟩ => ⟨z, List.mem_cons_of_mem _ hz, hzk, hzg⟩⟩
            rw [A, B, ← ih2 e, List.mem_cons, List.mem_cons]
            exact or_congr ⟨fun e1 => absurd (by rw [e1]; rfl) hek, fun e1 => absurd (by rw [e1]; exact hqk) hek⟩ Iff.rfl
    · have hlt : ∀ e ∈ mergeR l, lessK (keyE x) (keyE e) = true := fun e he => by
        obtain ⟨y, hy, hk⟩ := ((ih2 e).1 he).1
        rw [← hk]
        exact key_lt_of_ne (hx y hy) (fun e1 => hex ⟨y, hy, e1.symm⟩)
      have hmc : mcons x (mergeR l) = x :: mergeR l := by
        cases hT : mergeR l with
        | nil => rfl
        | cons q r =>
          have hq := hlt q (by rw [hT]; exact List.mem_cons_self)
          simp only [mcons]
          rw [if_neg (fun e1 => by rw [e1, key_irrefl] at hq; cases hq)]
      rw [hmc]
      refine ⟨List.pairwise_cons.2 ⟨hlt, ih1⟩, fun e => ?_⟩
      by_cases hek : keyE e = keyE x
      · have hB : (∃ z ∈ x :: l, keyE z = keyE e ∧ z.f3 = true) ↔ x.f3 = true := by
          refine ⟨?_, fun hb => ⟨x, List.mem_cons_self, hek.symm, hb⟩⟩
          rintro ⟨z, hz, hzk, hzg⟩
          rcases List.mem_cons.1 hz with rfl | hz
          · exact hzg
          · exact absurd ⟨z, hz, hzk.trans hek⟩ hex
        rw [hB, List.mem_cons]
        constructor
        · rintro (rfl | he)
          · exact ⟨⟨_, List.mem_cons_self, rfl⟩, Iff.rfl⟩
          · have := hlt e he
            rw [hek, key_irrefl] at this
            cases this
        · rintro ⟨_, hg⟩
          left
          obtain ⟨e0, e1, e2, e3⟩ := e
          have hk : e0 = x.f0 ∧ e1 = x.f1 ∧ e2 = x.f2 := by
            have := hek
            unfold keyE at this
            simpa using this
          obtain ⟨rfl, rfl, rfl⟩ := hk
          have : e3 = x.f3 := by rw [Bool.eq_iff_iff]; exact hg
          rw [this]
      · have hne : ∀ z, keyE z = keyE e → z ≠ x := fun z hz he => hek (by rw [← hz, he])
        have A : (∃ z ∈ x :: l, keyE z = keyE e) ↔ ∃ z ∈ l, keyE z = keyE e := ⟨fun ⟨z, hz, hzk⟩ => ⟨z, (List.mem_cons.1 hz).resolve_left (hne z hzk), hzk⟩, fun ⟨z, hz, hzk⟩ => ⟨z, List.mem_cons_of_mem _ hz, hzk⟩⟩
        have B : (∃ z ∈ x :: l, keyE z = keyE e ∧ z.f3 = true) ↔ ∃ z ∈ l, keyE z = keyE e ∧ z.f3 = true := ⟨fun ⟨z, hz, hzk, hzg⟩ => ⟨z, (List.mem_cons.1 hz).resolve_left (hne z hzk), hzk, hzg⟩, fun ⟨z, hz, hzk, hzg⟩ => ⟨z, List.mem_cons_of_mem _ hz, hzk, hzg⟩⟩
        rw [A, B, ← ih2 e, List.mem_cons]
        exact ⟨fun h => h.resolve_left (fun e1 => hek (by rw [e1])), Or.inr⟩
/-- Two strictly ascending lists of the same edges are one. -/
theorem asc_unique : ∀ (a b : List S48), Asc a → Asc b → (∀ e, e ∈ a ↔ e ∈ b) → a = b
  | [], b, _, _, h => by
    cases b with
    | nil => rfl
    | cons y b => exact absurd ((h y).2 List.mem_cons_self) (by simp)
  | x :: a, b, ha, hb, h => by
    cases b with
    | nil => exact absurd ((h x).1 List.mem_cons_self) (by simp)
    | cons y b =>
      obtain ⟨ha1, ha2⟩ := List.pairwise_cons.1 ha
      obtain ⟨hb1, hb2⟩ := List.pairwise_cons.1 hb
      have hxy : x = y := by
        rcases List.mem_cons.1 ((h x).1 List.mem_cons_self) with e | hx
        · exact e
        · rcases List.mem_cons.1 ((h y).2 List.mem_cons_self) with e | hy
          · exact e.symm
          · have h1 := key_lt_trans (hb1 x hx) (ha1 y hy)
            rw [key_irrefl] at h1; cases h1
      subst hxy
      have hab : ∀ e, e ∈ a ↔ e ∈ b := by
        intro e
        refine ⟨fun he => ?_, fun he => ?_⟩
        · rcases List.mem_cons.1 ((h e).1 (List.mem_cons_of_mem _ he)) with e1 | h2
          · have := ha1 e he
            rw [e1, key_irrefl] at this; cases this
          · exact h2
        · rcases List.mem_cons.1 ((h e).2 (List.mem_cons_of_mem _ he)) with e1 | h2
          · have := hb1 e he
            rw [e1, key_irrefl] at this; cases this
          · exact h2
      rw [asc_unique a b ha2 hb2 hab]
/-- What is made of edges. -/
def madeE (l : List S48) : List S48 := mergeR (srtE l)
theorem madeE_length (l : List S48) : (madeE l).length ≤ l.length := by
  have := mergeR_length (srtE l)
  rw [srtE_length] at this
  exact this
theorem madeE_spec (l : List S48) : Asc (madeE l) ∧ ∀ e : S48, e ∈ madeE l ↔ (∃ x ∈ l, keyE x = keyE e) ∧ (e.f3 = true ↔ ∃ x ∈ l, keyE x = keyE e ∧ x.f3 = true) := by
  obtain ⟨h1, h2⟩ := srtE_sorts l
  obtain ⟨h3, h4⟩ := mergeR_spec _ h2
  refine ⟨h3, fun e => ?_⟩
  have hm : ∀ x, x ∈ srtE l ↔ x ∈ l := fun x => h1.mem_iff
  simp only [hm] at h4
  exact h4 e
theorem edges_asc (n st : Int) (l : List S48) (hl : Asc l) : ∀ p : Option S48, (∀ q, p = some q → ∀ e ∈ l, lessK (keyE q) (keyE e) = true) → edgesB keyE anyE n st p l = l.all (fun e => stOk n st (keyE e)) := by
  induction l with
  | nil => intro p _; rfl
  | cons x l ih =>
    intro p hp
    obtain ⟨h1, h2⟩ := List.pairwise_cons.1 hl
    have ha : aheadK keyE p x = true := by
      cases p with
      | none => rfl
      | some q => exact hp q rfl x List.mem_cons_self
    simp only [edgesB, List.all_cons]
    rw [ih h2 (some x) (fun q hq e he => by cases hq; exact h1 e he), ha, show anyE x = true from rfl, Bool.true_and, Bool.true_and]
theorem madeE_ok (n st s : Int) (l : List S48) (hl : l.length ≤ 2000) : autoOkB n st s (madeE l) = (headB n st s && l.all (fun e => stOk n st (keyE e))) := by
  obtain ⟨h1, h2⟩ := madeE_spec l
  have h3 := madeE_length l
  unfold autoOkB
  rw [decide_eq_true (show (madeE l).length ≤ 2000 by omega), Bool.true_and, edges_asc n st _ h1 none (fun q hq => by cases hq)]
  congr 1
  rw [Bool.eq_iff_iff, List.all_eq_true, List.all_eq_true]
  constructor
  · intro h x hx
    by_cases hg : ∃ y ∈ l, keyE y = keyE x ∧ y.f3 = true
    · exact h ⟨x.f0, x.f1, x.f2, true⟩ ((h2 _).2 ⟨⟨x, hx, rfl⟩, ⟨fun _ => hg, fun _ => rfl⟩⟩)
    · exact h ⟨x.f0, x.f1, x.f2, false⟩ ((h2 _).2 ⟨⟨x, hx, rfl⟩, ⟨fun h => absurd h Bool.false_ne_true, fun h => absurd h hg⟩⟩)
  · intro h e he
    obtain ⟨x, hx, hk⟩ := ((h2 e).1 he).1
    rw [← hk]; exact h x hx
/-- An automaton made of edges. -/
def makeZ (n st s : Int) (l : List S48) : Int × Int × Int × List S48 × Bool := if l.length ≤ 2000 ∧ headB n st s = true ∧ l.all (fun e => stOk n st (keyE e)) = true then (n, st, s, madeE l, true) else (0, 0, 0, [], false)
theorem makeZ_length (n st s : Int) (l : List S48) : (makeZ n st s l).2.2.2.1.length ≤ 2000 := by
  have := madeE_length l
  unfold makeZ
  split
  · simp only; omega
  · simp
theorem spec_l1Max_eq (a b : Int) : spec_l1Max.f a b = some (if a > b then a else b) := by
  unfold spec_l1Max.f
  by_cases h : a > b
  · rw [if_pos h, if_pos h]
  · rw [if_neg h, if_neg h]
/-- The place of an edge in the row of marks. -/
def atE (n st : Int) (e : S48) : Int := (e.f0 * n + e.f1) * st + e.f2
def mkE (e : S48) : Int := if e.f3 = true then 2 else 1
/-- The edge of a place. -/
def decE (n st : Int) (i : Nat) (g : Bool) : S48 := ⟨(i : Int) / st / n, (i : Int) / st % n, (i : Int) % st, g⟩
theorem div_mix (a b n : Int) (h0 : 0 ≤ b) (h1 : b < n) : (a * n + b) / n = a ∧ (a * n + b) % n = b := by
  refine ⟨?_, ?_⟩
  · rw [Int.add_comm, Int.add_mul_ediv_right _ _ (by omega), Int.ediv_eq_zero_of_lt h0 h1]; omega
  · rw [Int.add_comm, Int.add_mul_emod_self_right, Int.emod_eq_of_lt h0 h1]
theorem atE_range {n st : Int} {e : S48} (h1 : 1 ≤ n) (h2 : n ≤ 8) (h3 : 0 ≤ st) (h4 : st ≤ 31) (h : stOk n st (keyE e) = true) : (0 ≤ e.f0 * n ∧ e.f0 * n ≤ 240) ∧ (0 ≤ e.f0 * n + e.f1 ∧ e.f0 * n + e.f1 < st * n) ∧ (0 ≤ (e.f0 * n + e.f1) * st ∧ (e.f0 * n + e.f1) * st ≤ 7688) ∧ 0 ≤ atE n st e ∧ atE n st e < st * n * st := by
  obtain ⟨⟨a1, a2⟩, ⟨a3, a4⟩, a5, a6⟩ := stOk_iff.1 h
  change 0 ≤ e.f0 at a1; change e.f0 ≤ st - 1 at a2; change 0 ≤ e.f2 at a3; change e.f2 ≤ st - 1 at a4; change 0 ≤ e.f1 at a5; change e.f1 ≤ n - 1 at a6
  have b1 : 0 ≤ e.f0 * n := Int.mul_nonneg a1 (by omega)
  have b2 : e.f0 * n ≤ (st - 1) * n := Int.mul_le_mul_of_nonneg_right a2 (by omega)
  have b3 : (st - 1) * n = st * n - n := by rw [Int.sub_mul, Int.one_mul]
  have b4 : (st - 1) * n ≤ 30 * n := Int.mul_le_mul_of_nonneg_right (by omega) (by omega)
  have b5 : (e.f0 * n + e.f1) * st ≤ (st * n - 1) * st := Int.mul_le_mul_of_nonneg_right (by omega) h3
  have b6 : (st * n - 1) * st = st * n * st - st := by rw [Int.sub_mul, Int.one_mul]
  have b7 : 0 ≤ (e.f0 * n + e.f1) * st := Int.mul_nonneg (by omega) h3
  have b8 : (e.f0 * n + e.f1) * st ≤ 248 * st := Int.mul_le_mul_of_nonneg_right (by omega) h3
  unfold atE
  exact ⟨⟨b1, by omega⟩, ⟨by omega, by omega⟩, ⟨b7, by omega⟩, by omega, by omega⟩
theorem all_size {n st : Int} (h1 : 1 ≤ n) (h2 : n ≤ 8) (h3 : 0 ≤ st) (h4 : st ≤ 31) : 0 ≤ st * n ∧ st * n ≤ 248 ∧ 0 ≤ st * n * st ∧ st * n * st ≤ 7688 := by
  have b1 : 0 ≤ st * n := Int.mul_nonneg h3 (by omega)
  have b2 : st * n ≤ 31 * n := Int.mul_le_mul_of_nonneg_right h4 (by omega)
  have b3 : 0 ≤ st * n * st := Int.mul_nonneg b1 h3
  have b4 : st * n * st ≤ 248 * st := Int.mul_le_mul_of_nonneg_right (by omega) h3
  exact ⟨b1, by omega, b3, by omega⟩
theorem dec_at {n st : Int} {e : S48} (h1 : 1 ≤ n) (h2 : n ≤ 8) (h3 : 0 ≤ st) (h4 : st ≤ 31) (h : stOk n st (keyE e) = true) (g : Bool) : decE n st (atE n st e).toNat g = ⟨e.f0, e.f1, e.f2, g⟩ := by
  have hr := atE_range h1 h2 h3 h4 h
  obtain ⟨⟨a1, a2⟩, ⟨a3, a4⟩, a5, a6⟩ := stOk_iff.1 h
  change 0 ≤ e.f0 at a1; change e.f0 ≤ st - 1 at a2; change 0 ≤ e.f2 at a3; change e.f2 ≤ st - 1 at a4; change 0 ≤ e.f1 at a5; change e.f1 ≤ n - 1 at a6
  unfold decE
  rw [Int.toNat_of_nonneg hr.2.2.2.1]
  unfold atE
  obtain ⟨c1, c2⟩ := div_mix (e.f0 * n + e.f1) e.f2 st a3 (by omega)
  obtain ⟨c3, c4⟩ := div_mix e.f0 e.f1 n a5 (by omega)
  rw [c1, c2, c3, c4]
theorem dec_lt {n st : Int} (h1 : 1 ≤ n) (h3 : 1 ≤ st) {i j : Nat} (h : i < j) (g g' : Bool) : lessK (keyE (decE n st i g)) (keyE (decE n st j g')) = true := by
  rw [lessK_iff]
  show (i : Int) / st / n < (j : Int) / st / n ∨ ((i : Int) / st / n = (j : Int) / st / n ∧ ((i : Int) / st % n < (j : Int) / st % n ∨ ((i : Int) / st % n = (j : Int) / st % n ∧ (i : Int) % st < (j : Int) % st)))
  have e1 : (i : Int) / st ≤ (j : Int) / st := Int.ediv_le_ediv (by omega) (by omega)
  have e2 : (i : Int) / st / n ≤ (j : Int) / st / n := Int.ediv_le_ediv (by omega) e1
  have d1 := Int.mul_ediv_add_emod (i : Int) st
  have d2 := Int.mul_ediv_add_emod (j : Int) st
  have d3 := Int.mul_ediv_add_emod ((i : Int) / st) n
  have d4 := Int.mul_ediv_add_emod ((j : Int) / st) n
  by_cases f1 : (i : Int) / st / n = (j : Int) / st / n
  · rw [f1] at d3
    by_cases f2 : (i : Int) / st = (j : Int) / st
    · rw [f2] at d1 d3 ⊢
      right; refine ⟨f1 ▸ rfl, ?_⟩
      right; refine ⟨rfl, ?_⟩; omega
    · right; refine ⟨f1, ?_⟩; left; omega
  · left; omega
theorem at_inj {n st : Int} {x e : S48} (h1 : 1 ≤ n) (h2 : n ≤ 8) (h3 : 0 ≤ st) (h4 : st ≤ 31) (hx : stOk n st (keyE x) = true) (he : stOk n st (keyE e) = true) : atE n st x = atE n st e ↔ keyE x = keyE e := by
  constructor
  · intro h
    have a := dec_at h1 h2 h3 h4 hx true
    have b := dec_at h1 h2 h3 h4 he true
    rw [h, b] at a
    injection a with c1 c2 c3
    unfold keyE
    rw [c1, c2, c3]
  · intro h
    unfold keyE at h
    simp only [Prod.mk.injEq] at h
    unfold atE
    rw [h.1, h.2.1, h.2.2]
def markStep (n st : Int) (m : List Int) (e : S48) : List Int := m.set (atE n st e).toNat (if rd m (atE n st e) > mkE e then rd m (atE n st e) else mkE e)
def marksE (n st : Int) (l : List S48) (m : List Int) : List Int := l.foldl (markStep n st) m
theorem marksE_length (n st : Int) (l : List S48) : ∀ m, (marksE n st l m).length = m.length := by
  induction l with
  | nil => intro m; rfl
  | cons e l ih =>
    intro m
    show (marksE n st l (markStep n st m e)).length = _
    rw [ih]; unfold markStep; rw [List.length_set]
theorem marksE_spec (n st : Int) (h1 : 1 ≤ n) (h2 : n ≤ 8) (h3 : 0 ≤ st) (h4 : st ≤ 31) (l : List S48) (hl : l.all (fun e => stOk n st (keyE e)) = true) : ∀ m : List Int, (m.length : Int) = st * n * st → (∀ i : Nat, 0 ≤ rd m (i : Int) ∧ rd m (i : Int) ≤ 2) →
    (∀ i : Nat, 0 ≤ rd (marksE n st l m) (i : Int) ∧ rd (marksE n st l m) (i : Int) ≤ 2) ∧ ∀ i : Nat, i < m.length → (rd (marksE n st l m) (i : Int) > 0 ↔ rd m (i : Int) > 0 ∨ ∃ e ∈ l, atE n st e = i) ∧ (rd (marksE n st l m) (i : Int) = 2 ↔ rd m (i : Int) = 2 ∨ ∃ e ∈ l, atE n st e = i ∧ e.f3 = true) := by
  induction l with
  | nil => intro m hm hv; exact ⟨hv, fun i _ => ⟨by simp [marksE], by simp [marksE]⟩⟩
  | cons x l ih =>
    intro m hm hv
    simp only [List.all_cons, Bool.and_eq_true] at hl
    obtain ⟨hx, hl⟩ := hl
    have hr := atE_range h1 h2 h3 h4 hx
    obtain ⟨p, hp⟩ : ∃ p : Nat, atE n st x = p := ⟨(atE n st x).toNat, by omega⟩
    have hpl : p < m.length := by omega
    have hstep : ∀ i : Nat, rd (markStep n st m x) (i : Int) = if i = p then (if rd m (i : Int) > mkE x then rd m (i : Int) else mkE x) else rd m (i : Int) := by
      intro i
      unfold markStep
      rw [hp, rd_nat, Int.toNat_natCast, List.getD_eq_getElem?_getD, List.getElem?_set]
      by_cases h : p = i
      · subst h; rw [if_pos rfl, if_pos hpl, if_pos rfl, Option.getD_some]
      · rw [if_neg h, if_neg (fun e => h e.symm), ← List.getD_eq_getElem?_getD, ← rd_nat]
    have hmk : (x.f3 = true ∧ mkE x = 2) ∨ (¬ x.f3 = true ∧ mkE x = 1) := by
      unfold mkE
      by_cases h : x.f3 = true
      · rw [if_pos h]; exact .inl ⟨h, rfl⟩
      · rw [if_neg h]; exact .inr ⟨h, rfl⟩
    have hv2 : ∀ i : Nat, 0 ≤ rd (markStep n st m x) (i : Int) ∧ rd (markStep n st m x) (i : Int) ≤ 2 := by
      intro i
      rw [hstep]
      have := hv i
      split
      · split <;> omega
      · exact this
    have hlen : (markStep n st m x).length = m.length := by unfold markStep; rw [List.length_set]
    obtain ⟨i1, i2⟩ := ih hl (markStep n st m x) (by rw [hlen]; exact hm) hv2
    refine ⟨i1, fun i hi => ?_⟩
    obtain ⟨i3, i4⟩ := i2 i (by rw [hlen]; exact hi)
    have hvi := hv i
    refine ⟨i3.trans ?_, i4.trans ?_⟩ <;> clear i1 i2 i3 i4 ih
    · rw [hstep, ex_cons, ← or_assoc]
      refine or_congr ?_ Iff.rfl
      by_cases h : i = p
      · rw [if_pos h, hp]
        constructor
        · intro _; right; rw [h]
        · intro _; split <;> omega
      · rw [if_neg h, hp]
        exact ⟨Or.inl, fun h' => h'.resolve_right (by omega)⟩
    · rw [hstep, ex_cons, ← or_assoc]
      refine or_congr ?_ Iff.rfl
      by_cases h : i = p
      · rw [if_pos h, hp]
        rcases hmk with ⟨g, hk⟩ | ⟨g, hk⟩
        · constructor
          · intro _; right; exact ⟨by rw [h], g⟩
          · intro _; split <;> omega
        · constructor
          · intro hh; left; split at hh <;> omega
          · intro hh
            have h5 := hh.resolve_right (fun h' => g h'.2)
            rw [if_pos (by omega)]; exact h5
      · rw [if_neg h, hp]
        exact ⟨Or.inl, fun h' => h'.resolve_right (fun h'' => h (by omega))⟩
/-- The edges of the marks from i on, d of them. -/
def outE (n st : Int) (m : List Int) : Nat → Nat → List S48
  | _, 0 => []
  | i, d + 1 => if rd m (i : Int) > 0 then decE n st i (rd m (i : Int) == 2) :: outE n st m (i + 1) d else outE n st m (i + 1) d
theorem outE_length (n st : Int) (m : List Int) (d : Nat) : ∀ i, (outE n st m i d).length ≤ d := by
  induction d with
  | zero => intro i; exact Nat.le_refl _
  | succ d ih =>
    intro i
    have := ih (i + 1)
    simp only [outE]
    split
    · simp only [List.length_cons]; omega
    · omega
theorem mem_outE (n st : Int) (m : List Int) (d : Nat) (e : S48) : ∀ i, e ∈ outE n st m i d ↔ ∃ j : Nat, i ≤ j ∧ j < i + d ∧ rd m (j : Int) > 0 ∧ e = decE n st j (rd m (j : Int) == 2) := by
  induction d with
  | zero => intro i; simp only [outE]; constructor
            · intro h; cases h
            · rintro ⟨j, h1, h2, _⟩; omega
  | succ d ih =>
    intro i
    have hi := ih (i + 1)
    have split1 : (∃ j : Nat, i ≤ j ∧ j < i + (d + 1) ∧ rd m (j : Int) > 0 ∧ e = decE n st j (rd m (j : Int) == 2)) ↔ (rd m (i : Int) > 0 ∧ e = decE n st i (rd m (i : Int) == 2)) ∨ ∃ j : Nat, i + 1 ≤ j ∧ j < i + 1 + d ∧ rd m (j : Int) > 0 ∧ e = decE n st j (rd m (j : Int) == 2) := by
      constructor
      · rintro ⟨j, a, b, c⟩
        by_cases hj : j = i
        · subst hj; exact .inl c
        · exact .inr ⟨j, by omega, by omega, c⟩
      · rintro (c | ⟨j, a, b, c⟩)
        · exact ⟨i, by omega, by omega, c⟩
        · exact ⟨j, by omega, by omega, c⟩
    rw [split1, ← hi]
    simp only [outE]
    by_cases h : rd m (i : Int) > 0
    · rw [if_pos h, List.mem_cons]
      exact or_congr ⟨fun h' => ⟨h, h'⟩, fun h' => h'.2⟩ Iff.rfl
    · rw [if_neg h]
      exact ⟨Or.inr, fun h' => h'.resolve_left (fun h'' => h h''.1)⟩
theorem outE_asc {n st : Int} (h1 : 1 ≤ n) (h3 : 1 ≤ st) (m : List Int) (d : Nat) : ∀ i, Asc (outE n st m i d) := by
  induction d with
  | zero => intro i; exact List.Pairwise.nil
  | succ d ih =>
    intro i
    simp only [outE]
    by_cases h : rd m (i : Int) > 0
    · rw [if_pos h]
      refine List.pairwise_cons.2 ⟨fun e he => ?_, ih (i + 1)⟩
      obtain ⟨j, a, b, _, rfl⟩ := (mem_outE n st m d e (i + 1)).1 he
      exact dec_lt h1 h3 (by omega) _ _
    · rw [if_neg h]; exact ih (i + 1)
theorem outE_made {n st : Int} (h1 : 1 ≤ n) (h2 : n ≤ 8) (h3 : 0 ≤ st) (h4 : st ≤ 31) (l : List S48) (hl : l.all (fun e => stOk n st (keyE e)) = true) : outE n st (marksE n st l (List.replicate (st * n * st).toNat 0)) 0 (st * n * st).toNat = madeE l := by
  obtain ⟨s1, s2, s3, s4⟩ := all_size h1 h2 h3 h4
  have hrep : ∀ i : Nat, rd (List.replicate (st * n * st).toNat 0) (i : Int) = 0 := fun i => by
    rw [rd_nat, List.getD_eq_getElem?_getD, List.getElem?_replicate]; split <;> rfl
  have hlen : (List.replicate (st * n * st).toNat (0 : Int)).length = (st * n * st).toNat := List.length_replicate
  obtain ⟨_, hm⟩ := marksE_spec n st h1 h2 h3 h4 l hl (List.replicate (st * n * st).toNat 0) (by rw [hlen]; omega) (fun i => by rw [hrep]; omega)
  obtain ⟨c1, c2⟩ := madeE_spec l
  by_cases hst : st = 0
  · subst hst
    have : l = [] := by
      cases l with
      | nil => rfl
      | cons x l =>
        simp only [List.all_cons, Bool.and_eq_true] at hl
        have := stOk_iff.1 hl.1
        omega
    subst this
    have : (0 * n * 0 : Int).toNat = 0 := by simp
    rw [this]
    cases hh : madeE [] with
    | nil => rfl
    | cons y r =>
      have := (c2 y).1 (by rw [hh]; exact List.mem_cons_self)
      obtain ⟨⟨x, hx, _⟩, _⟩ := this
      cases hx
  · refine asc_unique _ _ (outE_asc h1 (by omega) _ _ 0) c1 (fun e => ?_)
    rw [mem_outE, c2]
    have hall := List.all_eq_true.1 hl
    constructor
    · rintro ⟨j, _, hj, hp, he⟩
      obtain ⟨m1, m2⟩ := hm j (by rw [hlen]; omega)
      rw [hrep] at m1 m2
      obtain ⟨x, hx, hxj⟩ := (m1.1 hp).resolve_left (by omega)
      have hd := dec_at h1 h2 h3 h4 (hall x hx) (rd (marksE n st l (List.replicate (st * n * st).toNat 0)) (j : Int) == 2)
      rw [hxj, Int.toNat_natCast] at hd
      have hk : keyE x = keyE e := by rw [he, hd]; rfl
      refine ⟨⟨x, hx, hk⟩, ?_⟩
      have hf : e.f3 = (rd (marksE n st l (List.replicate (st * n * st).toNat 0)) (j : Int) == 2) := by rw [he]; rfl
      rw [hf, beq_iff_eq, m2]
      have hxe : stOk n st (keyE e) = true := by rw [← hk]; exact hall x hx
      constructor
      · intro h
        obtain ⟨y, hy, hyj, hyg⟩ := h.resolve_left (by omega)
        exact ⟨y, hy, (at_inj h1 h2 h3 h4 (hall y hy) hxe).1 (by rw [hyj, ← hxj]; exact (at_inj h1 h2 h3 h4 (hall x hx) hxe).2 hk), hyg⟩
      · rintro ⟨y, hy, hyk, hyg⟩
        exact .inr ⟨y, hy, by rw [← hxj]; exact (at_inj h1 h2 h3 h4 (hall y hy) (hall x hx)).2 (hyk.trans hk.symm), hyg⟩
    · rintro ⟨⟨x, hx, hk⟩, hg⟩
      have hr := atE_range h1 h2 h3 h4 (hall x hx)
      obtain ⟨p, hp⟩ : ∃ p : Nat, atE n st x = p := ⟨(atE n st x).toNat, by omega⟩
      obtain ⟨m1, m2⟩ := hm p (by rw [hlen]; omega)
      rw [hrep] at m1 m2
      have hpl : p < (st * n * st).toNat := by clear hm m1 m2 c2 hall hg; omega
      refine ⟨p, Nat.zero_le _, by rw [Nat.zero_add]; exact hpl, m1.2 (.inr ⟨x, hx, hp⟩), ?_⟩
      have hd := dec_at h1 h2 h3 h4 (hall x hx) (rd (marksE n st l (List.replicate (st * n * st).toNat 0)) (p : Int) == 2)
      rw [hp, Int.toNat_natCast] at hd
      rw [hd]
      have hf : e.f3 = (rd (marksE n st l (List.replicate (st * n * st).toNat 0)) (p : Int) == 2) := by
        rw [Bool.eq_iff_iff, hg, beq_iff_eq, m2]
        constructor
        · rintro ⟨y, hy, hyk, hyg⟩
          exact .inr ⟨y, hy, by rw [← hp]; exact (at_inj h1 h2 h3 h4 (hall y hy) (hall x hx)).2 (hyk.trans hk.symm), hyg⟩
        · intro h
          obtain ⟨y, hy, hyj, hyg⟩ := h.resolve_left (by omega)
          exact ⟨y, hy, ((at_inj h1 h2 h3 h4 (hall y hy) (hall x hx)).1 (hyj.trans hp.symm)).trans hk, hyg⟩
      unfold keyE at hk
      simp only [Prod.mk.injEq] at hk
      rw [← hf, hk.1, hk.2.1, hk.2.2]
theorem spec_AutoMake_l1 (n st : Int) (h1 : 1 ≤ n) (h2 : n ≤ 8) (h3 : 0 ≤ st) (h4 : st ≤ 31) (p q r : Int) (m : List Int) (hm : (m.length : Int) = st * n * st) (d : Nat) : ∀ (k i : Nat) (acc : List S48), i + d = m.length → acc.length ≤ i → d < k →
    spec_AutoMake.l1 k n st m (i : Int) p q r acc = some (p, q, r, acc ++ outE n st m i d, true) := by
  obtain ⟨s1, s2, s3, s4⟩ := all_size h1 h2 h3 h4
  induction d with
  | zero =>
    intro k i acc hi ha hk
    obtain ⟨k, rfl⟩ := succ_of hk
    simp only [spec_AutoMake.l1]
    rw [if_neg (by omega)]
    simp [outE]
  | succ d ih =>
    intro k i acc hi ha hk
    obtain ⟨k, rfl⟩ := succ_of hk
    simp only [spec_AutoMake.l1, outE]
    rw [if_pos (by omega), if_pos (by omega), wrap64_succ (by omega)]
    by_cases h : rd m (i : Int) > 0
    · have hst : st ≠ 0 := by
        intro e
        rw [e] at hm
        simp at hm
        simp [hm] at hi
      have e0 : Int.tdiv (i : Int) st = (i : Int) / st := Int.tdiv_eq_ediv_of_nonneg (by omega)
      have e1 : 0 ≤ (i : Int) / st := Int.ediv_nonneg (by omega) h3
      have e2 : (i : Int) / st ≤ (i : Int) := Int.ediv_le_self _ (by omega)
      have e3 : Int.tdiv ((i : Int) / st) n = (i : Int) / st / n := Int.tdiv_eq_ediv_of_nonneg e1
      have e4 : 0 ≤ (i : Int) / st / n := Int.ediv_nonneg e1 (by omega)
      have e5 : (i : Int) / st / n ≤ (i : Int) / st := Int.ediv_le_self _ e1
      rw [if_pos h, if_pos h, if_neg hst, if_neg (by omega), if_pos (by omega), e0, wrap64_id (n := (i : Int) / st) (by omega) (by omega), e3, wrap64_id (n := (i : Int) / st / n) (by omega) (by omega), Int.tmod_eq_emod_of_nonneg e1, Int.tmod_eq_emod_of_nonneg (by omega)]
      rw [ih k (i + 1) _ (by omega) (by simp; omega) (by omega), List.append_assoc]
      rfl
    · rw [if_neg h, if_neg h, ih k (i + 1) _ (by omega) (by omega) (by omega)]
theorem spec_AutoMake_l0 (n st : Int) (h1 : 1 ≤ n) (h2 : n ≤ 8) (h3 : 0 ≤ st) (h4 : st ≤ 31) (p q r : Int) (l : List S48) (hl : l.length ≤ 2000) (d : Nat) : ∀ (k i : Nat) (m : List Int), (m.length : Int) = st * n * st → i + d = l.length → 2 * d + 7800 < k →
    spec_AutoMake.l0 k n st l m (i : Int) p q r = some (if (l.drop i).all (fun e => stOk n st (keyE e)) = true then (p, q, r, outE n st (marksE n st (l.drop i) m) 0 m.length, true) else (0, 0, 0, [], false)) := by
  obtain ⟨s1, s2, s3, s4⟩ := all_size h1 h2 h3 h4
  induction d with
  | zero =>
    intro k i m hm hi hk
    obtain ⟨k, rfl⟩ := succ_of (show 0 < k by omega)
    simp only [spec_AutoMake.l0]
    rw [if_neg (by omega), List.drop_eq_nil_of_le (by omega), if_pos (show (([] : List S48).all fun e => stOk n st (keyE e)) = true from rfl)]
    have := spec_AutoMake_l1 n st h1 h2 h3 h4 p q r m hm m.length k 0 [] (by omega) (by simp) (by omega)
    exact this
  | succ d ih =>
    intro k i m hm hi hk
    obtain ⟨k, rfl⟩ := succ_of (show 0 < k by omega)
    obtain ⟨k, rfl⟩ := succ_of (show 0 < k by omega)
    have hd := drop_cons (l := l) (i := i) (by omega)
    have hnope : ∀ (a b c : Int) (g : Bool), spec_AutoMake.j2 (k + 1) n st l m (i : Int) true p q r a b c g = some (0, 0, 0, [], false) := fun a b c g => by simp only [spec_AutoMake.j2]; rw [if_pos trivial]
    simp only [spec_AutoMake.l0]
    rw [if_pos (by omega), if_pos (by omega), rdE_at (by omega), spec_l4State_eq _ _ (by omega) (by omega), spec_l4State_eq _ _ (by omega) (by omega), Option.bind_some, Option.bind_some, spec_l1In_eq, Option.bind_some]
    simp only [hnope]
    rw [wrap64_id (n := n - 1) (by omega) (by omega), hd, List.all_cons]
    have hst : stOk n st (keyE l[i]) = (inR l[i].f0 0 (st - 1) && (inR l[i].f2 0 (st - 1) && inR l[i].f1 0 (n - 1))) := rfl
    by_cases c0 : inR l[i].f0 0 (st - 1) = true
    · rw [if_pos c0]
      by_cases c1 : inR l[i].f2 0 (st - 1) = true
      · rw [if_pos c1]
        by_cases c2 : inR l[i].f1 0 (n - 1) = true
        · have hok : stOk n st (keyE l[i]) = true := by rw [hst, c0, c1, c2]; rfl
          have hr := atE_range h1 h2 h3 h4 hok
          have hlt : atE n st l[i] < m.length := by omega
          have hge := hr.2.2.2.1
          have e0 : wrap64 (l[i].f0 * n) = l[i].f0 * n := wrap64_id (by omega) (by omega)
          have e1 : wrap64 (l[i].f0 * n + l[i].f1) = l[i].f0 * n + l[i].f1 := wrap64_id (by omega) (by omega)
          have e2 : wrap64 ((l[i].f0 * n + l[i].f1) * st) = (l[i].f0 * n + l[i].f1) * st := wrap64_id (by omega) (by omega)
          have e3 : wrap64 ((l[i].f0 * n + l[i].f1) * st + l[i].f2) = atE n st l[i] := wrap64_id (by unfold atE at hge hlt; omega) (by unfold atE at hge hlt; omega)
          have hset : ∀ v : Int, v = mkE l[i] → spec_AutoMake.l0 k n st l (m.set (atE n st l[i]).toNat (if rd m (atE n st l[i]) > v then rd m (atE n st l[i]) else v)) ((i + 1 : Nat) : Int) p q r = some (if (true && (l.drop (i + 1)).all (fun e => stOk n st (keyE e))) = true then (p, q, r, outE n st (marksE n st (l[i] :: l.drop (i + 1)) m) 0 m.length, true) else (0, 0, 0, [], false)) := by
            rintro v rfl
            have hl2 : (markStep n st m l[i]).length = m.length := by unfold markStep; rw [List.length_set]
            have := ih k (i + 1) (markStep n st m l[i]) (by rw [hl2]; exact hm) (by omega) (by omega)
            rw [hl2] at this
            rw [Bool.true_and]
            exact this
          rw [c2, hok]
          simp only [spec_AutoMake.j2, Bool.not_true, Bool.false_eq_true, if_false]
          rw [e0, e1, e2, e3, spec_l1Max_eq, spec_l1Max_eq, Option.bind_some, Option.bind_some, wrap64_succ (by omega)]
          cases hg : l[i].f3
          · rw [if_neg (by simp), if_pos hge, if_pos hlt]
            exact hset 1 (by unfold mkE; rw [hg]; rfl)
          · rw [if_pos rfl, if_pos hge, if_pos hlt]
            exact hset 2 (by unfold mkE; rw [hg]; rfl)
        · simp only [Bool.not_eq_true] at c2
          rw [c2, hst, c0, c1, c2]
          simp only [Bool.not_false, Bool.and_false, Bool.false_and, Bool.false_eq_true, if_false]
          exact hnope _ _ _ _
      · rw [if_neg c1]
        simp only [Bool.not_eq_true] at c1
        rw [hst, c0, c1]
        simp
    · rw [if_neg c0]
      simp only [Bool.not_eq_true] at c0
      rw [hst, c0]
      simp
theorem spec_AutoMake_eq (n st s : Int) (l : List S48) (hl : l.length ≤ 1099511627776) (k : Nat) (hk : 12000 < k) : spec_AutoMake.f k n st s l = some (makeZ n st s l) := by
  unfold spec_AutoMake.f makeZ
  rw [spec_AutoOk_eq n st s [] (by simp) k (by simp; omega), Option.bind_some]
  obtain ⟨k, rfl⟩ := succ_of (show 0 < k by omega)
  have hh : autoOkB n st s ([] : List S48) = headB n st s := by unfold autoOkB; simp [edgesB]
  rw [hh]
  by_cases h1 : headB n st s = true
  · rw [if_pos h1]
    obtain ⟨a1, a2, a3⟩ := head_of h1
    obtain ⟨s1, s2, s3, s4⟩ := all_size a1.1 a1.2 a2.1 a2.2
    simp only [spec_AutoMake.j0]
    by_cases hl2 : l.length ≤ 2000
    · have e1 : wrap64 (st * n) = st * n := wrap64_id (by omega) (by omega)
      have e2 : wrap64 (st * n * st) = st * n * st := wrap64_id (by omega) (by omega)
      rw [decide_eq_false (show ¬ (l.length : Int) > 2000 by omega), if_neg (by simp), e1, e2, if_pos s3, if_pos (by omega)]
      have h := spec_AutoMake_l0 n st a1.1 a1.2 a2.1 a2.2 n st s l hl2 l.length k 0 (List.replicate (st * n * st).toNat 0) (by rw [List.length_replicate]; omega) (by omega) (by omega)
      rw [show ((0 : Nat) : Int) = 0 from rfl, List.drop_zero, List.length_replicate] at h
      rw [h]
      by_cases h2 : l.all (fun e => stOk n st (keyE e)) = true
      · rw [if_pos h2, if_pos ⟨hl2, h1, h2⟩, outE_made a1.1 a1.2 a2.1 a2.2 l h2]
      · rw [if_neg h2, if_neg (fun h => h2 h.2.2)]
    · rw [decide_eq_true (show (l.length : Int) > 2000 by omega), if_pos rfl, if_neg (fun h => hl2 h.1)]
  · rw [if_neg h1, if_neg (fun h => h1 h.2.1)]
    simp only [spec_AutoMake.j0]
    rw [if_pos trivial]
/-- The mark for which is waited behind an edge, from mark j on, d marks looked at; and whether all were passed. -/
def waitZ (m : Int) : Int → Nat → Int × Bool
  | _, 0 => (0, true)
  | j, d + 1 => if hasZ m j then waitZ m (j + 1) d else (j, false)
theorem waitZ_range (m : Int) (d : Nat) : ∀ j : Int, 0 ≤ j → 0 ≤ (waitZ m j d).1 ∧ (waitZ m j d).1 < j + d + 1 := by
  induction d with
  | zero => intro j hj; simp only [waitZ]; omega
  | succ d ih =>
    intro j hj
    simp only [waitZ]
    split
    · have := ih (j + 1) (by omega); omega
    · simp only; omega
/-- The edges that an edge with marks becomes, from place j on, d of them. -/
def degRow (n c : Int) (e : S46) : Nat → Nat → List S48
  | _, 0 => []
  | j, d + 1 => ⟨e.f0 * n + j, e.f1, e.f2 * n + (waitZ e.f3 j (c.toNat - j)).1, (waitZ e.f3 j (c.toNat - j)).2⟩ :: degRow n c e (j + 1) d
def degAll (n c : Int) : List S46 → List S48
  | [] => []
  | e :: l => degRow n c e 0 n.toNat ++ degAll n c l
theorem degRow_length (n c : Int) (e : S46) (d : Nat) : ∀ j, (degRow n c e j d).length = d := by
  induction d with
  | zero => intro j; rfl
  | succ d ih => intro j; simp [degRow, ih]
theorem degAll_length (n c : Int) (l : List S46) : (degAll n c l).length = l.length * n.toNat := by
  induction l with
  | nil => simp [degAll]
  | cons e l ih => simp only [degAll, List.length_append, degRow_length, ih, List.length_cons, Nat.succ_mul]; omega
/-- The start states, spread. -/
def startD (n : Int) : Int → List Int → Int
  | a, [] => a
  | a, x :: l => startD n (putZ a (x * n)) l
theorem startD_one (l : List Int) : ∀ a s, setOfL a l = (s, true) → startD 1 a l = s := by
  induction l with
  | nil => intro a s h; simp only [setOfL, Prod.mk.injEq] at h; exact h.1
  | cons x l ih =>
    intro a s h
    simp only [setOfL] at h
    split at h
    · simp only [startD, Int.mul_one]; exact ih _ _ h
    · simp at h
def sizeD (c : Int) : Int := if c > 1 then c else 1
/-- An automaton with one mark, of one with some. -/
def degenZ (n st s c : Int) (l : List S46) : Int × Int × Int × List S48 × Bool :=
  if genOkB n st s c l = true ∧ st * sizeD c ≤ 31 ∧ (l.length : Int) * sizeD c ≤ 2000 then makeZ n (st * sizeD c) (startD (sizeD c) 0 (listFrom s 0 st.toNat)) (degAll (sizeD c) c l) else (0, 0, 0, [], false)
theorem degenZ_length (n st s c : Int) (l : List S46) : (degenZ n st s c l).2.2.2.1.length ≤ 2000 := by
  unfold degenZ
  split
  · exact makeZ_length _ _ _ _
  · simp
theorem hasZ_small (m : Int) (i : Nat) (h : i ≤ 30) : hasZ m (i : Int) = m.toNat.testBit i := by
  unfold hasZ
  rw [show inR (i : Int) 0 30 = true from inR_iff.2 ⟨by omega, by omega⟩, Bool.true_and, Int.toNat_natCast]
theorem sizeD_range {c : Int} (h0 : 0 ≤ c) (h1 : c ≤ 4) : 1 ≤ sizeD c ∧ sizeD c ≤ 4 ∧ c ≤ sizeD c := by
  unfold sizeD; split <;> omega
theorem spec_GenDegen_l3 (n c x5 : Int) (acc : List S48) (i j : Nat) (p0 p1 p2 : Int) (L : List S46) (e0 e1 e2 e3 : Int) (hc0 : 0 ≤ c) (hc : c ≤ 4) (hn : 1 ≤ n) (hn4 : n ≤ 4) (hm0 : 0 ≤ e3) (hm1 : e3 ≤ 2147483647) (ha0 : 0 ≤ e0) (ha1 : e0 ≤ 100) (hb0 : 0 ≤ e2) (hb1 : e2 ≤ 100) (hacc : acc.length ≤ 1000000) (hj : j ≤ 4)
    (R : Int × Int × Int × List S48 × Bool) (k0 : Nat) (g : S48) (hnext : ∀ k, k0 ≤ k → spec_GenDegen.l2 k n x5 (acc ++ [g]) (i : Int) ((j + 1 : Nat) : Int) p0 p1 p2 c L e0 e1 e2 e3 = some R) (d : Nat) :
    ∀ (k q : Nat), ((q : Int) + d = c ∨ (d = 0 ∧ c ≤ (q : Int))) → q ≤ 4 → g = ⟨e0 * n + j, e1, e2 * n + (waitZ e3 q d).1, (waitZ e3 q d).2⟩ → k0 + d + 1 ≤ k → spec_GenDegen.l3 k n x5 acc (i : Int) (j : Int) (q : Int) p0 p1 p2 c L e0 e1 e2 e3 = some R := by
  have m0 : 0 ≤ e0 * n := Int.mul_nonneg ha0 (by omega)
  have m1 : e0 * n ≤ 100 * n := Int.mul_le_mul_of_nonneg_right ha1 (by omega)
  have m2 : 0 ≤ e2 * n := Int.mul_nonneg hb0 (by omega)
  have m3 : e2 * n ≤ 100 * n := Int.mul_le_mul_of_nonneg_right hb1 (by omega)
  induction d with
  | zero =>
    intro k q hq hq4 hg hk
    obtain ⟨k, rfl⟩ := succ_of (show 0 < k by omega)
    subst hg
    simp only [spec_GenDegen.l3]
    have := hnext k (by omega)
    rw [if_neg (by omega), if_pos (by omega), if_pos (by omega), decide_eq_true (by omega), wrap64_id (n := e0 * n) (by omega) (by omega), wrap64_id (n := e0 * n + j) (by omega) (by omega), wrap64_id (n := e2 * n) (by omega) (by omega), wrap64_id (n := e2 * n + 0) (by omega) (by omega), wrap64_succ (by omega)]
    exact this
  | succ d ih =>
    intro k q hq hq4 hg hk
    obtain ⟨k, rfl⟩ := succ_of (show 0 < k by omega)
    have hqc : (q : Int) < c := by omega
    simp only [spec_GenDegen.l3]
    rw [if_pos hqc, spec_l1Has_eq e3 q hm0 (by omega), Option.bind_some]
    by_cases h : hasZ e3 (q : Int) = true
    · rw [if_pos h, wrap64_succ (by omega)]
      refine ih k (q + 1) (by omega) (by omega) ?_ (by omega)
      rw [hg]; simp only [waitZ]; rw [if_pos h]; rfl
    · have hw : waitZ e3 q (d + 1) = ((q : Int), false) := by simp only [waitZ]; rw [if_neg h]
      rw [hw] at hg
      subst hg
      have := hnext k (by omega)
      rw [if_neg h, if_neg (by omega), if_pos (by omega), decide_eq_false (by omega), wrap64_id (n := e0 * n) (by omega) (by omega), wrap64_id (n := e0 * n + j) (by omega) (by omega), wrap64_id (n := e2 * n) (by omega) (by omega), wrap64_id (n := e2 * n + q) (by omega) (by omega), wrap64_succ (by omega)]
      exact this
theorem spec_GenDegen_l2 (n c x5 : Int) (i : Nat) (p0 p1 p2 : Int) (L : List S46) (e : S46) (hc0 : 0 ≤ c) (hc : c ≤ 4) (hn : 1 ≤ n) (hn4 : n ≤ 4) (hm0 : 0 ≤ e.f3) (hm1 : e.f3 ≤ 2147483647) (ha0 : 0 ≤ e.f0) (ha1 : e.f0 ≤ 100) (hb0 : 0 ≤ e.f2) (hb1 : e.f2 ≤ 100)
    (R : Int × Int × Int × List S48 × Bool) (k0 : Nat) (A : List S48) (hA : A.length ≤ 900000) (hnext : ∀ k, k0 ≤ k → spec_GenDegen.l1 k n x5 A ((i : Int) + 1) p0 p1 p2 c L = some R) (hi : i ≤ 100000) (d : Nat) :
    ∀ (k j : Nat) (acc : List S48), (j : Int) + d = n → A = acc ++ degRow n c e j d → k0 + 8 * d + 1 ≤ k → spec_GenDegen.l2 k n x5 acc (i : Int) (j : Int) p0 p1 p2 c L e.f0 e.f1 e.f2 e.f3 = some R := by
  induction d with
  | zero =>
    intro k j acc hj hacc hk
    obtain ⟨k, rfl⟩ := succ_of (show 0 < k by omega)
    simp only [spec_GenDegen.l2]
    simp only [degRow, List.append_nil] at hacc
    rw [if_neg (by omega), wrap64_id (by omega) (by omega), ← hacc]
    exact hnext k (by omega)
  | succ d ih =>
    intro k j acc hj hacc hk
    obtain ⟨k, rfl⟩ := succ_of (show 0 < k by omega)
    have hal : acc.length ≤ 900000 := by
      have := congrArg List.length hacc
      rw [List.length_append] at this; omega
    simp only [spec_GenDegen.l2]
    rw [if_pos (by omega)]
    refine spec_GenDegen_l3 n c x5 acc i j p0 p1 p2 L e.f0 e.f1 e.f2 e.f3 hc0 hc hn hn4 hm0 hm1 ha0 ha1 hb0 hb1 (by omega) (by omega) R (k0 + 8 * d + 1) _ (fun k' hk' => ih k' (j + 1) _ (by omega) ?_ hk') (c.toNat - j) k j (by omega) (by omega) rfl (by omega)
    rw [hacc]
    simp only [degRow, List.append_assoc, List.singleton_append]
theorem spec_GenDegen_l1 (n c st s x5 : Int) (nl : Int) (L : List S46) (h : genOkB nl st s c L = true) (hn : n = sizeD c) (hsz : st * n ≤ 31) (d : Nat) : ∀ (k i : Nat) (acc : List S48), i + d = L.length → 50 * d + 13000 < k → acc.length ≤ 4 * i →
    spec_GenDegen.l1 k n x5 acc (i : Int) nl st s c L = some (makeZ nl (st * n) x5 (acc ++ degAll n c (L.drop i))) := by
  obtain ⟨g1, g2, g3, g4⟩ := genOk_of h
  have hh := head_of g1
  have hc := inR_iff.1 g2
  have hr := sizeD_range hc.1 hc.2
  rw [← hn] at hr
  have hs0 : 0 ≤ st * n := Int.mul_nonneg hh.2.1.1 (by omega)
  induction d with
  | zero =>
    intro k i acc hi hk ha
    obtain ⟨k, rfl⟩ := succ_of (show 0 < k by omega)
    simp only [spec_GenDegen.l1]
    rw [if_neg (by omega), List.drop_eq_nil_of_le (by omega), wrap64_id (n := st * n) (by omega) (by omega), spec_AutoMake_eq nl (st * n) x5 acc (by omega) k (by omega), Option.bind_some]
    simp only [degAll, List.append_nil]
  | succ d ih =>
    intro k i acc hi hk ha
    obtain ⟨k, rfl⟩ := succ_of (show 0 < k by omega)
    have hm := edgesB_mem g4 (List.getElem_mem (show i < L.length by omega))
    obtain ⟨⟨a1, a2⟩, ⟨a3, a4⟩, a5, a6⟩ := stOk_iff.1 hm.1
    have hmk := inR_iff.1 hm.2
    have hb := bitZ_le31 (i := c) (by omega)
    change 0 ≤ L[i].f0 at a1; change L[i].f0 ≤ st - 1 at a2; change 0 ≤ L[i].f2 at a3; change L[i].f2 ≤ st - 1 at a4
    simp only [spec_GenDegen.l1]
    rw [if_pos (by omega), if_pos (by omega), rdG_at (by omega), drop_cons (l := L) (i := i) (by omega)]
    have hl := degRow_length n c L[i] n.toNat 0
    refine spec_GenDegen_l2 n c x5 i nl st s L L[i] hc.1 hc.2 hr.1 hr.2.1 hmk.1 (by omega) a1 (by omega) a3 (by omega) _ (50 * d + 13001) (acc ++ degRow n c L[i] 0 n.toNat) (by rw [List.length_append]; omega) (fun k' hk' => ?_) (by omega) n.toNat k 0 acc (by omega) rfl (by omega)
    have := ih k' (i + 1) (acc ++ degRow n c L[i] 0 n.toNat) (by omega) (by omega) (by rw [List.length_append]; omega)
    rw [List.append_assoc] at this
    exact this
theorem spec_GenDegen_l0 (n c st s : Int) (nl : Int) (L : List S46) (h : genOkB nl st s c L = true) (hn : n = sizeD c) (hsz : st * n ≤ 31) (d : Nat) : ∀ (k i : Nat) (a : Int), (i : Int) + d = st → SetZ a → d + 50 * L.length + 14000 < k →
    spec_GenDegen.l0 k n a (i : Int) nl st s c L = some (makeZ nl (st * n) (startD n a (listFrom s i d)) (degAll n c L)) := by
  obtain ⟨g1, g2, g3, g4⟩ := genOk_of h
  have hh := head_of g1
  have hc := inR_iff.1 g2
  have hr := sizeD_range hc.1 hc.2
  rw [← hn] at hr
  induction d with
  | zero =>
    intro k i a hi ha hk
    obtain ⟨k, rfl⟩ := succ_of (show 0 < k by omega)
    simp only [spec_GenDegen.l0]
    rw [if_neg (by omega)]
    have := spec_GenDegen_l1 n c st s a nl L h hn hsz L.length k 0 [] (by omega) (by omega) (by simp)
    rw [List.drop_zero, List.nil_append] at this
    exact this
  | succ d ih =>
    intro k i a hi ha hk
    obtain ⟨k, rfl⟩ := succ_of (show 0 < k by omega)
    have hm : ((i : Int) + 1) * n ≤ st * n := Int.mul_le_mul_of_nonneg_right (by omega) (by omega)
    have hm2 : ((i : Int) + 1) * n = (i : Int) * n + n := by rw [Int.add_mul, Int.one_mul]
    have hm3 : 0 ≤ (i : Int) * n := Int.mul_nonneg (by omega) (by omega)
    simp only [spec_GenDegen.l0, listFrom]
    rw [if_pos (by omega), spec_l1Has_eq s i hh.2.2.1 (by omega), Option.bind_some, wrap64_succ (by omega), wrap64_id (n := (i : Int) * n) (by omega) (by omega), spec_l1Bit_eq _ hm3 (by omega), Option.bind_some, or_bitZ a _ ha.1 (by have := ha.2; omega) hm3 (by omega)]
    by_cases hz : hasZ s (i : Int) = true
    · rw [if_pos hz, if_pos hz, ih k (i + 1) _ (by omega) (SetZ_put ha (by omega)) (by omega)]
      rfl
    · rw [if_neg hz, if_neg hz, ih k (i + 1) a (by omega) ha (by omega)]
theorem max_eq_size {c : Int} : (if c > 1 then c else 1) = sizeD c := rfl
theorem spec_GenDegen_eq (n st s c : Int) (l : List S46) (hl : l.length ≤ 1048576) (k : Nat) (hk : 2 * l.length + 200000 < k) : spec_GenDegen.f k n st s c l = some (degenZ n st s c l) := by
  unfold spec_GenDegen.f degenZ
  rw [spec_GenOk_eq n st s c l (by omega) k (by omega), Option.bind_some, spec_l1Max_eq, Option.bind_some, Option.bind_some, max_eq_size]
  obtain ⟨k, rfl⟩ := succ_of (show 0 < k by omega)
  by_cases h : genOkB n st s c l = true
  · obtain ⟨g1, g2, g3, g4⟩ := genOk_of h
    have hh := head_of g1
    have hc := inR_iff.1 g2
    have hr := sizeD_range hc.1 hc.2
    have m0 : 0 ≤ st * sizeD c := Int.mul_nonneg hh.2.1.1 (by omega)
    have m1 : st * sizeD c ≤ 31 * sizeD c := Int.mul_le_mul_of_nonneg_right hh.2.1.2 (by omega)
    have m2 : 0 ≤ (l.length : Int) * sizeD c := Int.mul_nonneg (by omega) (by omega)
    have m3 : (l.length : Int) * sizeD c ≤ 2000 * sizeD c := Int.mul_le_mul_of_nonneg_right (by omega) (by omega)
    rw [if_pos h, wrap64_id (n := st * sizeD c) (by omega) (by omega), wrap64_id (n := (l.length : Int) * sizeD c) (by omega) (by omega)]
    by_cases h1 : st * sizeD c ≤ 31
    · rw [if_neg (by omega)]
      simp only [spec_GenDegen.j0]
      by_cases h2 : (l.length : Int) * sizeD c ≤ 2000
      · rw [decide_eq_false (show ¬ (l.length : Int) * sizeD c > 2000 by omega), if_neg Bool.false_ne_true, spec_l1Max_eq, Option.bind_some, max_eq_size, if_pos ⟨h, h1, h2⟩]
        have := spec_GenDegen_l0 (sizeD c) c st s n l h rfl h1 st.toNat k 0 0 (by omega) ⟨by omega, by omega⟩ (by omega)
        exact this
      · rw [decide_eq_true (show (l.length : Int) * sizeD c > 2000 by omega), if_pos rfl, if_neg (fun h' => h2 h'.2.2)]
    · rw [if_pos (by omega), if_neg (fun h' => h1 h'.2.1)]
      simp only [spec_GenDegen.j0]
      rw [if_pos trivial]
  · rw [if_neg h, if_neg (fun h' => h h'.1)]
    simp only [spec_GenDegen.j0]
    rw [if_pos trivial]
theorem impl_waitFor_l0 (m c : Int) (hm0 : 0 ≤ m) (hm1 : m ≤ 2147483647) (hc : c ≤ 4) (d : Nat) : ∀ (k q : Nat), (q : Int) + d = c → d < k → impl_waitFor.l0 k m (q : Int) c = some (waitZ m q d) := by
  induction d with
  | zero =>
    intro k q hq hk
    obtain ⟨k, rfl⟩ := succ_of (show 0 < k by omega)
    simp only [impl_waitFor.l0, waitZ]
    rw [if_neg (by omega), if_pos (by omega)]
  | succ d ih =>
    intro k q hq hk
    obtain ⟨k, rfl⟩ := succ_of (show 0 < k by omega)
    simp only [impl_waitFor.l0, waitZ]
    rw [if_pos (by omega), impl_has_eq m q hm0 (by omega) (by omega) (by omega), Option.bind_some, Int.toNat_natCast, ← hasZ_small m q (by omega), wrap64_succ (by omega)]
    by_cases h : hasZ m (q : Int) = true
    · rw [if_pos h, if_pos h, ih k (q + 1) (by omega) (by omega)]; rfl
    · rw [if_neg h, if_neg h, if_neg (by omega)]
theorem impl_waitFor_eq (m c : Int) (hm0 : 0 ≤ m) (hm1 : m ≤ 2147483647) (hc0 : 0 ≤ c) (hc : c ≤ 4) (q : Nat) (hq : (q : Int) < sizeD c) (k : Nat) (hk : 10 < k) : impl_waitFor.f k m (q : Int) c = some (waitZ m q (c.toNat - q)) := by
  unfold impl_waitFor.f
  by_cases h : (q : Int) ≤ c
  · exact impl_waitFor_l0 m c hm0 hm1 hc (c.toNat - q) k q (by omega) (by omega)
  · unfold sizeD at hq
    split at hq <;> omega
theorem impl_GenDegen_l2 (n c : Int) (L : List S46) (i : Nat) (p0 p1 p2 q0 q1 q2 : Int) (e : S46) (hc0 : 0 ≤ c) (hc : c ≤ 4) (hn : n = sizeD c) (hm0 : 0 ≤ e.f3) (hm1 : e.f3 ≤ 2147483647) (ha0 : 0 ≤ e.f0) (ha1 : e.f0 ≤ 100) (hb0 : 0 ≤ e.f2) (hb1 : e.f2 ≤ 100)
    (R : Int × Int × Int × List S48 × Bool) (k0 : Nat) (hk0 : 20 < k0) (A : List S48) (hA : A.length ≤ 900000) (hnext : ∀ k, k0 ≤ k → impl_GenDegen.l1 k n L (L.length : Int) ((i : Int) + 1) p0 p1 p2 c L q0 q1 q2 A = some R) (hi : i ≤ 100000) (d : Nat) :
    ∀ (k j : Nat) (acc : List S48), (j : Int) + d = n → A = acc ++ degRow n c e j d → k0 + d + 1 ≤ k → impl_GenDegen.l2 k n L (L.length : Int) (i : Int) n (j : Int) p0 p1 p2 c L q0 q1 q2 acc e.f0 e.f1 e.f2 e.f3 = some R := by
  have hr := sizeD_range hc0 hc
  rw [← hn] at hr
  have m0 : 0 ≤ e.f0 * n := Int.mul_nonneg ha0 (by omega)
  have m1 : e.f0 * n ≤ 100 * n := Int.mul_le_mul_of_nonneg_right ha1 (by omega)
  have m2 : 0 ≤ e.f2 * n := Int.mul_nonneg hb0 (by omega)
  have m3 : e.f2 * n ≤ 100 * n := Int.mul_le_mul_of_nonneg_right hb1 (by omega)
  induction d with
  | zero =>
    intro k j acc hj hacc hk
    obtain ⟨k, rfl⟩ := succ_of (show 0 < k by omega)
    simp only [impl_GenDegen.l2]
    simp only [degRow, List.append_nil] at hacc
    rw [if_neg (by omega), wrap64_id (by omega) (by omega), ← hacc]
    exact hnext k (by omega)
  | succ d ih =>
    intro k j acc hj hacc hk
    obtain ⟨k, rfl⟩ := succ_of (show 0 < k by omega)
    have hal : acc.length ≤ 900000 := by
      have := congrArg List.length hacc
      rw [List.length_append] at this; omega
    have hw := waitZ_range e.f3 (c.toNat - j) (j : Int) (by omega)
    simp only [impl_GenDegen.l2]
    rw [if_pos (by omega), impl_waitFor_eq e.f3 c hm0 hm1 hc0 hc j (by omega) k (by omega), Option.bind_some, if_pos (by omega), wrap64_id (n := e.f0 * n) (by omega) (by omega), wrap64_id (n := e.f0 * n + j) (by omega) (by omega), wrap64_id (n := e.f2 * n) (by omega) (by omega), wrap64_id (n := e.f2 * n + (waitZ e.f3 j (c.toNat - j)).1) (by omega) (by omega), wrap64_succ (by omega)]
    refine ih k (j + 1) _ (by omega) ?_ (by omega)
    rw [hacc]
    simp only [degRow, List.append_assoc, List.singleton_append]
theorem impl_GenDegen_l1 (n c st s : Int) (q0 q1 q2 : Int) (nl : Int) (L : List S46) (h : genOkB nl st s c L = true) (hn : n = sizeD c) (d : Nat) : ∀ (k i : Nat) (acc : List S48), i + d = L.length → 20 * d + 10000 < k → acc.length + d * n.toNat ≤ 2000 →
    impl_GenDegen.l1 k n L (L.length : Int) (i : Int) nl st s c L q0 q1 q2 acc = some (makeZ q0 q1 q2 (acc ++ degAll n c (L.drop i))) := by
  obtain ⟨g1, g2, g3, g4⟩ := genOk_of h
  have hh := head_of g1
  have hc := inR_iff.1 g2
  have hr := sizeD_range hc.1 hc.2
  rw [← hn] at hr
  induction d with
  | zero =>
    intro k i acc hi hk ha
    obtain ⟨k, rfl⟩ := succ_of (show 0 < k by omega)
    have hml := madeE_length acc
    have hmr : mergeR (srtE acc) = madeE acc := rfl
    simp only [impl_GenDegen.l1]
    rw [if_neg (by omega), List.drop_eq_nil_of_le (by omega), impl_ordered_eq acc (by omega) k (by omega), Option.bind_some, hmr, impl_rightAuto_eq q0 q1 q2 _ (by omega) k (by omega), Option.bind_some]
    simp only [degAll, List.append_nil]
    rw [madeE_ok q0 q1 q2 acc (by omega)]
    unfold makeZ
    by_cases h1 : headB q0 q1 q2 = true
    · by_cases h2 : acc.all (fun e => stOk q0 q1 (keyE e)) = true
      · rw [if_pos (show acc.length ≤ 2000 ∧ headB q0 q1 q2 = true ∧ acc.all (fun e => stOk q0 q1 (keyE e)) = true from ⟨by omega, h1, h2⟩), h1, h2]; rfl
      · rw [if_neg (show ¬ (acc.length ≤ 2000 ∧ headB q0 q1 q2 = true ∧ acc.all (fun e => stOk q0 q1 (keyE e)) = true) from fun h => h2 h.2.2)]
        simp only [Bool.not_eq_true] at h2
        rw [h2, Bool.and_false]; rfl
    · rw [if_neg (show ¬ (acc.length ≤ 2000 ∧ headB q0 q1 q2 = true ∧ acc.all (fun e => stOk q0 q1 (keyE e)) = true) from fun h => h1 h.2.1)]
      simp only [Bool.not_eq_true] at h1
      rw [h1, Bool.false_and]; rfl
  | succ d ih =>
    intro k i acc hi hk ha
    obtain ⟨k, rfl⟩ := succ_of (show 0 < k by omega)
    rw [Nat.succ_mul] at ha
    have hm := edgesB_mem g4 (List.getElem_mem (show i < L.length by omega))
    obtain ⟨⟨a1, a2⟩, ⟨a3, a4⟩, a5, a6⟩ := stOk_iff.1 hm.1
    have hmk := inR_iff.1 hm.2
    have hb := bitZ_le31 (i := c) (by omega)
    change 0 ≤ L[i].f0 at a1; change L[i].f0 ≤ st - 1 at a2; change 0 ≤ L[i].f2 at a3; change L[i].f2 ≤ st - 1 at a4
    simp only [impl_GenDegen.l1]
    rw [if_pos (by omega), if_pos (by omega), if_pos (by omega), rdG_at (by omega), drop_cons (l := L) (i := i) (by omega)]
    have hl := degRow_length n c L[i] n.toNat 0
    refine impl_GenDegen_l2 n c L i nl st s q0 q1 q2 L[i] hc.1 hc.2 hn hmk.1 (by omega) a1 (by omega) a3 (by omega) _ (20 * d + 10001) (by omega) (acc ++ degRow n c L[i] 0 n.toNat) (by rw [List.length_append]; omega) (fun k' hk' => ?_) (by omega) n.toNat k 0 acc (by omega) rfl (by omega)
    have := ih k' (i + 1) (acc ++ degRow n c L[i] 0 n.toNat) (by omega) (by omega) (by rw [List.length_append]; omega)
    rw [List.append_assoc] at this
    exact this
theorem impl_GenDegen_l0 (n c st s : Int) (q0 q1 : Int) (nl : Int) (L : List S46) (h : genOkB nl st s c L = true) (hn : n = sizeD c) (hlen : (L.length : Int) * n ≤ 2000) (hsz : st * n ≤ 31) (M : List Int) (hM : ∀ x ∈ M, 0 ≤ x ∧ x < st) (hMl : M.length ≤ 31) (d : Nat) : ∀ (k i : Nat) (a : Int), i + d = M.length → SetZ a → d + 20 * L.length + 11000 < k →
    impl_GenDegen.l0 k n M (M.length : Int) (i : Int) nl st s c L q0 q1 a = some (makeZ q0 q1 (startD n a (M.drop i)) (degAll n c L)) := by
  obtain ⟨g1, g2, g3, g4⟩ := genOk_of h
  have hh := head_of g1
  have hc := inR_iff.1 g2
  have hr := sizeD_range hc.1 hc.2
  rw [← hn] at hr
  induction d with
  | zero =>
    intro k i a hi ha hk
    obtain ⟨k, rfl⟩ : ∃ m, k = m + 1 + 1 := ⟨k - 2, by omega⟩
    simp only [impl_GenDegen.l0, impl_GenDegen.j2]
    rw [if_neg (by omega), List.drop_eq_nil_of_le (by omega)]
    have hln : (L.length : Int) * n = ((L.length * n.toNat : Nat) : Int) := by rw [Int.natCast_mul, Int.toNat_of_nonneg (by omega)]
    have := impl_GenDegen_l1 n c st s q0 q1 a nl L h hn L.length k 0 [] (by omega) (by omega) (by simp only [List.length_nil]; omega)
    rw [List.drop_zero, List.nil_append] at this
    exact this
  | succ d ih =>
    intro k i a hi ha hk
    obtain ⟨k, rfl⟩ := succ_of (show 0 < k by omega)
    obtain ⟨x0, x1⟩ := hM M[i] (List.getElem_mem (by omega))
    have hm : (M[i] + 1) * n ≤ st * n := Int.mul_le_mul_of_nonneg_right (by omega) (by omega)
    have hm2 : (M[i] + 1) * n = M[i] * n + n := by rw [Int.add_mul, Int.one_mul]
    have hm3 : 0 ≤ M[i] * n := Int.mul_nonneg (by omega) (by omega)
    simp only [impl_GenDegen.l0]
    rw [if_pos (by omega), if_pos (by omega), if_pos (by omega), rd_at (by omega), wrap64_succ (by omega), wrap64_id (n := M[i] * n) (by omega) (by omega), impl_only_eq _ hm3 (by omega), Option.bind_some, or_bitZ a _ ha.1 (by have := ha.2; omega) hm3 (by omega), ih k (i + 1) _ (by omega) (SetZ_put ha (by omega)) (by omega), drop_cons (l := M) (i := i) (by omega)]
    rfl
theorem mx_size {c : Int} (h : 0 < c) : mx c 1 = sizeD c := by
  unfold mx sizeD
  split <;> split <;> omega
theorem impl_GenDegen_eq (n st s c : Int) (l : List S46) (hl : l.length ≤ 1048576) (k : Nat) (hk : 3 * l.length + 200000 < k) : impl_GenDegen.f k n st s c l = some (degenZ n st s c l) := by
  unfold impl_GenDegen.f degenZ
  rw [impl_GenOk_eq n st s c l (by omega) k (by omega), Option.bind_some]
  obtain ⟨k, rfl⟩ := succ_of (show 0 < k by omega)
  by_cases h : genOkB n st s c l = true
  · obtain ⟨g1, g2, g3, g4⟩ := genOk_of h
    have hh := head_of g1
    have hc := inR_iff.1 g2
    have hr := sizeD_range hc.1 hc.2
    have hset : SetZ s := ⟨hh.2.2.1, hh.2.2.2.2⟩
    have hbel := hasZ_below hh.2.2.1 hh.2.2.2.1 hh.2.1.1
    have hlo : listOf s = listFrom s 0 st.toNat := by
      unfold listOf
      rw [if_pos (show okB s = true from inR_iff.2 ⟨hset.1, hset.2⟩)]
      exact listFrom_all (by omega) (fun i hi => by have := hbel i hi; omega)
    rw [if_pos h]
    by_cases hc0 : c > 0
    · have m0 : 0 ≤ st * sizeD c := Int.mul_nonneg hh.2.1.1 (by omega)
      have m1 : st * sizeD c ≤ 31 * sizeD c := Int.mul_le_mul_of_nonneg_right hh.2.1.2 (by omega)
      have m2 : 0 ≤ (l.length : Int) * sizeD c := Int.mul_nonneg (by omega) (by omega)
      have m3 : (l.length : Int) * sizeD c ≤ 2000 * sizeD c := Int.mul_le_mul_of_nonneg_right (by omega) (by omega)
      rw [if_pos hc0, mx_size hc0, wrap64_id (n := st * sizeD c) (by omega) (by omega), wrap64_id (n := (l.length : Int) * sizeD c) (by omega) (by omega)]
      by_cases h1 : st * sizeD c ≤ 31
      · rw [if_neg (by omega)]
        simp only [impl_GenDegen.j0]
        by_cases h2 : (l.length : Int) * sizeD c ≤ 2000
        · rw [decide_eq_false (show ¬ (l.length : Int) * sizeD c > 2000 by omega), if_neg Bool.false_ne_true, impl_SetList_eq s k (by omega), Option.bind_some, if_pos ⟨h, h1, h2⟩, ← hlo]
          have hll := listOf_length s
          have := impl_GenDegen_l0 (sizeD c) c st s n (st * sizeD c) n l h rfl h2 h1 (listOf s) (fun x hx => by
            have hx2 := (mem_listOf hset x).1 hx
            exact ⟨(hasZ_range hx2).1, hbel x hx2⟩) hll (listOf s).length k 0 0 (by omega) ⟨by omega, by omega⟩ (by omega)
          exact this
        · rw [decide_eq_true (show (l.length : Int) * sizeD c > 2000 by omega), if_pos rfl, if_neg (fun h' => h2 h'.2.2)]
      · rw [if_pos (by omega), if_neg (fun h' => h1 h'.2.1)]
        simp only [impl_GenDegen.j0]
        rw [if_pos trivial]
    · have hc1 : c = 0 := by omega
      have hs1 : sizeD c = 1 := by unfold sizeD; rw [if_neg (by omega)]
      have hmx : mx c 1 = 1 := by unfold mx; rw [if_pos (by omega)]
      have hst : startD 1 0 (listFrom s 0 st.toNat) = s := by rw [← hlo]; exact startD_one _ _ _ (setOfL_listOf hset)
      rw [if_neg hc0, hmx, if_pos ⟨h, by rw [hs1]; omega, by rw [hs1]; omega⟩, hs1, hst, Int.mul_one]
      simp only [impl_GenDegen.j2]
      have := impl_GenDegen_l1 1 c st s n st s n l h hs1.symm l.length k 0 [] (by omega) (by omega) (by rw [List.length_nil, show (1 : Int).toNat = 1 from rfl]; omega)
      rw [List.drop_zero, List.nil_append] at this
      exact this
  · rw [if_neg h, if_neg (fun h' => h h'.1)]
end hFnExactGenDegen
open hFnExactGenDegen
theorem FnExactGenDegen : laws_FnExactGenDegen.Pure := by
  intro n st s c l hn hst hs hc hl hw
  obtain ⟨M, hM⟩ : ∃ M, M = 1048576 := ⟨_, rfl⟩
  obtain ⟨K, hK⟩ : ∃ K, K = 8 * M + 300000 := ⟨_, rfl⟩
  refine ⟨K, ?_⟩
  unfold laws_FnExactGenDegen.f
  rw [szGen_eq n st s c l 1048576 (by omega) (by omega) hl]
  simp only [Option.bind_some]
  by_cases h : (1048576 : Int) < l.length
  · rw [if_pos h, if_pos (by omega)]
  · have hm : (l.map convG).length = l.length := List.length_map _
    have hg := degenZ_length n st s c (l.map convG)
    have e1 : ∀ k : Nat, M + 1 < k → laws_toGen.f k n st s c l = some (n, st, s, c, l.map convG) := fun k hk => toGen_eq n st s c l (by omega) k (by omega)
    rw [if_neg h, if_neg (by omega), e1 K (by omega), Option.bind_some]
    dsimp only
    rw [spec_GenDegen_eq _ _ _ _ _ (by omega) K (by omega), Option.bind_some, Option.bind_some]
    dsimp only
    rw [impl_GenDegen_eq _ _ _ _ _ (by omega) K (by omega), Option.bind_some]
    generalize hZ : degenZ n st s c (l.map convG) = Z at hg ⊢
    obtain ⟨z1, z2, z3, z4, z5⟩ := Z
    dsimp only at hg ⊢
    rw [eqAuto_eq _ _ _ _ _ _ _ _ (by omega) K (by omega), Option.bind_some, decide_eq_true rfl, if_pos rfl]
    obtain ⟨k, rfl⟩ : ∃ m, K = m + 1 + 1 + 1 := ⟨K - 3, by omega⟩
    simp only [laws_FnExactGenDegen.j0, bne_self_eq_false, Bool.false_eq_true, if_false]
    rw [e1 _ (by omega), Option.bind_some]
    dsimp only
    rw [eqGen_eq _ _ _ _ _ _ _ _ _ _ (by omega) _ (by omega), Option.bind_some, decide_eq_true rfl, if_pos rfl, markGen_eq _ _ _ _ _ 1 (by omega) (by omega) (by omega) _ (by omega), Option.bind_some]
    dsimp only
    rw [if_neg (by omega), eqAuto_eq _ _ _ _ _ _ _ _ (by omega) _ (by omega), Option.bind_some, decide_eq_true rfl, if_pos rfl]
    simp only [laws_FnExactGenDegen.j1, Bool.false_eq_true, if_false]
    rw [markAuto_eq _ _ _ _ 1 (by omega) (by omega) (by omega) _ (by omega), Option.bind_some]
    dsimp only
    rw [heldAuto_eq _ _ _ _ 1 (by omega) (by omega) (by omega) _ (by omega), Option.bind_some, if_neg (by omega), if_pos rfl, e1 _ (by omega), Option.bind_some]
    dsimp only
    rw [impl_GenDegen_eq _ _ _ _ _ (by omega) _ (by omega), Option.bind_some, hZ]
    dsimp only
    rw [eqAuto_eq _ _ _ _ _ _ _ _ (by omega) _ (by omega), Option.bind_some, decide_eq_true rfl, if_pos rfl]
    simp only [laws_FnExactGenDegen.j2, bne_self_eq_false, Bool.false_eq_true, if_false]
    rw [heldAuto_eq _ _ _ _ 1 (by omega) (by omega) (by omega) _ (by omega), Option.bind_some, if_neg (by omega), if_pos rfl]
end Go.Proofs.Ytnflbjdmbaaokaa.Pure
