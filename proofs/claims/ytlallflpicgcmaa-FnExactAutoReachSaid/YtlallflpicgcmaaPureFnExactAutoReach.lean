/- What the printed functions of FnExactAutoReach come to, one lemma a function, and from these the law: for all arguments (within the bounds that the printed statement names) it answers true. -/
import Derived.Test.YtlallflpicgcmaaMFnExactAutoReachx7
import Derived.Test.YtlallflpicgcmaaBase
import Derived.Test.YtlallflpicgcmaaBaseA
import Derived.Test.YtlallflpicgcmaaBaseL
import Derived.Test.YtlallflpicgcmaaBaseR
import Derived.Test.YtlallflpicgcmaaBaseS
namespace Go.Proofs.Ytlallflpicgcmaa.Pure
open Go.RowKit Go.Proofs.Ytlallflpicgcmaa.MFnExactAutoReach Go.Proofs.YtlallflpicgcmaaW.PrintWords Go.Proofs.YtlallflpicgcmaaW.PrintLast Go.Proofs.Ytlallflpicgcmaa.Base

namespace hFnExactAutoReach
theorem spec_l1In_eq (a b c : Int) : spec_l1In.f a b c = some (inR a b c) := by
  unfold spec_l1In.f inR
  by_cases h : a ≥ b
  · rw [if_pos h]; simp [show b ≤ a from h]
  · rw [if_neg h]; simp; omega
theorem impl_inRange_eq (a b c : Int) : impl_inRange.f a b c = some (inR a b c) := by
  unfold impl_inRange.f inR
  by_cases h : a ≥ b
  · rw [if_pos h]; simp [show b ≤ a from h]
  · rw [if_neg h]; simp; omega
theorem spec_SetOk_eq (s : Int) : spec_SetOk.f s = some (okB s) := by
  simp only [spec_SetOk.f, spec_l1In_eq, Option.bind_some, okB]
theorem impl_SetOk_eq (s : Int) : impl_SetOk.f s = some (okB s) := by
  simp only [impl_SetOk.f, impl_inRange_eq, Option.bind_some, okB]
theorem spec_l1Bit_eq (i : Int) (h0 : 0 ≤ i) (h1 : i ≤ 31) : spec_l1Bit.f i = some (bitZ i) := by
  obtain ⟨n, rfl⟩ := Int.eq_ofNat_of_zero_le h0
  unfold spec_l1Bit.f
  rw [and31 n (by omega), if_pos h0, shl_one n (by omega)]
theorem impl_only_eq (i : Int) (h0 : 0 ≤ i) (h1 : i ≤ 62) : impl_only.f i = some (bitZ i) := by
  obtain ⟨n, rfl⟩ := Int.eq_ofNat_of_zero_le h0
  unfold impl_only.f
  rw [wrap_u64_id h0 (by omega), if_pos h0, shl_one n (by omega)]
theorem spec_l1Has_eq (s i : Int) (h0 : 0 ≤ s) (h1 : s < 9223372036854775808) : spec_l1Has.f s i = some (hasZ s i) := by
  unfold spec_l1Has.f hasZ
  rw [spec_l1In_eq]
  simp only [Option.bind_some]
  by_cases h : inR i 0 30 = true
  · have hi := inR_iff.1 h
    have hp := bitZ_pos i
    rw [if_pos h, spec_l1Bit_eq i hi.1 (by omega), h]
    simp only [Option.bind_some, Bool.true_and]
    rw [and_bitZ s i h0 h1 hi.1 (by omega)]
    congr 1
    by_cases hb : s.toNat.testBit i.toNat = true
    · rw [if_pos hb, hb]; rw [bne_iff_ne]; omega
    · rw [if_neg hb]; simp at hb; rw [hb]; rfl
  · rw [if_neg h]; simp at h; rw [h]; rfl
theorem impl_has_eq (s i : Int) (h0 : 0 ≤ s) (h1 : s < 9223372036854775808) (hi0 : 0 ≤ i) (hi : i ≤ 62) : impl_has.f s i = some (s.toNat.testBit i.toNat) := by
  unfold impl_has.f
  rw [wrap_u64_id hi0 (by omega), if_pos hi0, shr_and_one s i h0 h1 hi0 (by omega)]
theorem spec_SetIn_eq (a b : Int) : spec_SetIn.f a b = some (okB a && okB b && (Go.bits .and .i64 a b == a)) := by
  unfold spec_SetIn.f
  rw [spec_SetOk_eq, spec_SetOk_eq]
  simp only [Option.bind_some]
  cases okB a <;> cases okB b <;> simp
theorem impl_isLetters_eq (n : Int) : impl_isLetters.f n = some (inR n 1 8) := by
  unfold impl_isLetters.f
  rw [impl_inRange_eq]; rfl
deriving instance DecidableEq for S68
theorem rdE_at {l : List S68} {i : Nat} (h : i < l.length) : rd_T68 l (i : Int) = l[i] := by
  simp [rd_T68, List.getD_eq_getElem?_getD, List.getElem?_eq_getElem h]
theorem rdE_set {l : List S68} {i : Nat} (h : i < l.length) (v : S68) : rd_T68 (l.set i v) (i : Int) = v := by
  rw [rdE_at (by rw [List.length_set]; exact h), List.getElem_set_self]
theorem eqEdge_eq (a b : S68) : laws_eqEdge.f a.f0 a.f1 a.f2 a.f3 b.f0 b.f1 b.f2 b.f3 = some (decide (a = b)) := by
  unfold laws_eqEdge.f
  obtain ⟨a0, a1, a2, a3⟩ := a
  obtain ⟨b0, b1, b2, b3⟩ := b
  by_cases h0 : a0 = b0 <;> by_cases h1 : a1 = b1 <;> by_cases h2 : a2 = b2 <;> by_cases h3 : a3 = b3 <;> simp [h0, h1, h2, h3]
theorem eqEdgeS_l0 (a b : List S68) (hab : a.length = b.length) (hl : a.length ≤ 1099511627776) (d : Nat) : ∀ (k i : Nat), i + d = a.length → d < k → laws_eqEdgeS.l0 k a b (i : Int) = some (decide (a.drop i = b.drop i)) := by
  induction d with
  | zero =>
    intro k i hi hk
    obtain ⟨k, rfl⟩ := succ_of hk
    simp only [laws_eqEdgeS.l0]
    rw [if_neg (by omega), List.drop_eq_nil_of_le (by omega), List.drop_eq_nil_of_le (by omega)]
    simp
  | succ d ih =>
    intro k i hi hk
    obtain ⟨k, rfl⟩ := succ_of hk
    simp only [laws_eqEdgeS.l0]
    rw [if_pos (by omega), if_pos (by omega), if_pos (by omega), rdE_at (by omega), rdE_at (by omega), wrap64_succ (by omega), eqEdge_eq]
    rw [drop_cons (l := a) (i := i) (by omega), drop_cons (l := b) (i := i) (by omega)]
    simp only [Option.bind_some]
    by_cases h : a[i] = b[i]
    · rw [decide_eq_true h, if_pos rfl, ih k (i + 1) (by omega) (by omega), h]
      congr 1
      exact decide_eq_decide.2 ⟨fun e => by rw [e], fun e => (List.cons.inj e).2⟩
    · rw [decide_eq_false h, if_neg (by simp)]
      congr 1
      exact (decide_eq_false (fun e => h (List.cons.inj e).1)).symm
theorem eqEdgeS_eq (a b : List S68) (hl : a.length ≤ 1099511627776) (k : Nat) (hk : a.length < k) : laws_eqEdgeS.f k a b = some (decide (a = b)) := by
  unfold laws_eqEdgeS.f
  by_cases h : a.length = b.length
  · rw [if_pos (by omega)]
    exact eqEdgeS_l0 a b h hl a.length k 0 (by omega) hk
  · rw [if_neg (by omega)]
    have : a ≠ b := fun e => h (by rw [e])
    simp [this]
theorem eqAuto_eq (a b c : Int) (l : List S68) (a' b' c' : Int) (l' : List S68) (hl : l.length ≤ 1099511627776) (k : Nat) (hk : l.length < k) :
    laws_eqAuto.f k a b c l a' b' c' l' = some (decide ((a, b, c, l) = (a', b', c', l'))) := by
  unfold laws_eqAuto.f
  rw [eqEdgeS_eq l l' hl k hk]
  by_cases h0 : a = a' <;> by_cases h1 : b = b' <;> by_cases h2 : c = c' <;> by_cases h3 : l = l' <;> simp [h0, h1, h2, h3]
theorem szEdgeS_eq (l : List S115) (a : Int) (h0 : 0 ≤ a) (h1 : a ≤ 1048576) (hl : l.length ≤ 9223372036854775807) : laws_szEdgeS.f l a = some (if a < l.length then -1 else a - l.length) := by
  unfold laws_szEdgeS.f
  rw [wrap64_id (by omega) (by omega)]
  by_cases h : a < (l.length : Int)
  · rw [if_pos (by omega), if_pos h]
  · rw [if_neg (by omega), if_neg h]
theorem szAuto_eq (p q s : Int) (l : List S115) (a : Int) (h0 : 0 ≤ a) (h1 : a ≤ 1048576) (hl : l.length ≤ 9223372036854775807) : laws_szAuto.f p q s l a = some (if a < l.length then -1 else a - l.length) := by
  unfold laws_szAuto.f
  rw [szEdgeS_eq l a h0 h1 hl]
  simp only [Option.bind_some]
  by_cases h : a < (l.length : Int)
  · rw [if_pos h, if_pos (by omega)]
  · rw [if_neg h, if_neg (by omega)]
def convE (e : S115) : S68 := ⟨e.f0, e.f1, e.f2, e.f3⟩
theorem rdP_at {l : List S115} {i : Nat} (h : i < l.length) : rd_T115 l (i : Int) = l[i] := by
  simp [rd_T115, List.getD_eq_getElem?_getD, List.getElem?_eq_getElem h]
theorem toEdgeS_l0 (l : List S115) (hl : l.length ≤ 1099511627776) (d : Nat) : ∀ (k i : Nat) (rest : List S68), i + d = l.length → rest.length = d → d < k → laws_toEdgeS.l0 k l ((l.map convE).take i ++ rest) (i : Int) = some (l.map convE) := by
  induction d with
  | zero =>
    intro k i rest hi hr hk
    obtain ⟨k, rfl⟩ := succ_of hk
    simp only [laws_toEdgeS.l0]
    rw [if_neg (by omega), List.eq_nil_of_length_eq_zero hr, List.append_nil, List.take_of_length_le (by rw [List.length_map]; omega)]
  | succ d ih =>
    intro k i rest hi hr hk
    obtain ⟨k, rfl⟩ := succ_of hk
    simp only [laws_toEdgeS.l0]
    have hll : ((l.map convE).take i ++ rest).length = l.length := by rw [List.length_append, List.length_take, List.length_map]; omega
    have hm : (l.map convE).length = l.length := List.length_map _
    rw [if_pos (by omega), if_pos (by omega), rdP_at (by omega), wrap64_succ (by omega)]
    simp only [laws_toEdge.f, Option.bind_some]
    rw [if_pos (by omega)]
    have e : (⟨l[i].f0, l[i].f1, l[i].f2, l[i].f3⟩ : S68) = (l.map convE)[i] := by rw [List.getElem_map]; rfl
    rw [show ((i : Int)).toNat = i from rfl, e, take_set_drop (by omega) (by omega)]
    exact ih k (i + 1) rest.tail (by omega) (by rw [List.length_tail]; omega) (by omega)
theorem toEdgeS_eq (l : List S115) (hl : l.length ≤ 1099511627776) (k : Nat) (hk : l.length < k) : laws_toEdgeS.f k l = some (l.map convE) := by
  unfold laws_toEdgeS.f
  rw [if_pos (by omega), if_pos (by simp; omega)]
  exact toEdgeS_l0 l hl l.length k 0 _ (by omega) (by simp) hk
theorem toAuto_eq (p q s : Int) (l : List S115) (hl : l.length ≤ 1099511627776) (k : Nat) (hk : l.length < k) : laws_toAuto.f k p q s l = some (p, q, s, l.map convE) := by
  unfold laws_toAuto.f
  rw [toEdgeS_eq l hl k hk]; rfl
theorem spec_l4State_eq (x n : Int) (h0 : -1000 ≤ n) (h1 : n ≤ 1000) : spec_l4State.f x n = some (inR x 0 (n - 1)) := by
  unfold spec_l4State.f
  rw [wrap64_id (by omega) (by omega), spec_l1In_eq]; rfl
theorem spec_l4Less_eq (a b c : Int) (g : Bool) (a' b' c' : Int) (g' : Bool) : spec_l4Less.f a b c g a' b' c' g' = some (lessK (a, b, c) (a', b', c')) := by
  unfold spec_l4Less.f lessK
  by_cases h : a = a'
  · rw [if_pos h, if_pos h]
    by_cases h' : b = b'
    · rw [if_pos h', if_pos h']
    · rw [if_neg h', if_neg h']
  · rw [if_neg h, if_neg h]
theorem cmp_Compare_eq (a b : Int) : cmp_Compare_int.f a b = some (cmpZ a b) := by
  unfold cmp_Compare_int.f cmp_isNaN_int.f cmpZ
  simp only [Option.bind_some, bne_self_eq_false, Bool.false_eq_true, if_false]
  by_cases h : a < b
  · rw [if_pos h, if_pos h]
  · rw [if_neg h, if_neg h]
    by_cases h' : a > b
    · rw [if_pos h', if_pos h']
    · rw [if_neg h', if_neg h']
theorem cmp_Or_eq (a b c : Int) (k : Nat) (hk : 3 < k) : cmp_Or_int.f k [a, b, c] = some (orZ a b c) := by
  unfold cmp_Or_int.f orZ
  obtain ⟨k, rfl⟩ : ∃ m, k = m + 4 := ⟨k - 4, by omega⟩
  have e0 : rd [a, b, c] 0 = a := rfl
  have e1 : rd [a, b, c] 1 = b := rfl
  have e2 : rd [a, b, c] 2 = c := rfl
  have w0 : wrap64 (0 + 1) = 1 := by rw [wrap64_id (by omega) (by omega)]; rfl
  have w1 : wrap64 (1 + 1) = 2 := by rw [wrap64_id (by omega) (by omega)]; rfl
  have w2 : wrap64 (2 + 1) = 3 := by rw [wrap64_id (by omega) (by omega)]; rfl
  have l3 : (([a, b, c].length : Nat) : Int) = 3 := rfl
  rw [l3]
  simp only [cmp_Or_int.l0, e0, e1, e2, w0, w1, w2, l3]
  by_cases ha : a = 0
  · by_cases hb : b = 0
    · by_cases hc : c = 0
      · simp [ha, hb, hc]
      · simp [ha, hb, hc]
    · simp [ha, hb]
  · simp [ha]
theorem impl_compareEdges_eq (a b c : Int) (g : Bool) (a' b' c' : Int) (g' : Bool) (k : Nat) (hk : 3 < k) : impl_compareEdges.f k a b c g a' b' c' g' = some (cmpK (a, b, c) (a', b', c')) := by
  unfold impl_compareEdges.f
  simp only [cmp_Compare_eq, Option.bind_some, cmp_Or_eq _ _ _ k hk]
  rfl
theorem impl_headOk_eq (n st s : Int) : impl_headOk.f n st s = some (headB n st s) := by
  unfold impl_headOk.f headB
  rw [impl_isLetters_eq, impl_inRange_eq, impl_SetOk_eq]
  simp only [Option.bind_some]
  by_cases h1 : inR n 1 8 = true
  · rw [if_pos h1, h1]
    by_cases h2 : inR st 0 31 = true
    · have h2' := inR_iff.1 h2
      have hb := bitZ_le31 h2'.2
      rw [if_pos h2, h2, impl_only_eq st h2'.1 (by omega)]
      simp only [Option.bind_some, Bool.true_and]
      by_cases h3 : okB s = true
      · have h3' := inR_iff.1 h3
        rw [if_pos h3]
        congr 1
        rw [Bool.eq_iff_iff]
        simp only [decide_eq_true_eq, inR_iff]
        omega
      · rw [if_neg h3]
        congr 1
        simp only [okB, inR_iff] at h3
        symm
        rw [inR_false]
        omega
    · rw [if_neg h2]; simp at h2; rw [h2]; rfl
  · rw [if_neg h1]; simp at h1; rw [h1]; rfl
def keyE (e : S68) : Key := (e.f0, e.f1, e.f2)
def anyE (_ : S68) : Bool := true
/-- A right automaton. -/
def autoOkB (n st s : Int) (l : List S68) : Bool := headB n st s && (decide (l.length ≤ 2000) && edgesB keyE anyE n st none l)
theorem autoOk_of {n st s : Int} {l : List S68} (h : autoOkB n st s l = true) : headB n st s = true ∧ l.length ≤ 2000 ∧ edgesB keyE anyE n st none l = true := by
  simpa only [autoOkB, Bool.and_eq_true, decide_eq_true_eq] using h
theorem spec_AutoOk_l0 (n st s : Int) (l : List S68) (h0 : 0 ≤ n) (h1 : n ≤ 8) (h2 : 0 ≤ st) (h3 : st ≤ 31) (hl : l.length ≤ 1099511627776) (d : Nat) : ∀ (k i : Nat), i + d = l.length → d < k → spec_AutoOk.l0 k (i : Int) n st s l = some (edgesB keyE anyE n st (prevOf l i) (l.drop i)) := by
  induction d with
  | zero =>
    intro k i hi hk
    obtain ⟨k, rfl⟩ := succ_of hk
    simp only [spec_AutoOk.l0]
    rw [if_neg (by omega), List.drop_eq_nil_of_le (by omega)]
    rfl
  | succ d ih =>
    intro k i hi hk
    obtain ⟨k, rfl⟩ := succ_of hk
    simp only [spec_AutoOk.l0]
    rw [if_pos (by omega), if_pos (by omega), rdE_at (by omega), spec_l4State_eq _ _ (by omega) (by omega), spec_l4State_eq _ _ (by omega) (by omega), spec_l1In_eq, wrap64_id (n := n - 1) (by omega) (by omega), wrap64_succ (by omega), drop_cons (l := l) (i := i) (by omega)]
    simp only [Option.bind_some, edgesB, stOk, keyE, anyE]
    have ih' := ih k (i + 1) (by omega) (by omega)
    rw [prevOf_succ l i (by omega)] at ih'
    cases e1 : inR l[i].f0 0 (st - 1)
    · simp
    · cases e2 : inR l[i].f2 0 (st - 1)
      · simp
      · cases e3 : inR l[i].f1 0 (n - 1)
        · simp
        · simp only [if_true, Bool.true_and]
          cases i with
          | zero => rw [if_neg (by omega), ih']; simp only [prevOf, aheadK, Bool.true_and]
          | succ j =>
            have ej : wrap64 (((j + 1 : Nat) : Int) - 1) = (j : Int) := by rw [wrap64_id (by omega) (by omega)]; omega
            rw [if_pos (by omega), ej, if_pos (by omega), if_pos (by omega), rdE_at (by omega), spec_l4Less_eq, prevOf_succ l j (by omega)]
            simp only [Option.bind_some, aheadK, keyE]
            cases e4 : lessK (l[j].f0, l[j].f1, l[j].f2) (l[j + 1].f0, l[j + 1].f1, l[j + 1].f2)
            · simp
            · simp only [if_true, Bool.true_and]; exact ih'
theorem spec_AutoOk_eq (n st s : Int) (l : List S68) (hl : l.length ≤ 1099511627776) (k : Nat) (hk : l.length + 1 < k) : spec_AutoOk.f k n st s l = some (autoOkB n st s l) := by
  unfold spec_AutoOk.f autoOkB headB
  obtain ⟨k, rfl⟩ := succ_of hk
  rw [spec_l1In_eq, spec_l1In_eq]
  simp only [Option.bind_some, spec_AutoOk.j0, if_true]
  cases e1 : inR n 1 8
  · simp
  · have h1 := inR_iff.1 e1
    cases e2 : inR st 0 31
    · simp
    · have h2 := inR_iff.1 e2
      have hb := bitZ_le31 h2.2
      have hp := bitZ_pos st
      obtain ⟨m, rfl⟩ := Int.eq_ofNat_of_zero_le h2.1
      simp only [if_true, Bool.true_and]
      rw [if_pos h2.1, shl_one m (by omega), wrap64_id (by omega) (by omega), spec_SetIn_eq, in_mask s m h2.1 h2.2]
      simp only [Option.bind_some]
      cases e3 : inR s 0 (bitZ m - 1)
      · simp
      · simp only [if_true, Bool.true_and]
        by_cases h4 : (l.length : Int) > 2000
        · rw [decide_eq_true h4, if_pos rfl, decide_eq_false (by omega)]; rfl
        · rw [decide_eq_false h4, if_neg (by simp), decide_eq_true (by omega)]
          exact spec_AutoOk_l0 n m s l (by omega) (by omega) h2.1 h2.2 hl l.length k 0 (by omega) (by omega)
theorem impl_AutoOk_l0 (n st s : Int) (l : List S68) (h0 : 0 ≤ n) (h1 : n ≤ 8) (h2 : 0 ≤ st) (h3 : st ≤ 31) (hl : l.length ≤ 1099511627776) (d : Nat) : ∀ (k i : Nat), i + d = l.length → 2 * d + 10 < k → impl_AutoOk.l0 k l (l.length : Int) (i : Int) n st s l = some (edgesB keyE anyE n st (prevOf l i) (l.drop i)) := by
  induction d with
  | zero =>
    intro k i hi hk
    obtain ⟨k, rfl⟩ := succ_of hk
    simp only [impl_AutoOk.l0]
    rw [if_neg (by omega), List.drop_eq_nil_of_le (by omega)]
    rfl
  | succ d ih =>
    intro k i hi hk
    obtain ⟨k, rfl⟩ : ∃ m, k = m + 1 + 1 := ⟨k - 2, by omega⟩
    simp only [impl_AutoOk.l0]
    rw [if_pos (by omega), if_pos (by omega), if_pos (by omega), rdE_at (by omega), impl_inRange_eq, impl_inRange_eq, impl_inRange_eq, wrap64_id (n := st - 1) (by omega) (by omega), wrap64_id (n := n - 1) (by omega) (by omega), drop_cons (l := l) (i := i) (by omega)]
    simp only [Option.bind_some, edgesB, stOk, keyE, anyE, impl_AutoOk.j2, if_true]
    have ih' := ih k (i + 1) (by omega) (by omega)
    rw [prevOf_succ l i (by omega)] at ih'
    cases e1 : inR l[i].f0 0 (st - 1)
    · simp
    · cases e2 : inR l[i].f2 0 (st - 1)
      · simp
      · cases e3 : inR l[i].f1 0 (n - 1)
        · simp
        · simp only [if_true, Bool.true_and, Bool.not_true, Bool.false_eq_true, if_false]
          rw [wrap64_succ (by omega)]
          cases i with
          | zero => rw [if_neg (by omega), ih']; simp only [prevOf, aheadK, Bool.true_and]
          | succ j =>
            have ej : wrap64 (((j + 1 : Nat) : Int) - 1) = (j : Int) := by rw [wrap64_id (by omega) (by omega)]; omega
            rw [if_pos (by omega), ej, if_pos (by omega), if_pos (by omega), rdE_at (by omega), impl_compareEdges_eq _ _ _ _ _ _ _ _ k (by omega), prevOf_succ l j (by omega)]
            simp only [Option.bind_some, aheadK, keyE]
            by_cases e4 : lessK (l[j].f0, l[j].f1, l[j].f2) (l[j + 1].f0, l[j + 1].f1, l[j + 1].f2) = true
            · rw [if_neg (fun h => (cmpK_neg _ _).1 h e4), e4]
              simp only [Bool.true_and]; exact ih'
            · rw [if_pos ((cmpK_neg _ _).2 e4)]
              simp at e4; rw [e4]; rfl
theorem impl_AutoOk_eq (n st s : Int) (l : List S68) (hl : l.length ≤ 1099511627776) (k : Nat) (hk : 2 * l.length + 20 < k) : impl_AutoOk.f k n st s l = some (autoOkB n st s l) := by
  unfold impl_AutoOk.f autoOkB
  obtain ⟨k, rfl⟩ := succ_of hk
  rw [impl_headOk_eq]
  simp only [Option.bind_some, impl_AutoOk.j0, if_true]
  cases e1 : headB n st s
  · simp
  · have h := head_of e1
    simp only [if_true, Bool.true_and]
    by_cases h4 : (l.length : Int) > 2000
    · rw [decide_eq_true h4, if_pos rfl, decide_eq_false (by omega)]; rfl
    · rw [decide_eq_false h4, if_neg (by simp), decide_eq_true (by omega)]
      exact impl_AutoOk_l0 n st s l (by omega) (by omega) h.2.1.1 h.2.1.2 hl l.length k 0 (by omega) (by omega)
theorem hasZ_in {s i : Int} (h0 : 0 ≤ i) (h1 : i ≤ 30) : hasZ s i = s.toNat.testBit i.toNat := by
  unfold hasZ
  rw [inR_iff.2 ⟨h0, h1⟩]; rfl
/-- Where from and where to: numbers of states. -/
def EdgesIn (st : Int) (l : List S68) : Prop := ∀ e ∈ l, (0 ≤ e.f0 ∧ e.f0 < st) ∧ 0 ≤ e.f2 ∧ e.f2 < st
theorem edgesIn_of {n st s : Int} {l : List S68} (h : autoOkB n st s l = true) : EdgesIn st l ∧ 0 ≤ st ∧ st ≤ 31 ∧ SetZ s := by
  obtain ⟨a1, a2, a3⟩ := autoOk_of h
  have g := head_of a1
  refine ⟨fun e he => ?_, g.2.1.1, g.2.1.2, g.2.2.1, g.2.2.2.2⟩
  have := (edgesB_mem a3 he).1
  rw [stOk_iff] at this
  simp only [keyE] at this
  omega
abbrev fromZ (e : S68) : Int := e.f0
abbrev toZ (e : S68) : Int := e.f2
theorem edgesIn_to {st : Int} {l : List S68} (h0 : 0 ≤ st) (h : EdgesIn st l) : ∀ e ∈ l, 0 ≤ toZ e ∧ toZ e < (st.toNat : Int) := by
  intro e he
  have := h e he
  simp only [toZ]
  omega
theorem spec_l4Reach_l1 (p q r st x : Int) (l : List S68) (hl : l.length ≤ 1099511627776) (hst : st ≤ 31) (he : EdgesIn st l) (d : Nat) : ∀ (k i : Nat) (s : Int), SetZ s → i + d = l.length → d < k → spec_l4Reach.l1 k s x (i : Int) p q r l = spec_l4Reach.l0 (k - d - 1) (passZ fromZ toZ s (l.drop i)) (wrap64 (x + 1)) p q r l := by
  induction d with
  | zero =>
    intro k i s hs hi hk
    obtain ⟨k, rfl⟩ := succ_of hk
    simp only [spec_l4Reach.l1]
    rw [if_neg (by omega), List.drop_eq_nil_of_le (by omega)]
    rfl
  | succ d ih =>
    intro k i s hs hi hk
    obtain ⟨k, rfl⟩ := succ_of hk
    have h1 := he _ (List.getElem_mem (show i < l.length by omega))
    have hs1 := hs.1
    have hs2 := hs.2
    simp only [spec_l4Reach.l1]
    rw [if_pos (by omega), if_pos (by omega), rdE_at (by omega), drop_cons (l := l) (i := i) (by omega), spec_l1Has_eq s _ (by omega) (by omega), spec_l1Bit_eq _ (by omega) (by omega), wrap64_succ (by omega)]
    simp only [Option.bind_some]
    rw [or_bitZ s _ (by omega) (by omega) (by omega) (by omega), ih k (i + 1) s hs (by omega) (by omega), ih k (i + 1) _ (SetZ_put hs (by omega)) (by omega) (by omega), show k + 1 - (d + 1) - 1 = k - d - 1 by omega]
    simp only [passZ, fromZ, toZ]
    by_cases h : hasZ s l[i].f0 = true
    · rw [if_pos h, if_pos h]
    · rw [if_neg h, if_neg h]
theorem spec_l4Reach_l0 (p st r : Int) (l : List S68) (hl : l.length ≤ 1099511627776) (hst0 : 0 ≤ st) (hst : st ≤ 31) (he : EdgesIn st l) (d : Nat) : ∀ (k j : Nat) (s : Int), SetZ s → (j : Int) + d = st + 1 → d * (l.length + 2) < k → spec_l4Reach.l0 k s (j : Int) p st r l = some (iterZ fromZ toZ l d s) := by
  induction d with
  | zero =>
    intro k j s hs hj hk
    obtain ⟨k, rfl⟩ := succ_of hk
    simp only [spec_l4Reach.l0]
    rw [if_neg (by omega)]
    rfl
  | succ d ih =>
    intro k j s hs hj hk
    rw [Nat.succ_mul] at hk
    obtain ⟨k, rfl⟩ := succ_of (show 0 < k by omega)
    simp only [spec_l4Reach.l0]
    rw [if_pos (by omega)]
    have h1 := spec_l4Reach_l1 p st r st (j : Int) l hl hst he l.length k 0 s hs (by omega) (by omega)
    rw [show ((0 : Nat) : Int) = 0 from rfl, List.drop_zero, wrap64_succ (by omega)] at h1
    rw [h1, ih _ (j + 1) _ (passZ_set _ _ l (fun e h => by have := edgesIn_to hst0 he e h; omega) s hs) (by omega) (by omega)]
    rfl
theorem spec_l4Reach_eq (p st r s : Int) (l : List S68) (hl : l.length ≤ 1099511627776) (hst0 : 0 ≤ st) (hst : st ≤ 31) (he : EdgesIn st l) (hs : SetZ s) (k : Nat) (hk : 32 * (l.length + 2) < k) : spec_l4Reach.f k p st r l s = some (reachZ fromZ toZ l st.toNat s) := by
  unfold spec_l4Reach.f reachZ
  refine spec_l4Reach_l0 p st r l hl hst0 hst he (st.toNat + 1) k 0 s hs (by omega) ?_
  have : (st.toNat + 1) * (l.length + 2) ≤ 32 * (l.length + 2) := Nat.mul_le_mul_right _ (by omega)
  omega
theorem spec_AutoReach_eq (n st s a : Int) (l : List S68) (hl : l.length ≤ 1099511627776) (k : Nat) (hk : 40 * l.length + 200 < k) : spec_AutoReach.f k n st s l a = some (if autoOkB n st s l then (if okB a then reachZ fromZ toZ l st.toNat a else 0) else 0) := by
  unfold spec_AutoReach.f
  rw [spec_AutoOk_eq n st s l hl k (by omega), spec_SetOk_eq]
  simp only [Option.bind_some]
  by_cases h : autoOkB n st s l = true
  · rw [if_pos h, if_pos h]
    by_cases h' : okB a = true
    · obtain ⟨e1, e2, e3, _⟩ := edgesIn_of h
      rw [if_pos h', if_pos h', spec_l4Reach_eq n st s a l hl e2 e3 e1 (inR_iff.1 h') k (by omega)]; rfl
    · rw [if_neg h', if_neg h']
  · rw [if_neg h, if_neg h]
theorem impl_Auto_reach_l1 (p q r st s0 : Int) (l : List S68) (hl : l.length ≤ 1099511627776) (hst : st ≤ 31) (he : EdgesIn st l) (d : Nat) : ∀ (k i : Nat) (s : Int), SetZ s → i + d = l.length → d < k → impl_Auto_reach.l1 k s0 s l (l.length : Int) (i : Int) p q r l = if passZ fromZ toZ s (l.drop i) = s0 then some (s0, p, q, r) else impl_Auto_reach.l0 (k - d - 1) (passZ fromZ toZ s (l.drop i)) p q r l := by
  induction d with
  | zero =>
    intro k i s hs hi hk
    obtain ⟨k, rfl⟩ := succ_of hk
    simp only [impl_Auto_reach.l1]
    rw [if_neg (by omega), List.drop_eq_nil_of_le (by omega)]
    rfl
  | succ d ih =>
    intro k i s hs hi hk
    obtain ⟨k, rfl⟩ := succ_of hk
    have h1 := he _ (List.getElem_mem (show i < l.length by omega))
    have hs1 := hs.1
    have hs2 := hs.2
    simp only [impl_Auto_reach.l1]
    rw [if_pos (by omega), if_pos (by omega), if_pos (by omega), rdE_at (by omega), drop_cons (l := l) (i := i) (by omega), impl_has_eq s _ (by omega) (by omega) (by omega) (by omega), impl_only_eq _ (by omega) (by omega), wrap64_succ (by omega)]
    simp only [Option.bind_some]
    rw [or_bitZ s _ (by omega) (by omega) (by omega) (by omega), ih k (i + 1) s hs (by omega) (by omega), ih k (i + 1) _ (SetZ_put hs (by omega)) (by omega) (by omega), show k + 1 - (d + 1) - 1 = k - d - 1 by omega, ← hasZ_in (s := s) (i := l[i].f0) (by omega) (by omega)]
    simp only [passZ, fromZ, toZ]
    by_cases h : hasZ s l[i].f0 = true
    · rw [if_pos h, if_pos h]
    · rw [if_neg h, if_neg h]
theorem impl_Auto_reach_l0 (p q r st : Int) (l : List S68) (hl : l.length ≤ 1099511627776) (hst0 : 0 ≤ st) (hst : st ≤ 31) (he : EdgesIn st l) (d : Nat) : ∀ (k : Nat) (s : Int), SetZ s → lackZ s st.toNat ≤ d → (d + 1) * (l.length + 2) < k → impl_Auto_reach.l0 k s p q r l = some (iterZ fromZ toZ l d s, p, q, r) := by
  have hto := edgesIn_to hst0 he
  have hto' : ∀ e ∈ l, 0 ≤ toZ e ∧ toZ e ≤ 30 := fun e h => by have := hto e h; omega
  induction d with
  | zero =>
    intro k s hs hd hk
    obtain ⟨k, rfl⟩ := succ_of (show 0 < k by omega)
    simp only [impl_Auto_reach.l0]
    have h1 := impl_Auto_reach_l1 p q r st s l hl hst he l.length k 0 s hs (by omega) (by omega)
    rw [show ((0 : Nat) : Int) = 0 from rfl, List.drop_zero] at h1
    rw [h1]
    rcases passZ_lack fromZ toZ st.toNat (by omega) l hto s hs with e | e
    · rw [if_pos e]; rfl
    · omega
  | succ d ih =>
    intro k s hs hd hk
    rw [Nat.succ_mul] at hk
    obtain ⟨k, rfl⟩ := succ_of (show 0 < k by omega)
    simp only [impl_Auto_reach.l0]
    have h1 := impl_Auto_reach_l1 p q r st s l hl hst he l.length k 0 s hs (by omega) (by omega)
    rw [show ((0 : Nat) : Int) = 0 from rfl, List.drop_zero] at h1
    rw [h1]
    rcases passZ_lack fromZ toZ st.toNat (by omega) l hto s hs with e | e
    · rw [if_pos e, iterZ_fix e]
    · by_cases e' : passZ fromZ toZ s l = s
      · rw [if_pos e', iterZ_fix e']
      · rw [if_neg e', ih _ _ (passZ_set _ _ l hto' s hs) (by omega) (by omega)]
        rfl
theorem impl_Auto_reach_eq (p q r st s : Int) (l : List S68) (hl : l.length ≤ 1099511627776) (hst0 : 0 ≤ st) (hst : st ≤ 31) (he : EdgesIn st l) (hs : SetZ s) (k : Nat) (hk : 32 * (l.length + 2) < k) : impl_Auto_reach.f k p q r l s = some (reachZ fromZ toZ l st.toNat s, p, q, r) := by
  unfold impl_Auto_reach.f reachZ
  have h1 : (st.toNat + 1) * (l.length + 2) ≤ 32 * (l.length + 2) := Nat.mul_le_mul_right _ (by omega)
  rw [impl_Auto_reach_l0 p q r st l hl hst0 hst he st.toNat k s hs (lackZ_le _ _) (by omega), (iterZ_rest fromZ toZ l st.toNat (by omega) (edgesIn_to hst0 he) st.toNat s hs (lackZ_le _ _) (st.toNat + 1) (by omega)).2]
theorem impl_AutoReach_eq (n st s a : Int) (l : List S68) (hl : l.length ≤ 1099511627776) (k : Nat) (hk : 40 * l.length + 200 < k) : impl_AutoReach.f k n st s l a = some (if autoOkB n st s l then (if okB a then reachZ fromZ toZ l st.toNat a else 0) else 0) := by
  unfold impl_AutoReach.f
  rw [impl_AutoOk_eq n st s l hl k (by omega), impl_SetOk_eq]
  simp only [Option.bind_some]
  by_cases h : autoOkB n st s l = true
  · rw [if_pos h, if_pos h]
    by_cases h' : okB a = true
    · obtain ⟨e1, e2, e3, _⟩ := edgesIn_of h
      rw [if_pos h', if_pos h', impl_Auto_reach_eq n st s st a l hl e2 e3 e1 (inR_iff.1 h') k (by omega)]; rfl
    · rw [if_neg h', if_neg h']
  · rw [if_neg h, if_neg h]; split <;> rfl
end hFnExactAutoReach
open hFnExactAutoReach
theorem FnExactAutoReach : laws_FnExactAutoReach.Pure := by
  intro n st s l a hn hst hs hl hw _
  obtain ⟨K, hK⟩ : ∃ K, K = 40 * l.length + 1000 := ⟨_, rfl⟩
  refine ⟨K, ?_⟩
  unfold laws_FnExactAutoReach.f
  rw [szAuto_eq n st s l 1048576 (by omega) (by omega) hl]
  simp only [Option.bind_some]
  by_cases h : (1048576 : Int) < l.length
  · rw [if_pos h, if_pos (by omega)]
  · rw [if_neg h, if_neg (by omega), toAuto_eq n st s l (by omega) K (by omega)]
    have hm : (l.map convE).length = l.length := List.length_map _
    simp only [Option.bind_some]
    rw [spec_AutoReach_eq n st s a _ (by omega) K (by omega), impl_AutoReach_eq n st s a _ (by omega) K (by omega)]
    simp only [Option.bind_some]
    rw [if_pos trivial, eqAuto_eq _ _ _ _ _ _ _ _ (by omega) K (by omega)]
    simp
end Go.Proofs.Ytlallflpicgcmaa.Pure
