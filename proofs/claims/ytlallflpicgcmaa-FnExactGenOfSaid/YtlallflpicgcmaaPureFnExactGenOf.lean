/- What the printed functions of FnExactGenOf come to, one lemma a function, and from these the law: for all arguments (within the bounds that the printed statement names) it answers true. -/
import Derived.Test.YtlallflpicgcmaaMFnExactGenOfx6
import Derived.Test.YtlallflpicgcmaaBase
import Derived.Test.YtlallflpicgcmaaBaseA
import Derived.Test.YtlallflpicgcmaaBaseL
import Derived.Test.YtlallflpicgcmaaBaseS
namespace Go.Proofs.Ytlallflpicgcmaa.Pure
open Go.RowKit Go.Proofs.Ytlallflpicgcmaa.MFnExactGenOf Go.Proofs.YtlallflpicgcmaaW.PrintWords Go.Proofs.YtlallflpicgcmaaW.PrintLast Go.Proofs.Ytlallflpicgcmaa.Base

namespace hFnExactGenOf
theorem spec_l1In_eq (a b c : Int) : spec_l1In.f a b c = some (inR a b c) := by
  unfold spec_l1In.f inR
  by_cases h : a ≥ b
  · rw [if_pos h]; simp [show b ≤ a from h]
  · rw [if_neg h]; simp; omega
theorem impl_inRange_eq (a b c : Int) : impl_inRange.f a b c = some (inR a b c) := by
  unfold impl_inRange.f inR
  by_cases h : a ≥ b
  · rw [if_pos h]; simp [show b ≤ a from h]
  · rw [if_neg h]; simp; omega
theorem spec_SetOk_eq (s : Int) : spec_SetOk.f s = some (okB s) := by
  simp only [spec_SetOk.f, spec_l1In_eq, Option.bind_some, okB]
theorem impl_SetOk_eq (s : Int) : impl_SetOk.f s = some (okB s) := by
  simp only [impl_SetOk.f, impl_inRange_eq, Option.bind_some, okB]
theorem impl_only_eq (i : Int) (h0 : 0 ≤ i) (h1 : i ≤ 62) : impl_only.f i = some (bitZ i) := by
  obtain ⟨n, rfl⟩ := Int.eq_ofNat_of_zero_le h0
  unfold impl_only.f
  rw [wrap_u64_id h0 (by omega), if_pos h0, shl_one n (by omega)]
theorem spec_SetIn_eq (a b : Int) : spec_SetIn.f a b = some (okB a && okB b && (Go.bits .and .i64 a b == a)) := by
  unfold spec_SetIn.f
  rw [spec_SetOk_eq, spec_SetOk_eq]
  simp only [Option.bind_some]
  cases okB a <;> cases okB b <;> simp
theorem impl_isLetters_eq (n : Int) : impl_isLetters.f n = some (inR n 1 8) := by
  unfold impl_isLetters.f
  rw [impl_inRange_eq]; rfl
deriving instance DecidableEq for S68
theorem rdE_at {l : List S68} {i : Nat} (h : i < l.length) : rd_T68 l (i : Int) = l[i] := by
  simp [rd_T68, List.getD_eq_getElem?_getD, List.getElem?_eq_getElem h]
theorem rdE_set {l : List S68} {i : Nat} (h : i < l.length) (v : S68) : rd_T68 (l.set i v) (i : Int) = v := by
  rw [rdE_at (by rw [List.length_set]; exact h), List.getElem_set_self]
theorem eqEdge_eq (a b : S68) : laws_eqEdge.f a.f0 a.f1 a.f2 a.f3 b.f0 b.f1 b.f2 b.f3 = some (decide (a = b)) := by
  unfold laws_eqEdge.f
  obtain ⟨a0, a1, a2, a3⟩ := a
  obtain ⟨b0, b1, b2, b3⟩ := b
  by_cases h0 : a0 = b0 <;> by_cases h1 : a1 = b1 <;> by_cases h2 : a2 = b2 <;> by_cases h3 : a3 = b3 <;> simp [h0, h1, h2, h3]
theorem eqEdgeS_l0 (a b : List S68) (hab : a.length = b.length) (hl : a.length ≤ 1099511627776) (d : Nat) : ∀ (k i : Nat), i + d = a.length → d < k → laws_eqEdgeS.l0 k a b (i : Int) = some (decide (a.drop i = b.drop i)) := by
  induction d with
  | zero =>
    intro k i hi hk
    obtain ⟨k, rfl⟩ := succ_of hk
    simp only [laws_eqEdgeS.l0]
    rw [if_neg (by omega), List.drop_eq_nil_of_le (by omega), List.drop_eq_nil_of_le (by omega)]
    simp
  | succ d ih =>
    intro k i hi hk
    obtain ⟨k, rfl⟩ := succ_of hk
    simp only [laws_eqEdgeS.l0]
    rw [if_pos (by omega), if_pos (by omega), if_pos (by omega), rdE_at (by omega), rdE_at (by omega), wrap64_succ (by omega), eqEdge_eq]
    rw [drop_cons (l := a) (i := i) (by omega), drop_cons (l := b) (i := i) (by omega)]
    simp only [Option.bind_some]
    by_cases h : a[i] = b[i]
    · rw [decide_eq_true h, if_pos rfl, ih k (i + 1) (by omega) (by omega), h]
      congr 1
      exact decide_eq_decide.2 ⟨fun e => by rw [e], fun e => (List.cons.inj e).2⟩
    · rw [decide_eq_false h, if_neg (by simp)]
      congr 1
      exact (decide_eq_false (fun e => h (List.cons.inj e).1)).symm
theorem eqEdgeS_eq (a b : List S68) (hl : a.length ≤ 1099511627776) (k : Nat) (hk : a.length < k) : laws_eqEdgeS.f k a b = some (decide (a = b)) := by
  unfold laws_eqEdgeS.f
  by_cases h : a.length = b.length
  · rw [if_pos (by omega)]
    exact eqEdgeS_l0 a b h hl a.length k 0 (by omega) hk
  · rw [if_neg (by omega)]
    have : a ≠ b := fun e => h (by rw [e])
    simp [this]
theorem eqAuto_eq (a b c : Int) (l : List S68) (a' b' c' : Int) (l' : List S68) (hl : l.length ≤ 1099511627776) (k : Nat) (hk : l.length < k) :
    laws_eqAuto.f k a b c l a' b' c' l' = some (decide ((a, b, c, l) = (a', b', c', l'))) := by
  unfold laws_eqAuto.f
  rw [eqEdgeS_eq l l' hl k hk]
  by_cases h0 : a = a' <;> by_cases h1 : b = b' <;> by_cases h2 : c = c' <;> by_cases h3 : l = l' <;> simp [h0, h1, h2, h3]
/-- n marked edges, from a on. -/
def seqE : Int → Nat → List S68
  | _, 0 => []
  | a, n + 1 => ⟨a, a + 1, a + 2, ((Int.tmod (a + 3) 3) == 0)⟩ :: seqE (a + 4) n
theorem seqE_length (a : Int) (n : Nat) : (seqE a n).length = n := by
  induction n generalizing a with
  | zero => rfl
  | succ n ih => simp [seqE, ih]
theorem seqE_at (a : Int) (n i : Nat) (h : i < n) : (seqE a n)[i]'(by rw [seqE_length]; exact h) = ⟨a + 4 * i, a + 4 * i + 1, a + 4 * i + 2, ((Int.tmod (a + 4 * i + 3) 3) == 0)⟩ := by
  induction n generalizing a i with
  | zero => omega
  | succ n ih =>
    cases i with
    | zero => simp [seqE]
    | succ i =>
      simp only [seqE, List.getElem_cons_succ]
      rw [ih (a + 4) i (by omega)]
      have e : a + 4 + 4 * (i : Int) = a + 4 * ((i + 1 : Nat) : Int) := by omega
      rw [e]
theorem markEdgeS_l0 (d : Nat) : ∀ (k i : Nat) (x : List S68) (a : Int), i + d = x.length → d < k → 0 ≤ a → a + 4 * d ≤ 4611686018427387904 → x.length ≤ 1099511627776 →
    laws_markEdgeS.l0 k x a (i : Int) = some (a + 4 * d, x.take i ++ seqE a d) := by
  induction d with
  | zero =>
    intro k i x a hi hk h0 h1 h2
    obtain ⟨k, rfl⟩ := succ_of hk
    simp only [laws_markEdgeS.l0]
    rw [if_neg (by omega), List.take_of_length_le (by omega)]
    simp [seqE]
  | succ d ih =>
    intro k i x a hi hk h0 h1 h2
    obtain ⟨k, rfl⟩ := succ_of hk
    simp only [laws_markEdgeS.l0]
    rw [if_pos (by omega), if_pos (by omega)]
    simp only [Option.bind_some]
    rw [wrap64_succ (by omega), wrap64_id (n := a + 1) (by omega) (by omega), wrap64_id (n := a + 1 + 1) (by omega) (by omega), wrap64_id (n := a + 1 + 1 + 1) (by omega) (by omega), wrap64_id (n := a + 1 + 1 + 1 + 1) (by omega) (by omega)]
    rw [show ((i : Int)).toNat = i from rfl]
    simp only [rdE_set (l := x) (i := i) (by omega), List.set_set]
    rw [ih k (i + 1) _ (a + 1 + 1 + 1 + 1) (by rw [List.length_set]; omega) (by omega) (by omega) (by omega) (by rw [List.length_set]; omega)]
    rw [take_set_self (by omega)]
    simp only [seqE, List.append_assoc, List.singleton_append]
    rw [show a + 1 + 1 + 1 + 1 = a + 4 by omega, show a + 1 + 1 + 1 = a + 3 by omega, show a + 1 + 1 = a + 2 by omega]
    congr 2
    omega
theorem markEdgeS_eq (x : List S68) (a : Int) (h0 : 0 ≤ a) (h1 : a ≤ 1099511627776) (h2 : x.length ≤ 1099511627776) (k : Nat) (hk : x.length < k) : laws_markEdgeS.f k x a = some (a + 4 * x.length, seqE a x.length) := by
  unfold laws_markEdgeS.f
  have := markEdgeS_l0 x.length k 0 x a (by omega) hk h0 (by omega) h2
  simpa using this
theorem markAuto_eq (p q r : Int) (x : List S68) (a : Int) (h0 : 0 ≤ a) (h1 : a ≤ 1099511627776) (h2 : x.length ≤ 1099511627776) (k : Nat) (hk : x.length < k) : laws_markAuto.f k p q r x a = some (a + 4 * x.length, seqE a x.length) := by
  unfold laws_markAuto.f
  rw [markEdgeS_eq x a h0 h1 h2 k hk]
  rfl
theorem szEdgeS_eq (l : List S115) (a : Int) (h0 : 0 ≤ a) (h1 : a ≤ 1048576) (hl : l.length ≤ 9223372036854775807) : laws_szEdgeS.f l a = some (if a < l.length then -1 else a - l.length) := by
  unfold laws_szEdgeS.f
  rw [wrap64_id (by omega) (by omega)]
  by_cases h : a < (l.length : Int)
  · rw [if_pos (by omega), if_pos h]
  · rw [if_neg (by omega), if_neg h]
theorem szAuto_eq (p q s : Int) (l : List S115) (a : Int) (h0 : 0 ≤ a) (h1 : a ≤ 1048576) (hl : l.length ≤ 9223372036854775807) : laws_szAuto.f p q s l a = some (if a < l.length then -1 else a - l.length) := by
  unfold laws_szAuto.f
  rw [szEdgeS_eq l a h0 h1 hl]
  simp only [Option.bind_some]
  by_cases h : a < (l.length : Int)
  · rw [if_pos h, if_pos (by omega)]
  · rw [if_neg h, if_neg (by omega)]
def convE (e : S115) : S68 := ⟨e.f0, e.f1, e.f2, e.f3⟩
theorem rdP_at {l : List S115} {i : Nat} (h : i < l.length) : rd_T115 l (i : Int) = l[i] := by
  simp [rd_T115, List.getD_eq_getElem?_getD, List.getElem?_eq_getElem h]
theorem toEdgeS_l0 (l : List S115) (hl : l.length ≤ 1099511627776) (d : Nat) : ∀ (k i : Nat) (rest : List S68), i + d = l.length → rest.length = d → d < k → laws_toEdgeS.l0 k l ((l.map convE).take i ++ rest) (i : Int) = some (l.map convE) := by
  induction d with
  | zero =>
    intro k i rest hi hr hk
    obtain ⟨k, rfl⟩ := succ_of hk
    simp only [laws_toEdgeS.l0]
    rw [if_neg (by omega), List.eq_nil_of_length_eq_zero hr, List.append_nil, List.take_of_length_le (by rw [List.length_map]; omega)]
  | succ d ih =>
    intro k i rest hi hr hk
    obtain ⟨k, rfl⟩ := succ_of hk
    simp only [laws_toEdgeS.l0]
    have hll : ((l.map convE).take i ++ rest).length = l.length := by rw [List.length_append, List.length_take, List.length_map]; omega
    have hm : (l.map convE).length = l.length := List.length_map _
    rw [if_pos (by omega), if_pos (by omega), rdP_at (by omega), wrap64_succ (by omega)]
    simp only [laws_toEdge.f, Option.bind_some]
    rw [if_pos (by omega)]
    have e : (⟨l[i].f0, l[i].f1, l[i].f2, l[i].f3⟩ : S68) = (l.map convE)[i] := by rw [List.getElem_map]; rfl
    rw [show ((i : Int)).toNat = i from rfl, e, take_set_drop (by omega) (by omega)]
    exact ih k (i + 1) rest.tail (by omega) (by rw [List.length_tail]; omega) (by omega)
theorem toEdgeS_eq (l : List S115) (hl : l.length ≤ 1099511627776) (k : Nat) (hk : l.length < k) : laws_toEdgeS.f k l = some (l.map convE) := by
  unfold laws_toEdgeS.f
  rw [if_pos (by omega), if_pos (by simp; omega)]
  exact toEdgeS_l0 l hl l.length k 0 _ (by omega) (by simp) hk
theorem toAuto_eq (p q s : Int) (l : List S115) (hl : l.length ≤ 1099511627776) (k : Nat) (hk : l.length < k) : laws_toAuto.f k p q s l = some (p, q, s, l.map convE) := by
  unfold laws_toAuto.f
  rw [toEdgeS_eq l hl k hk]; rfl
theorem spec_l4State_eq (x n : Int) (h0 : -1000 ≤ n) (h1 : n ≤ 1000) : spec_l4State.f x n = some (inR x 0 (n - 1)) := by
  unfold spec_l4State.f
  rw [wrap64_id (by omega) (by omega), spec_l1In_eq]; rfl
theorem spec_l4Less_eq (a b c : Int) (g : Bool) (a' b' c' : Int) (g' : Bool) : spec_l4Less.f a b c g a' b' c' g' = some (lessK (a, b, c) (a', b', c')) := by
  unfold spec_l4Less.f lessK
  by_cases h : a = a'
  · rw [if_pos h, if_pos h]
    by_cases h' : b = b'
    · rw [if_pos h', if_pos h']
    · rw [if_neg h', if_neg h']
  · rw [if_neg h, if_neg h]
theorem cmp_Compare_eq (a b : Int) : cmp_Compare_int.f a b = some (cmpZ a b) := by
  unfold cmp_Compare_int.f cmp_isNaN_int.f cmpZ
  simp only [Option.bind_some, bne_self_eq_false, Bool.false_eq_true, if_false]
  by_cases h : a < b
  · rw [if_pos h, if_pos h]
  · rw [if_neg h, if_neg h]
    by_cases h' : a > b
    · rw [if_pos h', if_pos h']
    · rw [if_neg h', if_neg h']
theorem cmp_Or_eq (a b c : Int) (k : Nat) (hk : 3 < k) : cmp_Or_int.f k [a, b, c] = some (orZ a b c) := by
  unfold cmp_Or_int.f orZ
  obtain ⟨k, rfl⟩ : ∃ m, k = m + 4 := ⟨k - 4, by omega⟩
  have e0 : rd [a, b, c] 0 = a := rfl
  have e1 : rd [a, b, c] 1 = b := rfl
  have e2 : rd [a, b, c] 2 = c := rfl
  have w0 : wrap64 (0 + 1) = 1 := by rw [wrap64_id (by omega) (by omega)]; rfl
  have w1 : wrap64 (1 + 1) = 2 := by rw [wrap64_id (by omega) (by omega)]; rfl
  have w2 : wrap64 (2 + 1) = 3 := by rw [wrap64_id (by omega) (by omega)]; rfl
  have l3 : (([a, b, c].length : Nat) : Int) = 3 := rfl
  rw [l3]
  simp only [cmp_Or_int.l0, e0, e1, e2, w0, w1, w2, l3]
  by_cases ha : a = 0
  · by_cases hb : b = 0
    · by_cases hc : c = 0
      · simp [ha, hb, hc]
      · simp [ha, hb, hc]
    · simp [ha, hb]
  · simp [ha]
theorem impl_compareEdges_eq (a b c : Int) (g : Bool) (a' b' c' : Int) (g' : Bool) (k : Nat) (hk : 3 < k) : impl_compareEdges.f k a b c g a' b' c' g' = some (cmpK (a, b, c) (a', b', c')) := by
  unfold impl_compareEdges.f
  simp only [cmp_Compare_eq, Option.bind_some, cmp_Or_eq _ _ _ k hk]
  rfl
theorem impl_headOk_eq (n st s : Int) : impl_headOk.f n st s = some (headB n st s) := by
  unfold impl_headOk.f headB
  rw [impl_isLetters_eq, impl_inRange_eq, impl_SetOk_eq]
  simp only [Option.bind_some]
  by_cases h1 : inR n 1 8 = true
  · rw [if_pos h1, h1]
    by_cases h2 : inR st 0 31 = true
    · have h2' := inR_iff.1 h2
      have hb := bitZ_le31 h2'.2
      rw [if_pos h2, h2, impl_only_eq st h2'.1 (by omega)]
      simp only [Option.bind_some, Bool.true_and]
      by_cases h3 : okB s = true
      · have h3' := inR_iff.1 h3
        rw [if_pos h3]
        congr 1
        rw [Bool.eq_iff_iff]
        simp only [decide_eq_true_eq, inR_iff]
        omega
      · rw [if_neg h3]
        congr 1
        simp only [okB, inR_iff] at h3
        symm
        rw [inR_false]
        omega
    · rw [if_neg h2]; simp at h2; rw [h2]; rfl
  · rw [if_neg h1]; simp at h1; rw [h1]; rfl
def keyE (e : S68) : Key := (e.f0, e.f1, e.f2)
def anyE (_ : S68) : Bool := true
/-- A right automaton. -/
def autoOkB (n st s : Int) (l : List S68) : Bool := headB n st s && (decide (l.length ≤ 2000) && edgesB keyE anyE n st none l)
theorem autoOk_of {n st s : Int} {l : List S68} (h : autoOkB n st s l = true) : headB n st s = true ∧ l.length ≤ 2000 ∧ edgesB keyE anyE n st none l = true := by
  simpa only [autoOkB, Bool.and_eq_true, decide_eq_true_eq] using h
theorem spec_AutoOk_l0 (n st s : Int) (l : List S68) (h0 : 0 ≤ n) (h1 : n ≤ 8) (h2 : 0 ≤ st) (h3 : st ≤ 31) (hl : l.length ≤ 1099511627776) (d : Nat) : ∀ (k i : Nat), i + d = l.length → d < k → spec_AutoOk.l0 k (i : Int) n st s l = some (edgesB keyE anyE n st (prevOf l i) (l.drop i)) := by
  induction d with
  | zero =>
    intro k i hi hk
    obtain ⟨k, rfl⟩ := succ_of hk
    simp only [spec_AutoOk.l0]
    rw [if_neg (by omega), List.drop_eq_nil_of_le (by omega)]
    rfl
  | succ d ih =>
    intro k i hi hk
    obtain ⟨k, rfl⟩ := succ_of hk
    simp only [spec_AutoOk.l0]
    rw [if_pos (by omega), if_pos (by omega), rdE_at (by omega), spec_l4State_eq _ _ (by omega) (by omega), spec_l4State_eq _ _ (by omega) (by omega), spec_l1In_eq, wrap64_id (n := n - 1) (by omega) (by omega), wrap64_succ (by omega), drop_cons (l := l) (i := i) (by omega)]
    simp only [Option.bind_some, edgesB, stOk, keyE, anyE]
    have ih' := ih k (i + 1) (by omega) (by omega)
    rw [prevOf_succ l i (by omega)] at ih'
    cases e1 : inR l[i].f0 0 (st - 1)
    · simp
    · cases e2 : inR l[i].f2 0 (st - 1)
      · simp
      · cases e3 : inR l[i].f1 0 (n - 1)
        · simp
        · simp only [if_true, Bool.true_and]
          cases i with
          | zero => rw [if_neg (by omega), ih']; simp only [prevOf, aheadK, Bool.true_and]
          | succ j =>
            have ej : wrap64 (((j + 1 : Nat) : Int) - 1) = (j : Int) := by rw [wrap64_id (by omega) (by omega)]; omega
            rw [if_pos (by omega), ej, if_pos (by omega), if_pos (by omega), rdE_at (by omega), spec_l4Less_eq, prevOf_succ l j (by omega)]
            simp only [Option.bind_some, aheadK, keyE]
            cases e4 : lessK (l[j].f0, l[j].f1, l[j].f2) (l[j + 1].f0, l[j + 1].f1, l[j + 1].f2)
            · simp
            · simp only [if_true, Bool.true_and]; exact ih'
theorem spec_AutoOk_eq (n st s : Int) (l : List S68) (hl : l.length ≤ 1099511627776) (k : Nat) (hk : l.length + 1 < k) : spec_AutoOk.f k n st s l = some (autoOkB n st s l) := by
  unfold spec_AutoOk.f autoOkB headB
  obtain ⟨k, rfl⟩ := succ_of hk
  rw [spec_l1In_eq, spec_l1In_eq]
  simp only [Option.bind_some, spec_AutoOk.j0, if_true]
  cases e1 : inR n 1 8
  · simp
  · have h1 := inR_iff.1 e1
    cases e2 : inR st 0 31
    · simp
    · have h2 := inR_iff.1 e2
      have hb := bitZ_le31 h2.2
      have hp := bitZ_pos st
      obtain ⟨m, rfl⟩ := Int.eq_ofNat_of_zero_le h2.1
      simp only [if_true, Bool.true_and]
      rw [if_pos h2.1, shl_one m (by omega), wrap64_id (by omega) (by omega), spec_SetIn_eq, in_mask s m h2.1 h2.2]
      simp only [Option.bind_some]
      cases e3 : inR s 0 (bitZ m - 1)
      · simp
      · simp only [if_true, Bool.true_and]
        by_cases h4 : (l.length : Int) > 2000
        · rw [decide_eq_true h4, if_pos rfl, decide_eq_false (by omega)]; rfl
        · rw [decide_eq_false h4, if_neg (by simp), decide_eq_true (by omega)]
          exact spec_AutoOk_l0 n m s l (by omega) (by omega) h2.1 h2.2 hl l.length k 0 (by omega) (by omega)
theorem impl_AutoOk_l0 (n st s : Int) (l : List S68) (h0 : 0 ≤ n) (h1 : n ≤ 8) (h2 : 0 ≤ st) (h3 : st ≤ 31) (hl : l.length ≤ 1099511627776) (d : Nat) : ∀ (k i : Nat), i + d = l.length → 2 * d + 10 < k → impl_AutoOk.l0 k l (l.length : Int) (i : Int) n st s l = some (edgesB keyE anyE n st (prevOf l i) (l.drop i)) := by
  induction d with
  | zero =>
    intro k i hi hk
    obtain ⟨k, rfl⟩ := succ_of hk
    simp only [impl_AutoOk.l0]
    rw [if_neg (by omega), List.drop_eq_nil_of_le (by omega)]
    rfl
  | succ d ih =>
    intro k i hi hk
    obtain ⟨k, rfl⟩ : ∃ m, k = m + 1 + 1 := ⟨k - 2, by omega⟩
    simp only [impl_AutoOk.l0]
    rw [if_pos (by omega), if_pos (by omega), if_pos (by omega), rdE_at (by omega), impl_inRange_eq, impl_inRange_eq, impl_inRange_eq, wrap64_id (n := st - 1) (by omega) (by omega), wrap64_id (n := n - 1) (by omega) (by omega), drop_cons (l := l) (i := i) (by omega)]
    simp only [Option.bind_some, edgesB, stOk, keyE, anyE, impl_AutoOk.j2, if_true]
    have ih' := ih k (i + 1) (by omega) (by omega)
    rw [prevOf_succ l i (by omega)] at ih'
    cases e1 : inR l[i].f0 0 (st - 1)
    · simp
    · cases e2 : inR l[i].f2 0 (st - 1)
      · simp
      · cases e3 : inR l[i].f1 0 (n - 1)
        · simp
        · simp only [if_true, Bool.true_and, Bool.not_true, Bool.false_eq_true, if_false]
          rw [wrap64_succ (by omega)]
          cases i with
          | zero => rw [if_neg (by omega), ih']; simp only [prevOf, aheadK, Bool.true_and]
          | succ j =>
            have ej : wrap64 (((j + 1 : Nat) : Int) - 1) = (j : Int) := by rw [wrap64_id (by omega) (by omega)]; omega
            rw [if_pos (by omega), ej, if_pos (by omega), if_pos (by omega), rdE_at (by omega), impl_compareEdges_eq _ _ _ _ _ _ _ _ k (by omega), prevOf_succ l j (by omega)]
            simp only [Option.bind_some, aheadK, keyE]
            by_cases e4 : lessK (l[j].f0, l[j].f1, l[j].f2) (l[j + 1].f0, l[j + 1].f1, l[j + 1].f2) = true
            · rw [if_neg (fun h => (cmpK_neg _ _).1 h e4), e4]
              simp only [Bool.true_and]; exact ih'
            · rw [if_pos ((cmpK_neg _ _).2 e4)]
              simp at e4; rw [e4]; rfl
theorem impl_AutoOk_eq (n st s : Int) (l : List S68) (hl : l.length ≤ 1099511627776) (k : Nat) (hk : 2 * l.length + 20 < k) : impl_AutoOk.f k n st s l = some (autoOkB n st s l) := by
  unfold impl_AutoOk.f autoOkB
  obtain ⟨k, rfl⟩ := succ_of hk
  rw [impl_headOk_eq]
  simp only [Option.bind_some, impl_AutoOk.j0, if_true]
  cases e1 : headB n st s
  · simp
  · have h := head_of e1
    simp only [if_true, Bool.true_and]
    by_cases h4 : (l.length : Int) > 2000
    · rw [decide_eq_true h4, if_pos rfl, decide_eq_false (by omega)]; rfl
    · rw [decide_eq_false h4, if_neg (by simp), decide_eq_true (by omega)]
      exact impl_AutoOk_l0 n st s l (by omega) (by omega) h.2.1.1 h.2.1.2 hl l.length k 0 (by omega) (by omega)
deriving instance DecidableEq for S94
theorem rdG_at {l : List S94} {i : Nat} (h : i < l.length) : rd_T94 l (i : Int) = l[i] := by
  simp [rd_T94, List.getD_eq_getElem?_getD, List.getElem?_eq_getElem h]
theorem rdG_set {l : List S94} {i : Nat} (h : i < l.length) (v : S94) : rd_T94 (l.set i v) (i : Int) = v := by
  rw [rdG_at (by rw [List.length_set]; exact h), List.getElem_set_self]
theorem eqGEdge_eq (a b : S94) : laws_eqGEdge.f a.f0 a.f1 a.f2 a.f3 b.f0 b.f1 b.f2 b.f3 = some (decide (a = b)) := by
  unfold laws_eqGEdge.f
  obtain ⟨a0, a1, a2, a3⟩ := a
  obtain ⟨b0, b1, b2, b3⟩ := b
  by_cases h0 : a0 = b0 <;> by_cases h1 : a1 = b1 <;> by_cases h2 : a2 = b2 <;> by_cases h3 : a3 = b3 <;> simp [h0, h1, h2, h3]
theorem eqGEdgeS_l0 (a b : List S94) (hab : a.length = b.length) (hl : a.length ≤ 1099511627776) (d : Nat) : ∀ (k i : Nat), i + d = a.length → d < k → laws_eqGEdgeS.l0 k a b (i : Int) = some (decide (a.drop i = b.drop i)) := by
  induction d with
  | zero =>
    intro k i hi hk
    obtain ⟨k, rfl⟩ := succ_of hk
    simp only [laws_eqGEdgeS.l0]
    rw [if_neg (by omega), List.drop_eq_nil_of_le (by omega), List.drop_eq_nil_of_le (by omega)]
    simp
  | succ d ih =>
    intro k i hi hk
    obtain ⟨k, rfl⟩ := succ_of hk
    simp only [laws_eqGEdgeS.l0]
    rw [if_pos (by omega), if_pos (by omega), if_pos (by omega), rdG_at (by omega), rdG_at (by omega), wrap64_succ (by omega), eqGEdge_eq]
    rw [drop_cons (l := a) (i := i) (by omega), drop_cons (l := b) (i := i) (by omega)]
    simp only [Option.bind_some]
    by_cases h : a[i] = b[i]
    · rw [decide_eq_true h, if_pos rfl, ih k (i + 1) (by omega) (by omega), h]
      congr 1
      exact decide_eq_decide.2 ⟨fun e => by rw [e], fun e => (List.cons.inj e).2⟩
    · rw [decide_eq_false h, if_neg (by simp)]
      congr 1
      exact (decide_eq_false (fun e => h (List.cons.inj e).1)).symm
theorem eqGEdgeS_eq (a b : List S94) (hl : a.length ≤ 1099511627776) (k : Nat) (hk : a.length < k) : laws_eqGEdgeS.f k a b = some (decide (a = b)) := by
  unfold laws_eqGEdgeS.f
  by_cases h : a.length = b.length
  · rw [if_pos (by omega)]
    exact eqGEdgeS_l0 a b h hl a.length k 0 (by omega) hk
  · rw [if_neg (by omega)]
    have : a ≠ b := fun e => h (by rw [e])
    simp [this]
theorem eqGen_eq (a b c d : Int) (l : List S94) (a' b' c' d' : Int) (l' : List S94) (hl : l.length ≤ 1099511627776) (k : Nat) (hk : l.length < k) :
    laws_eqGen.f k a b c d l a' b' c' d' l' = some (decide ((a, b, c, d, l) = (a', b', c', d', l'))) := by
  unfold laws_eqGen.f
  rw [eqGEdgeS_eq l l' hl k hk]
  by_cases h0 : a = a' <;> by_cases h1 : b = b' <;> by_cases h2 : c = c' <;> by_cases h3 : d = d' <;> by_cases h4 : l = l' <;> simp [h0, h1, h2, h3, h4]
/-- n marked edges, from a on. -/
def seqG : Int → Nat → List S94
  | _, 0 => []
  | a, n + 1 => ⟨a, a + 1, a + 2, a + 3⟩ :: seqG (a + 4) n
theorem seqG_length (a : Int) (n : Nat) : (seqG a n).length = n := by
  induction n generalizing a with
  | zero => rfl
  | succ n ih => simp [seqG, ih]
theorem seqG_at (a : Int) (n i : Nat) (h : i < n) : (seqG a n)[i]'(by rw [seqG_length]; exact h) = ⟨a + 4 * i, a + 4 * i + 1, a + 4 * i + 2, a + 4 * i + 3⟩ := by
  induction n generalizing a i with
  | zero => omega
  | succ n ih =>
    cases i with
    | zero => simp [seqG]
    | succ i =>
      simp only [seqG, List.getElem_cons_succ]
      rw [ih (a + 4) i (by omega)]
      have e : a + 4 + 4 * (i : Int) = a + 4 * ((i + 1 : Nat) : Int) := by omega
      rw [e]
theorem markGEdgeS_l0 (d : Nat) : ∀ (k i : Nat) (x : List S94) (a : Int), i + d = x.length → d < k → 0 ≤ a → a + 4 * d ≤ 4611686018427387904 → x.length ≤ 1099511627776 →
    laws_markGEdgeS.l0 k x a (i : Int) = some (a + 4 * d, x.take i ++ seqG a d) := by
  induction d with
  | zero =>
    intro k i x a hi hk h0 h1 h2
    obtain ⟨k, rfl⟩ := succ_of hk
    simp only [laws_markGEdgeS.l0]
    rw [if_neg (by omega), List.take_of_length_le (by omega)]
    simp [seqG]
  | succ d ih =>
    intro k i x a hi hk h0 h1 h2
    obtain ⟨k, rfl⟩ := succ_of hk
    simp only [laws_markGEdgeS.l0]
    rw [if_pos (by omega), if_pos (by omega)]
    simp only [Option.bind_some]
    rw [wrap64_succ (by omega), wrap64_id (n := a + 1) (by omega) (by omega), wrap64_id (n := a + 1 + 1) (by omega) (by omega), wrap64_id (n := a + 1 + 1 + 1) (by omega) (by omega), wrap64_id (n := a + 1 + 1 + 1 + 1) (by omega) (by omega)]
    rw [show ((i : Int)).toNat = i from rfl]
    simp only [rdG_set (l := x) (i := i) (by omega), List.set_set]
    rw [ih k (i + 1) _ (a + 1 + 1 + 1 + 1) (by rw [List.length_set]; omega) (by omega) (by omega) (by omega) (by rw [List.length_set]; omega)]
    rw [take_set_self (by omega)]
    simp only [seqG, List.append_assoc, List.singleton_append]
    rw [show a + 1 + 1 + 1 + 1 = a + 4 by omega, show a + 1 + 1 + 1 = a + 3 by omega, show a + 1 + 1 = a + 2 by omega]
    congr 2
    omega
theorem markGEdgeS_eq (x : List S94) (a : Int) (h0 : 0 ≤ a) (h1 : a ≤ 1099511627776) (h2 : x.length ≤ 1099511627776) (k : Nat) (hk : x.length < k) : laws_markGEdgeS.f k x a = some (a + 4 * x.length, seqG a x.length) := by
  unfold laws_markGEdgeS.f
  have := markGEdgeS_l0 x.length k 0 x a (by omega) hk h0 (by omega) h2
  simpa using this
theorem markGen_eq (p q r s : Int) (x : List S94) (a : Int) (h0 : 0 ≤ a) (h1 : a ≤ 1099511627776) (h2 : x.length ≤ 1099511627776) (k : Nat) (hk : x.length < k) : laws_markGen.f k p q r s x a = some (a + 4 * x.length, seqG a x.length) := by
  unfold laws_markGen.f
  rw [markGEdgeS_eq x a h0 h1 h2 k hk]
  rfl
theorem heldGEdgeS_l0 (n : Nat) (b : Int) (hn : n ≤ 1099511627776) (hb0 : 0 ≤ b) (hb : b ≤ 1099511627776) (d : Nat) : ∀ (k i : Nat), i + d = n → d < k → laws_heldGEdgeS.l0 k (seqG b n) (b + 4 * i) (i : Int) = some (b + 4 * n) := by
  induction d with
  | zero =>
    intro k i hi hk
    obtain ⟨k, rfl⟩ := succ_of hk
    simp only [laws_heldGEdgeS.l0]
    rw [if_neg (by rw [seqG_length]; omega)]
    congr 1; omega
  | succ d ih =>
    intro k i hi hk
    obtain ⟨k, rfl⟩ := succ_of hk
    simp only [laws_heldGEdgeS.l0]
    rw [if_pos (by rw [seqG_length]; omega), if_pos (by omega), rdG_at (by rw [seqG_length]; omega), seqG_at b n i (by omega)]
    have a1 : wrap64 (b + 4 * (i : Int) + 1) = b + 4 * (i : Int) + 1 := wrap64_id (by omega) (by omega)
    have a2 : wrap64 (b + 4 * (i : Int) + 1 + 1) = b + 4 * (i : Int) + 2 := by rw [wrap64_id (by omega) (by omega)]; omega
    have a3 : wrap64 (b + 4 * (i : Int) + 2 + 1) = b + 4 * (i : Int) + 3 := by rw [wrap64_id (by omega) (by omega)]; omega
    have a4 : wrap64 (b + 4 * (i : Int) + 3 + 1) = b + 4 * ((i + 1 : Nat) : Int) := by rw [wrap64_id (by omega) (by omega)]; omega
    rw [if_pos rfl, a1, if_pos rfl, a2, if_pos rfl, a3, if_pos rfl, a4, wrap64_succ (by omega)]
    exact ih k (i + 1) (by omega) (by omega)
theorem heldGEdgeS_eq (n : Nat) (b : Int) (hn : n ≤ 1099511627776) (hb0 : 0 ≤ b) (hb : b ≤ 1099511627776) (k : Nat) (hk : n < k) : laws_heldGEdgeS.f k (seqG b n) b = some (b + 4 * n) := by
  unfold laws_heldGEdgeS.f
  have := heldGEdgeS_l0 n b hn hb0 hb n k 0 (by omega) hk
  simpa using this
theorem heldGen_eq (p q r s : Int) (n : Nat) (b : Int) (hn : n ≤ 1099511627776) (hb0 : 0 ≤ b) (hb : b ≤ 1099511627776) (k : Nat) (hk : n < k) : laws_heldGen.f k p q r s (seqG b n) b = some (b + 4 * n) := by
  unfold laws_heldGen.f
  rw [heldGEdgeS_eq n b hn hb0 hb k hk]
  simp only [Option.bind_some]
  rw [if_neg (by omega)]
def gOfE (e : S68) : S94 := ⟨e.f0, e.f1, e.f2, if e.f3 = true then 1 else 0⟩
/-- The general automaton of an automaton. -/
def genOfA (n st s : Int) (l : List S68) : Int × Int × Int × Int × List S94 := if autoOkB n st s l then (n, st, s, 1, l.map gOfE) else (0, 0, 0, 0, [])
theorem genOfA_length (n st s : Int) (l : List S68) : (genOfA n st s l).2.2.2.2.length ≤ l.length := by
  unfold genOfA
  split
  · show (l.map gOfE).length ≤ _
    rw [List.length_map]; omega
  · show ([] : List S94).length ≤ _
    simp
theorem spec_GenOf_l0 (n st s p q r u : Int) (l : List S68) (hl : l.length ≤ 1099511627776) (d : Nat) : ∀ (k i : Nat) (acc : List S94), i + d = l.length → acc.length = i → d < k → spec_GenOf.l0 k (i : Int) n st s l p q r u acc = some (p, q, r, u, acc ++ (l.drop i).map gOfE) := by
  induction d with
  | zero =>
    intro k i acc hi ha hk
    obtain ⟨k, rfl⟩ := succ_of hk
    simp only [spec_GenOf.l0]
    rw [if_neg (by omega), List.drop_eq_nil_of_le (by omega)]
    simp
  | succ d ih =>
    intro k i acc hi ha hk
    obtain ⟨k, rfl⟩ := succ_of hk
    simp only [spec_GenOf.l0]
    rw [if_pos (by omega), if_pos (by omega), rdE_at (by omega), wrap64_succ (by omega), drop_cons (l := l) (i := i) (by omega)]
    have ih' := fun acc ha => ih k (i + 1) acc (by omega) ha (by omega)
    by_cases h : l[i].f3 = true
    · rw [if_pos h, if_pos (by omega), ih' _ (by rw [List.length_append, ha]; rfl), List.map_cons, List.append_assoc, List.singleton_append]
      simp only [gOfE, if_pos h]
    · rw [if_neg h, if_pos (by omega), ih' _ (by rw [List.length_append, ha]; rfl), List.map_cons, List.append_assoc, List.singleton_append]
      simp only [gOfE, if_neg h]
theorem spec_GenOf_eq (n st s : Int) (l : List S68) (hl : l.length ≤ 1099511627776) (k : Nat) (hk : l.length + 1 < k) : spec_GenOf.f k n st s l = some (genOfA n st s l) := by
  unfold spec_GenOf.f genOfA
  rw [spec_AutoOk_eq n st s l hl k hk]
  simp only [Option.bind_some]
  by_cases h : autoOkB n st s l = true
  · rw [if_pos h, if_pos h]
    exact spec_GenOf_l0 n st s n st s 1 l hl l.length k 0 [] (by omega) rfl (by omega)
  · rw [if_neg h, if_neg h]
theorem impl_genOf_l0 (p q r u : Int) (l : List S68) (hl : l.length ≤ 1099511627776) (d : Nat) : ∀ (k i : Nat) (acc : List S94), i + d = l.length → acc.length = i → d < k → impl_genOf.l0 k l (l.length : Int) (i : Int) p q r u acc = some (p, q, r, u, acc ++ (l.drop i).map gOfE) := by
  induction d with
  | zero =>
    intro k i acc hi ha hk
    obtain ⟨k, rfl⟩ := succ_of hk
    simp only [impl_genOf.l0]
    rw [if_neg (by omega), List.drop_eq_nil_of_le (by omega)]
    simp
  | succ d ih =>
    intro k i acc hi ha hk
    obtain ⟨k, rfl⟩ := succ_of hk
    simp only [impl_genOf.l0]
    rw [if_pos (by omega), if_pos (by omega), if_pos (by omega), rdE_at (by omega), wrap64_succ (by omega), drop_cons (l := l) (i := i) (by omega)]
    have ih' := fun acc ha => ih k (i + 1) acc (by omega) ha (by omega)
    by_cases h : l[i].f3 = true
    · rw [if_pos h, if_pos (by omega), ih' _ (by rw [List.length_append, ha]; rfl), List.map_cons, List.append_assoc, List.singleton_append]
      simp only [gOfE, if_pos h]
    · rw [if_neg h, if_pos (by omega), ih' _ (by rw [List.length_append, ha]; rfl), List.map_cons, List.append_assoc, List.singleton_append]
      simp only [gOfE, if_neg h]
theorem impl_genOf_eq (n st s : Int) (l : List S68) (hl : l.length ≤ 1099511627776) (k : Nat) (hk : l.length + 1 < k) : impl_genOf.f k n st s l = some (n, st, s, 1, l.map gOfE) := by
  unfold impl_genOf.f
  exact impl_genOf_l0 n st s 1 l hl l.length k 0 [] (by omega) rfl (by omega)
theorem impl_GenOf_eq (n st s : Int) (l : List S68) (hl : l.length ≤ 1099511627776) (k : Nat) (hk : 2 * l.length + 20 < k) : impl_GenOf.f k n st s l = some (genOfA n st s l) := by
  unfold impl_GenOf.f genOfA
  rw [impl_AutoOk_eq n st s l hl k hk]
  simp only [Option.bind_some]
  by_cases h : autoOkB n st s l = true
  · rw [if_pos h, if_pos h, impl_genOf_eq n st s l hl k (by omega)]
    rfl
  · rw [if_neg h, if_neg h]
end hFnExactGenOf
open hFnExactGenOf
theorem FnExactGenOf : laws_FnExactGenOf.Pure := by
  intro n st s l hn hst hs hl hw
  obtain ⟨K, hK⟩ : ∃ K, K = 2 * l.length + 1000 := ⟨_, rfl⟩
  refine ⟨K, ?_⟩
  unfold laws_FnExactGenOf.f
  rw [szAuto_eq n st s l 1048576 (by omega) (by omega) hl]
  simp only [Option.bind_some]
  by_cases h : (1048576 : Int) < l.length
  · rw [if_pos h, if_pos (by omega)]
  · have hm : (l.map convE).length = l.length := List.length_map _
    have hg := genOfA_length n st s (l.map convE)
    rw [if_neg h, if_neg (by omega), toAuto_eq n st s l (by omega) K (by omega)]
    simp only [Option.bind_some]
    rw [spec_GenOf_eq n st s _ (by omega) K (by omega), impl_GenOf_eq n st s _ (by omega) K (by omega)]
    simp only [Option.bind_some]
    rw [eqGen_eq _ _ _ _ _ _ _ _ _ _ (by omega) K (by omega)]
    simp only [Option.bind_some, decide_true, if_true]
    rw [eqAuto_eq _ _ _ _ _ _ _ _ (by omega) K (by omega)]
    simp only [Option.bind_some, decide_true, if_true]
    rw [markAuto_eq _ _ _ _ 1 (by omega) (by omega) (by omega) K (by omega)]
    simp only [Option.bind_some]
    rw [if_neg (by omega)]
    obtain ⟨k, rfl⟩ : ∃ m, K = m + 1 := ⟨K - 1, by omega⟩
    simp only [Bool.not_true, laws_FnExactGenOf.j0, Bool.false_eq_true, if_false]
    rw [markGen_eq _ _ _ _ _ 1 (by omega) (by omega) (by omega) k (by omega)]
    simp only [Option.bind_some]
    rw [heldGen_eq _ _ _ _ _ 1 (by omega) (by omega) (by omega) k (by omega)]
    simp only [Option.bind_some]
    rw [if_neg (by omega), if_pos trivial, toAuto_eq n st s l (by omega) k (by omega)]
    simp only [Option.bind_some]
    rw [impl_GenOf_eq n st s _ (by omega) k (by omega)]
    simp only [Option.bind_some]
    rw [eqGen_eq _ _ _ _ _ _ _ _ _ _ (by omega) k (by omega)]
    simp only [Option.bind_some, decide_true, if_true]
    rw [if_neg (by omega)]
end Go.Proofs.Ytlallflpicgcmaa.Pure
