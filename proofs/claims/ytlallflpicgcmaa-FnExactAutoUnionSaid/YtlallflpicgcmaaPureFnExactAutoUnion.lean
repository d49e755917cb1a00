/- What the printed functions of FnExactAutoUnion come to, one lemma a function, and from these the law: for all arguments (within the bounds that the printed statement names) it answers true. -/
import Derived.Test.YtlallflpicgcmaaMFnExactAutoUnionx6
import Derived.Test.YtlallflpicgcmaaBase
import Derived.Test.YtlallflpicgcmaaBaseA
import Derived.Test.YtlallflpicgcmaaBaseA2
import Derived.Test.YtlallflpicgcmaaBaseL
import Derived.Test.YtlallflpicgcmaaBaseS
namespace Go.Proofs.Ytlallflpicgcmaa.Pure
open Go.RowKit Go.Proofs.Ytlallflpicgcmaa.MFnExactAutoUnion Go.Proofs.YtlallflpicgcmaaW.PrintWords Go.Proofs.YtlallflpicgcmaaW.PrintLast Go.Proofs.Ytlallflpicgcmaa.Base

namespace hFnExactAutoUnion
theorem spec_l1In_eq (a b c : Int) : spec_l1In.f a b c = some (inR a b c) := by
  unfold spec_l1In.f inR
  by_cases h : a ≥ b
  · rw [if_pos h]; simp [show b ≤ a from h]
  · rw [if_neg h]; simp; omega
theorem impl_inRange_eq (a b c : Int) : impl_inRange.f a b c = some (inR a b c) := by
  unfold impl_inRange.f inR
  by_cases h : a ≥ b
  · rw [if_pos h]; simp [show b ≤ a from h]
  · rw [if_neg h]; simp; omega
theorem spec_SetOk_eq (s : Int) : spec_SetOk.f s = some (okB s) := by
  simp only [spec_SetOk.f, spec_l1In_eq, Option.bind_some, okB]
theorem impl_SetOk_eq (s : Int) : impl_SetOk.f s = some (okB s) := by
  simp only [impl_SetOk.f, impl_inRange_eq, Option.bind_some, okB]
theorem impl_only_eq (i : Int) (h0 : 0 ≤ i) (h1 : i ≤ 62) : impl_only.f i = some (bitZ i) := by
  obtain ⟨n, rfl⟩ := Int.eq_ofNat_of_zero_le h0
  unfold impl_only.f
  rw [wrap_u64_id h0 (by omega), if_pos h0, shl_one n (by omega)]
theorem spec_SetIn_eq (a b : Int) : spec_SetIn.f a b = some (okB a && okB b && (Go.bits .and .i64 a b == a)) := by
  unfold spec_SetIn.f
  rw [spec_SetOk_eq, spec_SetOk_eq]
  simp only [Option.bind_some]
  cases okB a <;> cases okB b <;> simp
theorem impl_isLetters_eq (n : Int) : impl_isLetters.f n = some (inR n 1 8) := by
  unfold impl_isLetters.f
  rw [impl_inRange_eq]; rfl
deriving instance DecidableEq for S68
theorem rdE_at {l : List S68} {i : Nat} (h : i < l.length) : rd_T68 l (i : Int) = l[i] := by
  simp [rd_T68, List.getD_eq_getElem?_getD, List.getElem?_eq_getElem h]
theorem rdE_set {l : List S68} {i : Nat} (h : i < l.length) (v : S68) : rd_T68 (l.set i v) (i : Int) = v := by
  rw [rdE_at (by rw [List.length_set]; exact h), List.getElem_set_self]
theorem eqEdge_eq (a b : S68) : laws_eqEdge.f a.f0 a.f1 a.f2 a.f3 b.f0 b.f1 b.f2 b.f3 = some (decide (a = b)) := by
  unfold laws_eqEdge.f
  obtain ⟨a0, a1, a2, a3⟩ := a
  obtain ⟨b0, b1, b2, b3⟩ := b
  by_cases h0 : a0 = b0 <;> by_cases h1 : a1 = b1 <;> by_cases h2 : a2 = b2 <;> by_cases h3 : a3 = b3 <;> simp [h0, h1, h2, h3]
theorem eqEdgeS_l0 (a b : List S68) (hab : a.length = b.length) (hl : a.length ≤ 1099511627776) (d : Nat) : ∀ (k i : Nat), i + d = a.length → d < k → laws_eqEdgeS.l0 k a b (i : Int) = some (decide (a.drop i = b.drop i)) := by
  induction d with
  | zero =>
    intro k i hi hk
    obtain ⟨k, rfl⟩ := succ_of hk
    simp only [laws_eqEdgeS.l0]
    rw [if_neg (by omega), List.drop_eq_nil_of_le (by omega), List.drop_eq_nil_of_le (by omega)]
    simp
  | succ d ih =>
    intro k i hi hk
    obtain ⟨k, rfl⟩ := succ_of hk
    simp only [laws_eqEdgeS.l0]
    rw [if_pos (by omega), if_pos (by omega), if_pos (by omega), rdE_at (by omega), rdE_at (by omega), wrap64_succ (by omega), eqEdge_eq]
    rw [drop_cons (l := a) (i := i) (by omega), drop_cons (l := b) (i := i) (by omega)]
    simp only [Option.bind_some]
    by_cases h : a[i] = b[i]
    · rw [decide_eq_true h, if_pos rfl, ih k (i + 1) (by omega) (by omega), h]
      congr 1
      exact decide_eq_decide.2 ⟨fun e => by rw [e], fun e => (List.cons.inj e).2⟩
    · rw [decide_eq_false h, if_neg (by simp)]
      congr 1
      exact (decide_eq_false (fun e => h (List.cons.inj e).1)).symm
theorem eqEdgeS_eq (a b : List S68) (hl : a.length ≤ 1099511627776) (k : Nat) (hk : a.length < k) : laws_eqEdgeS.f k a b = some (decide (a = b)) := by
  unfold laws_eqEdgeS.f
  by_cases h : a.length = b.length
  · rw [if_pos (by omega)]
    exact eqEdgeS_l0 a b h hl a.length k 0 (by omega) hk
  · rw [if_neg (by omega)]
    have : a ≠ b := fun e => h (by rw [e])
    simp [this]
theorem eqAuto_eq (a b c : Int) (l : List S68) (a' b' c' : Int) (l' : List S68) (hl : l.length ≤ 1099511627776) (k : Nat) (hk : l.length < k) :
    laws_eqAuto.f k a b c l a' b' c' l' = some (decide ((a, b, c, l) = (a', b', c', l'))) := by
  unfold laws_eqAuto.f
  rw [eqEdgeS_eq l l' hl k hk]
  by_cases h0 : a = a' <;> by_cases h1 : b = b' <;> by_cases h2 : c = c' <;> by_cases h3 : l = l' <;> simp [h0, h1, h2, h3]
/-- n marked edges, from a on. -/
def seqE : Int → Nat → List S68
  | _, 0 => []
  | a, n + 1 => ⟨a, a + 1, a + 2, ((Int.tmod (a + 3) 3) == 0)⟩ :: seqE (a + 4) n
theorem seqE_length (a : Int) (n : Nat) : (seqE a n).length = n := by
  induction n generalizing a with
  | zero => rfl
  | succ n ih => simp [seqE, ih]
theorem seqE_at (a : Int) (n i : Nat) (h : i < n) : (seqE a n)[i]'(by rw [seqE_length]; exact h) = ⟨a + 4 * i, a + 4 * i + 1, a + 4 * i + 2, ((Int.tmod (a + 4 * i + 3) 3) == 0)⟩ := by
  induction n generalizing a i with
  | zero => omega
  | succ n ih =>
    cases i with
    | zero => simp [seqE]
    | succ i =>
      simp only [seqE, List.getElem_cons_succ]
      rw [ih (a + 4) i (by omega)]
      have e : a + 4 + 4 * (i : Int) = a + 4 * ((i + 1 : Nat) : Int) := by omega
      rw [e]
theorem markEdgeS_l0 (d : Nat) : ∀ (k i : Nat) (x : List S68) (a : Int), i + d = x.length → d < k → 0 ≤ a → a + 4 * d ≤ 4611686018427387904 → x.length ≤ 1099511627776 →
    laws_markEdgeS.l0 k x a (i : Int) = some (a + 4 * d, x.take i ++ seqE a d) := by
  induction d with
  | zero =>
    intro k i x a hi hk h0 h1 h2
    obtain ⟨k, rfl⟩ := succ_of hk
    simp only [laws_markEdgeS.l0]
    rw [if_neg (by omega), List.take_of_length_le (by omega)]
    simp [seqE]
  | succ d ih =>
    intro k i x a hi hk h0 h1 h2
    obtain ⟨k, rfl⟩ := succ_of hk
    simp only [laws_markEdgeS.l0]
    rw [if_pos (by omega), if_pos (by omega)]
    simp only [Option.bind_some]
    rw [wrap64_succ (by omega), wrap64_id (n := a + 1) (by omega) (by omega), wrap64_id (n := a + 1 + 1) (by omega) (by omega), wrap64_id (n := a + 1 + 1 + 1) (by omega) (by omega), wrap64_id (n := a + 1 + 1 + 1 + 1) (by omega) (by omega)]
    rw [show ((i : Int)).toNat = i from rfl]
    simp only [rdE_set (l := x) (i := i) (by omega), List.set_set]
    rw [ih k (i + 1) _ (a + 1 + 1 + 1 + 1) (by rw [List.length_set]; omega) (by omega) (by omega) (by omega) (by rw [List.length_set]; omega)]
    rw [take_set_self (by omega)]
    simp only [seqE, List.append_assoc, List.singleton_append]
    rw [show a + 1 + 1 + 1 + 1 = a + 4 by omega, show a + 1 + 1 + 1 = a + 3 by omega, show a + 1 + 1 = a + 2 by omega]
    congr 2
    omega
theorem markEdgeS_eq (x : List S68) (a : Int) (h0 : 0 ≤ a) (h1 : a ≤ 1099511627776) (h2 : x.length ≤ 1099511627776) (k : Nat) (hk : x.length < k) : laws_markEdgeS.f k x a = some (a + 4 * x.length, seqE a x.length) := by
  unfold laws_markEdgeS.f
  have := markEdgeS_l0 x.length k 0 x a (by omega) hk h0 (by omega) h2
  simpa using this
theorem markAuto_eq (p q r : Int) (x : List S68) (a : Int) (h0 : 0 ≤ a) (h1 : a ≤ 1099511627776) (h2 : x.length ≤ 1099511627776) (k : Nat) (hk : x.length < k) : laws_markAuto.f k p q r x a = some (a + 4 * x.length, seqE a x.length) := by
  unfold laws_markAuto.f
  rw [markEdgeS_eq x a h0 h1 h2 k hk]
  rfl
theorem heldEdgeS_l0 (n : Nat) (b : Int) (hn : n ≤ 1099511627776) (hb0 : 0 ≤ b) (hb : b ≤ 1099511627776) (d : Nat) : ∀ (k i : Nat), i + d = n → d < k → laws_heldEdgeS.l0 k (seqE b n) (b + 4 * i) (i : Int) = some (b + 4 * n) := by
  induction d with
  | zero =>
    intro k i hi hk
    obtain ⟨k, rfl⟩ := succ_of hk
    simp only [laws_heldEdgeS.l0]
    rw [if_neg (by rw [seqE_length]; omega)]
    congr 1; omega
  | succ d ih =>
    intro k i hi hk
    obtain ⟨k, rfl⟩ := succ_of hk
    simp only [laws_heldEdgeS.l0]
    rw [if_pos (by rw [seqE_length]; omega), if_pos (by omega), rdE_at (by rw [seqE_length]; omega), seqE_at b n i (by omega)]
    have a1 : wrap64 (b + 4 * (i : Int) + 1) = b + 4 * (i : Int) + 1 := wrap64_id (by omega) (by omega)
    have a2 : wrap64 (b + 4 * (i : Int) + 1 + 1) = b + 4 * (i : Int) + 2 := by rw [wrap64_id (by omega) (by omega)]; omega
    have a3 : wrap64 (b + 4 * (i : Int) + 2 + 1) = b + 4 * (i : Int) + 3 := by rw [wrap64_id (by omega) (by omega)]; omega
    have a4 : wrap64 (b + 4 * (i : Int) + 3 + 1) = b + 4 * ((i + 1 : Nat) : Int) := by rw [wrap64_id (by omega) (by omega)]; omega
    rw [if_pos rfl, a1, if_pos rfl, a2, if_pos rfl, a3, if_neg (by simp), a4, wrap64_succ (by omega)]
    exact ih k (i + 1) (by omega) (by omega)
theorem heldEdgeS_eq (n : Nat) (b : Int) (hn : n ≤ 1099511627776) (hb0 : 0 ≤ b) (hb : b ≤ 1099511627776) (k : Nat) (hk : n < k) : laws_heldEdgeS.f k (seqE b n) b = some (b + 4 * n) := by
  unfold laws_heldEdgeS.f
  have := heldEdgeS_l0 n b hn hb0 hb n k 0 (by omega) hk
  simpa using this
theorem heldAuto_eq (p q r : Int) (n : Nat) (b : Int) (hn : n ≤ 1099511627776) (hb0 : 0 ≤ b) (hb : b ≤ 1099511627776) (k : Nat) (hk : n < k) : laws_heldAuto.f k p q r (seqE b n) b = some (b + 4 * n) := by
  unfold laws_heldAuto.f
  rw [heldEdgeS_eq n b hn hb0 hb k hk]
  simp only [Option.bind_some]
  rw [if_neg (by omega)]
theorem szEdgeS_eq (l : List S115) (a : Int) (h0 : 0 ≤ a) (h1 : a ≤ 1048576) (hl : l.length ≤ 9223372036854775807) : laws_szEdgeS.f l a = some (if a < l.length then -1 else a - l.length) := by
  unfold laws_szEdgeS.f
  rw [wrap64_id (by omega) (by omega)]
  by_cases h : a < (l.length : Int)
  · rw [if_pos (by omega), if_pos h]
  · rw [if_neg (by omega), if_neg h]
theorem szAuto_eq (p q s : Int) (l : List S115) (a : Int) (h0 : 0 ≤ a) (h1 : a ≤ 1048576) (hl : l.length ≤ 9223372036854775807) : laws_szAuto.f p q s l a = some (if a < l.length then -1 else a - l.length) := by
  unfold laws_szAuto.f
  rw [szEdgeS_eq l a h0 h1 hl]
  simp only [Option.bind_some]
  by_cases h : a < (l.length : Int)
  · rw [if_pos h, if_pos (by omega)]
  · rw [if_neg h, if_neg (by omega)]
def convE (e : S115) : S68 := ⟨e.f0, e.f1, e.f2, e.f3⟩
theorem rdP_at {l : List S115} {i : Nat} (h : i < l.length) : rd_T115 l (i : Int) = l[i] := by
  simp [rd_T115, List.getD_eq_getElem?_getD, List.getElem?_eq_getElem h]
theorem toEdgeS_l0 (l : List S115) (hl : l.length ≤ 1099511627776) (d : Nat) : ∀ (k i : Nat) (rest : List S68), i + d = l.length → rest.length = d → d < k → laws_toEdgeS.l0 k l ((l.map convE).take i ++ rest) (i : Int) = some (l.map convE) := by
  induction d with
  | zero =>
    intro k i rest hi hr hk
    obtain ⟨k, rfl⟩ := succ_of hk
    simp only [laws_toEdgeS.l0]
    rw [if_neg (by omega), List.eq_nil_of_length_eq_zero hr, List.append_nil, List.take_of_length_le (by rw [List.length_map]; omega)]
  | succ d ih =>
    intro k i rest hi hr hk
    obtain ⟨k, rfl⟩ := succ_of hk
    simp only [laws_toEdgeS.l0]
    have hll : ((l.map convE).take i ++ rest).length = l.length := by rw [List.length_append, List.length_take, List.length_map]; omega
    have hm : (l.map convE).length = l.length := List.length_map _
    rw [if_pos (by omega), if_pos (by omega), rdP_at (by omega), wrap64_succ (by omega)]
    simp only [laws_toEdge.f, Option.bind_some]
    rw [if_pos (by omega)]
    have e : (⟨l[i].f0, l[i].f1, l[i].f2, l[i].f3⟩ : S68) = (l.map convE)[i] := by rw [List.getElem_map]; rfl
    rw [show ((i : Int)).toNat = i from rfl, e, take_set_drop (by omega) (by omega)]
    exact ih k (i + 1) rest.tail (by omega) (by rw [List.length_tail]; omega) (by omega)
theorem toEdgeS_eq (l : List S115) (hl : l.length ≤ 1099511627776) (k : Nat) (hk : l.length < k) : laws_toEdgeS.f k l = some (l.map convE) := by
  unfold laws_toEdgeS.f
  rw [if_pos (by omega), if_pos (by simp; omega)]
  exact toEdgeS_l0 l hl l.length k 0 _ (by omega) (by simp) hk
theorem toAuto_eq (p q s : Int) (l : List S115) (hl : l.length ≤ 1099511627776) (k : Nat) (hk : l.length < k) : laws_toAuto.f k p q s l = some (p, q, s, l.map convE) := by
  unfold laws_toAuto.f
  rw [toEdgeS_eq l hl k hk]; rfl
theorem spec_l4State_eq (x n : Int) (h0 : -1000 ≤ n) (h1 : n ≤ 1000) : spec_l4State.f x n = some (inR x 0 (n - 1)) := by
  unfold spec_l4State.f
  rw [wrap64_id (by omega) (by omega), spec_l1In_eq]; rfl
theorem spec_l4Less_eq (a b c : Int) (g : Bool) (a' b' c' : Int) (g' : Bool) : spec_l4Less.f a b c g a' b' c' g' = some (lessK (a, b, c) (a', b', c')) := by
  unfold spec_l4Less.f lessK
  by_cases h : a = a'
  · rw [if_pos h, if_pos h]
    by_cases h' : b = b'
    · rw [if_pos h', if_pos h']
    · rw [if_neg h', if_neg h']
  · rw [if_neg h, if_neg h]
theorem cmp_Compare_eq (a b : Int) : cmp_Compare_int.f a b = some (cmpZ a b) := by
  unfold cmp_Compare_int.f cmp_isNaN_int.f cmpZ
  simp only [Option.bind_some, bne_self_eq_false, Bool.false_eq_true, if_false]
  by_cases h : a < b
  · rw [if_pos h, if_pos h]
  · rw [if_neg h, if_neg h]
    by_cases h' : a > b
    · rw [if_pos h', if_pos h']
    · rw [if_neg h', if_neg h']
theorem cmp_Or_eq (a b c : Int) (k : Nat) (hk : 3 < k) : cmp_Or_int.f k [a, b, c] = some (orZ a b c) := by
  unfold cmp_Or_int.f orZ
  obtain ⟨k, rfl⟩ : ∃ m, k = m + 4 := ⟨k - 4, by omega⟩
  have e0 : rd [a, b, c] 0 = a := rfl
  have e1 : rd [a, b, c] 1 = b := rfl
  have e2 : rd [a, b, c] 2 = c := rfl
  have w0 : wrap64 (0 + 1) = 1 := by rw [wrap64_id (by omega) (by omega)]; rfl
  have w1 : wrap64 (1 + 1) = 2 := by rw [wrap64_id (by omega) (by omega)]; rfl
  have w2 : wrap64 (2 + 1) = 3 := by rw [wrap64_id (by omega) (by omega)]; rfl
  have l3 : (([a, b, c].length : Nat) : Int) = 3 := rfl
  rw [l3]
  simp only [cmp_Or_int.l0, e0, e1, e2, w0, w1, w2, l3]
  by_cases ha : a = 0
  · by_cases hb : b = 0
    · by_cases hc : c = 0
      · simp [ha, hb, hc]
      · simp [ha, hb, hc]
    · simp [ha, hb]
  · simp [ha]
theorem impl_compareEdges_eq (a b c : Int) (g : Bool) (a' b' c' : Int) (g' : Bool) (k : Nat) (hk : 3 < k) : impl_compareEdges.f k a b c g a' b' c' g' = some (cmpK (a, b, c) (a', b', c')) := by
  unfold impl_compareEdges.f
  simp only [cmp_Compare_eq, Option.bind_some, cmp_Or_eq _ _ _ k hk]
  rfl
theorem impl_headOk_eq (n st s : Int) : impl_headOk.f n st s = some (headB n st s) := by
  unfold impl_headOk.f headB
  rw [impl_isLetters_eq, impl_inRange_eq, impl_SetOk_eq]
  simp only [Option.bind_some]
  by_cases h1 : inR n 1 8 = true
  · rw [if_pos h1, h1]
    by_cases h2 : inR st 0 31 = true
    · have h2' := inR_iff.1 h2
      have hb := bitZ_le31 h2'.2
      rw [if_pos h2, h2, impl_only_eq st h2'.1 (by omega)]
      simp only [Option.bind_some, Bool.true_and]
      by_cases h3 : okB s = true
      · have h3' := inR_iff.1 h3
        rw [if_pos h3]
        congr 1
        rw [Bool.eq_iff_iff]
        simp only [decide_eq_true_eq, inR_iff]
        omega
      · rw [if_neg h3]
        congr 1
        simp only [okB, inR_iff] at h3
        symm
        rw [inR_false]
        omega
    · rw [if_neg h2]; simp at h2; rw [h2]; rfl
  · rw [if_neg h1]; simp at h1; rw [h1]; rfl
def keyE (e : S68) : Key := (e.f0, e.f1, e.f2)
def anyE (_ : S68) : Bool := true
/-- A right automaton. -/
def autoOkB (n st s : Int) (l : List S68) : Bool := headB n st s && (decide (l.length ≤ 2000) && edgesB keyE anyE n st none l)
theorem autoOk_of {n st s : Int} {l : List S68} (h : autoOkB n st s l = true) : headB n st s = true ∧ l.length ≤ 2000 ∧ edgesB keyE anyE n st none l = true := by
  simpa only [autoOkB, Bool.and_eq_true, decide_eq_true_eq] using h
theorem spec_AutoOk_l0 (n st s : Int) (l : List S68) (h0 : 0 ≤ n) (h1 : n ≤ 8) (h2 : 0 ≤ st) (h3 : st ≤ 31) (hl : l.length ≤ 1099511627776) (d : Nat) : ∀ (k i : Nat), i + d = l.length → d < k → spec_AutoOk.l0 k (i : Int) n st s l = some (edgesB keyE anyE n st (prevOf l i) (l.drop i)) := by
  induction d with
  | zero =>
    intro k i hi hk
    obtain ⟨k, rfl⟩ := succ_of hk
    simp only [spec_AutoOk.l0]
    rw [if_neg (by omega), List.drop_eq_nil_of_le (by omega)]
    rfl
  | succ d ih =>
    intro k i hi hk
    obtain ⟨k, rfl⟩ := succ_of hk
    simp only [spec_AutoOk.l0]
    rw [if_pos (by omega), if_pos (by omega), rdE_at (by omega), spec_l4State_eq _ _ (by omega) (by omega), spec_l4State_eq _ _ (by omega) (by omega), spec_l1In_eq, wrap64_id (n := n - 1) (by omega) (by omega), wrap64_succ (by omega), drop_cons (l := l) (i := i) (by omega)]
    simp only [Option.bind_some, edgesB, stOk, keyE, anyE]
    have ih' := ih k (i + 1) (by omega) (by omega)
    rw [prevOf_succ l i (by omega)] at ih'
    cases e1 : inR l[i].f0 0 (st - 1)
    · simp
    · cases e2 : inR l[i].f2 0 (st - 1)
      · simp
      · cases e3 : inR l[i].f1 0 (n - 1)
        · simp
        · simp only [if_true, Bool.true_and]
          cases i with
          | zero => rw [if_neg (by omega), ih']; simp only [prevOf, aheadK, Bool.true_and]
          | succ j =>
            have ej : wrap64 (((j + 1 : Nat) : Int) - 1) = (j : Int) := by rw [wrap64_id (by omega) (by omega)]; omega
            rw [if_pos (by omega), ej, if_pos (by omega), if_pos (by omega), rdE_at (by omega), spec_l4Less_eq, prevOf_succ l j (by omega)]
            simp only [Option.bind_some, aheadK, keyE]
            cases e4 : lessK (l[j].f0, l[j].f1, l[j].f2) (l[j + 1].f0, l[j + 1].f1, l[j + 1].f2)
            · simp
            · simp only [if_true, Bool.true_and]; exact ih'
theorem spec_AutoOk_eq (n st s : Int) (l : List S68) (hl : l.length ≤ 1099511627776) (k : Nat) (hk : l.length + 1 < k) : spec_AutoOk.f k n st s l = some (autoOkB n st s l) := by
  unfold spec_AutoOk.f autoOkB headB
  obtain ⟨k, rfl⟩ := succ_of hk
  rw [spec_l1In_eq, spec_l1In_eq]
  simp only [Option.bind_some, spec_AutoOk.j0, if_true]
  cases e1 : inR n 1 8
  · simp
  · have h1 := inR_iff.1 e1
    cases e2 : inR st 0 31
    · simp
    · have h2 := inR_iff.1 e2
      have hb := bitZ_le31 h2.2
      have hp := bitZ_pos st
      obtain ⟨m, rfl⟩ := Int.eq_ofNat_of_zero_le h2.1
      simp only [if_true, Bool.true_and]
      rw [if_pos h2.1, shl_one m (by omega), wrap64_id (by omega) (by omega), spec_SetIn_eq, in_mask s m h2.1 h2.2]
      simp only [Option.bind_some]
      cases e3 : inR s 0 (bitZ m - 1)
      · simp
      · simp only [if_true, Bool.true_and]
        by_cases h4 : (l.length : Int) > 2000
        · rw [decide_eq_true h4, if_pos rfl, decide_eq_false (by omega)]; rfl
        · rw [decide_eq_false h4, if_neg (by simp), decide_eq_true (by omega)]
          exact spec_AutoOk_l0 n m s l (by omega) (by omega) h2.1 h2.2 hl l.length k 0 (by omega) (by omega)
theorem impl_AutoOk_l0 (n st s : Int) (l : List S68) (h0 : 0 ≤ n) (h1 : n ≤ 8) (h2 : 0 ≤ st) (h3 : st ≤ 31) (hl : l.length ≤ 1099511627776) (d : Nat) : ∀ (k i : Nat), i + d = l.length → 2 * d + 10 < k → impl_AutoOk.l0 k l (l.length : Int) (i : Int) n st s l = some (edgesB keyE anyE n st (prevOf l i) (l.drop i)) := by
  induction d with
  | zero =>
    intro k i hi hk
    obtain ⟨k, rfl⟩ := succ_of hk
    simp only [impl_AutoOk.l0]
    rw [if_neg (by omega), List.drop_eq_nil_of_le (by omega)]
    rfl
  | succ d ih =>
    intro k i hi hk
    obtain ⟨k, rfl⟩ : ∃ m, k = m + 1 + 1 := ⟨k - 2, by omega⟩
    simp only [impl_AutoOk.l0]
    rw [if_pos (by omega), if_pos (by omega), if_pos (by omega), rdE_at (by omega), impl_inRange_eq, impl_inRange_eq, impl_inRange_eq, wrap64_id (n := st - 1) (by omega) (by omega), wrap64_id (n := n - 1) (by omega) (by omega), drop_cons (l := l) (i := i) (by omega)]
    simp only [Option.bind_some, edgesB, stOk, keyE, anyE, impl_AutoOk.j2, if_true]
    have ih' := ih k (i + 1) (by omega) (by omega)
    rw [prevOf_succ l i (by omega)] at ih'
    cases e1 : inR l[i].f0 0 (st - 1)
    · simp
    · cases e2 : inR l[i].f2 0 (st - 1)
      · simp
      · cases e3 : inR l[i].f1 0 (n - 1)
        · simp
        · simp only [if_true, Bool.true_and, Bool.not_true, Bool.false_eq_true, if_false]
          rw [wrap64_succ (by omega)]
          cases i with
          | zero => rw [if_neg (by omega), ih']; simp only [prevOf, aheadK, Bool.true_and]
          | succ j =>
            have ej : wrap64 (((j + 1 : Nat) : Int) - 1) = (j : Int) := by rw [wrap64_id (by omega) (by omega)]; omega
            rw [if_pos (by omega), ej, if_pos (by omega), if_pos (by omega), rdE_at (by omega), impl_compareEdges_eq _ _ _ _ _ _ _ _ k (by omega), prevOf_succ l j (by omega)]
            simp only [Option.bind_some, aheadK, keyE]
            by_cases e4 : lessK (l[j].f0, l[j].f1, l[j].f2) (l[j + 1].f0, l[j + 1].f1, l[j + 1].f2) = true
            · rw [if_neg (fun h => (cmpK_neg _ _).1 h e4), e4]
              simp only [Bool.true_and]; exact ih'
            · rw [if_pos ((cmpK_neg _ _).2 e4)]
              simp at e4; rw [e4]; rfl
theorem impl_AutoOk_eq (n st s : Int) (l : List S68) (hl : l.length ≤ 1099511627776) (k : Nat) (hk : 2 * l.length + 20 < k) : impl_AutoOk.f k n st s l = some (autoOkB n st s l) := by
  unfold impl_AutoOk.f autoOkB
  obtain ⟨k, rfl⟩ := succ_of hk
  rw [impl_headOk_eq]
  simp only [Option.bind_some, impl_AutoOk.j0, if_true]
  cases e1 : headB n st s
  · simp
  · have h := head_of e1
    simp only [if_true, Bool.true_and]
    by_cases h4 : (l.length : Int) > 2000
    · rw [decide_eq_true h4, if_pos rfl, decide_eq_false (by omega)]; rfl
    · rw [decide_eq_false h4, if_neg (by simp), decide_eq_true (by omega)]
      exact impl_AutoOk_l0 n st s l (by omega) (by omega) h.2.1.1 h.2.1.2 hl l.length k 0 (by omega) (by omega)
theorem cloneE_eq (l : List S68) (h : l.length < 4398046511104) : impl_Edge.f l = some l := by
  unfold impl_Edge.f
  rw [if_pos h]
theorem impl_rightAuto_eq (n st s : Int) (l : List S68) (hl : l.length ≤ 1099511627776) (k : Nat) (hk : 2 * l.length + 20 < k) : impl_rightAuto.f k n st s l = some (if autoOkB n st s l then (n, st, s, l, true) else (0, 0, 0, [], false)) := by
  unfold impl_rightAuto.f
  rw [impl_AutoOk_eq n st s l hl k hk]
  simp only [Option.bind_some]
  by_cases h : autoOkB n st s l = true
  · rw [if_pos h, if_pos h]
  · rw [if_neg h, if_neg h]
def shiftE (st : Int) (e : S68) : S68 := ⟨wrap64 (e.f0 + st), e.f1, wrap64 (e.f2 + st), e.f3⟩
/-- Two automata side by side. -/
def unionOk (n st s : Int) (l : List S68) (n' st' s' : Int) (l' : List S68) : Bool := autoOkB n st s l && (autoOkB n' st' s' l' && (decide (n = n') && (decide (st + st' ≤ 31) && decide (l.length + l'.length ≤ 2000))))
def unionA (n st s : Int) (l : List S68) (n' st' s' : Int) (l' : List S68) : Int × Int × Int × List S68 × Bool :=
  if unionOk n st s l n' st' s' l' then (n, st + st', Go.bits .or .i64 s (shl .i64 s' st), l ++ l'.map (shiftE st), true) else (0, 0, 0, [], false)
theorem unionA_length (n st s : Int) (l : List S68) (n' st' s' : Int) (l' : List S68) : (unionA n st s l n' st' s' l').2.2.2.1.length ≤ l.length + l'.length := by
  unfold unionA
  split
  · show (l ++ l'.map (shiftE st)).length ≤ _
    rw [List.length_append, List.length_map]; omega
  · show ([] : List S68).length ≤ _
    simp
theorem spec_AutoUnion_l0 (n st s : Int) (l : List S68) (n' st' s' : Int) (l' : List S68) (p q r : Int) (hl : l'.length ≤ 1099511627776) (d : Nat) : ∀ (k i : Nat) (acc : List S68), i + d = l'.length → acc.length ≤ i + 1099511627776 → d < k →
    spec_AutoUnion.l0 k (i : Int) n st s l n' st' s' l' p q r acc = some (p, q, r, acc ++ (l'.drop i).map (shiftE st), true) := by
  induction d with
  | zero =>
    intro k i acc hi ha hk
    obtain ⟨k, rfl⟩ := succ_of hk
    simp only [spec_AutoUnion.l0]
    rw [if_neg (by omega), List.drop_eq_nil_of_le (by omega)]
    simp
  | succ d ih =>
    intro k i acc hi ha hk
    obtain ⟨k, rfl⟩ := succ_of hk
    simp only [spec_AutoUnion.l0]
    rw [if_pos (by omega), if_pos (by omega), if_pos (by omega), rdE_at (by omega), wrap64_succ (by omega), drop_cons (l := l') (i := i) (by omega), ih k (i + 1) _ (by omega) (by rw [List.length_append, List.length_singleton]; omega) (by omega), List.map_cons, List.append_assoc, List.singleton_append]
    rfl
theorem spec_AutoUnion_eq (n st s : Int) (l : List S68) (n' st' s' : Int) (l' : List S68) (hl : l.length ≤ 1048576) (hl' : l'.length ≤ 1048576) (k : Nat) (hk : l.length + l'.length + 10 < k) :
    spec_AutoUnion.f k n st s l n' st' s' l' = some (unionA n st s l n' st' s' l') := by
  unfold spec_AutoUnion.f unionA unionOk
  obtain ⟨k, rfl⟩ := succ_of hk
  rw [spec_AutoOk_eq n st s l (by omega) _ (by omega), spec_AutoOk_eq n' st' s' l' (by omega) _ (by omega)]
  simp only [Option.bind_some, spec_AutoUnion.j0, if_true]
  cases h1 : autoOkB n st s l
  · simp
  · have g1 := head_of (autoOk_of h1).1
    cases h2 : autoOkB n' st' s' l'
    · simp
    · have g2 := head_of (autoOk_of h2).1
      simp only [if_true, Bool.true_and]
      by_cases h3 : n = n'
      · rw [if_pos h3, decide_eq_true h3, wrap64_id (n := st + st') (by omega) (by omega), wrap64_id (n := (l.length : Int) + l'.length) (by omega) (by omega)]
        by_cases h4 : st + st' > 31
        · rw [if_pos h4, decide_eq_false (show ¬ st + st' ≤ 31 by omega)]; rfl
        · rw [if_neg h4, decide_eq_true (show st + st' ≤ 31 by omega)]
          by_cases h5 : (l.length : Int) + l'.length > 2000
          · rw [decide_eq_true h5, if_pos rfl, decide_eq_false (show ¬ l.length + l'.length ≤ 2000 by omega)]; rfl
          · rw [decide_eq_false h5, if_neg (by simp), decide_eq_true (show l.length + l'.length ≤ 2000 by omega), if_pos (by omega), if_pos (by rw [List.length_nil]; omega)]
            have := spec_AutoUnion_l0 n st s l n' st' s' l' n (st + st') (Go.bits .or .i64 s (shl .i64 s' st)) (by omega) l'.length k 0 ([] ++ l) (by omega) (by rw [List.nil_append]; omega) (by omega)
            rw [List.drop_zero, show ((0 : Nat) : Int) = 0 from rfl] at this
            rw [this]
            rfl
      · rw [if_neg h3, decide_eq_false h3]; rfl
theorem keyE_shift {st : Int} {e : S68} (h0 : 0 ≤ st) (h1 : st ≤ 31) {n m : Int} (hm : m ≤ 31) (he : stOk n m (keyE e) = true) : keyE (shiftE st e) = movedK st (keyE e) := by
  rw [stOk_iff] at he
  simp only [keyE] at he
  simp only [keyE, shiftE, movedK]
  rw [wrap64_id (by omega) (by omega), wrap64_id (by omega) (by omega)]
theorem union_ok (n st s : Int) (l : List S68) (n' st' s' : Int) (l' : List S68) (h : unionOk n st s l n' st' s' l' = true) : autoOkB n (st + st') (Go.bits .or .i64 s (shl .i64 s' st)) (l ++ l'.map (shiftE st)) = true := by
  simp only [unionOk, Bool.and_eq_true, decide_eq_true_eq] at h
  obtain ⟨h1, h2, rfl, h4, h5⟩ := h
  obtain ⟨a1, a2, a3⟩ := autoOk_of h1
  obtain ⟨b1, b2, b3⟩ := autoOk_of h2
  have g1 := head_of a1
  have g2 := head_of b1
  have hor := or_shl s s' st st' g1.2.2.1 g1.2.2.2.1 g2.2.2.1 g2.2.2.2.1 g1.2.1.1 g2.2.1.1 h4
  have hmem : ∀ e ∈ l'.map (shiftE st), st ≤ (keyE e).1 := by
    intro e he
    obtain ⟨e', he', rfl⟩ := List.mem_map.1 he
    have := (edgesB_mem b3 he').1
    rw [keyE_shift g1.2.1.1 g1.2.1.2 g2.2.1.2 this]
    rw [stOk_iff] at this
    simp only [movedK]
    omega
  have hmv : edgesB keyE anyE n (st + st') none (l'.map (shiftE st)) = true := by
    have := edgesB_moved (c := st) g1.2.1.1 (shiftE st) (fun _ => rfl) b3 (fun q e => by cases e) (fun e he => keyE_shift g1.2.1.1 g1.2.1.2 g2.2.1.2 (edgesB_mem b3 he).1)
    rw [Int.add_comm st' st] at this
    exact this
  simp only [autoOkB, headB, Bool.and_eq_true, decide_eq_true_eq, inR_iff]
  refine ⟨⟨by omega, by omega, by omega⟩, by rw [List.length_append, List.length_map]; omega, ?_⟩
  refine edgesB_append hmv (edgesB_wide (by omega) a3) (fun q e => by cases e) (fun q hq e he => ?_)
  have hs := (edgesB_mem a3 hq).1
  rw [stOk_iff] at hs
  have := hmem e he
  rw [lessK_iff]
  omega
theorem impl_AutoUnion_l0 (n st s : Int) (l l' : List S68) (p q r : Int) (M : Nat) (hM : M ≤ 1048576) (hl : l'.length ≤ M) (d : Nat) : ∀ (k i : Nat) (acc : List S68), i + d = l'.length → acc.length ≤ i + M → d + 2 * (l'.length + M) + 30 < k →
    impl_AutoUnion.l0 k l' (l'.length : Int) (i : Int) n st s l p q r acc = some (if autoOkB p q r (acc ++ (l'.drop i).map (shiftE st)) then (p, q, r, acc ++ (l'.drop i).map (shiftE st), true) else (0, 0, 0, [], false)) := by
  induction d with
  | zero =>
    intro k i acc hi ha hk
    obtain ⟨k, rfl⟩ := succ_of hk
    simp only [impl_AutoUnion.l0]
    rw [if_neg (by omega), List.drop_eq_nil_of_le (by omega), impl_rightAuto_eq _ _ _ _ (by omega) k (by omega)]
    simp
  | succ d ih =>
    intro k i acc hi ha hk
    obtain ⟨k, rfl⟩ := succ_of hk
    simp only [impl_AutoUnion.l0]
    rw [if_pos (by omega), if_pos (by omega), if_pos (by omega), if_pos (by omega), rdE_at (by omega), wrap64_succ (by omega), drop_cons (l := l') (i := i) (by omega), ih k (i + 1) _ (by omega) (by rw [List.length_append, List.length_singleton]; omega) (by omega), List.map_cons, List.append_assoc, List.singleton_append]
    rfl
theorem impl_AutoUnion_eq (n st s : Int) (l : List S68) (n' st' s' : Int) (l' : List S68) (M : Nat) (hM : M ≤ 1048576) (hl : l.length ≤ M) (hl' : l'.length ≤ M) (k : Nat) (hk : 2 * l.length + 3 * l'.length + 2 * M + 100 < k) :
    impl_AutoUnion.f k n st s l n' st' s' l' = some (unionA n st s l n' st' s' l') := by
  unfold impl_AutoUnion.f unionA
  obtain ⟨k, rfl⟩ := succ_of hk
  rw [impl_AutoOk_eq n st s l (by omega) _ (by omega), impl_AutoOk_eq n' st' s' l' (by omega) _ (by omega)]
  simp only [Option.bind_some, impl_AutoUnion.j0, if_true]
  have hu := union_ok n st s l n' st' s' l'
  unfold unionOk at hu ⊢
  by_cases h3 : n = n'
  · rw [if_pos h3, decide_eq_true h3] at *
    cases h1 : autoOkB n st s l
    · simp
    · have g1 := head_of (autoOk_of h1).1
      cases h2 : autoOkB n' st' s' l'
      · simp
      · have g2 := head_of (autoOk_of h2).1
        rw [h1, h2] at hu
        simp only [if_true, Bool.true_and] at hu ⊢
        rw [wrap64_id (n := st + st') (by omega) (by omega)]
        by_cases h4 : st + st' > 31
        · rw [decide_eq_true h4, if_pos rfl, decide_eq_false (show ¬ st + st' ≤ 31 by omega)]; rfl
        · rw [decide_eq_false h4, if_neg (by simp), decide_eq_true (show st + st' ≤ 31 by omega)]
          rw [decide_eq_true (show st + st' ≤ 31 by omega)] at hu
          rw [wrap_u64_id g1.2.1.1 (by omega), if_pos g1.2.1.1, cloneE_eq l (by omega)]
          simp only [Option.bind_some]
          have := impl_AutoUnion_l0 n st s l l' n (st + st') (Go.bits .or .i64 s (shl .i64 s' st)) M hM hl' l'.length k 0 l (by omega) (by omega) (by omega)
          rw [List.drop_zero] at this
          rw [show ((0 : Nat) : Int) = 0 from rfl] at this
          rw [this]
          by_cases h5 : l.length + l'.length ≤ 2000
          · rw [decide_eq_true h5] at hu ⊢
            rw [if_pos (hu rfl)]; rfl
          · rw [decide_eq_false h5, if_neg]
            · rfl
            · simp only [autoOkB, Bool.and_eq_true, decide_eq_true_eq, List.length_append, List.length_map]
              omega
  · rw [if_neg h3, decide_eq_false h3]; simp
end hFnExactAutoUnion
open hFnExactAutoUnion
theorem FnExactAutoUnion : laws_FnExactAutoUnion.Pure := by
  intro n st s l n' st' s' l' hn hst hs hl hw hn' hst' hs' hl' hw'
  obtain ⟨M, hM⟩ : ∃ M, M = 1048576 := ⟨_, rfl⟩
  obtain ⟨K, hK⟩ : ∃ K, K = 8 * M + 1000 := ⟨_, rfl⟩
  refine ⟨K, ?_⟩
  unfold laws_FnExactAutoUnion.f
  rw [szAuto_eq n st s l 1048576 (by omega) (by omega) hl]
  simp only [Option.bind_some]
  by_cases h : (1048576 : Int) < l.length
  · rw [if_pos h, if_pos (by omega)]
  · rw [if_neg h, if_neg (by omega), szAuto_eq n' st' s' l' (1048576 - l.length) (by omega) (by omega) hl']
    simp only [Option.bind_some]
    by_cases h' : (1048576 - l.length : Int) < l'.length
    · rw [if_pos h', if_pos (by omega)]
    · have hm : (l.map convE).length = l.length := List.length_map _
      have hm' : (l'.map convE).length = l'.length := List.length_map _
      have hg := unionA_length n st s (l.map convE) n' st' s' (l'.map convE)
      have e1 : ∀ k : Nat, M + 1 < k → laws_toAuto.f k n st s l = some (n, st, s, l.map convE) := fun k hk => toAuto_eq n st s l (by omega) k (by omega)
      have e2 : ∀ k : Nat, M + 1 < k → laws_toAuto.f k n' st' s' l' = some (n', st', s', l'.map convE) := fun k hk => toAuto_eq n' st' s' l' (by omega) k (by omega)
      rw [if_neg h', if_neg (by omega), e1 K (by omega), e2 K (by omega)]
      simp only [Option.bind_some]
      rw [spec_AutoUnion_eq _ _ _ _ _ _ _ _ (by omega) (by omega) K (by omega), impl_AutoUnion_eq _ _ _ _ _ _ _ _ M (by omega) (by omega) (by omega) K (by omega)]
      simp only [Option.bind_some]
      rw [eqAuto_eq _ _ _ _ _ _ _ _ (by omega) K (by omega)]
      obtain ⟨k, rfl⟩ : ∃ m, K = m + 1 + 1 + 1 := ⟨K - 3, by omega⟩
      simp only [Option.bind_some, decide_true, if_true, bne_self_eq_false, laws_FnExactAutoUnion.j0, Bool.false_eq_true, if_false]
      rw [e1 _ (by omega), e2 _ (by omega)]
      simp only [Option.bind_some]
      rw [eqAuto_eq _ _ _ _ _ _ _ _ (by omega) _ (by omega), eqAuto_eq _ _ _ _ _ _ _ _ (by omega) _ (by omega)]
      simp only [Option.bind_some, decide_true, if_true]
      rw [markAuto_eq _ _ _ _ 1 (by omega) (by omega) (by omega) _ (by omega)]
      simp only [Option.bind_some]
      rw [markAuto_eq _ _ _ _ _ (by omega) (by omega) (by omega) _ (by omega)]
      simp only [Option.bind_some]
      rw [if_neg (by omega), eqAuto_eq _ _ _ _ _ _ _ _ (by omega) _ (by omega)]
      simp only [Option.bind_some, decide_true, if_true, laws_FnExactAutoUnion.j1, Bool.false_eq_true, if_false]
      rw [markAuto_eq _ _ _ _ 1 (by omega) (by omega) (by omega) _ (by omega)]
      simp only [Option.bind_some]
      rw [heldAuto_eq _ _ _ _ 1 (by omega) (by omega) (by omega) _ (by omega)]
      simp only [Option.bind_some]
      rw [if_neg (by omega), if_pos trivial, e1 _ (by omega), e2 _ (by omega)]
      simp only [Option.bind_some]
      rw [impl_AutoUnion_eq _ _ _ _ _ _ _ _ M (by omega) (by omega) (by omega) _ (by omega)]
      simp only [Option.bind_some]
      rw [eqAuto_eq _ _ _ _ _ _ _ _ (by omega) _ (by omega)]
      simp only [Option.bind_some, decide_true, if_true, laws_FnExactAutoUnion.j2, bne_self_eq_false, Bool.false_eq_true, if_false]
      rw [heldAuto_eq _ _ _ _ 1 (by omega) (by omega) (by omega) _ (by omega)]
      simp only [Option.bind_some]
      rw [if_neg (by omega), if_pos trivial]
end Go.Proofs.Ytlallflpicgcmaa.Pure
