/- What the printed functions of FnExactGenOk come to, one lemma a function, and from these the law: for all arguments (within the bounds that the printed statement names) it answers true. -/
import Derived.Test.YtlallflpicgcmaaMFnExactGenOkx6
import Derived.Test.YtlallflpicgcmaaBase
import Derived.Test.YtlallflpicgcmaaBaseA
import Derived.Test.YtlallflpicgcmaaBaseL
import Derived.Test.YtlallflpicgcmaaBaseS
namespace Go.Proofs.Ytlallflpicgcmaa.Pure
open Go.RowKit Go.Proofs.Ytlallflpicgcmaa.MFnExactGenOk Go.Proofs.YtlallflpicgcmaaW.PrintWords Go.Proofs.YtlallflpicgcmaaW.PrintLast Go.Proofs.Ytlallflpicgcmaa.Base

namespace hFnExactGenOk
theorem spec_l1In_eq (a b c : Int) : spec_l1In.f a b c = some (inR a b c) := by
  unfold spec_l1In.f inR
  by_cases h : a ≥ b
  · rw [if_pos h]; simp [show b ≤ a from h]
  · rw [if_neg h]; simp; omega
theorem impl_inRange_eq (a b c : Int) : impl_inRange.f a b c = some (inR a b c) := by
  unfold impl_inRange.f inR
  by_cases h : a ≥ b
  · rw [if_pos h]; simp [show b ≤ a from h]
  · rw [if_neg h]; simp; omega
theorem spec_SetOk_eq (s : Int) : spec_SetOk.f s = some (okB s) := by
  simp only [spec_SetOk.f, spec_l1In_eq, Option.bind_some, okB]
theorem impl_SetOk_eq (s : Int) : impl_SetOk.f s = some (okB s) := by
  simp only [impl_SetOk.f, impl_inRange_eq, Option.bind_some, okB]
theorem impl_only_eq (i : Int) (h0 : 0 ≤ i) (h1 : i ≤ 62) : impl_only.f i = some (bitZ i) := by
  obtain ⟨n, rfl⟩ := Int.eq_ofNat_of_zero_le h0
  unfold impl_only.f
  rw [wrap_u64_id h0 (by omega), if_pos h0, shl_one n (by omega)]
theorem spec_SetIn_eq (a b : Int) : spec_SetIn.f a b = some (okB a && okB b && (Go.bits .and .i64 a b == a)) := by
  unfold spec_SetIn.f
  rw [spec_SetOk_eq, spec_SetOk_eq]
  simp only [Option.bind_some]
  cases okB a <;> cases okB b <;> simp
theorem impl_isLetters_eq (n : Int) : impl_isLetters.f n = some (inR n 1 8) := by
  unfold impl_isLetters.f
  rw [impl_inRange_eq]; rfl
theorem spec_l4State_eq (x n : Int) (h0 : -1000 ≤ n) (h1 : n ≤ 1000) : spec_l4State.f x n = some (inR x 0 (n - 1)) := by
  unfold spec_l4State.f
  rw [wrap64_id (by omega) (by omega), spec_l1In_eq]; rfl
theorem spec_l4Less_eq (a b c : Int) (g : Bool) (a' b' c' : Int) (g' : Bool) : spec_l4Less.f a b c g a' b' c' g' = some (lessK (a, b, c) (a', b', c')) := by
  unfold spec_l4Less.f lessK
  by_cases h : a = a'
  · rw [if_pos h, if_pos h]
    by_cases h' : b = b'
    · rw [if_pos h', if_pos h']
    · rw [if_neg h', if_neg h']
  · rw [if_neg h, if_neg h]
theorem spec_l5Less_eq (a b c g a' b' c' g' : Int) : spec_l5Less.f a b c g a' b' c' g' = some (lessK (a, b, c) (a', b', c')) := by
  unfold spec_l5Less.f
  rw [spec_l4Less_eq]; rfl
theorem cmp_Compare_eq (a b : Int) : cmp_Compare_int.f a b = some (cmpZ a b) := by
  unfold cmp_Compare_int.f cmp_isNaN_int.f cmpZ
  simp only [Option.bind_some, bne_self_eq_false, Bool.false_eq_true, if_false]
  by_cases h : a < b
  · rw [if_pos h, if_pos h]
  · rw [if_neg h, if_neg h]
    by_cases h' : a > b
    · rw [if_pos h', if_pos h']
    · rw [if_neg h', if_neg h']
theorem cmp_Or_eq (a b c : Int) (k : Nat) (hk : 3 < k) : cmp_Or_int.f k [a, b, c] = some (orZ a b c) := by
  unfold cmp_Or_int.f orZ
  obtain ⟨k, rfl⟩ : ∃ m, k = m + 4 := ⟨k - 4, by omega⟩
  have e0 : rd [a, b, c] 0 = a := rfl
  have e1 : rd [a, b, c] 1 = b := rfl
  have e2 : rd [a, b, c] 2 = c := rfl
  have w0 : wrap64 (0 + 1) = 1 := by rw [wrap64_id (by omega) (by omega)]; rfl
  have w1 : wrap64 (1 + 1) = 2 := by rw [wrap64_id (by omega) (by omega)]; rfl
  have w2 : wrap64 (2 + 1) = 3 := by rw [wrap64_id (by omega) (by omega)]; rfl
  have l3 : (([a, b, c].length : Nat) : Int) = 3 := rfl
  rw [l3]
  simp only [cmp_Or_int.l0, e0, e1, e2, w0, w1, w2, l3]
  by_cases ha : a = 0
  · by_cases hb : b = 0
    · by_cases hc : c = 0
      · simp [ha, hb, hc]
      · simp [ha, hb, hc]
    · simp [ha, hb]
  · simp [ha]
theorem impl_compareGEdges_eq (a b c g a' b' c' g' : Int) (k : Nat) (hk : 3 < k) : impl_compareGEdges.f k a b c g a' b' c' g' = some (cmpK (a, b, c) (a', b', c')) := by
  unfold impl_compareGEdges.f
  simp only [cmp_Compare_eq, Option.bind_some, cmp_Or_eq _ _ _ k hk]
  rfl
theorem impl_headOk_eq (n st s : Int) : impl_headOk.f n st s = some (headB n st s) := by
  unfold impl_headOk.f headB
  rw [impl_isLetters_eq, impl_inRange_eq, impl_SetOk_eq]
  simp only [Option.bind_some]
  by_cases h1 : inR n 1 8 = true
  · rw [if_pos h1, h1]
    by_cases h2 : inR st 0 31 = true
    · have h2' := inR_iff.1 h2
      have hb := bitZ_le31 h2'.2
      rw [if_pos h2, h2, impl_only_eq st h2'.1 (by omega)]
      simp only [Option.bind_some, Bool.true_and]
      by_cases h3 : okB s = true
      · have h3' := inR_iff.1 h3
        rw [if_pos h3]
        congr 1
        rw [Bool.eq_iff_iff]
        simp only [decide_eq_true_eq, inR_iff]
        omega
      · rw [if_neg h3]
        congr 1
        simp only [okB, inR_iff] at h3
        symm
        rw [inR_false]
        omega
    · rw [if_neg h2]; simp at h2; rw [h2]; rfl
  · rw [if_neg h1]; simp at h1; rw [h1]; rfl
deriving instance DecidableEq for S94
theorem rdG_at {l : List S94} {i : Nat} (h : i < l.length) : rd_T94 l (i : Int) = l[i] := by
  simp [rd_T94, List.getD_eq_getElem?_getD, List.getElem?_eq_getElem h]
theorem rdG_set {l : List S94} {i : Nat} (h : i < l.length) (v : S94) : rd_T94 (l.set i v) (i : Int) = v := by
  rw [rdG_at (by rw [List.length_set]; exact h), List.getElem_set_self]
theorem eqGEdge_eq (a b : S94) : laws_eqGEdge.f a.f0 a.f1 a.f2 a.f3 b.f0 b.f1 b.f2 b.f3 = some (decide (a = b)) := by
  unfold laws_eqGEdge.f
  obtain ⟨a0, a1, a2, a3⟩ := a
  obtain ⟨b0, b1, b2, b3⟩ := b
  by_cases h0 : a0 = b0 <;> by_cases h1 : a1 = b1 <;> by_cases h2 : a2 = b2 <;> by_cases h3 : a3 = b3 <;> simp [h0, h1, h2, h3]
theorem eqGEdgeS_l0 (a b : List S94) (hab : a.length = b.length) (hl : a.length ≤ 1099511627776) (d : Nat) : ∀ (k i : Nat), i + d = a.length → d < k → laws_eqGEdgeS.l0 k a b (i : Int) = some (decide (a.drop i = b.drop i)) := by
  induction d with
  | zero =>
    intro k i hi hk
    obtain ⟨k, rfl⟩ := succ_of hk
    simp only [laws_eqGEdgeS.l0]
    rw [if_neg (by omega), List.drop_eq_nil_of_le (by omega), List.drop_eq_nil_of_le (by omega)]
    simp
  | succ d ih =>
    intro k i hi hk
    obtain ⟨k, rfl⟩ := succ_of hk
    simp only [laws_eqGEdgeS.l0]
    rw [if_pos (by omega), if_pos (by omega), if_pos (by omega), rdG_at (by omega), rdG_at (by omega), wrap64_succ (by omega), eqGEdge_eq]
    rw [drop_cons (l := a) (i := i) (by omega), drop_cons (l := b) (i := i) (by omega)]
    simp only [Option.bind_some]
    by_cases h : a[i] = b[i]
    · rw [decide_eq_true h, if_pos rfl, ih k (i + 1) (by omega) (by omega), h]
      congr 1
      exact decide_eq_decide.2 ⟨fun e => by rw [e], fun e => (List.cons.inj e).2⟩
    · rw [decide_eq_false h, if_neg (by simp)]
      congr 1
      exact (decide_eq_false (fun e => h (List.cons.inj e).1)).symm
theorem eqGEdgeS_eq (a b : List S94) (hl : a.length ≤ 1099511627776) (k : Nat) (hk : a.length < k) : laws_eqGEdgeS.f k a b = some (decide (a = b)) := by
  unfold laws_eqGEdgeS.f
  by_cases h : a.length = b.length
  · rw [if_pos (by omega)]
    exact eqGEdgeS_l0 a b h hl a.length k 0 (by omega) hk
  · rw [if_neg (by omega)]
    have : a ≠ b := fun e => h (by rw [e])
    simp [this]
theorem szGEdgeS_eq (l : List S118) (a : Int) (h0 : 0 ≤ a) (h1 : a ≤ 1048576) (hl : l.length ≤ 9223372036854775807) : laws_szGEdgeS.f l a = some (if a < l.length then -1 else a - l.length) := by
  unfold laws_szGEdgeS.f
  rw [wrap64_id (by omega) (by omega)]
  by_cases h : a < (l.length : Int)
  · rw [if_pos (by omega), if_pos h]
  · rw [if_neg (by omega), if_neg h]
def convG (e : S118) : S94 := ⟨e.f0, e.f1, e.f2, e.f3⟩
theorem rdGP_at {l : List S118} {i : Nat} (h : i < l.length) : rd_T118 l (i : Int) = l[i] := by
  simp [rd_T118, List.getD_eq_getElem?_getD, List.getElem?_eq_getElem h]
theorem toGEdgeS_l0 (l : List S118) (hl : l.length ≤ 1099511627776) (d : Nat) : ∀ (k i : Nat) (rest : List S94), i + d = l.length → rest.length = d → d < k → laws_toGEdgeS.l0 k l ((l.map convG).take i ++ rest) (i : Int) = some (l.map convG) := by
  induction d with
  | zero =>
    intro k i rest hi hr hk
    obtain ⟨k, rfl⟩ := succ_of hk
    simp only [laws_toGEdgeS.l0]
    rw [if_neg (by omega), List.eq_nil_of_length_eq_zero hr, List.append_nil, List.take_of_length_le (by rw [List.length_map]; omega)]
  | succ d ih =>
    intro k i rest hi hr hk
    obtain ⟨k, rfl⟩ := succ_of hk
    simp only [laws_toGEdgeS.l0]
    have hll : ((l.map convG).take i ++ rest).length = l.length := by rw [List.length_append, List.length_take, List.length_map]; omega
    have hm : (l.map convG).length = l.length := List.length_map _
    rw [if_pos (by omega), if_pos (by omega), rdGP_at (by omega), wrap64_succ (by omega)]
    simp only [laws_toGEdge.f, Option.bind_some]
    rw [if_pos (by omega)]
    have e : (⟨l[i].f0, l[i].f1, l[i].f2, l[i].f3⟩ : S94) = (l.map convG)[i] := by rw [List.getElem_map]; rfl
    rw [show ((i : Int)).toNat = i from rfl, e, take_set_drop (by omega) (by omega)]
    exact ih k (i + 1) rest.tail (by omega) (by rw [List.length_tail]; omega) (by omega)
theorem toGEdgeS_eq (l : List S118) (hl : l.length ≤ 1099511627776) (k : Nat) (hk : l.length < k) : laws_toGEdgeS.f k l = some (l.map convG) := by
  unfold laws_toGEdgeS.f
  rw [if_pos (by omega), if_pos (by simp; omega)]
  exact toGEdgeS_l0 l hl l.length k 0 _ (by omega) (by simp) hk
theorem eqGen_eq (a b c d : Int) (l : List S94) (a' b' c' d' : Int) (l' : List S94) (hl : l.length ≤ 1099511627776) (k : Nat) (hk : l.length < k) :
    laws_eqGen.f k a b c d l a' b' c' d' l' = some (decide ((a, b, c, d, l) = (a', b', c', d', l'))) := by
  unfold laws_eqGen.f
  rw [eqGEdgeS_eq l l' hl k hk]
  by_cases h0 : a = a' <;> by_cases h1 : b = b' <;> by_cases h2 : c = c' <;> by_cases h3 : d = d' <;> by_cases h4 : l = l' <;> simp [h0, h1, h2, h3, h4]
theorem szGen_eq (p q s c : Int) (l : List S118) (a : Int) (h0 : 0 ≤ a) (h1 : a ≤ 1048576) (hl : l.length ≤ 9223372036854775807) : laws_szGen.f p q s c l a = some (if a < l.length then -1 else a - l.length) := by
  unfold laws_szGen.f
  rw [szGEdgeS_eq l a h0 h1 hl]
  simp only [Option.bind_some]
  by_cases h : a < (l.length : Int)
  · rw [if_pos h, if_pos (by omega)]
  · rw [if_neg h, if_neg (by omega)]
theorem toGen_eq (p q s c : Int) (l : List S118) (hl : l.length ≤ 1099511627776) (k : Nat) (hk : l.length < k) : laws_toGen.f k p q s c l = some (p, q, s, c, l.map convG) := by
  unfold laws_toGen.f
  rw [toGEdgeS_eq l hl k hk]; rfl
def keyG (e : S94) : Key := (e.f0, e.f1, e.f2)
def marksOk (c : Int) (e : S94) : Bool := inR e.f3 0 (bitZ c - 1)
/-- A right general automaton. -/
def genOkB (n st s c : Int) (l : List S94) : Bool := headB n st s && (inR c 0 4 && (decide (l.length ≤ 2000) && edgesB keyG (marksOk c) n st none l))
theorem genOk_of {n st s c : Int} {l : List S94} (h : genOkB n st s c l = true) : headB n st s = true ∧ inR c 0 4 = true ∧ l.length ≤ 2000 ∧ edgesB keyG (marksOk c) n st none l = true := by
  simpa only [genOkB, Bool.and_eq_true, decide_eq_true_eq] using h
theorem spec_GenOk_l0 (n st s c : Int) (l : List S94) (h0 : 0 ≤ n) (h1 : n ≤ 8) (h2 : 0 ≤ st) (h3 : st ≤ 31) (hc0 : 0 ≤ c) (hc1 : c ≤ 4) (hl : l.length ≤ 1099511627776) (d : Nat) : ∀ (k i : Nat), i + d = l.length → d < k → spec_GenOk.l0 k (i : Int) n st s c l = some (edgesB keyG (marksOk c) n st (prevOf l i) (l.drop i)) := by
  induction d with
  | zero =>
    intro k i hi hk
    obtain ⟨k, rfl⟩ := succ_of hk
    simp only [spec_GenOk.l0]
    rw [if_neg (by omega), List.drop_eq_nil_of_le (by omega)]
    rfl
  | succ d ih =>
    intro k i hi hk
    obtain ⟨k, rfl⟩ := succ_of hk
    simp only [spec_GenOk.l0]
    have hb := bitZ_le31 (i := c) (by omega)
    have hp := bitZ_pos c
    have hsh : shl .i64 1 c = bitZ c := by
      obtain ⟨m, rfl⟩ := Int.eq_ofNat_of_zero_le hc0
      exact shl_one m (by omega)
    rw [if_pos (by omega), if_pos (by omega), rdG_at (by omega), spec_l4State_eq _ _ (by omega) (by omega), spec_l4State_eq _ _ (by omega) (by omega), spec_l1In_eq, wrap64_id (n := n - 1) (by omega) (by omega), wrap64_succ (by omega), drop_cons (l := l) (i := i) (by omega), if_pos hc0, hsh, wrap64_id (n := bitZ c - 1) (by omega) (by omega), spec_SetIn_eq, in_mask _ c hc0 (by omega)]
    simp only [Option.bind_some, edgesB, stOk, keyG, marksOk]
    have ih' := ih k (i + 1) (by omega) (by omega)
    rw [prevOf_succ l i (by omega)] at ih'
    cases e1 : inR l[i].f0 0 (st - 1)
    · simp
    · cases e2 : inR l[i].f2 0 (st - 1)
      · simp
      · cases e3 : inR l[i].f1 0 (n - 1)
        · simp
        · cases e5 : inR l[i].f3 0 (bitZ c - 1)
          · simp
          · simp only [if_true, Bool.true_and]
            cases i with
            | zero => rw [if_neg (by omega), ih']; simp only [prevOf, aheadK, Bool.true_and]
            | succ j =>
              have ej : wrap64 (((j + 1 : Nat) : Int) - 1) = (j : Int) := by rw [wrap64_id (by omega) (by omega)]; omega
              rw [if_pos (by omega), ej, if_pos (by omega), if_pos (by omega), rdG_at (by omega), spec_l5Less_eq, prevOf_succ l j (by omega)]
              simp only [Option.bind_some, aheadK, keyG]
              cases e4 : lessK (l[j].f0, l[j].f1, l[j].f2) (l[j + 1].f0, l[j + 1].f1, l[j + 1].f2)
              · simp
              · simp only [if_true, Bool.true_and]; exact ih'
theorem spec_GenOk_eq (n st s c : Int) (l : List S94) (hl : l.length ≤ 1099511627776) (k : Nat) (hk : l.length + 1 < k) : spec_GenOk.f k n st s c l = some (genOkB n st s c l) := by
  unfold spec_GenOk.f genOkB headB
  obtain ⟨k, rfl⟩ := succ_of hk
  rw [spec_l1In_eq, spec_l1In_eq, spec_l1In_eq]
  simp only [Option.bind_some, spec_GenOk.j0, if_true]
  cases e1 : inR n 1 8
  · simp
  · have h1 := inR_iff.1 e1
    cases e2 : inR st 0 31
    · simp
    · have h2 := inR_iff.1 e2
      have hb := bitZ_le31 h2.2
      have hp := bitZ_pos st
      obtain ⟨m, rfl⟩ := Int.eq_ofNat_of_zero_le h2.1
      simp only [if_true, Bool.true_and]
      rw [if_pos h2.1, shl_one m (by omega), wrap64_id (by omega) (by omega), spec_SetIn_eq, in_mask s m h2.1 h2.2]
      simp only [Option.bind_some]
      cases e3 : inR s 0 (bitZ m - 1)
      · simp
      · cases e4 : inR c 0 4
        · simp
        · have h3 := inR_iff.1 e4
          simp only [if_true, Bool.true_and]
          by_cases h4 : (l.length : Int) > 2000
          · rw [decide_eq_true h4, if_pos rfl, decide_eq_false (by omega)]; rfl
          · rw [decide_eq_false h4, if_neg (by simp), decide_eq_true (by omega)]
            exact spec_GenOk_l0 n m s c l (by omega) (by omega) h2.1 h2.2 h3.1 h3.2 hl l.length k 0 (by omega) (by omega)
theorem impl_GenOk_l0 (n st s c : Int) (l : List S94) (h0 : 0 ≤ n) (h1 : n ≤ 8) (h2 : 0 ≤ st) (h3 : st ≤ 31) (hc0 : 0 ≤ c) (hc1 : c ≤ 4) (hl : l.length ≤ 1099511627776) (d : Nat) : ∀ (k i : Nat), i + d = l.length → 2 * d + 10 < k → impl_GenOk.l0 k l (l.length : Int) (i : Int) n st s c l = some (edgesB keyG (marksOk c) n st (prevOf l i) (l.drop i)) := by
  induction d with
  | zero =>
    intro k i hi hk
    obtain ⟨k, rfl⟩ := succ_of hk
    simp only [impl_GenOk.l0]
    rw [if_neg (by omega), List.drop_eq_nil_of_le (by omega)]
    rfl
  | succ d ih =>
    intro k i hi hk
    obtain ⟨k, rfl⟩ : ∃ m, k = m + 1 + 1 := ⟨k - 2, by omega⟩
    have hb := bitZ_le31 (i := c) (by omega)
    have hp := bitZ_pos c
    simp only [impl_GenOk.l0]
    rw [if_pos (by omega), if_pos (by omega), if_pos (by omega), rdG_at (by omega), impl_inRange_eq, impl_inRange_eq, impl_inRange_eq, wrap64_id (n := st - 1) (by omega) (by omega), wrap64_id (n := n - 1) (by omega) (by omega), drop_cons (l := l) (i := i) (by omega)]
    simp only [Option.bind_some, edgesB, stOk, keyG, marksOk, impl_GenOk.j2, if_true]
    have ih' := ih k (i + 1) (by omega) (by omega)
    rw [prevOf_succ l i (by omega)] at ih'
    cases e1 : inR l[i].f0 0 (st - 1)
    · simp
    · cases e2 : inR l[i].f2 0 (st - 1)
      · simp
      · cases e3 : inR l[i].f1 0 (n - 1)
        · simp
        · simp only [if_true, Bool.true_and, Bool.not_true, Bool.false_eq_true, if_false]
          rw [wrap64_succ (by omega), impl_only_eq c hc0 (by omega)]
          simp only [Option.bind_some]
          rw [impl_inRange_eq, wrap64_id (n := bitZ c - 1) (by omega) (by omega)]
          simp only [Option.bind_some]
          cases e5 : inR l[i].f3 0 (bitZ c - 1)
          · simp
          · simp only [if_true, Bool.true_and]
            cases i with
            | zero => rw [if_neg (by omega), ih']; simp only [prevOf, aheadK, Bool.true_and]
            | succ j =>
              have ej : wrap64 (((j + 1 : Nat) : Int) - 1) = (j : Int) := by rw [wrap64_id (by omega) (by omega)]; omega
              rw [if_pos (by omega), ej, if_pos (by omega), if_pos (by omega), rdG_at (by omega), impl_compareGEdges_eq _ _ _ _ _ _ _ _ k (by omega), prevOf_succ l j (by omega)]
              simp only [Option.bind_some, aheadK, keyG]
              by_cases e4 : lessK (l[j].f0, l[j].f1, l[j].f2) (l[j + 1].f0, l[j + 1].f1, l[j + 1].f2) = true
              · rw [if_neg (fun h => (cmpK_neg _ _).1 h e4), e4]
                simp only [Bool.true_and]; exact ih'
              · rw [if_pos ((cmpK_neg _ _).2 e4)]
                simp at e4; rw [e4]; rfl
theorem impl_GenOk_eq (n st s c : Int) (l : List S94) (hl : l.length ≤ 1099511627776) (k : Nat) (hk : 2 * l.length + 20 < k) : impl_GenOk.f k n st s c l = some (genOkB n st s c l) := by
  unfold impl_GenOk.f genOkB
  obtain ⟨k, rfl⟩ := succ_of hk
  rw [impl_headOk_eq, impl_inRange_eq]
  simp only [Option.bind_some, impl_GenOk.j0, if_true]
  cases e1 : headB n st s
  · simp
  · have h := head_of e1
    cases e4 : inR c 0 4
    · simp
    · have h3 := inR_iff.1 e4
      simp only [if_true, Bool.true_and]
      by_cases h4 : (l.length : Int) > 2000
      · rw [decide_eq_true h4, if_pos rfl, decide_eq_false (by omega)]; rfl
      · rw [decide_eq_false h4, if_neg (by simp), decide_eq_true (by omega)]
        exact impl_GenOk_l0 n st s c l (by omega) (by omega) h.2.1.1 h.2.1.2 h3.1 h3.2 hl l.length k 0 (by omega) (by omega)
end hFnExactGenOk
open hFnExactGenOk
theorem FnExactGenOk : laws_FnExactGenOk.Pure := by
  intro n st s c l hn hst hs hc hl hw
  obtain ⟨K, hK⟩ : ∃ K, K = 2 * l.length + 1000 := ⟨_, rfl⟩
  refine ⟨K, ?_⟩
  unfold laws_FnExactGenOk.f
  rw [szGen_eq n st s c l 1048576 (by omega) (by omega) hl]
  simp only [Option.bind_some]
  by_cases h : (1048576 : Int) < l.length
  · rw [if_pos h, if_pos (by omega)]
  · rw [if_neg h, if_neg (by omega), toGen_eq n st s c l (by omega) K (by omega)]
    have hm : (l.map convG).length = l.length := List.length_map _
    simp only [Option.bind_some]
    rw [spec_GenOk_eq n st s c _ (by omega) K (by omega)]
    simp only [Option.bind_some]
    rw [impl_GenOk_eq n st s c _ (by omega) K (by omega)]
    simp only [Option.bind_some, bne_self_eq_false, Bool.false_eq_true, if_false]
    rw [eqGen_eq _ _ _ _ _ _ _ _ _ _ (by omega) K (by omega)]
    simp
end Go.Proofs.Ytlallflpicgcmaa.Pure
