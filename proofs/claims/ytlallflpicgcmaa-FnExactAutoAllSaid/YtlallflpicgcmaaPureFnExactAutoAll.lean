/- What the printed functions of FnExactAutoAll come to, one lemma a function, and from these the law: for all arguments (within the bounds that the printed statement names) it answers true. -/
import Derived.Test.YtlallflpicgcmaaMFnExactAutoAllx3
import Derived.Test.YtlallflpicgcmaaBase
import Derived.Test.YtlallflpicgcmaaBaseL
import Derived.Test.YtlallflpicgcmaaBaseS
namespace Go.Proofs.Ytlallflpicgcmaa.Pure
open Go.RowKit Go.Proofs.Ytlallflpicgcmaa.MFnExactAutoAll Go.Proofs.YtlallflpicgcmaaW.PrintWords Go.Proofs.YtlallflpicgcmaaW.PrintLast Go.Proofs.Ytlallflpicgcmaa.Base

namespace hFnExactAutoAll
theorem spec_l1In_eq (a b c : Int) : spec_l1In.f a b c = some (inR a b c) := by
  unfold spec_l1In.f inR
  by_cases h : a ≥ b
  · rw [if_pos h]; simp [show b ≤ a from h]
  · rw [if_neg h]; simp; omega
theorem impl_inRange_eq (a b c : Int) : impl_inRange.f a b c = some (inR a b c) := by
  unfold impl_inRange.f inR
  by_cases h : a ≥ b
  · rw [if_pos h]; simp [show b ≤ a from h]
  · rw [if_neg h]; simp; omega
theorem impl_isLetters_eq (n : Int) : impl_isLetters.f n = some (inR n 1 8) := by
  unfold impl_isLetters.f
  rw [impl_inRange_eq]; rfl
deriving instance DecidableEq for S68
theorem rdE_at {l : List S68} {i : Nat} (h : i < l.length) : rd_T68 l (i : Int) = l[i] := by
  simp [rd_T68, List.getD_eq_getElem?_getD, List.getElem?_eq_getElem h]
theorem rdE_set {l : List S68} {i : Nat} (h : i < l.length) (v : S68) : rd_T68 (l.set i v) (i : Int) = v := by
  rw [rdE_at (by rw [List.length_set]; exact h), List.getElem_set_self]
theorem eqEdge_eq (a b : S68) : laws_eqEdge.f a.f0 a.f1 a.f2 a.f3 b.f0 b.f1 b.f2 b.f3 = some (decide (a = b)) := by
  unfold laws_eqEdge.f
  obtain ⟨a0, a1, a2, a3⟩ := a
  obtain ⟨b0, b1, b2, b3⟩ := b
  by_cases h0 : a0 = b0 <;> by_cases h1 : a1 = b1 <;> by_cases h2 : a2 = b2 <;> by_cases h3 : a3 = b3 <;> simp [h0, h1, h2, h3]
theorem eqEdgeS_l0 (a b : List S68) (hab : a.length = b.length) (hl : a.length ≤ 1099511627776) (d : Nat) : ∀ (k i : Nat), i + d = a.length → d < k → laws_eqEdgeS.l0 k a b (i : Int) = some (decide (a.drop i = b.drop i)) := by
  induction d with
  | zero =>
    intro k i hi hk
    obtain ⟨k, rfl⟩ := succ_of hk
    simp only [laws_eqEdgeS.l0]
    rw [if_neg (by omega), List.drop_eq_nil_of_le (by omega), List.drop_eq_nil_of_le (by omega)]
    simp
  | succ d ih =>
    intro k i hi hk
    obtain ⟨k, rfl⟩ := succ_of hk
    simp only [laws_eqEdgeS.l0]
    rw [if_pos (by omega), if_pos (by omega), if_pos (by omega), rdE_at (by omega), rdE_at (by omega), wrap64_succ (by omega), eqEdge_eq]
    rw [drop_cons (l := a) (i := i) (by omega), drop_cons (l := b) (i := i) (by omega)]
    simp only [Option.bind_some]
    by_cases h : a[i] = b[i]
    · rw [decide_eq_true h, if_pos rfl, ih k (i + 1) (by omega) (by omega), h]
      congr 1
      exact decide_eq_decide.2 ⟨fun e => by rw [e], fun e => (List.cons.inj e).2⟩
    · rw [decide_eq_false h, if_neg (by simp)]
      congr 1
      exact (decide_eq_false (fun e => h (List.cons.inj e).1)).symm
theorem eqEdgeS_eq (a b : List S68) (hl : a.length ≤ 1099511627776) (k : Nat) (hk : a.length < k) : laws_eqEdgeS.f k a b = some (decide (a = b)) := by
  unfold laws_eqEdgeS.f
  by_cases h : a.length = b.length
  · rw [if_pos (by omega)]
    exact eqEdgeS_l0 a b h hl a.length k 0 (by omega) hk
  · rw [if_neg (by omega)]
    have : a ≠ b := fun e => h (by rw [e])
    simp [this]
theorem eqAuto_eq (a b c : Int) (l : List S68) (a' b' c' : Int) (l' : List S68) (hl : l.length ≤ 1099511627776) (k : Nat) (hk : l.length < k) :
    laws_eqAuto.f k a b c l a' b' c' l' = some (decide ((a, b, c, l) = (a', b', c', l'))) := by
  unfold laws_eqAuto.f
  rw [eqEdgeS_eq l l' hl k hk]
  by_cases h0 : a = a' <;> by_cases h1 : b = b' <;> by_cases h2 : c = c' <;> by_cases h3 : l = l' <;> simp [h0, h1, h2, h3]
/-- n marked edges, from a on. -/
def seqE : Int → Nat → List S68
  | _, 0 => []
  | a, n + 1 => ⟨a, a + 1, a + 2, ((Int.tmod (a + 3) 3) == 0)⟩ :: seqE (a + 4) n
theorem seqE_length (a : Int) (n : Nat) : (seqE a n).length = n := by
  induction n generalizing a with
  | zero => rfl
  | succ n ih => simp [seqE, ih]
theorem seqE_at (a : Int) (n i : Nat) (h : i < n) : (seqE a n)[i]'(by rw [seqE_length]; exact h) = ⟨a + 4 * i, a + 4 * i + 1, a + 4 * i + 2, ((Int.tmod (a + 4 * i + 3) 3) == 0)⟩ := by
  induction n generalizing a i with
  | zero => omega
  | succ n ih =>
    cases i with
    | zero => simp [seqE]
    | succ i =>
      simp only [seqE, List.getElem_cons_succ]
      rw [ih (a + 4) i (by omega)]
      have e : a + 4 + 4 * (i : Int) = a + 4 * ((i + 1 : Nat) : Int) := by omega
      rw [e]
theorem markEdgeS_l0 (d : Nat) : ∀ (k i : Nat) (x : List S68) (a : Int), i + d = x.length → d < k → 0 ≤ a → a + 4 * d ≤ 4611686018427387904 → x.length ≤ 1099511627776 →
    laws_markEdgeS.l0 k x a (i : Int) = some (a + 4 * d, x.take i ++ seqE a d) := by
  induction d with
  | zero =>
    intro k i x a hi hk h0 h1 h2
    obtain ⟨k, rfl⟩ := succ_of hk
    simp only [laws_markEdgeS.l0]
    rw [if_neg (by omega), List.take_of_length_le (by omega)]
    simp [seqE]
  | succ d ih =>
    intro k i x a hi hk h0 h1 h2
    obtain ⟨k, rfl⟩ := succ_of hk
    simp only [laws_markEdgeS.l0]
    rw [if_pos (by omega), if_pos (by omega)]
    simp only [Option.bind_some]
    rw [wrap64_succ (by omega), wrap64_id (n := a + 1) (by omega) (by omega), wrap64_id (n := a + 1 + 1) (by omega) (by omega), wrap64_id (n := a + 1 + 1 + 1) (by omega) (by omega), wrap64_id (n := a + 1 + 1 + 1 + 1) (by omega) (by omega)]
    rw [show ((i : Int)).toNat = i from rfl]
    simp only [rdE_set (l := x) (i := i) (by omega), List.set_set]
    rw [ih k (i + 1) _ (a + 1 + 1 + 1 + 1) (by rw [List.length_set]; omega) (by omega) (by omega) (by omega) (by rw [List.length_set]; omega)]
    rw [take_set_self (by omega)]
    simp only [seqE, List.append_assoc, List.singleton_append]
    rw [show a + 1 + 1 + 1 + 1 = a + 4 by omega, show a + 1 + 1 + 1 = a + 3 by omega, show a + 1 + 1 = a + 2 by omega]
    congr 2
    omega
theorem markEdgeS_eq (x : List S68) (a : Int) (h0 : 0 ≤ a) (h1 : a ≤ 1099511627776) (h2 : x.length ≤ 1099511627776) (k : Nat) (hk : x.length < k) : laws_markEdgeS.f k x a = some (a + 4 * x.length, seqE a x.length) := by
  unfold laws_markEdgeS.f
  have := markEdgeS_l0 x.length k 0 x a (by omega) hk h0 (by omega) h2
  simpa using this
theorem markAuto_eq (p q r : Int) (x : List S68) (a : Int) (h0 : 0 ≤ a) (h1 : a ≤ 1099511627776) (h2 : x.length ≤ 1099511627776) (k : Nat) (hk : x.length < k) : laws_markAuto.f k p q r x a = some (a + 4 * x.length, seqE a x.length) := by
  unfold laws_markAuto.f
  rw [markEdgeS_eq x a h0 h1 h2 k hk]
  rfl
theorem heldEdgeS_l0 (n : Nat) (b : Int) (hn : n ≤ 1099511627776) (hb0 : 0 ≤ b) (hb : b ≤ 1099511627776) (d : Nat) : ∀ (k i : Nat), i + d = n → d < k → laws_heldEdgeS.l0 k (seqE b n) (b + 4 * i) (i : Int) = some (b + 4 * n) := by
  induction d with
  | zero =>
    intro k i hi hk
    obtain ⟨k, rfl⟩ := succ_of hk
    simp only [laws_heldEdgeS.l0]
    rw [if_neg (by rw [seqE_length]; omega)]
    congr 1; omega
  | succ d ih =>
    intro k i hi hk
    obtain ⟨k, rfl⟩ := succ_of hk
    simp only [laws_heldEdgeS.l0]
    rw [if_pos (by rw [seqE_length]; omega), if_pos (by omega), rdE_at (by rw [seqE_length]; omega), seqE_at b n i (by omega)]
    have a1 : wrap64 (b + 4 * (i : Int) + 1) = b + 4 * (i : Int) + 1 := wrap64_id (by omega) (by omega)
    have a2 : wrap64 (b + 4 * (i : Int) + 1 + 1) = b + 4 * (i : Int) + 2 := by rw [wrap64_id (by omega) (by omega)]; omega
    have a3 : wrap64 (b + 4 * (i : Int) + 2 + 1) = b + 4 * (i : Int) + 3 := by rw [wrap64_id (by omega) (by omega)]; omega
    have a4 : wrap64 (b + 4 * (i : Int) + 3 + 1) = b + 4 * ((i + 1 : Nat) : Int) := by rw [wrap64_id (by omega) (by omega)]; omega
    rw [if_pos rfl, a1, if_pos rfl, a2, if_pos rfl, a3, if_neg (by simp), a4, wrap64_succ (by omega)]
    exact ih k (i + 1) (by omega) (by omega)
theorem heldEdgeS_eq (n : Nat) (b : Int) (hn : n ≤ 1099511627776) (hb0 : 0 ≤ b) (hb : b ≤ 1099511627776) (k : Nat) (hk : n < k) : laws_heldEdgeS.f k (seqE b n) b = some (b + 4 * n) := by
  unfold laws_heldEdgeS.f
  have := heldEdgeS_l0 n b hn hb0 hb n k 0 (by omega) hk
  simpa using this
theorem heldAuto_eq (p q r : Int) (n : Nat) (b : Int) (hn : n ≤ 1099511627776) (hb0 : 0 ≤ b) (hb : b ≤ 1099511627776) (k : Nat) (hk : n < k) : laws_heldAuto.f k p q r (seqE b n) b = some (b + 4 * n) := by
  unfold laws_heldAuto.f
  rw [heldEdgeS_eq n b hn hb0 hb k hk]
  simp only [Option.bind_some]
  rw [if_neg (by omega)]
/-- The edges of a graph of one place that reads all of n letters: those from i on, d of them. -/
def loopsE : Nat → Nat → List S68
  | _, 0 => []
  | i, d + 1 => ⟨0, i, 0, true⟩ :: loopsE (i + 1) d
theorem loopsE_length (i d : Nat) : (loopsE i d).length = d := by
  induction d generalizing i with
  | zero => rfl
  | succ d ih => simp [loopsE, ih]
def autoAll (n : Int) : Int × Int × Int × List S68 := if inR n 1 8 = true then (n, 1, 1, loopsE 0 n.toNat) else (0, 0, 0, [])
theorem spec_AutoAll_l0 (n : Nat) (a b c : Int) (hn : n ≤ 1000) (d : Nat) : ∀ (k i : Nat) (l : List S68), i + d = n → d < k → l.length ≤ 1000 + i → spec_AutoAll.l0 k (n : Int) (i : Int) a b c l = some (a, b, c, l ++ loopsE i d) := by
  induction d with
  | zero =>
    intro k i l hi hk hl
    obtain ⟨k, rfl⟩ := succ_of hk
    simp only [spec_AutoAll.l0]
    rw [if_neg (by omega)]
    simp [loopsE]
  | succ d ih =>
    intro k i l hi hk hl
    obtain ⟨k, rfl⟩ := succ_of hk
    simp only [spec_AutoAll.l0]
    rw [if_pos (by omega), if_pos (by omega), wrap64_succ (by omega), ih k (i + 1) _ (by omega) (by omega) (by simp; omega)]
    simp [loopsE]
theorem spec_AutoAll_eq (n : Int) (k : Nat) (hk : 100 < k) : spec_AutoAll.f k n = some (autoAll n) := by
  unfold spec_AutoAll.f autoAll
  rw [spec_l1In_eq]
  simp only [Option.bind_some]
  by_cases h : inR n 1 8 = true
  · have h' := inR_iff.1 h
    rw [if_pos h, if_pos h]
    have e : ((n.toNat : Nat) : Int) = n := by omega
    have := spec_AutoAll_l0 n.toNat n 1 1 (by omega) n.toNat k 0 [] (by omega) (by omega) (by simp)
    rw [e] at this
    simpa using this
  · rw [if_neg h, if_neg h]
theorem autoAll_length (n : Int) : (autoAll n).2.2.2.length ≤ 8 := by
  unfold autoAll
  by_cases h : inR n 1 8 = true
  · have h' := inR_iff.1 h
    rw [if_pos h]; show (loopsE 0 n.toNat).length ≤ 8
    rw [loopsE_length]; omega
  · rw [if_neg h]; simp
theorem impl_AutoAll_l0 (n : Nat) (a b c : Int) (hn : n ≤ 1000) (d : Nat) : ∀ (k i : Nat) (l : List S68), i + d = n → d < k → l.length ≤ 1000 + i → impl_AutoAll.l0 k (n : Int) (i : Int) a b c l = some (a, b, c, l ++ loopsE i d) := by
  induction d with
  | zero =>
    intro k i l hi hk hl
    obtain ⟨k, rfl⟩ := succ_of hk
    simp only [impl_AutoAll.l0]
    rw [if_neg (by omega)]
    simp [loopsE]
  | succ d ih =>
    intro k i l hi hk hl
    obtain ⟨k, rfl⟩ := succ_of hk
    simp only [impl_AutoAll.l0]
    rw [if_pos (by omega), if_pos (by omega), wrap64_succ (by omega), ih k (i + 1) _ (by omega) (by omega) (by simp; omega)]
    simp [loopsE]
theorem impl_AutoAll_eq (n : Int) (k : Nat) (hk : 100 < k) : impl_AutoAll.f k n = some (autoAll n) := by
  unfold impl_AutoAll.f autoAll
  rw [impl_isLetters_eq]
  simp only [Option.bind_some]
  by_cases h : inR n 1 8 = true
  · have h' := inR_iff.1 h
    rw [if_pos h, if_pos h]
    have e : ((n.toNat : Nat) : Int) = n := by omega
    have := impl_AutoAll_l0 n.toNat n 1 1 (by omega) n.toNat k 0 [] (by omega) (by omega) (by simp)
    rw [e] at this
    simpa using this
  · rw [if_neg h, if_neg h]
end hFnExactAutoAll
open hFnExactAutoAll
theorem FnExactAutoAll : laws_FnExactAutoAll.Pure := by
  intro n _
  obtain ⟨K, hK⟩ : ∃ K, K = 10000 := ⟨_, rfl⟩
  refine ⟨K, ?_⟩
  unfold laws_FnExactAutoAll.f
  have hl := autoAll_length n
  rw [spec_AutoAll_eq n K (by omega), impl_AutoAll_eq n K (by omega)]
  simp only [Option.bind_some]
  rw [eqAuto_eq _ _ _ _ _ _ _ _ (by omega) K (by omega)]
  simp only [Option.bind_some, decide_true, if_true]
  rw [markAuto_eq _ _ _ _ 1 (by omega) (by omega) (by omega) K (by omega)]
  simp only [Option.bind_some]
  rw [heldAuto_eq _ _ _ _ 1 (by omega) (by omega) (by omega) K (by omega)]
  simp only [Option.bind_some]
  rw [if_neg (by omega), if_pos trivial, if_neg (by omega), if_pos trivial]
end Go.Proofs.Ytlallflpicgcmaa.Pure
