/- What the printed functions of FnMake come to, one lemma a function, and from these the law: for all arguments (within the bounds that the printed statement names) it answers true. -/
import Derived.Test.YtigmokdcanebeaaMFnMakex7
import Derived.Test.YtigmokdcanebeaaBase
import Derived.Test.YtigmokdcanebeaaBaseA
import Derived.Test.YtigmokdcanebeaaBaseD
import Derived.Test.YtigmokdcanebeaaBaseL
import Derived.Test.YtigmokdcanebeaaBaseS
import Derived.Test.YtigmokdcanebeaaBaseV
import Derived.Test.YtigmokdcanebeaaBaseW
namespace Go.Proofs.Ytigmokdcanebeaa.Pure
open Go.RowKit Go.Proofs.Ytigmokdcanebeaa.MFnMake Go.Proofs.YtigmokdcanebeaaW.PrintWords Go.Proofs.YtigmokdcanebeaaW.PrintLast Go.Proofs.Ytigmokdcanebeaa.Base

namespace hFnMake
theorem spec_l1In_eq (a b c : Int) : spec_l1In.f a b c = some (inR a b c) := by
  unfold spec_l1In.f inR
  by_cases h : a ≥ b
  · rw [if_pos h]; simp [show b ≤ a from h]
  · rw [if_neg h]; simp; omega
theorem impl_inRange_eq (a b c : Int) : impl_inRange.f a b c = some (inR a b c) := by
  unfold impl_inRange.f inR
  by_cases h : a ≥ b
  · rw [if_pos h]; simp [show b ≤ a from h]
  · rw [if_neg h]; simp; omega
theorem spec_SetOk_eq (s : Int) : spec_SetOk.f s = some (okB s) := by
  simp only [spec_SetOk.f, spec_l1In_eq, Option.bind_some, okB]
theorem impl_SetOk_eq (s : Int) : impl_SetOk.f s = some (okB s) := by
  simp only [impl_SetOk.f, impl_inRange_eq, Option.bind_some, okB]
theorem impl_only_eq (i : Int) (h0 : 0 ≤ i) (h1 : i ≤ 62) : impl_only.f i = some (bitZ i) := by
  obtain ⟨n, rfl⟩ := Int.eq_ofNat_of_zero_le h0
  unfold impl_only.f
  rw [wrap_u64_id h0 (by omega), if_pos h0, shl_one n (by omega)]
theorem spec_SetIn_eq (a b : Int) : spec_SetIn.f a b = some (okB a && okB b && (Go.bits .and .i64 a b == a)) := by
  unfold spec_SetIn.f
  rw [spec_SetOk_eq, spec_SetOk_eq]
  simp only [Option.bind_some]
  cases okB a <;> cases okB b <;> simp
theorem l1New_l0 (b : List Int) (d : Nat) : ∀ (k i : Nat) (h : Int), i + d = 4000 → d < k → ∃ h', spec_l1New.l0 k b h (i : Int) = some (b, 0, h') := by
  induction d with
  | zero =>
    intro k i h hi hk
    obtain ⟨k, rfl⟩ := succ_of hk
    simp only [spec_l1New.l0]
    by_cases h1 : (i : Int) < b.length
    · rw [if_pos h1, if_neg (by omega)]; exact ⟨_, rfl⟩
    · rw [if_neg h1]; exact ⟨_, rfl⟩
  | succ d ih =>
    intro k i h hi hk
    obtain ⟨k, rfl⟩ := succ_of hk
    simp only [spec_l1New.l0]
    by_cases h1 : (i : Int) < b.length
    · rw [if_pos h1, if_pos (by omega), if_pos (by omega), wrap64_succ (by omega)]
      exact ih k (i + 1) _ (by omega) (by omega)
    · rw [if_neg h1]; exact ⟨_, rfl⟩
theorem l1New_ok (b : List Int) (k : Nat) (hk : 4000 < k) : ∃ h, spec_l1New.f k b = some (b, 0, h) := by
  unfold spec_l1New.f
  exact l1New_l0 b 4000 k 0 _ (by omega) hk
theorem l1Byte_ok (b : List Int) (i h : Int) (hl : b.length ≤ 1048576) (hi : CurOk b i) : ∃ r i' h', spec_l1Byte.f b i h = some (r, i', h') ∧ 0 ≤ r ∧ r ≤ 255 ∧ CurOk b i' := by
  unfold spec_l1Byte.f
  obtain ⟨h0, h1⟩ := hi
  by_cases hlt : i < b.length
  · rw [if_pos hlt, if_pos h0]
    refine ⟨_, _, _, rfl, (and255_range _).1, (and255_range _).2, ?_⟩
    rw [wrap64_id (by omega) (by omega)]
    exact ⟨by omega, by omega⟩
  · rw [if_neg hlt]
    exact ⟨_, _, _, rfl, (and255_range _).1, (and255_range _).2, h0, h1⟩
theorem l1Below_ok (b : List Int) (i h n : Int) (hl : b.length ≤ 1048576) (hi : CurOk b i) : ∃ r i' h', spec_l1Below.f b i h n = some (r, i', h') ∧ 0 ≤ r ∧ (0 < n → r < n) ∧ (n ≤ 0 → r = 0) ∧ CurOk b i' := by
  unfold spec_l1Below.f
  by_cases h0 : n ≤ 0
  · rw [if_pos h0]
    exact ⟨_, _, _, rfl, by omega, by omega, fun _ => rfl, hi⟩
  · rw [if_neg h0]
    by_cases h1 : n ≤ 256
    · rw [if_pos h1]
      obtain ⟨r, i1, h1', e, a, b', c⟩ := l1Byte_ok b i h hl hi
      rw [e]
      simp only [Option.bind_some]
      rw [if_neg (by omega)]
      have := tmod_range a (show 0 < n by omega)
      exact ⟨_, _, _, rfl, this.1, fun _ => this.2, fun h => absurd h h0, c⟩
    · rw [if_neg h1]
      obtain ⟨r1, i1, h1', e1, a1, b1, c1⟩ := l1Byte_ok b i h hl hi
      obtain ⟨r2, i2, h2', e2, a2, b2, c2⟩ := l1Byte_ok b i1 h1' hl c1
      obtain ⟨r3, i3, h3', e3, a3, b3, c3⟩ := l1Byte_ok b i2 h2' hl c2
      obtain ⟨r4, i4, h4', e4, a4, b4, c4⟩ := l1Byte_ok b i3 h3' hl c3
      rw [e1]; simp only [Option.bind_some]
      rw [e2]; simp only [Option.bind_some]
      rw [e3]; simp only [Option.bind_some]
      rw [e4]; simp only [Option.bind_some]
      rw [if_neg (by omega), wrap64_id (n := r1 * 16777216) (by omega) (by omega), wrap64_id (n := r2 * 65536) (by omega) (by omega), wrap64_id (n := r1 * 16777216 + r2 * 65536) (by omega) (by omega), wrap64_id (n := r3 * 256) (by omega) (by omega),
        wrap64_id (n := r1 * 16777216 + r2 * 65536 + r3 * 256) (by omega) (by omega), wrap64_id (n := r1 * 16777216 + r2 * 65536 + r3 * 256 + r4) (by omega) (by omega)]
      have := tmod_range (a := r1 * 16777216 + r2 * 65536 + r3 * 256 + r4) (n := n) (by omega) (by omega)
      exact ⟨_, _, _, rfl, this.1, fun _ => this.2, fun h => absurd h h0, c4⟩
theorem big_eq (l : List Int) : laws_big.f l = some (decide (1048576 < l.length)) := by
  unfold laws_big.f
  congr 1
  exact decide_eq_decide.2 ⟨fun h => by omega, fun h => by omega⟩
theorem impl_isLetters_eq (n : Int) : impl_isLetters.f n = some (inR n 1 8) := by
  unfold impl_isLetters.f
  rw [impl_inRange_eq]; rfl
theorem l1PickInt_ok (b : List Int) (i h : Int) (l : List Int) (hl : b.length ≤ 1048576) (hi : CurOk b i) (h1 : 1 ≤ l.length) : ∃ r i' h', spec_l1PickInt.f b i h l = some (r, i', h') ∧ CurOk b i' := by
  unfold spec_l1PickInt.f
  obtain ⟨r, i1, h1', e, a, b1, _, c⟩ := l1Below_ok b i h (l.length : Int) hl hi
  have := b1 (by omega)
  rw [e, Option.bind_some, if_pos a, if_pos this]
  exact ⟨_, _, _, rfl, c⟩
theorem l1Once_ok (b : List Int) (i h n : Int) (hl : b.length ≤ 1048576) (hi : CurOk b i) : ∃ r i' h', spec_l1Once.f b i h n = some (r, i', h') ∧ CurOk b i' := by
  unfold spec_l1Once.f
  obtain ⟨r, i1, h1', e, a, b1, _, c⟩ := l1Below_ok b i h n hl hi
  rw [e, Option.bind_some]
  exact ⟨_, _, _, rfl, c⟩
deriving instance DecidableEq for S33
theorem rdE_at {l : List S33} {i : Nat} (h : i < l.length) : rd_T33 l (i : Int) = l[i] := by
  simp [rd_T33, List.getD_eq_getElem?_getD, List.getElem?_eq_getElem h]
theorem rdE_set {l : List S33} {i : Nat} (h : i < l.length) (v : S33) : rd_T33 (l.set i v) (i : Int) = v := by
  rw [rdE_at (by rw [List.length_set]; exact h), List.getElem_set_self]
theorem spec_l4State_eq (x n : Int) (h0 : -1000 ≤ n) (h1 : n ≤ 1000) : spec_l4State.f x n = some (inR x 0 (n - 1)) := by
  unfold spec_l4State.f
  rw [wrap64_id (by omega) (by omega), spec_l1In_eq]; rfl
theorem spec_l4Less_eq (a b c : Int) (g : Bool) (a' b' c' : Int) (g' : Bool) : spec_l4Less.f a b c g a' b' c' g' = some (lessK (a, b, c) (a', b', c')) := by
  unfold spec_l4Less.f lessK
  by_cases h : a = a'
  · rw [if_pos h, if_pos h]
    by_cases h' : b = b'
    · rw [if_pos h', if_pos h']
    · rw [if_neg h', if_neg h']
  · rw [if_neg h, if_neg h]
theorem cmp_Compare_eq (a b : Int) : cmp_Compare_int.f a b = some (cmpZ a b) := by
  unfold cmp_Compare_int.f cmp_isNaN_int.f cmpZ
  simp only [Option.bind_some, bne_self_eq_false, Bool.false_eq_true, if_false]
  by_cases h : a < b
  · rw [if_pos h, if_pos h]
  · rw [if_neg h, if_neg h]
    by_cases h' : a > b
    · rw [if_pos h', if_pos h']
    · rw [if_neg h', if_neg h']
theorem cmp_Or_eq (a b c : Int) (k : Nat) (hk : 3 < k) : cmp_Or_int.f k [a, b, c] = some (orZ a b c) := by
  unfold cmp_Or_int.f orZ
  obtain ⟨k, rfl⟩ : ∃ m, k = m + 4 := ⟨k - 4, by omega⟩
  have e0 : rd [a, b, c] 0 = a := rfl
  have e1 : rd [a, b, c] 1 = b := rfl
  have e2 : rd [a, b, c] 2 = c := rfl
  have w0 : wrap64 (0 + 1) = 1 := by rw [wrap64_id (by omega) (by omega)]; rfl
  have w1 : wrap64 (1 + 1) = 2 := by rw [wrap64_id (by omega) (by omega)]; rfl
  have w2 : wrap64 (2 + 1) = 3 := by rw [wrap64_id (by omega) (by omega)]; rfl
  have l3 : (([a, b, c].length : Nat) : Int) = 3 := rfl
  rw [l3]
  simp only [cmp_Or_int.l0, e0, e1, e2, w0, w1, w2, l3]
  by_cases ha : a = 0
  · by_cases hb : b = 0
    · by_cases hc : c = 0
      · simp [ha, hb, hc]
      · simp [ha, hb, hc]
    · simp [ha, hb]
  · simp [ha]
theorem impl_compareEdges_eq (a b c : Int) (g : Bool) (a' b' c' : Int) (g' : Bool) (k : Nat) (hk : 3 < k) : impl_compareEdges.f k a b c g a' b' c' g' = some (cmpK (a, b, c) (a', b', c')) := by
  unfold impl_compareEdges.f
  simp only [cmp_Compare_eq, Option.bind_some, cmp_Or_eq _ _ _ k hk]
  rfl
theorem impl_headOk_eq (n st s : Int) : impl_headOk.f n st s = some (headB n st s) := by
  unfold impl_headOk.f headB
  rw [impl_isLetters_eq, impl_inRange_eq, impl_SetOk_eq]
  simp only [Option.bind_some]
  by_cases h1 : inR n 1 8 = true
  · rw [if_pos h1, h1]
    by_cases h2 : inR st 0 31 = true
    · have h2' := inR_iff.1 h2
      have hb := bitZ_le31 h2'.2
      rw [if_pos h2, h2, impl_only_eq st h2'.1 (by omega)]
      simp only [Option.bind_some, Bool.true_and]
      by_cases h3 : okB s = true
      · have h3' := inR_iff.1 h3
        rw [if_pos h3]
        congr 1
        rw [Bool.eq_iff_iff]
        simp only [decide_eq_true_eq, inR_iff]
        omega
      · rw [if_neg h3]
        congr 1
        simp only [okB, inR_iff] at h3
        symm
        rw [inR_false]
        omega
    · rw [if_neg h2]; simp at h2; rw [h2]; rfl
  · rw [if_neg h1]; simp at h1; rw [h1]; rfl
def keyE (e : S33) : Key := (e.f0, e.f1, e.f2)
def anyE (_ : S33) : Bool := true
/-- A right automaton. -/
def autoOkB (n st s : Int) (l : List S33) : Bool := headB n st s && (decide (l.length ≤ 2000) && edgesB keyE anyE n st none l)
theorem autoOk_of {n st s : Int} {l : List S33} (h : autoOkB n st s l = true) : headB n st s = true ∧ l.length ≤ 2000 ∧ edgesB keyE anyE n st none l = true := by
  simpa only [autoOkB, Bool.and_eq_true, decide_eq_true_eq] using h
theorem spec_AutoOk_l0 (n st s : Int) (l : List S33) (h0 : 0 ≤ n) (h1 : n ≤ 8) (h2 : 0 ≤ st) (h3 : st ≤ 31) (hl : l.length ≤ 1099511627776) (d : Nat) : ∀ (k i : Nat), i + d = l.length → d < k → spec_AutoOk.l0 k (i : Int) n st s l = some (edgesB keyE anyE n st (prevOf l i) (l.drop i)) := by
  induction d with
  | zero =>
    intro k i hi hk
    obtain ⟨k, rfl⟩ := succ_of hk
    simp only [spec_AutoOk.l0]
    rw [if_neg (by omega), List.drop_eq_nil_of_le (by omega)]
    rfl
  | succ d ih =>
    intro k i hi hk
    obtain ⟨k, rfl⟩ := succ_of hk
    simp only [spec_AutoOk.l0]
    rw [if_pos (by omega), if_pos (by omega), rdE_at (by omega), spec_l4State_eq _ _ (by omega) (by omega), spec_l4State_eq _ _ (by omega) (by omega), spec_l1In_eq, wrap64_id (n := n - 1) (by omega) (by omega), wrap64_succ (by omega), drop_cons (l := l) (i := i) (by omega)]
    simp only [Option.bind_some, edgesB, stOk, keyE, anyE]
    have ih' := ih k (i + 1) (by omega) (by omega)
    rw [prevOf_succ l i (by omega)] at ih'
    cases e1 : inR l[i].f0 0 (st - 1)
    · simp
    · cases e2 : inR l[i].f2 0 (st - 1)
      · simp
      · cases e3 : inR l[i].f1 0 (n - 1)
        · simp
        · simp only [if_true, Bool.true_and]
          cases i with
          | zero => rw [if_neg (by omega), ih']; simp only [prevOf, aheadK, Bool.true_and]
          | succ j =>
            have ej : wrap64 (((j + 1 : Nat) : Int) - 1) = (j : Int) := by rw [wrap64_id (by omega) (by omega)]; omega
            rw [if_pos (by omega), ej, if_pos (by omega), if_pos (by omega), rdE_at (by omega), spec_l4Less_eq, prevOf_succ l j (by omega)]
            simp only [Option.bind_some, aheadK, keyE]
            cases e4 : lessK (l[j].f0, l[j].f1, l[j].f2) (l[j + 1].f0, l[j + 1].f1, l[j + 1].f2)
            · simp
            · simp only [if_true, Bool.true_and]; exact ih'
theorem spec_AutoOk_eq (n st s : Int) (l : List S33) (hl : l.length ≤ 1099511627776) (k : Nat) (hk : l.length + 1 < k) : spec_AutoOk.f k n st s l = some (autoOkB n st s l) := by
  unfold spec_AutoOk.f autoOkB headB
  obtain ⟨k, rfl⟩ := succ_of hk
  rw [spec_l1In_eq, spec_l1In_eq]
  simp only [Option.bind_some, spec_AutoOk.j0, if_true]
  cases e1 : inR n 1 8
  · simp
  · have h1 := inR_iff.1 e1
    cases e2 : inR st 0 31
    · simp
    · have h2 := inR_iff.1 e2
      have hb := bitZ_le31 h2.2
      have hp := bitZ_pos st
      obtain ⟨m, rfl⟩ := Int.eq_ofNat_of_zero_le h2.1
      simp only [if_true, Bool.true_and]
      rw [if_pos h2.1, shl_one m (by omega), wrap64_id (by omega) (by omega), spec_SetIn_eq, in_mask s m h2.1 h2.2]
      simp only [Option.bind_some]
      cases e3 : inR s 0 (bitZ m - 1)
      · simp
      · simp only [if_true, Bool.true_and]
        by_cases h4 : (l.length : Int) > 2000
        · rw [decide_eq_true h4, if_pos rfl, decide_eq_false (by omega)]; rfl
        · rw [decide_eq_false h4, if_neg (by simp), decide_eq_true (by omega)]
          exact spec_AutoOk_l0 n m s l (by omega) (by omega) h2.1 h2.2 hl l.length k 0 (by omega) (by omega)
theorem impl_AutoOk_l0 (n st s : Int) (l : List S33) (h0 : 0 ≤ n) (h1 : n ≤ 8) (h2 : 0 ≤ st) (h3 : st ≤ 31) (hl : l.length ≤ 1099511627776) (d : Nat) : ∀ (k i : Nat), i + d = l.length → 2 * d + 10 < k → impl_AutoOk.l0 k l (l.length : Int) (i : Int) n st s l = some (edgesB keyE anyE n st (prevOf l i) (l.drop i)) := by
  induction d with
  | zero =>
    intro k i hi hk
    obtain ⟨k, rfl⟩ := succ_of hk
    simp only [impl_AutoOk.l0]
    rw [if_neg (by omega), List.drop_eq_nil_of_le (by omega)]
    rfl
  | succ d ih =>
    intro k i hi hk
    obtain ⟨k, rfl⟩ : ∃ m, k = m + 1 + 1 := ⟨k - 2, by omega⟩
    simp only [impl_AutoOk.l0]
    rw [if_pos (by omega), if_pos (by omega), if_pos (by omega), rdE_at (by omega), impl_inRange_eq, impl_inRange_eq, impl_inRange_eq, wrap64_id (n := st - 1) (by omega) (by omega), wrap64_id (n := n - 1) (by omega) (by omega), drop_cons (l := l) (i := i) (by omega)]
    simp only [Option.bind_some, edgesB, stOk, keyE, anyE, impl_AutoOk.j2, if_true]
    have ih' := ih k (i + 1) (by omega) (by omega)
    rw [prevOf_succ l i (by omega)] at ih'
    cases e1 : inR l[i].f0 0 (st - 1)
    · simp
    · cases e2 : inR l[i].f2 0 (st - 1)
      · simp
      · cases e3 : inR l[i].f1 0 (n - 1)
        · simp
        · simp only [if_true, Bool.true_and, Bool.not_true, Bool.false_eq_true, if_false]
          rw [wrap64_succ (by omega)]
          cases i with
          | zero => rw [if_neg (by omega), ih']; simp only [prevOf, aheadK, Bool.true_and]
          | succ j =>
            have ej : wrap64 (((j + 1 : Nat) : Int) - 1) = (j : Int) := by rw [wrap64_id (by omega) (by omega)]; omega
            rw [if_pos (by omega), ej, if_pos (by omega), if_pos (by omega), rdE_at (by omega), impl_compareEdges_eq _ _ _ _ _ _ _ _ k (by omega), prevOf_succ l j (by omega)]
            simp only [Option.bind_some, aheadK, keyE]
            by_cases e4 : lessK (l[j].f0, l[j].f1, l[j].f2) (l[j + 1].f0, l[j + 1].f1, l[j + 1].f2) = true
            · rw [if_neg (fun h => (cmpK_neg _ _).1 h e4), e4]
              simp only [Bool.true_and]; exact ih'
            · rw [if_pos ((cmpK_neg _ _).2 e4)]
              simp at e4; rw [e4]; rfl
theorem impl_AutoOk_eq (n st s : Int) (l : List S33) (hl : l.length ≤ 1099511627776) (k : Nat) (hk : 2 * l.length + 20 < k) : impl_AutoOk.f k n st s l = some (autoOkB n st s l) := by
  unfold impl_AutoOk.f autoOkB
  obtain ⟨k, rfl⟩ := succ_of hk
  rw [impl_headOk_eq]
  simp only [Option.bind_some, impl_AutoOk.j0, if_true]
  cases e1 : headB n st s
  · simp
  · have h := head_of e1
    simp only [if_true, Bool.true_and]
    by_cases h4 : (l.length : Int) > 2000
    · rw [decide_eq_true h4, if_pos rfl, decide_eq_false (by omega)]; rfl
    · rw [decide_eq_false h4, if_neg (by simp), decide_eq_true (by omega)]
      exact impl_AutoOk_l0 n st s l (by omega) (by omega) h.2.1.1 h.2.1.2 hl l.length k 0 (by omega) (by omega)
/-- Is there such an edge, and is it good? -/
def edgeAt (f x t : Int) : List S33 → Bool × Bool
  | [] => (false, false)
  | e :: es => if e.f0 = f then (if e.f1 = x then (if e.f2 = t then (e.f3, true) else edgeAt f x t es) else edgeAt f x t es) else edgeAt f x t es
theorem impl_AutoEdge_l0 (f x t : Int) (l : List S33) (hl : l.length ≤ 1099511627776) (d : Nat) : ∀ (k i : Nat), i + d = l.length → d < k → impl_AutoEdge.l0 k f x t l (l.length : Int) (i : Int) = some (edgeAt f x t (l.drop i)) := by
  induction d with
  | zero =>
    intro k i hi hk
    obtain ⟨k, rfl⟩ := succ_of hk
    simp only [impl_AutoEdge.l0]
    rw [if_neg (by omega), List.drop_eq_nil_of_le (by omega)]
    rfl
  | succ d ih =>
    intro k i hi hk
    obtain ⟨k, rfl⟩ := succ_of hk
    simp only [impl_AutoEdge.l0]
    rw [if_pos (by omega), if_pos (by omega), if_pos (by omega), rdE_at (by omega), wrap64_succ (by omega), ih k (i + 1) (by omega) (by omega), drop_cons (l := l) (i := i) (by omega)]
    simp only [edgeAt]
    split <;> (try split) <;> (try split) <;> rfl
theorem impl_AutoEdge_eq (n st s f x t : Int) (l : List S33) (hl : l.length ≤ 1099511627776) (k : Nat) (hk : 3 * l.length + 20 < k) : impl_AutoEdge.f k n st s l f x t = some (if autoOkB n st s l then edgeAt f x t l else (false, false)) := by
  unfold impl_AutoEdge.f
  rw [impl_AutoOk_eq n st s l hl k (by omega)]
  simp only [Option.bind_some]
  by_cases h : autoOkB n st s l = true
  · rw [if_pos h, if_pos h]
    exact impl_AutoEdge_l0 f x t l hl l.length k 0 (by omega) (by omega)
  · rw [if_neg h, if_neg h]
theorem impl_rightAuto_eq (n st s : Int) (l : List S33) (hl : l.length ≤ 1099511627776) (k : Nat) (hk : 2 * l.length + 20 < k) : impl_rightAuto.f k n st s l = some (if autoOkB n st s l then (n, st, s, l, true) else (0, 0, 0, [], false)) := by
  unfold impl_rightAuto.f
  rw [impl_AutoOk_eq n st s l hl k hk]
  simp only [Option.bind_some]
  by_cases h : autoOkB n st s l = true
  · rw [if_pos h, if_pos h]
  · rw [if_neg h, if_neg h]
theorem edgeAt_mem {n st : Int} (l : List S33) : ∀ (p : Option S33), edgesB keyE anyE n st p l = true → ∀ e ∈ l, edgeAt e.f0 e.f1 e.f2 l = (e.f3, true) := by
  induction l with
  | nil => intro p _ e he; simp at he
  | cons y l ih =>
    intro p h e he
    simp only [edgesB, Bool.and_eq_true] at h
    obtain ⟨h1, h2, h3, h4⟩ := h
    rcases List.mem_cons.1 he with rfl | he
    · simp [edgeAt]
    · have hl := edgesB_less h4 e he
      rw [lessK_iff] at hl
      simp only [keyE] at hl
      simp only [edgeAt]
      rw [ih (some y) h4 e he]
      by_cases c0 : y.f0 = e.f0
      · rw [if_pos c0]
        by_cases c1 : y.f1 = e.f1
        · rw [if_pos c1, if_neg (by omega)]
        · rw [if_neg c1]
      · rw [if_neg c0]
theorem l1PickInt_mem (b : List Int) (i h : Int) (l : List Int) (hl : b.length ≤ 1048576) (hi : CurOk b i) (h1 : 1 ≤ l.length) : ∃ r i' h', spec_l1PickInt.f b i h l = some (r, i', h') ∧ r ∈ l ∧ CurOk b i' := by
  unfold spec_l1PickInt.f
  obtain ⟨r, i1, h1', e, a, b1, _, c⟩ := l1Below_ok b i h (l.length : Int) hl hi
  have hlt := b1 (by omega)
  rw [e, Option.bind_some, if_pos a, if_pos hlt]
  refine ⟨_, _, _, rfl, ?_, c⟩
  obtain ⟨m, rfl⟩ := Int.eq_ofNat_of_zero_le a
  show rd l (m : Int) ∈ l
  rw [rd_at (show m < l.length by omega)]
  exact List.getElem_mem _
theorem drawEdges_l0 (b : List Int) (x y : Int) (hl : b.length ≤ 1048576) (n : Nat) (hn : n ≤ 1000) (d : Nat) : ∀ (k j : Nat) (i h : Int) (o : List S33), CurOk b i → j + d = n → o.length ≤ j → d < k → ∃ o' i' h', spec_l4DrawEdges.l0 k x y (n : Int) o (j : Int) b i h = some (o', i', h') ∧ o'.length ≤ n ∧ CurOk b i' := by
  induction d with
  | zero =>
    intro k j i h o hi hj ho hk
    obtain ⟨k, rfl⟩ := succ_of hk
    simp only [spec_l4DrawEdges.l0]
    rw [if_neg (by omega)]
    exact ⟨_, _, _, rfl, by omega, hi⟩
  | succ d ih =>
    intro k j i h o hi hj ho hk
    obtain ⟨k, rfl⟩ := succ_of hk
    obtain ⟨r1, i1, h1, e1, _, _, _, c1⟩ := l1Below_ok b i h y hl hi
    obtain ⟨r2, i2, h2, e2, _, _, _, c2⟩ := l1Below_ok b i1 h1 x hl c1
    obtain ⟨r3, i3, h3, e3, _, _, _, c3⟩ := l1Below_ok b i2 h2 y hl c2
    obtain ⟨r4, i4, h4, e4, c4⟩ := l1Once_ok b i3 h3 3 hl c3
    simp only [spec_l4DrawEdges.l0]
    rw [if_pos (by omega), e1, Option.bind_some]
    dsimp only
    rw [e2, Option.bind_some]
    dsimp only
    rw [e3, Option.bind_some]
    dsimp only
    rw [e4, Option.bind_some]
    dsimp only
    rw [if_pos (by omega), wrap64_succ (by omega)]
    exact ih k (j + 1) _ _ _ c4 (by omega) (by rw [List.length_append, List.length_singleton]; omega) (by omega)
theorem drawEdges_ok (b : List Int) (i h x y m : Int) (hl : b.length ≤ 1048576) (hi : CurOk b i) (h0 : 0 ≤ m) (hm : m ≤ 1000) (k : Nat) (hk : 1001 < k) : ∃ o' i' h', spec_l4DrawEdges.f k b i h x y m = some (o', i', h') ∧ o'.length ≤ 1000 ∧ CurOk b i' := by
  unfold spec_l4DrawEdges.f
  obtain ⟨n, rfl⟩ := Int.eq_ofNat_of_zero_le h0
  obtain ⟨o', i', h', e, e1, e2⟩ := drawEdges_l0 b x y hl n (by omega) n k 0 i h [] hi (by omega) (by simp) (by omega)
  exact ⟨o', i', h', e, by omega, e2⟩
theorem autoMake_l1 (n st p q r : Int) (M : List Int) (hM : M.length ≤ 1000000) (hst : 0 < M.length → st ≠ 0) (hn : n ≠ 0) (d : Nat) : ∀ (k i : Nat) (o : List S33), i + d = M.length → o.length ≤ i → d < k → ∃ l', spec_AutoMake.l1 k n st M (i : Int) p q r o = some (p, q, r, l', true) ∧ l'.length ≤ M.length := by
  induction d with
  | zero =>
    intro k i o hi ho hk
    obtain ⟨k, rfl⟩ := succ_of hk
    simp only [spec_AutoMake.l1]
    rw [if_neg (by omega)]
    exact ⟨_, rfl, by omega⟩
  | succ d ih =>
    intro k i o hi ho hk
    obtain ⟨k, rfl⟩ := succ_of hk
    simp only [spec_AutoMake.l1]
    rw [if_pos (by omega), if_pos (by omega), wrap64_succ (by omega)]
    by_cases h : rd M (i : Int) > 0
    · rw [if_pos h, if_neg (hst (by omega)), if_neg hn, if_pos (by omega)]
      exact ih k (i + 1) _ (by omega) (by rw [List.length_append, List.length_singleton]; omega) (by omega)
    · rw [if_neg h]
      exact ih k (i + 1) _ (by omega) (by omega) (by omega)
theorem l1Max_ok (a b : Int) : ∃ m, spec_l1Max.f a b = some m := by
  unfold spec_l1Max.f
  split <;> exact ⟨_, rfl⟩
theorem cube_le {n st : Int} (hn0 : 0 ≤ n) (hn : n ≤ 8) (h0 : 0 ≤ st) (h1 : st ≤ 31) : 0 ≤ st * n ∧ st * n ≤ 248 ∧ 0 ≤ st * n * st ∧ st * n * st ≤ 7688 := by
  have a1 : 0 ≤ st * n := Int.mul_nonneg h0 hn0
  have a2 : st * n ≤ 31 * 8 := Int.mul_le_mul h1 hn hn0 (by omega)
  have a3 : 0 ≤ st * n * st := Int.mul_nonneg a1 h0
  have a4 : st * n * st ≤ 248 * 31 := Int.mul_le_mul (by omega) h1 h0 (by omega)
  omega
theorem autoMake_at {n st a x c : Int} (hn : 1 ≤ n ∧ n ≤ 8) (hst : 0 ≤ st ∧ st ≤ 31) (ha : 0 ≤ a ∧ a ≤ st - 1) (hx : 0 ≤ x ∧ x ≤ n - 1) (hc : 0 ≤ c ∧ c ≤ st - 1) :
    wrap64 ((wrap64 ((wrap64 ((wrap64 (a * n)) + x)) * st)) + c) = (a * n + x) * st + c ∧ 0 ≤ (a * n + x) * st + c ∧ (a * n + x) * st + c < st * n * st := by
  have hb := cube_le (n := n) (st := st) (by omega) hn.2 hst.1 hst.2
  have h0 : 0 ≤ a * n := Int.mul_nonneg ha.1 (by omega)
  have h1 : (a + 1) * n ≤ st * n := Int.mul_le_mul_of_nonneg_right (by omega) (by omega)
  rw [Int.add_mul, Int.one_mul] at h1
  have h2 : 0 ≤ (a * n + x) * st := Int.mul_nonneg (by omega) hst.1
  have h3 : (a * n + x + 1) * st ≤ st * n * st := Int.mul_le_mul_of_nonneg_right (by omega) hst.1
  rw [Int.add_mul, Int.one_mul] at h3
  rw [wrap64_id (n := a * n) (by omega) (by omega), wrap64_id (n := a * n + x) (by omega) (by omega), wrap64_id (n := (a * n + x) * st) (by omega) (by omega), wrap64_id (n := (a * n + x) * st + c) (by omega) (by omega)]
  omega
theorem autoMake_l0 (n st p q r : Int) (hn : 1 ≤ n ∧ n ≤ 8) (hst : 0 ≤ st ∧ st ≤ 31) (l : List S33) (hl : l.length ≤ 2000) (d : Nat) : ∀ (k i : Nat) (M : List Int), (M.length : Int) = st * n * st → i + d = l.length → 2 * d + 8000 < k →
    ∃ a b c l' ok, spec_AutoMake.l0 k n st l M (i : Int) p q r = some (a, b, c, l', ok) ∧ l'.length ≤ 7688 := by
  have hb := cube_le (n := n) (st := st) (by omega) hn.2 hst.1 hst.2
  induction d with
  | zero =>
    intro k i M hM hi hk
    obtain ⟨k, rfl⟩ := succ_of (show 0 < k by omega)
    simp only [spec_AutoMake.l0]
    rw [if_neg (by omega)]
    obtain ⟨l', e, h⟩ := autoMake_l1 n st p q r M (by omega) (fun h0 e => by rw [e, Int.mul_zero] at hM; omega) (by omega) M.length k 0 [] (by omega) (by simp) (by omega)
    exact ⟨_, _, _, _, _, e, by omega⟩
  | succ d ih =>
    intro k i M hM hi hk
    obtain ⟨k, rfl⟩ : ∃ k', k = k' + 2 := ⟨k - 2, by omega⟩
    have hbad : ∀ (a b c : Int) (g : Bool), ∃ a' b' c' l' ok, spec_AutoMake.j2 (k + 1) n st l M (i : Int) true p q r a b c g = some (a', b', c', l', ok) ∧ l'.length ≤ 7688 := fun a b c g => by
      rw [spec_AutoMake.j2, if_pos rfl]
      exact ⟨_, _, _, _, _, rfl, by simp⟩
    rw [spec_AutoMake.l0, if_pos (by omega), if_pos (by omega), rdE_at (by omega), spec_l4State_eq _ st (by omega) (by omega), Option.bind_some]
    generalize l[i] = e
    by_cases c0 : inR e.f0 0 (st - 1) = true
    · rw [if_pos c0, spec_l4State_eq _ st (by omega) (by omega), Option.bind_some]
      by_cases c2 : inR e.f2 0 (st - 1) = true
      · rw [if_pos c2, wrap64_id (n := n - 1) (by omega) (by omega), spec_l1In_eq, Option.bind_some]
        by_cases c1 : inR e.f1 0 (n - 1) = true
        · obtain ⟨a1, a2, a3⟩ := autoMake_at hn hst (inR_iff.1 c0) (inR_iff.1 c1) (inR_iff.1 c2)
          rw [c1, spec_AutoMake.j2, if_neg (by simp)]
          by_cases g : e.f3 = true
          · obtain ⟨m, hm⟩ := l1Max_ok (rd M ((e.f0 * n + e.f1) * st + e.f2)) 2
            rw [if_pos g, a1, if_pos a2, if_pos (by omega), hm, Option.bind_some, wrap64_succ (by omega)]
            exact ih k (i + 1) _ (by rw [List.length_set]; exact hM) (by omega) (by omega)
          · obtain ⟨m, hm⟩ := l1Max_ok (rd M ((e.f0 * n + e.f1) * st + e.f2)) 1
            rw [if_neg g, a1, if_pos a2, if_pos (by omega), hm, Option.bind_some, wrap64_succ (by omega)]
            exact ih k (i + 1) _ (by rw [List.length_set]; exact hM) (by omega) (by omega)
        · simp at c1
          rw [c1]
          exact hbad _ _ _ _
      · rw [if_neg c2]
        exact hbad _ _ _ _
    · rw [if_neg c0]
      exact hbad _ _ _ _
theorem autoMake_ok (n st s : Int) (l : List S33) (hl : l.length ≤ 2000) (k : Nat) (hk : 20000 < k) : ∃ a b c l' ok, spec_AutoMake.f k n st s l = some (a, b, c, l', ok) ∧ l'.length ≤ 7688 := by
  unfold spec_AutoMake.f
  obtain ⟨k, rfl⟩ : ∃ k', k = k' + 1 := ⟨k - 1, by omega⟩
  rw [spec_AutoOk_eq n st s [] (by simp) _ (by simp; omega), Option.bind_some, spec_AutoMake.j0, spec_AutoMake.j0]
  by_cases h : autoOkB n st s ([] : List S33) = true
  · have g := head_of (autoOk_of h).1
    have hb := cube_le (n := n) (st := st) (by omega) g.1.2 g.2.1.1 g.2.1.2
    rw [if_pos h, decide_eq_false (by omega), if_neg (by simp), wrap64_id (n := st * n) (by omega) (by omega), wrap64_id (n := st * n * st) (by omega) (by omega), if_pos (by omega), if_pos (by omega)]
    exact autoMake_l0 n st n st s g.1 g.2.1 l hl l.length k 0 _ (by rw [List.length_replicate]; omega) (by omega) (by omega)
  · rw [if_neg h, if_pos rfl]
    exact ⟨_, _, _, _, _, rfl, by simp⟩
theorem ex_cons {α : Type} {x : α} {l : List α} {P : α → Prop} : (∃ e, e ∈ x :: l ∧ P e) ↔ P x ∨ ∃ e, e ∈ l ∧ P e := by simp [List.mem_cons, or_and_right, exists_or]
/-- An edge ahead of merged ones: of those alike one. -/
def mcons (e : S33) : List S33 → List S33
  | [] => [e]
  | q :: r => if keyE q = keyE e then ⟨e.f0, e.f1, e.f2, e.f3 || q.f3⟩ :: r else e :: q :: r
/-- Edges in order, merged. -/
def mergeR : List S33 → List S33
  | [] => []
  | e :: l => mcons e (mergeR l)
theorem mcons_head (e : S33) (T : List S33) : ∃ p r, mcons e T = p :: r ∧ keyE p = keyE e := by
  cases T with
  | nil => exact ⟨e, [], rfl, rfl⟩
  | cons q r =>
    simp only [mcons]
    by_cases h : keyE q = keyE e
    · rw [if_pos h]; exact ⟨_, _, rfl, rfl⟩
    · rw [if_neg h]; exact ⟨_, _, rfl, rfl⟩
theorem mcons_join (q e : S33) (T : List S33) (h : keyE q = keyE e) : mcons q (mcons e T) = mcons ⟨q.f0, q.f1, q.f2, q.f3 || e.f3⟩ T := by
  have hk : keyE (⟨q.f0, q.f1, q.f2, q.f3 || e.f3⟩ : S33) = keyE q := rfl
  cases T with
  | nil => simp only [mcons]; rw [if_pos h.symm]
  | cons p r =>
    by_cases hp : keyE p = keyE e
    · have hp2 : keyE p = keyE q := hp.trans h.symm
      have hk2 : keyE (⟨e.f0, e.f1, e.f2, e.f3 || p.f3⟩ : S33) = keyE q := h.symm
      simp only [mcons]
      rw [if_pos hp, hk, if_pos hp2]
      dsimp only
      rw [if_pos hk2, Bool.or_assoc]
    · have hp2 : ¬ keyE p = keyE q := fun e2 => hp (e2.trans h)
      simp only [mcons]
      rw [if_neg hp, hk, if_neg hp2]
      dsimp only
      rw [if_pos h.symm]
theorem mcons_ne {q e : S33} {T : List S33} (h : ¬ keyE q = keyE e) : mcons q (mcons e T) = q :: mcons e T := by
  obtain ⟨p, r, e1, e2⟩ := mcons_head e T
  rw [e1]
  simp only [mcons]
  rw [if_neg (fun e3 => h (e3.symm.trans e2))]
theorem mergeR_length (l : List S33) : (mergeR l).length ≤ l.length := by
  induction l with
  | nil => exact Nat.le_refl _
  | cons e l ih =>
    have : (mcons e (mergeR l)).length ≤ (mergeR l).length + 1 := by
      cases mergeR l with
      | nil => exact Nat.le_refl _
      | cons q r =>
        simp only [mcons]
        split <;> simp
    simp only [mergeR, List.length_cons]
    omega
theorem orderedStep (k : Nat) (hk : 3 < k) (S : List S33) (hS : S.length ≤ 1099511627776) (i : Nat) (hi : i < S.length) (out : List S33) (q : S33) (ho : out.length ≤ i) :
    impl_ordered.l0 (k + 1) (out ++ [q]) S (S.length : Int) (i : Int) = if keyE q = keyE S[i] then impl_ordered.l0 k (out ++ [⟨q.f0, q.f1, q.f2, q.f3 || S[i].f3⟩]) S (S.length : Int) ((i + 1 : Nat) : Int) else impl_ordered.l0 k ((out ++ [q]) ++ [S[i]]) S (S.length : Int) ((i + 1 : Nat) : Int) := by
  have hl : (out ++ [q]).length = out.length + 1 := by simp
  have hrd : rd_T33 S (i : Int) = S[i] := by simp [rd_T33, List.getD_eq_getElem?_getD, List.getElem?_eq_getElem hi]
  have hw : wrap64 (((out ++ [q]).length : Int) - 1) = (out.length : Int) := by rw [hl, wrap64_id (by omega) (by omega)]; omega
  have hrq : rd_T33 (out ++ [q]) (out.length : Int) = q := by simp [rd_T33, List.getD_eq_getElem?_getD]
  have hset : ∀ v : S33, (out ++ [q]).set out.length v = out ++ [v] := fun v => by simp
  simp only [impl_ordered.l0]
  rw [if_pos (by omega), if_pos (by omega), if_pos (by omega), hw, if_pos (by omega), if_pos (by omega), if_pos (by rw [hl]; omega), hrq, hrd, impl_compareEdges_eq _ _ _ _ _ _ _ _ k hk, Option.bind_some, wrap64_succ (by omega), Int.toNat_natCast, hset, hset, hl, if_pos (show out.length + 1 < 4398046511104 by omega)]
  have hz := cmpK_zero (keyE q) (keyE S[i])
  by_cases h : keyE q = keyE S[i]
  · rw [if_pos h, if_pos (show cmpK (q.f0, q.f1, q.f2) (S[i].f0, S[i].f1, S[i].f2) = 0 from hz.2 h)]
    cases hq : q.f3
    · rw [if_neg (by simp), Bool.false_or]
    · rw [if_pos rfl, Bool.true_or]
  · rw [if_neg h, if_neg (show ¬ cmpK (q.f0, q.f1, q.f2) (S[i].f0, S[i].f1, S[i].f2) = 0 from fun e => h (hz.1 e))]
theorem ordered_l0 (S : List S33) (hS : S.length ≤ 1099511627776) (d : Nat) : ∀ (k i : Nat) (out : List S33) (q : S33), i + d = S.length → d + 10 < k → out.length < i →
    impl_ordered.l0 k (out ++ [q]) S (S.length : Int) (i : Int) = some (out ++ mergeR (q :: S.drop i)) := by
  induction d with
  | zero =>
    intro k i out q hi hk ho
    obtain ⟨k, rfl⟩ := succ_of (show 0 < k by omega)
    simp only [impl_ordered.l0]
    rw [if_neg (by omega), List.drop_eq_nil_of_le (by omega)]
    rfl
  | succ d ih =>
    intro k i out q hi hk ho
    obtain ⟨k, rfl⟩ := succ_of (show 0 < k by omega)
    rw [orderedStep k (by omega) S hS i (by omega) out q (by omega), drop_cons (l := S) (i := i) (by omega)]
    by_cases h : keyE q = keyE S[i]
    · rw [if_pos h, ih k (i + 1) out _ (by omega) (by omega) (by omega)]
      simp only [mergeR]
      rw [mcons_join _ _ _ h]
    · rw [if_neg h, ih k (i + 1) (out ++ [q]) _ (by omega) (by omega) (by simp; omega)]
      simp only [mergeR]
      rw [mcons_ne h, List.append_assoc]; rfl
theorem ordered_run (S : List S33) (hS : S.length ≤ 1099511627776) (k : Nat) (hk : S.length + 20 < k) : impl_ordered.l0 k [] S (S.length : Int) 0 = some (mergeR S) := by
  obtain ⟨k, rfl⟩ := succ_of (show 0 < k by omega)
  cases S with
  | nil => rfl
  | cons e l =>
    have h := ordered_l0 (e :: l) hS l.length k 1 [] e (by simp; omega) (by simp at hk; omega) (by simp)
    have hw : wrap64 ((([] : List S33).length : Int) - 1) = -1 := by rw [List.length_nil, wrap64_id (by omega) (by omega)]; rfl
    have hrd : rd_T33 (e :: l) 0 = e := rfl
    simp only [impl_ordered.l0]
    rw [if_pos (by simp), if_pos (by omega), if_pos (by simp), hw, if_neg (by omega), if_pos (by simp), hrd, show wrap64 (0 + 1) = ((1 : Nat) : Int) from wrap64_succ (i := 0) (by omega)]
    exact h
/-- Edges, put in order by the sort. -/
def srtE (l : List S33) : List S33 := (Sort.pdq (Go.Proofs.ltOf impl_Edge_38.cf) l.toArray 0 l.toArray.size (Lib.bitLen l.toArray.size) true true).toList
theorem srtE_sorts (l : List S33) : (srtE l).Perm l ∧ (srtE l).Pairwise (fun x y => lessK (keyE y) (keyE x) = false) := by
  have h := Sort.pdq_sorts (Go.Proofs.ltOf impl_Edge_38.cf) impl_Edge_38.swo l.toArray 0 l.toArray.size (Lib.bitLen l.toArray.size) true true (Nat.zero_le _) (Nat.le_refl _) (Or.inl rfl)
  obtain ⟨⟨h1, _, h2⟩, h3⟩ := h
  unfold srtE
  generalize Sort.pdq (Go.Proofs.ltOf impl_Edge_38.cf) l.toArray 0 l.toArray.size (Lib.bitLen l.toArray.size) true true = d at h1 h2 h3 ⊢
  refine ⟨?_, ?_⟩
  · have e1 : d.extract 0 l.toArray.size = d := by rw [← h1]; exact Array.extract_size
    rw [e1, Array.extract_size] at h2
    exact h2
  · rw [List.pairwise_iff_getElem]
    intro i j hi hj hij
    have h4 := h3 i j (Nat.zero_le _) hij (by rw [← h1]; simpa using hj)
    rw [getElem!_pos d j (by simpa using hj), getElem!_pos d i (by simpa using hi), impl_Edge_38.lt_eq] at h4
    rw [Array.getElem_toList, Array.getElem_toList]
    rw [← Bool.not_eq_true, lessK_iff]
    unfold impl_Edge_38.lt at h4
    rw [decide_eq_false_iff_not] at h4
    exact h4
theorem srtE_length (l : List S33) : (srtE l).length = l.length := (srtE_sorts l).1.length_eq
theorem impl_ordered_eq (l : List S33) (hl : l.length ≤ 1000000) (k : Nat) (hk : l.length + 20 < k) : impl_ordered.f k l = some (mergeR (srtE l)) := by
  have hs := srtE_length l
  unfold impl_ordered.f
  have e1 : impl_Edge_37.f l = some l := by unfold impl_Edge_37.f; rw [if_pos (by omega)]
  have e2 : impl_Edge_38.f l = some (srtE l) := by unfold impl_Edge_38.f; rw [if_pos (by omega)]; rfl
  rw [e1, Option.bind_some, e2, Option.bind_some, ← hs]
  exact ordered_run _ (by omega) k (by omega)
/-- Strictly ascending by key. -/
def Asc (l : List S33) : Prop := l.Pairwise fun x y => lessK (keyE x) (keyE y) = true
theorem key_trans {a b c : Key} (h1 : lessK b a = false) (h2 : lessK c b = false) : lessK c a = false := by
  rw [← Bool.not_eq_true, lessK_iff] at *; omega
theorem key_lt_of_le {a b c : Key} (h1 : lessK b a = false) (h2 : lessK b c = true) : lessK a c = true := by
  rw [← Bool.not_eq_true, lessK_iff] at h1; rw [lessK_iff] at *; omega
theorem key_lt_of_ne {a b : Key} (h1 : lessK b a = false) (h2 : a ≠ b) : lessK a b = true := by
  obtain ⟨a0, a1, a2⟩ := a
  obtain ⟨b0, b1, b2⟩ := b
  rw [← Bool.not_eq_true, lessK_iff] at h1; rw [lessK_iff]
  simp only [ne_eq, Prod.mk.injEq] at h1 h2 ⊢
  omega
theorem key_irrefl (a : Key) : lessK a a = false := by
  rw [← Bool.not_eq_true, lessK_iff]; omega
theorem key_lt_trans {a b c : Key} (h1 : lessK a b = true) (h2 : lessK b c = true) : lessK a c = true := by
  rw [lessK_iff] at *; omega
/-- What the merged ones of a sorted list are. -/
theorem mergeR_spec (l : List S33) (h : l.Pairwise (fun x y => lessK (keyE y) (keyE x) = false)) : Asc (mergeR l) ∧ ∀ e : S33, e ∈ mergeR l ↔ (∃ x ∈ l, keyE x = keyE e) ∧ (e.f3 = true ↔ ∃ x ∈ l, keyE x = keyE e ∧ x.f3 = true) := by
  induction l with
  | nil => exact ⟨List.Pairwise.nil, fun e => by simp [mergeR]⟩
  | cons x l ih =>
    obtain ⟨hx, hl⟩ := List.pairwise_cons.1 h
    obtain ⟨ih1, ih2⟩ := ih hl
    simp only [mergeR]
    have hge : ∀ e ∈ mergeR l, lessK (keyE e) (keyE x) = false := fun e he => by
      obtain ⟨y, hy, hk⟩ := ((ih2 e).1 he).1
      rw [← hk]; exact hx y hy
    by_cases hex : ∃ y ∈ l, keyE y = keyE x
    · -- the head has x's key
      obtain ⟨y, hy, hyk⟩ := hex
      cases hT : mergeR l with
      | nil =>
        cases l with
        | nil => simp at hy
        | cons z l2 =>
          obtain ⟨p, r, e1, _⟩ := mcons_head z (mergeR l2)
          rw [show mergeR (z :: l2) = mcons z (mergeR l2) from rfl, e1] at hT
          cases hT
      | cons q r =>
        rw [hT] at ih1 ih2 hge
        obtain ⟨hq1, hq2⟩ := List.pairwise_cons.1 ih1
        have hqk : keyE q = keyE x := by
          -- some element of T has x's key, and q is the least
          have hz := (ih2 ⟨x.f0, x.f1, x.f2, true⟩)
          by_cases hg : ∃ y ∈ l, keyE y = keyE x ∧ y.f3 = true
          · have hm : (⟨x.f0, x.f1, x.f2, true⟩ : S33) ∈ q :: r := hz.2 ⟨⟨y, hy, hyk⟩, ⟨fun _ => hg, fun _ => rfl⟩⟩
            rcases List.mem_cons.1 hm with e1 | hm
            · rw [← e1]; rfl
            · have h1 := hq1 _ hm
              have h2 := hge q List.mem_cons_self
              have h3 : lessK (keyE q) (keyE x) = true := h1
              rw [h2] at h3; cases h3
          · have hz := (ih2 ⟨x.f0, x.f1, x.f2, false⟩)
            have hm : (⟨x.f0, x.f1, x.f2, false⟩ : S33) ∈ q :: r := hz.2 ⟨⟨y, hy, hyk⟩, ⟨fun h => absurd h Bool.false_ne_true, fun h => absurd h hg⟩⟩
            rcases List.mem_cons.1 hm with e1 | hm
            · rw [← e1]; rfl
            · have h1 := hq1 _ hm
              have h2 := hge q List.mem_cons_self
              have h3 : lessK (keyE q) (keyE x) = true := h1
              rw [h2] at h3; cases h3
        simp only [mcons]
        rw [if_pos hqk]
        have hqg := ((ih2 q).1 List.mem_cons_self).2
        refine ⟨List.pairwise_cons.2 ⟨fun e he => ?_, hq2⟩, fun e => ?_⟩
        · have := hq1 e he
          rw [hqk] at this
          exact this
        · by_cases hek : keyE e = keyE x
          · constructor
            · intro he
              rcases List.mem_cons.1 he with e1 | he
              · refine ⟨⟨x, List.mem_cons_self, hek.symm⟩, ?_⟩
                rw [e1]
                constructor
                · intro hb
                  rcases Bool.or_eq_true_iff.1 hb with hb | hb
                  · exact ⟨x, List.mem_cons_self, rfl, hb⟩
                  · obtain ⟨z, hz, hzk, hzg⟩ := hqg.1 hb
                    exact ⟨z, List.mem_cons_of_mem _ hz, hzk.trans hqk, hzg⟩
                · rintro ⟨z, hz, hzk, hzg⟩
                  apply Bool.or_eq_true_iff.2
                  rcases List.mem_cons.1 hz with rfl | hz
                  · exact Or.inl hzg
                  · exact Or.inr (hqg.2 ⟨z, hz, (show keyE z = keyE x from hzk).trans hqk.symm, hzg⟩)
              · have h1 := hq1 e he
                rw [hqk, ← hek, key_irrefl] at h1
                cases h1
            · rintro ⟨_, hg⟩
              apply List.mem_cons.2
              left
              obtain ⟨e0, e1, e2, e3⟩ := e
              have hk : e0 = x.f0 ∧ e1 = x.f1 ∧ e2 = x.f2 := by
                have := hek
                unfold keyE at this
                simpa using this
              obtain ⟨rfl, rfl, rfl⟩ := hk
              have : e3 = (x.f3 || q.f3) := by
                rw [Bool.eq_iff_iff, Bool.or_eq_true_iff]
                refine hg.trans ⟨?_, ?_⟩
                · rintro ⟨z, hz, hzk, hzg⟩
                  rcases List.mem_cons.1 hz with rfl | hz
                  · exact Or.inl hzg
                  · exact Or.inr (hqg.2 ⟨z, hz, (show keyE z = keyE x from hzk).trans hqk.symm, hzg⟩)
                · rintro (hb | hb)
                  · exact ⟨x, List.mem_cons_self, rfl, hb⟩
                  · obtain ⟨z, hz, hzk, hzg⟩ := hqg.1 hb
                    exact ⟨z, List.mem_cons_of_mem _ hz, hzk.trans hqk, hzg⟩
              rw [this]
          · have hne : ∀ z, keyE z = keyE e → z ≠ x := fun z hz he => hek (by rw [← hz, he])
            have A : (∃ z ∈ x :: l, keyE z = keyE e) ↔ ∃ z ∈ l, keyE z = keyE e := ⟨fun ⟨z, hz, hzk⟩ => ⟨z, (List.mem_cons.1 hz).resolve_left (hne z hzk), hzk⟩, fun ⟨z, hz, hzk⟩ => ⟨z, List.mem_cons_of_mem _ hz, hzk⟩⟩
            have B : (∃ z ∈ x :: l, keyE z = keyE e ∧ z.f3 = true) ↔ ∃ z ∈ l, keyE z = keyE e ∧ z.f3 = true := ⟨fun ⟨z, hz, hzk, hzg⟩ => ⟨z, (List.mem_cons.1 hz).resolve_left (hne z hzk), hzk, hzg⟩, fun ⟨z, hz, hzk, hzg⟩ => ⟨z, List.mem_cons_of_mem _ hz, hzk, hzg⟩⟩
            rw [A, B, ← ih2 e, List.mem_cons, List.mem_cons]
            exact or_congr ⟨fun e1 => absurd (by rw [e1]; rfl) hek, fun e1 => absurd (by rw [e1]; exact hqk) hek⟩ Iff.rfl
    · have hlt : ∀ e ∈ mergeR l, lessK (keyE x) (keyE e) = true := fun e he => by
        obtain ⟨y, hy, hk⟩ := ((ih2 e).1 he).1
        rw [← hk]
        exact key_lt_of_ne (hx y hy) (fun e1 => hex ⟨y, hy, e1.symm⟩)
      have hmc : mcons x (mergeR l) = x :: mergeR l := by
        cases hT : mergeR l with
        | nil => rfl
        | cons q r =>
          have hq := hlt q (by rw [hT]; exact List.mem_cons_self)
          simp only [mcons]
          rw [if_neg (fun e1 => by rw [e1, key_irrefl] at hq; cases hq)]
      rw [hmc]
      refine ⟨List.pairwise_cons.2 ⟨hlt, ih1⟩, fun e => ?_⟩
      by_cases hek : keyE e = keyE x
      · have hB : (∃ z ∈ x :: l, keyE z = keyE e ∧ z.f3 = true) ↔ x.f3 = true := by
          refine ⟨?_, fun hb => ⟨x, List.mem_cons_self, hek.symm, hb⟩⟩
          rintro ⟨z, hz, hzk, hzg⟩
          rcases List.mem_cons.1 hz with rfl | hz
          · exact hzg
          · exact absurd ⟨z, hz, hzk.trans hek⟩ hex
        rw [hB, List.mem_cons]
        constructor
        · rintro (rfl | he)
          · exact ⟨⟨_, List.mem_cons_self, rfl⟩, Iff.rfl⟩
          · have := hlt e he
            rw [hek, key_irrefl] at this
            cases this
        · rintro ⟨_, hg⟩
          left
          obtain ⟨e0, e1, e2, e3⟩ := e
          have hk : e0 = x.f0 ∧ e1 = x.f1 ∧ e2 = x.f2 := by
            have := hek
            unfold keyE at this
            simpa using this
          obtain ⟨rfl, rfl, rfl⟩ := hk
          have : e3 = x.f3 := by rw [Bool.eq_iff_iff]; exact hg
          rw [this]
      · have hne : ∀ z, keyE z = keyE e → z ≠ x := fun z hz he => hek (by rw [← hz, he])
        have A : (∃ z ∈ x :: l, keyE z = keyE e) ↔ ∃ z ∈ l, keyE z = keyE e := ⟨fun ⟨z, hz, hzk⟩ => ⟨z, (List.mem_cons.1 hz).resolve_left (hne z hzk), hzk⟩, fun ⟨z, hz, hzk⟩ => ⟨z, List.mem_cons_of_mem _ hz, hzk⟩⟩
        have B : (∃ z ∈ x :: l, keyE z = keyE e ∧ z.f3 = true) ↔ ∃ z ∈ l, keyE z = keyE e ∧ z.f3 = true := ⟨fun ⟨z, hz, hzk, hzg⟩ => ⟨z, (List.mem_cons.1 hz).resolve_left (hne z hzk), hzk, hzg⟩, fun ⟨z, hz, hzk, hzg⟩ => ⟨z, List.mem_cons_of_mem _ hz, hzk, hzg⟩⟩
        rw [A, B, ← ih2 e, List.mem_cons]
        exact ⟨fun h => h.resolve_left (fun e1 => hek (by rw [e1])), Or.inr⟩
/-- Two strictly ascending lists of the same edges are one. -/
theorem asc_unique : ∀ (a b : List S33), Asc a → Asc b → (∀ e, e ∈ a ↔ e ∈ b) → a = b
  | [], b, _, _, h => by
    cases b with
    | nil => rfl
    | cons y b => exact absurd ((h y).2 List.mem_cons_self) (by simp)
  | x :: a, b, ha, hb, h => by
    cases b with
    | nil => exact absurd ((h x).1 List.mem_cons_self) (by simp)
    | cons y b =>
      obtain ⟨ha1, ha2⟩ := List.pairwise_cons.1 ha
      obtain ⟨hb1, hb2⟩ := List.pairwise_cons.1 hb
      have hxy : x = y := by
        rcases List.mem_cons.1 ((h x).1 List.mem_cons_self) with e | hx
        · exact e
        · rcases List.mem_cons.1 ((h y).2 List.mem_cons_self) with e | hy
          · exact e.symm
          · have h1 := key_lt_trans (hb1 x hx) (ha1 y hy)
            rw [key_irrefl] at h1; cases h1
      subst hxy
      have hab : ∀ e, e ∈ a ↔ e ∈ b := by
        intro e
        refine ⟨fun he => ?_, fun he => ?_⟩
        · rcases List.mem_cons.1 ((h e).1 (List.mem_cons_of_mem _ he)) with e1 | h2
          · have := ha1 e he
            rw [e1, key_irrefl] at this; cases this
          · exact h2
        · rcases List.mem_cons.1 ((h e).2 (List.mem_cons_of_mem _ he)) with e1 | h2
          · have := hb1 e he
            rw [e1, key_irrefl] at this; cases this
          · exact h2
      rw [asc_unique a b ha2 hb2 hab]
/-- What is made of edges. -/
def madeE (l : List S33) : List S33 := mergeR (srtE l)
theorem madeE_length (l : List S33) : (madeE l).length ≤ l.length := by
  have := mergeR_length (srtE l)
  rw [srtE_length] at this
  exact this
theorem madeE_spec (l : List S33) : Asc (madeE l) ∧ ∀ e : S33, e ∈ madeE l ↔ (∃ x ∈ l, keyE x = keyE e) ∧ (e.f3 = true ↔ ∃ x ∈ l, keyE x = keyE e ∧ x.f3 = true) := by
  obtain ⟨h1, h2⟩ := srtE_sorts l
  obtain ⟨h3, h4⟩ := mergeR_spec _ h2
  refine ⟨h3, fun e => ?_⟩
  have hm : ∀ x, x ∈ srtE l ↔ x ∈ l := fun x => h1.mem_iff
  simp only [hm] at h4
  exact h4 e
theorem edges_asc (n st : Int) (l : List S33) (hl : Asc l) : ∀ p : Option S33, (∀ q, p = some q → ∀ e ∈ l, lessK (keyE q) (keyE e) = true) → edgesB keyE anyE n st p l = l.all (fun e => stOk n st (keyE e)) := by
  induction l with
  | nil => intro p _; rfl
  | cons x l ih =>
    intro p hp
    obtain ⟨h1, h2⟩ := List.pairwise_cons.1 hl
    have ha : aheadK keyE p x = true := by
      cases p with
      | none => rfl
      | some q => exact hp q rfl x List.mem_cons_self
    simp only [edgesB, List.all_cons]
    rw [ih h2 (some x) (fun q hq e he => by cases hq; exact h1 e he), ha, show anyE x = true from rfl, Bool.true_and, Bool.true_and]
theorem madeE_ok (n st s : Int) (l : List S33) (hl : l.length ≤ 2000) : autoOkB n st s (madeE l) = (headB n st s && l.all (fun e => stOk n st (keyE e))) := by
  obtain ⟨h1, h2⟩ := madeE_spec l
  have h3 := madeE_length l
  unfold autoOkB
  rw [decide_eq_true (show (madeE l).length ≤ 2000 by omega), Bool.true_and, edges_asc n st _ h1 none (fun q hq => by cases hq)]
  congr 1
  rw [Bool.eq_iff_iff, List.all_eq_true, List.all_eq_true]
  constructor
  · intro h x hx
    by_cases hg : ∃ y ∈ l, keyE y = keyE x ∧ y.f3 = true
    · exact h ⟨x.f0, x.f1, x.f2, true⟩ ((h2 _).2 ⟨⟨x, hx, rfl⟩, ⟨fun _ => hg, fun _ => rfl⟩⟩)
    · exact h ⟨x.f0, x.f1, x.f2, false⟩ ((h2 _).2 ⟨⟨x, hx, rfl⟩, ⟨fun h => absurd h Bool.false_ne_true, fun h => absurd h hg⟩⟩)
  · intro h e he
    obtain ⟨x, hx, hk⟩ := ((h2 e).1 he).1
    rw [← hk]; exact h x hx
/-- An automaton made of edges. -/
def makeZ (n st s : Int) (l : List S33) : Int × Int × Int × List S33 × Bool := if l.length ≤ 2000 ∧ headB n st s = true ∧ l.all (fun e => stOk n st (keyE e)) = true then (n, st, s, madeE l, true) else (0, 0, 0, [], false)
theorem makeZ_length (n st s : Int) (l : List S33) : (makeZ n st s l).2.2.2.1.length ≤ 2000 := by
  have := madeE_length l
  unfold makeZ
  split
  · simp only; omega
  · simp
theorem impl_AutoMake_eq (n st s : Int) (l : List S33) (k : Nat) (hk : 5000 < k) : impl_AutoMake.f k n st s l = some (makeZ n st s l) := by
  unfold impl_AutoMake.f makeZ
  by_cases hl : l.length ≤ 2000
  · have hml := madeE_length l
    rw [if_neg (by omega), impl_ordered_eq l (by omega) k (by omega), Option.bind_some]
    unfold impl_rightAuto.f
    rw [impl_AutoOk_eq n st s (mergeR (srtE l)) (by have : mergeR (srtE l) = madeE l := rfl; rw [this]; omega) k (by have : mergeR (srtE l) = madeE l := rfl; rw [this]; omega), Option.bind_some, show mergeR (srtE l) = madeE l from rfl, madeE_ok n st s l hl]
    by_cases h1 : headB n st s = true
    · by_cases h2 : l.all (fun e => stOk n st (keyE e)) = true
      · rw [h1, h2, if_pos (show l.length ≤ 2000 ∧ true = true ∧ true = true from ⟨hl, rfl, rfl⟩), Bool.true_and, if_pos rfl, Option.bind_some]
      · rw [if_neg (show ¬ (l.length ≤ 2000 ∧ headB n st s = true ∧ l.all (fun e => stOk n st (keyE e)) = true) from fun h => h2 h.2.2)]
        simp only [Bool.not_eq_true] at h2
        rw [h2, Bool.and_false, if_neg Bool.false_ne_true, Option.bind_some]
    · rw [if_neg (show ¬ (l.length ≤ 2000 ∧ headB n st s = true ∧ l.all (fun e => stOk n st (keyE e)) = true) from fun h => h1 h.2.1)]
      simp only [Bool.not_eq_true] at h1
      rw [h1, Bool.false_and, if_neg Bool.false_ne_true, Option.bind_some]
  · rw [if_pos (by omega), if_neg (fun h => hl h.1)]
theorem spec_l1Max_eq (a b : Int) : spec_l1Max.f a b = some (if a > b then a else b) := by
  unfold spec_l1Max.f
  by_cases h : a > b
  · rw [if_pos h, if_pos h]
  · rw [if_neg h, if_neg h]
theorem spec_l1Min_eq (a b : Int) : spec_l1Min.f a b = some (if a < b then a else b) := by
  unfold spec_l1Min.f
  by_cases h : a < b
  · rw [if_pos h, if_pos h]
  · rw [if_neg h, if_neg h]
/-- The place of an edge in the row of marks. -/
def atE (n st : Int) (e : S33) : Int := (e.f0 * n + e.f1) * st + e.f2
def mkE (e : S33) : Int := if e.f3 = true then 2 else 1
/-- The edge of a place. -/
def decE (n st : Int) (i : Nat) (g : Bool) : S33 := ⟨(i : Int) / st / n, (i : Int) / st % n, (i : Int) % st, g⟩
theorem div_mix (a b n : Int) (h0 : 0 ≤ b) (h1 : b < n) : (a * n + b) / n = a ∧ (a * n + b) % n = b := by
  refine ⟨?_, ?_⟩
  · rw [Int.add_comm, Int.add_mul_ediv_right _ _ (by omega), Int.ediv_eq_zero_of_lt h0 h1]; omega
  · rw [Int.add_comm, Int.add_mul_emod_self_right, Int.emod_eq_of_lt h0 h1]
theorem atE_range {n st : Int} {e : S33} (h1 : 1 ≤ n) (h2 : n ≤ 8) (h3 : 0 ≤ st) (h4 : st ≤ 31) (h : stOk n st (keyE e) = true) : (0 ≤ e.f0 * n ∧ e.f0 * n ≤ 240) ∧ (0 ≤ e.f0 * n + e.f1 ∧ e.f0 * n + e.f1 < st * n) ∧ (0 ≤ (e.f0 * n + e.f1) * st ∧ (e.f0 * n + e.f1) * st ≤ 7688) ∧ 0 ≤ atE n st e ∧ atE n st e < st * n * st := by
  obtain ⟨⟨a1, a2⟩, ⟨a3, a4⟩, a5, a6⟩ := stOk_iff.1 h
  change 0 ≤ e.f0 at a1; change e.f0 ≤ st - 1 at a2; change 0 ≤ e.f2 at a3; change e.f2 ≤ st - 1 at a4; change 0 ≤ e.f1 at a5; change e.f1 ≤ n - 1 at a6
  have b1 : 0 ≤ e.f0 * n := Int.mul_nonneg a1 (by omega)
  have b2 : e.f0 * n ≤ (st - 1) * n := Int.mul_le_mul_of_nonneg_right a2 (by omega)
  have b3 : (st - 1) * n = st * n - n := by rw [Int.sub_mul, Int.one_mul]
  have b4 : (st - 1) * n ≤ 30 * n := Int.mul_le_mul_of_nonneg_right (by omega) (by omega)
  have b5 : (e.f0 * n + e.f1) * st ≤ (st * n - 1) * st := Int.mul_le_mul_of_nonneg_right (by omega) h3
  have b6 : (st * n - 1) * st = st * n * st - st := by rw [Int.sub_mul, Int.one_mul]
  have b7 : 0 ≤ (e.f0 * n + e.f1) * st := Int.mul_nonneg (by omega) h3
  have b8 : (e.f0 * n + e.f1) * st ≤ 248 * st := Int.mul_le_mul_of_nonneg_right (by omega) h3
  unfold atE
  exact ⟨⟨b1, by omega⟩, ⟨by omega, by omega⟩, ⟨b7, by omega⟩, by omega, by omega⟩
theorem all_size {n st : Int} (h1 : 1 ≤ n) (h2 : n ≤ 8) (h3 : 0 ≤ st) (h4 : st ≤ 31) : 0 ≤ st * n ∧ st * n ≤ 248 ∧ 0 ≤ st * n * st ∧ st * n * st ≤ 7688 := by
  have b1 : 0 ≤ st * n := Int.mul_nonneg h3 (by omega)
  have b2 : st * n ≤ 31 * n := Int.mul_le_mul_of_nonneg_right h4 (by omega)
  have b3 : 0 ≤ st * n * st := Int.mul_nonneg b1 h3
  have b4 : st * n * st ≤ 248 * st := Int.mul_le_mul_of_nonneg_right (by omega) h3
  exact ⟨b1, by omega, b3, by omega⟩
theorem dec_at {n st : Int} {e : S33} (h1 : 1 ≤ n) (h2 : n ≤ 8) (h3 : 0 ≤ st) (h4 : st ≤ 31) (h : stOk n st (keyE e) = true) (g : Bool) : decE n st (atE n st e).toNat g = ⟨e.f0, e.f1, e.f2, g⟩ := by
  have hr := atE_range h1 h2 h3 h4 h
  obtain ⟨⟨a1, a2⟩, ⟨a3, a4⟩, a5, a6⟩ := stOk_iff.1 h
  change 0 ≤ e.f0 at a1; change e.f0 ≤ st - 1 at a2; change 0 ≤ e.f2 at a3; change e.f2 ≤ st - 1 at a4; change 0 ≤ e.f1 at a5; change e.f1 ≤ n - 1 at a6
  unfold decE
  rw [Int.toNat_of_nonneg hr.2.2.2.1]
  unfold atE
  obtain ⟨c1, c2⟩ := div_mix (e.f0 * n + e.f1) e.f2 st a3 (by omega)
  obtain ⟨c3, c4⟩ := div_mix e.f0 e.f1 n a5 (by omega)
  rw [c1, c2, c3, c4]
theorem dec_lt {n st : Int} (h1 : 1 ≤ n) (h3 : 1 ≤ st) {i j : Nat} (h : i < j) (g g' : Bool) : lessK (keyE (decE n st i g)) (keyE (decE n st j g')) = true := by
  rw [lessK_iff]
  show (i : Int) / st / n < (j : Int) / st / n ∨ ((i : Int) / st / n = (j : Int) / st / n ∧ ((i : Int) / st % n < (j : Int) / st % n ∨ ((i : Int) / st % n = (j : Int) / st % n ∧ (i : Int) % st < (j : Int) % st)))
  have e1 : (i : Int) / st ≤ (j : Int) / st := Int.ediv_le_ediv (by omega) (by omega)
  have e2 : (i : Int) / st / n ≤ (j : Int) / st / n := Int.ediv_le_ediv (by omega) e1
  have d1 := Int.mul_ediv_add_emod (i : Int) st
  have d2 := Int.mul_ediv_add_emod (j : Int) st
  have d3 := Int.mul_ediv_add_emod ((i : Int) / st) n
  have d4 := Int.mul_ediv_add_emod ((j : Int) / st) n
  by_cases f1 : (i : Int) / st / n = (j : Int) / st / n
  · rw [f1] at d3
    by_cases f2 : (i : Int) / st = (j : Int) / st
    · rw [f2] at d1 d3 ⊢
      right; refine ⟨f1 ▸ rfl, ?_⟩
      right; refine ⟨rfl, ?_⟩; omega
    · right; refine ⟨f1, ?_⟩; left; omega
  · left; omega
theorem at_inj {n st : Int} {x e : S33} (h1 : 1 ≤ n) (h2 : n ≤ 8) (h3 : 0 ≤ st) (h4 : st ≤ 31) (hx : stOk n st (keyE x) = true) (he : stOk n st (keyE e) = true) : atE n st x = atE n st e ↔ keyE x = keyE e := by
  constructor
  · intro h
    have a := dec_at h1 h2 h3 h4 hx true
    have b := dec_at h1 h2 h3 h4 he true
    rw [h, b] at a
    injection a with c1 c2 c3
    unfold keyE
    rw [c1, c2, c3]
  · intro h
    unfold keyE at h
    simp only [Prod.mk.injEq] at h
    unfold atE
    rw [h.1, h.2.1, h.2.2]
def markStep (n st : Int) (m : List Int) (e : S33) : List Int := m.set (atE n st e).toNat (if rd m (atE n st e) > mkE e then rd m (atE n st e) else mkE e)
def marksE (n st : Int) (l : List S33) (m : List Int) : List Int := l.foldl (markStep n st) m
theorem marksE_length (n st : Int) (l : List S33) : ∀ m, (marksE n st l m).length = m.length := by
  induction l with
  | nil => intro m; rfl
  | cons e l ih =>
    intro m
    show (marksE n st l (markStep n st m e)).length = _
    rw [ih]; unfold markStep; rw [List.length_set]
theorem marksE_spec (n st : Int) (h1 : 1 ≤ n) (h2 : n ≤ 8) (h3 : 0 ≤ st) (h4 : st ≤ 31) (l : List S33) (hl : l.all (fun e => stOk n st (keyE e)) = true) : ∀ m : List Int, (m.length : Int) = st * n * st → (∀ i : Nat, 0 ≤ rd m (i : Int) ∧ rd m (i : Int) ≤ 2) →
    (∀ i : Nat, 0 ≤ rd (marksE n st l m) (i : Int) ∧ rd (marksE n st l m) (i : Int) ≤ 2) ∧ ∀ i : Nat, i < m.length → (rd (marksE n st l m) (i : Int) > 0 ↔ rd m (i : Int) > 0 ∨ ∃ e ∈ l, atE n st e = i) ∧ (rd (marksE n st l m) (i : Int) = 2 ↔ rd m (i : Int) = 2 ∨ ∃ e ∈ l, atE n st e = i ∧ e.f3 = true) := by
  induction l with
  | nil => intro m hm hv; exact ⟨hv, fun i _ => ⟨by simp [marksE], by simp [marksE]⟩⟩
  | cons x l ih =>
    intro m hm hv
    simp only [List.all_cons, Bool.and_eq_true] at hl
    obtain ⟨hx, hl⟩ := hl
    have hr := atE_range h1 h2 h3 h4 hx
    obtain ⟨p, hp⟩ : ∃ p : Nat, atE n st x = p := ⟨(atE n st x).toNat, by omega⟩
    have hpl : p < m.length := by omega
    have hstep : ∀ i : Nat, rd (markStep n st m x) (i : Int) = if i = p then (if rd m (i : Int) > mkE x then rd m (i : Int) else mkE x) else rd m (i : Int) := by
      intro i
      unfold markStep
      rw [hp, rd_nat, Int.toNat_natCast, List.getD_eq_getElem?_getD, List.getElem?_set]
      by_cases h : p = i
      · subst h; rw [if_pos rfl, if_pos hpl, if_pos rfl, Option.getD_some]
      · rw [if_neg h, if_neg (fun e => h e.symm), ← List.getD_eq_getElem?_getD, ← rd_nat]
    have hmk : (x.f3 = true ∧ mkE x = 2) ∨ (¬ x.f3 = true ∧ mkE x = 1) := by
      unfold mkE
      by_cases h : x.f3 = true
      · rw [if_pos h]; exact .inl ⟨h, rfl⟩
      · rw [if_neg h]; exact .inr ⟨h, rfl⟩
    have hv2 : ∀ i : Nat, 0 ≤ rd (markStep n st m x) (i : Int) ∧ rd (markStep n st m x) (i : Int) ≤ 2 := by
      intro i
      rw [hstep]
      have := hv i
      split
      · split <;> omega
      · exact this
    have hlen : (markStep n st m x).length = m.length := by unfold markStep; rw [List.length_set]
    obtain ⟨i1, i2⟩ := ih hl (markStep n st m x) (by rw [hlen]; exact hm) hv2
    refine ⟨i1, fun i hi => ?_⟩
    obtain ⟨i3, i4⟩ := i2 i (by rw [hlen]; exact hi)
    have hvi := hv i
    refine ⟨i3.trans ?_, i4.trans ?_⟩ <;> clear i1 i2 i3 i4 ih
    · rw [hstep, ex_cons, ← or_assoc]
      refine or_congr ?_ Iff.rfl
      by_cases h : i = p
      · rw [if_pos h, hp]
        constructor
        · intro _; right; rw [h]
        · intro _; split <;> omega
      · rw [if_neg h, hp]
        exact ⟨Or.inl, fun h' => h'.resolve_right (by omega)⟩
    · rw [hstep, ex_cons, ← or_assoc]
      refine or_congr ?_ Iff.rfl
      by_cases h : i = p
      · rw [if_pos h, hp]
        rcases hmk with ⟨g, hk⟩ | ⟨g, hk⟩
        · constructor
          · intro _; right; exact ⟨by rw [h], g⟩
          · intro _; split <;> omega
        · constructor
          · intro hh; left; split at hh <;> omega
          · intro hh
            have h5 := hh.resolve_right (fun h' => g h'.2)
            rw [if_pos (by omega)]; exact h5
      · rw [if_neg h, hp]
        exact ⟨Or.inl, fun h' => h'.resolve_right (fun h'' => h (by omega))⟩
/-- The edges of the marks from i on, d of them. -/
def outE (n st : Int) (m : List Int) : Nat → Nat → List S33
  | _, 0 => []
  | i, d + 1 => if rd m (i : Int) > 0 then decE n st i (rd m (i : Int) == 2) :: outE n st m (i + 1) d else outE n st m (i + 1) d
theorem outE_length (n st : Int) (m : List Int) (d : Nat) : ∀ i, (outE n st m i d).length ≤ d := by
  induction d with
  | zero => intro i; exact Nat.le_refl _
  | succ d ih =>
    intro i
    have := ih (i + 1)
    simp only [outE]
    split
    · simp only [List.length_cons]; omega
    · omega
theorem mem_outE (n st : Int) (m : List Int) (d : Nat) (e : S33) : ∀ i, e ∈ outE n st m i d ↔ ∃ j : Nat, i ≤ j ∧ j < i + d ∧ rd m (j : Int) > 0 ∧ e = decE n st j (rd m (j : Int) == 2) := by
  induction d with
  | zero => intro i; simp only [outE]; constructor
            · intro h; cases h
            · rintro ⟨j, h1, h2, _⟩; omega
  | succ d ih =>
    intro i
    have hi := ih (i + 1)
    have split1 : (∃ j : Nat, i ≤ j ∧ j < i + (d + 1) ∧ rd m (j : Int) > 0 ∧ e = decE n st j (rd m (j : Int) == 2)) ↔ (rd m (i : Int) > 0 ∧ e = decE n st i (rd m (i : Int) == 2)) ∨ ∃ j : Nat, i + 1 ≤ j ∧ j < i + 1 + d ∧ rd m (j : Int) > 0 ∧ e = decE n st j (rd m (j : Int) == 2) := by
      constructor
      · rintro ⟨j, a, b, c⟩
        by_cases hj : j = i
        · subst hj; exact .inl c
        · exact .inr ⟨j, by omega, by omega, c⟩
      · rintro (c | ⟨j, a, b, c⟩)
        · exact ⟨i, by omega, by omega, c⟩
        · exact ⟨j, by omega, by omega, c⟩
    rw [split1, ← hi]
    simp only [outE]
    by_cases h : rd m (i : Int) > 0
    · rw [if_pos h, List.mem_cons]
      exact or_congr ⟨fun h' => ⟨h, h'⟩, fun h' => h'.2⟩ Iff.rfl
    · rw [if_neg h]
      exact ⟨Or.inr, fun h' => h'.resolve_left (fun h'' => h h''.1)⟩
theorem outE_asc {n st : Int} (h1 : 1 ≤ n) (h3 : 1 ≤ st) (m : List Int) (d : Nat) : ∀ i, Asc (outE n st m i d) := by
  induction d with
  | zero => intro i; exact List.Pairwise.nil
  | succ d ih =>
    intro i
    simp only [outE]
    by_cases h : rd m (i : Int) > 0
    · rw [if_pos h]
      refine List.pairwise_cons.2 ⟨fun e he => ?_, ih (i + 1)⟩
      obtain ⟨j, a, b, _, rfl⟩ := (mem_outE n st m d e (i + 1)).1 he
      exact dec_lt h1 h3 (by omega) _ _
    · rw [if_neg h]; exact ih (i + 1)
theorem outE_made {n st : Int} (h1 : 1 ≤ n) (h2 : n ≤ 8) (h3 : 0 ≤ st) (h4 : st ≤ 31) (l : List S33) (hl : l.all (fun e => stOk n st (keyE e)) = true) : outE n st (marksE n st l (List.replicate (st * n * st).toNat 0)) 0 (st * n * st).toNat = madeE l := by
  obtain ⟨s1, s2, s3, s4⟩ := all_size h1 h2 h3 h4
  have hrep : ∀ i : Nat, rd (List.replicate (st * n * st).toNat 0) (i : Int) = 0 := fun i => by
    rw [rd_nat, List.getD_eq_getElem?_getD, List.getElem?_replicate]; split <;> rfl
  have hlen : (List.replicate (st * n * st).toNat (0 : Int)).length = (st * n * st).toNat := List.length_replicate
  obtain ⟨_, hm⟩ := marksE_spec n st h1 h2 h3 h4 l hl (List.replicate (st * n * st).toNat 0) (by rw [hlen]; omega) (fun i => by rw [hrep]; omega)
  obtain ⟨c1, c2⟩ := madeE_spec l
  by_cases hst : st = 0
  · subst hst
    have : l = [] := by
      cases l with
      | nil => rfl
      | cons x l =>
        simp only [List.all_cons, Bool.and_eq_true] at hl
        have := stOk_iff.1 hl.1
        omega
    subst this
    have : (0 * n * 0 : Int).toNat = 0 := by simp
    rw [this]
    cases hh : madeE [] with
    | nil => rfl
    | cons y r =>
      have := (c2 y).1 (by rw [hh]; exact List.mem_cons_self)
      obtain ⟨⟨x, hx, _⟩, _⟩ := this
      cases hx
  · refine asc_unique _ _ (outE_asc h1 (by omega) _ _ 0) c1 (fun e => ?_)
    rw [mem_outE, c2]
    have hall := List.all_eq_true.1 hl
    constructor
    · rintro ⟨j, _, hj, hp, he⟩
      obtain ⟨m1, m2⟩ := hm j (by rw [hlen]; omega)
      rw [hrep] at m1 m2
      obtain ⟨x, hx, hxj⟩ := (m1.1 hp).resolve_left (by omega)
      have hd := dec_at h1 h2 h3 h4 (hall x hx) (rd (marksE n st l (List.replicate (st * n * st).toNat 0)) (j : Int) == 2)
      rw [hxj, Int.toNat_natCast] at hd
      have hk : keyE x = keyE e := by rw [he, hd]; rfl
      refine ⟨⟨x, hx, hk⟩, ?_⟩
      have hf : e.f3 = (rd (marksE n st l (List.replicate (st * n * st).toNat 0)) (j : Int) == 2) := by rw [he]; rfl
      rw [hf, beq_iff_eq, m2]
      have hxe : stOk n st (keyE e) = true := by rw [← hk]; exact hall x hx
      constructor
      · intro h
        obtain ⟨y, hy, hyj, hyg⟩ := h.resolve_left (by omega)
        exact ⟨y, hy, (at_inj h1 h2 h3 h4 (hall y hy) hxe).1 (by rw [hyj, ← hxj]; exact (at_inj h1 h2 h3 h4 (hall x hx) hxe).2 hk), hyg⟩
      · rintro ⟨y, hy, hyk, hyg⟩
        exact .inr ⟨y, hy, by rw [← hxj]; exact (at_inj h1 h2 h3 h4 (hall y hy) (hall x hx)).2 (hyk.trans hk.symm), hyg⟩
    · rintro ⟨⟨x, hx, hk⟩, hg⟩
      have hr := atE_range h1 h2 h3 h4 (hall x hx)
      obtain ⟨p, hp⟩ : ∃ p : Nat, atE n st x = p := ⟨(atE n st x).toNat, by omega⟩
      obtain ⟨m1, m2⟩ := hm p (by rw [hlen]; omega)
      rw [hrep] at m1 m2
      have hpl : p < (st * n * st).toNat := by clear hm m1 m2 c2 hall hg; omega
      refine ⟨p, Nat.zero_le _, by rw [Nat.zero_add]; exact hpl, m1.2 (.inr ⟨x, hx, hp⟩), ?_⟩
      have hd := dec_at h1 h2 h3 h4 (hall x hx) (rd (marksE n st l (List.replicate (st * n * st).toNat 0)) (p : Int) == 2)
      rw [hp, Int.toNat_natCast] at hd
      rw [hd]
      have hf : e.f3 = (rd (marksE n st l (List.replicate (st * n * st).toNat 0)) (p : Int) == 2) := by
        rw [Bool.eq_iff_iff, hg, beq_iff_eq, m2]
        constructor
        · rintro ⟨y, hy, hyk, hyg⟩
          exact .inr ⟨y, hy, by rw [← hp]; exact (at_inj h1 h2 h3 h4 (hall y hy) (hall x hx)).2 (hyk.trans hk.symm), hyg⟩
        · intro h
          obtain ⟨y, hy, hyj, hyg⟩ := h.resolve_left (by omega)
          exact ⟨y, hy, ((at_inj h1 h2 h3 h4 (hall y hy) (hall x hx)).1 (hyj.trans hp.symm)).trans hk, hyg⟩
      unfold keyE at hk
      simp only [Prod.mk.injEq] at hk
      rw [← hf, hk.1, hk.2.1, hk.2.2]
theorem spec_AutoMake_l1 (n st : Int) (h1 : 1 ≤ n) (h2 : n ≤ 8) (h3 : 0 ≤ st) (h4 : st ≤ 31) (p q r : Int) (m : List Int) (hm : (m.length : Int) = st * n * st) (d : Nat) : ∀ (k i : Nat) (acc : List S33), i + d = m.length → acc.length ≤ i → d < k →
    spec_AutoMake.l1 k n st m (i : Int) p q r acc = some (p, q, r, acc ++ outE n st m i d, true) := by
  obtain ⟨s1, s2, s3, s4⟩ := all_size h1 h2 h3 h4
  induction d with
  | zero =>
    intro k i acc hi ha hk
    obtain ⟨k, rfl⟩ := succ_of hk
    simp only [spec_AutoMake.l1]
    rw [if_neg (by omega)]
    simp [outE]
  | succ d ih =>
    intro k i acc hi ha hk
    obtain ⟨k, rfl⟩ := succ_of hk
    simp only [spec_AutoMake.l1, outE]
    rw [if_pos (by omega), if_pos (by omega), wrap64_succ (by omega)]
    by_cases h : rd m (i : Int) > 0
    · have hst : st ≠ 0 := by
        intro e
        rw [e] at hm
        simp at hm
        simp [hm] at hi
      have e0 : Int.tdiv (i : Int) st = (i : Int) / st := Int.tdiv_eq_ediv_of_nonneg (by omega)
      have e1 : 0 ≤ (i : Int) / st := Int.ediv_nonneg (by omega) h3
      have e2 : (i : Int) / st ≤ (i : Int) := Int.ediv_le_self _ (by omega)
      have e3 : Int.tdiv ((i : Int) / st) n = (i : Int) / st / n := Int.tdiv_eq_ediv_of_nonneg e1
      have e4 : 0 ≤ (i : Int) / st / n := Int.ediv_nonneg e1 (by omega)
      have e5 : (i : Int) / st / n ≤ (i : Int) / st := Int.ediv_le_self _ e1
      rw [if_pos h, if_pos h, if_neg hst, if_neg (by omega), if_pos (by omega), e0, wrap64_id (n := (i : Int) / st) (by omega) (by omega), e3, wrap64_id (n := (i : Int) / st / n) (by omega) (by omega), Int.tmod_eq_emod_of_nonneg e1, Int.tmod_eq_emod_of_nonneg (by omega)]
      rw [ih k (i + 1) _ (by omega) (by simp; omega) (by omega), List.append_assoc]
      rfl
    · rw [if_neg h, if_neg h, ih k (i + 1) _ (by omega) (by omega) (by omega)]
theorem spec_AutoMake_l0 (n st : Int) (h1 : 1 ≤ n) (h2 : n ≤ 8) (h3 : 0 ≤ st) (h4 : st ≤ 31) (p q r : Int) (l : List S33) (hl : l.length ≤ 2000) (d : Nat) : ∀ (k i : Nat) (m : List Int), (m.length : Int) = st * n * st → i + d = l.length → 2 * d + 7800 < k →
    spec_AutoMake.l0 k n st l m (i : Int) p q r = some (if (l.drop i).all (fun e => stOk n st (keyE e)) = true then (p, q, r, outE n st (marksE n st (l.drop i) m) 0 m.length, true) else (0, 0, 0, [], false)) := by
  obtain ⟨s1, s2, s3, s4⟩ := all_size h1 h2 h3 h4
  induction d with
  | zero =>
    intro k i m hm hi hk
    obtain ⟨k, rfl⟩ := succ_of (show 0 < k by omega)
    simp only [spec_AutoMake.l0]
    rw [if_neg (by omega), List.drop_eq_nil_of_le (by omega), if_pos (show (([] : List S33).all fun e => stOk n st (keyE e)) = true from rfl)]
    have := spec_AutoMake_l1 n st h1 h2 h3 h4 p q r m hm m.length k 0 [] (by omega) (by simp) (by omega)
    exact this
  | succ d ih =>
    intro k i m hm hi hk
    obtain ⟨k, rfl⟩ := succ_of (show 0 < k by omega)
    obtain ⟨k, rfl⟩ := succ_of (show 0 < k by omega)
    have hd := drop_cons (l := l) (i := i) (by omega)
    have hnope : ∀ (a b c : Int) (g : Bool), spec_AutoMake.j2 (k + 1) n st l m (i : Int) true p q r a b c g = some (0, 0, 0, [], false) := fun a b c g => by simp only [spec_AutoMake.j2]; rw [if_pos trivial]
    simp only [spec_AutoMake.l0]
    rw [if_pos (by omega), if_pos (by omega), rdE_at (by omega), spec_l4State_eq _ _ (by omega) (by omega), spec_l4State_eq _ _ (by omega) (by omega), Option.bind_some, Option.bind_some, spec_l1In_eq, Option.bind_some]
    simp only [hnope]
    rw [wrap64_id (n := n - 1) (by omega) (by omega), hd, List.all_cons]
    have hst : stOk n st (keyE l[i]) = (inR l[i].f0 0 (st - 1) && (inR l[i].f2 0 (st - 1) && inR l[i].f1 0 (n - 1))) := rfl
    by_cases c0 : inR l[i].f0 0 (st - 1) = true
    · rw [if_pos c0]
      by_cases c1 : inR l[i].f2 0 (st - 1) = true
      · rw [if_pos c1]
        by_cases c2 : inR l[i].f1 0 (n - 1) = true
        · have hok : stOk n st (keyE l[i]) = true := by rw [hst, c0, c1, c2]; rfl
          have hr := atE_range h1 h2 h3 h4 hok
          have hlt : atE n st l[i] < m.length := by omega
          have hge := hr.2.2.2.1
          have e0 : wrap64 (l[i].f0 * n) = l[i].f0 * n := wrap64_id (by omega) (by omega)
          have e1 : wrap64 (l[i].f0 * n + l[i].f1) = l[i].f0 * n + l[i].f1 := wrap64_id (by omega) (by omega)
          have e2 : wrap64 ((l[i].f0 * n + l[i].f1) * st) = (l[i].f0 * n + l[i].f1) * st := wrap64_id (by omega) (by omega)
          have e3 : wrap64 ((l[i].f0 * n + l[i].f1) * st + l[i].f2) = atE n st l[i] := wrap64_id (by unfold atE at hge hlt; omega) (by unfold atE at hge hlt; omega)
          have hset : ∀ v : Int, v = mkE l[i] → spec_AutoMake.l0 k n st l (m.set (atE n st l[i]).toNat (if rd m (atE n st l[i]) > v then rd m (atE n st l[i]) else v)) ((i + 1 : Nat) : Int) p q r = some (if (true && (l.drop (i + 1)).all (fun e => stOk n st (keyE e))) = true then (p, q, r, outE n st (marksE n st (l[i] :: l.drop (i + 1)) m) 0 m.length, true) else (0, 0, 0, [], false)) := by
            rintro v rfl
            have hl2 : (markStep n st m l[i]).length = m.length := by unfold markStep; rw [List.length_set]
            have := ih k (i + 1) (markStep n st m l[i]) (by rw [hl2]; exact hm) (by omega) (by omega)
            rw [hl2] at this
            rw [Bool.true_and]
            exact this
          rw [c2, hok]
          simp only [spec_AutoMake.j2, Bool.not_true, Bool.false_eq_true, if_false]
          rw [e0, e1, e2, e3, spec_l1Max_eq, spec_l1Max_eq, Option.bind_some, Option.bind_some, wrap64_succ (by omega)]
          cases hg : l[i].f3
          · rw [if_neg (by simp), if_pos hge, if_pos hlt]
            exact hset 1 (by unfold mkE; rw [hg]; rfl)
          · rw [if_pos rfl, if_pos hge, if_pos hlt]
            exact hset 2 (by unfold mkE; rw [hg]; rfl)
        · simp only [Bool.not_eq_true] at c2
          rw [c2, hst, c0, c1, c2]
          simp only [Bool.not_false, Bool.and_false, Bool.false_and, Bool.false_eq_true, if_false]
          exact hnope _ _ _ _
      · rw [if_neg c1]
        simp only [Bool.not_eq_true] at c1
        rw [hst, c0, c1]
        simp
    · rw [if_neg c0]
      simp only [Bool.not_eq_true] at c0
      rw [hst, c0]
      simp
theorem spec_AutoMake_eq (n st s : Int) (l : List S33) (hl : l.length ≤ 1099511627776) (k : Nat) (hk : 12000 < k) : spec_AutoMake.f k n st s l = some (makeZ n st s l) := by
  unfold spec_AutoMake.f makeZ
  rw [spec_AutoOk_eq n st s [] (by simp) k (by simp; omega), Option.bind_some]
  obtain ⟨k, rfl⟩ := succ_of (show 0 < k by omega)
  have hh : autoOkB n st s ([] : List S33) = headB n st s := by unfold autoOkB; simp [edgesB]
  rw [hh]
  by_cases h1 : headB n st s = true
  · rw [if_pos h1]
    obtain ⟨a1, a2, a3⟩ := head_of h1
    obtain ⟨s1, s2, s3, s4⟩ := all_size a1.1 a1.2 a2.1 a2.2
    simp only [spec_AutoMake.j0]
    by_cases hl2 : l.length ≤ 2000
    · have e1 : wrap64 (st * n) = st * n := wrap64_id (by omega) (by omega)
      have e2 : wrap64 (st * n * st) = st * n * st := wrap64_id (by omega) (by omega)
      rw [decide_eq_false (show ¬ (l.length : Int) > 2000 by omega), if_neg (by simp), e1, e2, if_pos s3, if_pos (by omega)]
      have h := spec_AutoMake_l0 n st a1.1 a1.2 a2.1 a2.2 n st s l hl2 l.length k 0 (List.replicate (st * n * st).toNat 0) (by rw [List.length_replicate]; omega) (by omega) (by omega)
      rw [show ((0 : Nat) : Int) = 0 from rfl, List.drop_zero, List.length_replicate] at h
      rw [h]
      by_cases h2 : l.all (fun e => stOk n st (keyE e)) = true
      · rw [if_pos h2, if_pos ⟨hl2, h1, h2⟩, outE_made a1.1 a1.2 a2.1 a2.2 l h2]
      · rw [if_neg h2, if_neg (fun h => h2 h.2.2)]
    · rw [decide_eq_true (show (l.length : Int) > 2000 by omega), if_pos rfl, if_neg (fun h => hl2 h.1)]
  · rw [if_neg h1, if_neg (fun h => h1 h.2.1)]
    simp only [spec_AutoMake.j0]
    rw [if_pos trivial]
theorem drawAutoMake_end (b : List Int) (hl : b.length ≤ 1048576) (i h m : Int) (hi : CurOk b i) (F : Int → Option (Int × Int × Int × List S33)) (hF : ∀ x, ∃ n st s l, F x = some (n, st, s, l) ∧ l.length ≤ 2001) :
    ∃ n st s l, ((spec_l1Max.f m 0).bind fun t => (spec_l1Min.f t 10).bind fun u => if 0 ≤ u then (spec_l1Below.f b i h (shl .i64 1 u)).bind fun bt => F bt.1 else none) = some (n, st, s, l) ∧ l.length ≤ 2001 := by
  rw [spec_l1Max_eq, Option.bind_some, spec_l1Min_eq, Option.bind_some, if_pos (by split <;> split <;> omega)]
  obtain ⟨x, i', h', e, _⟩ := l1Below_ok b i h (shl .i64 1 (if (if m > 0 then m else 0) < 10 then (if m > 0 then m else 0) else 10)) hl hi
  rw [e, Option.bind_some]
  exact hF x
theorem drawAutoMake_ok (b : List Int) (hl : b.length ≤ 1048576) (k : Nat) (hk : 20000 < k) : ∃ n st s l, spec_DrawAutoMake.f k b = some (n, st, s, l) ∧ l.length ≤ 2001 := by
  unfold spec_DrawAutoMake.f
  obtain ⟨h, e1⟩ := l1New_ok b k (by omega)
  rw [e1, Option.bind_some]
  dsimp only
  obtain ⟨a, i2, h2, e2, a0, a1, _, c2⟩ := l1Below_ok b 0 h 3 hl ⟨by omega, by omega⟩
  rw [e2, Option.bind_some]
  dsimp only
  obtain ⟨s, i3, h3, e3, s0, s1, _, c3⟩ := l1Below_ok b i2 h2 5 hl c2
  rw [e3, Option.bind_some]
  dsimp only
  obtain ⟨m, i4, h4, e4, m0, m1, _, c4⟩ := l1Below_ok b i3 h3 20 hl c3
  rw [e4, Option.bind_some]
  dsimp only
  have m2 := m1 (by omega)
  obtain ⟨o, i5, h5, e5, o1, c5⟩ := drawEdges_ok b i4 h4 (wrap64 (1 + a)) (wrap64 (1 + s)) m hl c4 m0 (by omega) k (by omega)
  rw [e5, Option.bind_some]
  dsimp only
  obtain ⟨q, i6, h6, e6, _, _, _, c6⟩ := l1Below_ok b i5 h5 20 hl c5
  rw [e6, Option.bind_some]
  dsimp only
  by_cases q0 : q = 0
  · rw [if_pos q0]
    obtain ⟨x, i7, h7, e7, _, c7⟩ := l1PickInt_mem b i6 h6 [0, 8, 9] hl c6 (by decide)
    rw [e7, Option.bind_some]
    exact drawAutoMake_end b hl i7 h7 _ c7 (fun z => some (x, wrap64 (1 + s), z, o)) (fun z => ⟨_, _, _, _, rfl, by omega⟩)
  · rw [if_neg q0]
    by_cases q1 : q = 1
    · rw [if_pos q1]
      obtain ⟨x, i7, h7, e7, _, c7⟩ := l1PickInt_mem b i6 h6 [0, -1, 31, 32] hl c6 (by decide)
      rw [e7, Option.bind_some]
      exact drawAutoMake_end b hl i7 h7 _ c7 (fun z => some (wrap64 (1 + a), x, z, o)) (fun z => ⟨_, _, _, _, rfl, by omega⟩)
    · rw [if_neg q1]
      by_cases q2 : q = 2
      · rw [if_pos q2, if_pos (by omega)]
        exact drawAutoMake_end b hl i6 h6 _ c6 (fun z => some (wrap64 (1 + a), wrap64 (1 + s), z, o ++ [⟨-1, 0, 0, false⟩])) (fun z => ⟨_, _, _, _, rfl, by simp; omega⟩)
      · rw [if_neg q2]
        by_cases q3 : q = 3
        · rw [if_pos q3]
          obtain ⟨x, i7, h7, e7, x0, x1, _, c7⟩ := l1Below_ok b i6 h6 2 hl c6
          have x2 := x1 (by omega)
          rw [e7, Option.bind_some]
          dsimp only
          rw [wrap64_id (n := 2000 + x) (by omega) (by omega), if_pos (by omega), if_pos (by omega)]
          exact drawAutoMake_end b hl i7 h7 _ c7 (fun z => some (wrap64 (1 + a), wrap64 (1 + s), z, List.replicate (2000 + x).toNat z33)) (fun z => ⟨_, _, _, _, rfl, by rw [List.length_replicate]; omega⟩)
        · rw [if_neg q3]
          exact drawAutoMake_end b hl i6 h6 _ c6 (fun z => some (wrap64 (1 + a), wrap64 (1 + s), z, o)) (fun z => ⟨_, _, _, _, rfl, by omega⟩)
end hFnMake
open hFnMake
/-- Is one of these edges, alike to x, good? -/
def goodE (x : S33) (l : List S33) : Bool := l.any (fun y => decide (keyE y = keyE x) && y.f3)
theorem made_edge {n st s : Int} {l : List S33} (h : autoOkB n st s (madeE l) = true) {x : S33} (hx : x ∈ l) : edgeAt x.f0 x.f1 x.f2 (madeE l) = (goodE x l, true) := by
  obtain ⟨_, h2⟩ := madeE_spec l
  have hm : (⟨x.f0, x.f1, x.f2, goodE x l⟩ : S33) ∈ madeE l := by
    refine (h2 _).2 ⟨⟨x, hx, rfl⟩, ?_⟩
    show goodE x l = true ↔ _
    unfold goodE
    rw [List.any_eq_true]
    constructor
    · rintro ⟨y, hy, hb⟩
      rw [Bool.and_eq_true, decide_eq_true_iff] at hb
      exact ⟨y, hy, hb.1, hb.2⟩
    · rintro ⟨y, hy, hk, hg⟩
      exact ⟨y, hy, by rw [Bool.and_eq_true, decide_eq_true_iff]; exact ⟨hk, hg⟩⟩
  exact edgeAt_mem _ _ (autoOk_of h).2.2 _ hm
theorem goodE_take (x : S33) (l : List S33) (j : Nat) (hj : j < l.length) : goodE x (l.take (j + 1)) = (goodE x (l.take j) || (decide (keyE l[j] = keyE x) && l[j].f3)) := by
  unfold goodE
  rw [List.take_add_one, List.getElem?_eq_getElem hj, List.any_append]
  simp
theorem make_l1 (n st s : Int) (l : List S33) (h : autoOkB n st s (madeE l) = true) (hl : l.length ≤ 2001) (i : Nat) (hi : i < l.length) (k0 : Nat) (hk0 : 7000 < k0) (hnext : ∀ k, k0 ≤ k → laws_FnMake.l0 k l ((i + 1 : Nat) : Int) n st s (madeE l) = some true) (d : Nat) :
    ∀ (k j : Nat), j + d = min l.length 50 → d + k0 + 1 ≤ k → laws_FnMake.l1 k l (i : Int) (goodE l[i] (l.take j)) (j : Int) n st s (madeE l) = some true := by
  have hml := madeE_length l
  have hend : ∀ k, k0 ≤ k → ((impl_AutoEdge.f k n st s (madeE l) (rd_T33 l (i : Int)).f0 (rd_T33 l (i : Int)).f1 (rd_T33 l (i : Int)).f2)) = some (goodE l[i] l, true) := fun k hk => by
    rw [impl_AutoEdge_eq n st s _ _ _ _ (by omega) k (by omega), if_pos h, rdE_at hi, made_edge h (List.getElem_mem hi)]
  induction d with
  | zero =>
    intro k j hj hk
    obtain ⟨k, rfl⟩ := succ_of (show 0 < k by omega)
    simp only [laws_FnMake.l1]
    have htail : (if (l.length : Int) ≤ 50 then (if (goodE l[i] l != goodE l[i] (l.take j)) = true then (some false) else (laws_FnMake.l0 k l (wrap64 ((i : Int) + 1)) n st s (madeE l))) else (laws_FnMake.l0 k l (wrap64 ((i : Int) + 1)) n st s (madeE l))) = some true := by
      rw [wrap64_succ (by omega), hnext k (by omega)]
      by_cases h5 : (l.length : Int) ≤ 50
      · rw [if_pos h5, List.take_of_length_le (by omega), bne_self_eq_false, if_neg Bool.false_ne_true]
      · rw [if_neg h5]
    rw [hend k (by omega), if_pos (show 0 ≤ (i : Int) by omega), if_pos (show (i : Int) < l.length by omega), Option.bind_some]
    dsimp only
    rw [if_pos rfl, htail]
    by_cases c0 : (j : Int) < l.length
    · rw [if_pos c0, if_neg (show ¬ (j : Int) < 50 by omega), if_pos (show 0 ≤ (i : Int) by omega), if_pos (show (i : Int) < l.length by omega)]
    · rw [if_neg c0, if_pos (show 0 ≤ (i : Int) by omega), if_pos (show (i : Int) < l.length by omega)]
  | succ d ih =>
    intro k j hj hk
    obtain ⟨k, rfl⟩ := succ_of (show 0 < k by omega)
    have hi2 := ih k (j + 1) (by omega) (by omega)
    rw [goodE_take _ _ _ (by omega)] at hi2
    simp only [laws_FnMake.l1]
    rw [if_pos (show (j : Int) < l.length by omega), if_pos (show (j : Int) < 50 by omega), if_pos (show 0 ≤ (j : Int) by omega), wrap64_succ (by omega), rdE_at (show j < l.length by omega), rdE_at hi]
    have hk2 : keyE l[j] = keyE l[i] ↔ l[j].f0 = l[i].f0 ∧ l[j].f1 = l[i].f1 ∧ l[j].f2 = l[i].f2 := by unfold keyE; simp only [Prod.mk.injEq]
    cases hg : goodE l[i] (l.take j)
    · rw [hg, Bool.false_or] at hi2
      rw [if_neg Bool.false_ne_true, if_pos (show 0 ≤ (i : Int) by omega), if_pos (show (i : Int) < l.length by omega)]
      by_cases a0 : l[j].f0 = l[i].f0
      · rw [if_pos a0]
        by_cases a1 : l[j].f1 = l[i].f1
        · rw [if_pos a1]
          by_cases a2 : l[j].f2 = l[i].f2
          · rw [if_pos a2]
            rw [decide_eq_true (hk2.2 ⟨a0, a1, a2⟩), Bool.true_and] at hi2
            exact hi2
          · rw [if_neg a2]
            rw [decide_eq_false (fun h' => a2 (hk2.1 h').2.2), Bool.false_and] at hi2
            exact hi2
        · rw [if_neg a1]
          rw [decide_eq_false (fun h' => a1 (hk2.1 h').2.1), Bool.false_and] at hi2
          exact hi2
      · rw [if_neg a0]
        rw [decide_eq_false (fun h' => a0 (hk2.1 h').1), Bool.false_and] at hi2
        exact hi2
    · rw [hg, Bool.true_or] at hi2
      rw [if_pos rfl]
      exact hi2
theorem make_l0 (n st s : Int) (l : List S33) (h : autoOkB n st s (madeE l) = true) (hl : l.length ≤ 2001) (d : Nat) : ∀ (k i : Nat), i + d = min l.length 50 → 60 * d + 8000 < k → laws_FnMake.l0 k l (i : Int) n st s (madeE l) = some true := by
  induction d with
  | zero =>
    intro k i hi hk
    obtain ⟨k, rfl⟩ : ∃ m, k = m + 1 + 1 := ⟨k - 2, by omega⟩
    simp only [laws_FnMake.l0, laws_FnMake.j2]
    by_cases c : (i : Int) < l.length
    · rw [if_pos c, decide_eq_false (by omega), if_neg Bool.false_ne_true]
    · rw [if_neg c, if_neg Bool.false_ne_true]
  | succ d ih =>
    intro k i hi hk
    obtain ⟨k, rfl⟩ : ∃ m, k = m + 1 + 1 := ⟨k - 2, by omega⟩
    simp only [laws_FnMake.l0, laws_FnMake.j2]
    rw [if_pos (by omega), decide_eq_true (show (i : Int) < 50 by omega), if_pos rfl]
    exact make_l1 n st s l h hl i (by omega) (60 * d + 8001) (by omega) (fun k' hk' => ih k' (i + 1) (by omega) (by omega)) (min l.length 50) k 0 (by omega) (by omega)
theorem FnMake : laws_FnMake.Pure := by
  intro b hb _
  obtain ⟨K, hK⟩ : ∃ K, K = 1000000 := ⟨_, rfl⟩
  refine ⟨K + 1, ?_⟩
  unfold laws_FnMake.f laws_big.f
  rw [Option.bind_some]
  by_cases hbig : (b.length : Int) > 1048576
  · rw [decide_eq_true hbig, if_pos rfl]
  · rw [decide_eq_false hbig, if_neg (by simp)]
    obtain ⟨n, st, s, es, e, he⟩ := drawAutoMake_ok b (by omega) (K + 1) (by omega)
    rw [e, Option.bind_some]
    dsimp only
    rw [impl_AutoMake_eq n st s es _ (by omega), Option.bind_some, spec_AutoMake_eq n st s es (by omega) _ (by omega), Option.bind_some]
    have hml := madeE_length es
    by_cases hc : es.length ≤ 2000 ∧ headB n st s = true ∧ es.all (fun e => stOk n st (keyE e)) = true
    · have hz : makeZ n st s es = (n, st, s, madeE es, true) := by unfold makeZ; rw [if_pos hc]
      have hok : autoOkB n st s (madeE es) = true := by rw [madeE_ok n st s es hc.1, hc.2.1, hc.2.2]; rfl
      rw [hz]
      dsimp only
      rw [bne_self_eq_false, if_neg Bool.false_ne_true, if_pos rfl, impl_AutoOk_eq n st s _ (by omega) _ (by omega), Option.bind_some, hok, if_pos rfl, if_neg (by omega), bne_self_eq_false, laws_FnMake.j0, if_neg Bool.false_ne_true]
      exact make_l0 n st s es hok he (min es.length 50) K 0 (by omega) (by omega)
    · have hz : makeZ n st s es = (0, 0, 0, [], false) := by unfold makeZ; rw [if_neg hc]
      rw [hz]
      dsimp only
      rw [bne_self_eq_false, if_neg Bool.false_ne_true, if_neg Bool.false_ne_true, if_pos rfl]
      rfl
end Go.Proofs.Ytigmokdcanebeaa.Pure
