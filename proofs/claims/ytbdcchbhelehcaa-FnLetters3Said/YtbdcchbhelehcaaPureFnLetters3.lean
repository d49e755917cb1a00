/- What the printed functions of FnLetters3 come to, one lemma a function, and from these the law: for all arguments (within the bounds that the printed statement names) it answers true. -/
import Derived.Test.YtbdcchbhelehcaaMFnLetters3x7
import Derived.Test.YtbdcchbhelehcaaBase
import Derived.Test.YtbdcchbhelehcaaBaseD
import Derived.Test.YtbdcchbhelehcaaBaseL
import Derived.Test.YtbdcchbhelehcaaBaseS
import Derived.Test.YtbdcchbhelehcaaBaseW
namespace Go.Proofs.Ytbdcchbhelehcaa.Pure
open Go.RowKit Go.Proofs.Ytbdcchbhelehcaa.MFnLetters3 Go.Proofs.YtbdcchbhelehcaaW.PrintWords Go.Proofs.YtbdcchbhelehcaaW.PrintLast Go.Proofs.Ytbdcchbhelehcaa.Base

namespace hFnLetters3
theorem spec_l1In_eq (a b c : Int) : spec_l1In.f a b c = some (inR a b c) := by
  unfold spec_l1In.f inR
  by_cases h : a ≥ b
  · rw [if_pos h]; simp [show b ≤ a from h]
  · rw [if_neg h]; simp; omega
theorem impl_inRange_eq (a b c : Int) : impl_inRange.f a b c = some (inR a b c) := by
  unfold impl_inRange.f inR
  by_cases h : a ≥ b
  · rw [if_pos h]; simp [show b ≤ a from h]
  · rw [if_neg h]; simp; omega
theorem slices_Clone_eq (l : List Int) (h : l.length ≤ 1099511627776) : slices_Clone_int_int.f l = some l := by
  unfold slices_Clone_int_int.f
  rw [if_pos (by omega)]
theorem l1New_l0 (b : List Int) (d : Nat) : ∀ (k i : Nat) (h : Int), i + d = 4000 → d < k → ∃ h', spec_l1New.l0 k b h (i : Int) = some (b, 0, h') := by
  induction d with
  | zero =>
    intro k i h hi hk
    obtain ⟨k, rfl⟩ := succ_of hk
    simp only [spec_l1New.l0]
    by_cases h1 : (i : Int) < b.length
    · rw [if_pos h1, if_neg (by omega)]; exact ⟨_, rfl⟩
    · rw [if_neg h1]; exact ⟨_, rfl⟩
  | succ d ih =>
    intro k i h hi hk
    obtain ⟨k, rfl⟩ := succ_of hk
    simp only [spec_l1New.l0]
    by_cases h1 : (i : Int) < b.length
    · rw [if_pos h1, if_pos (by omega), if_pos (by omega), wrap64_succ (by omega)]
      exact ih k (i + 1) _ (by omega) (by omega)
    · rw [if_neg h1]; exact ⟨_, rfl⟩
theorem l1New_ok (b : List Int) (k : Nat) (hk : 4000 < k) : ∃ h, spec_l1New.f k b = some (b, 0, h) := by
  unfold spec_l1New.f
  exact l1New_l0 b 4000 k 0 _ (by omega) hk
theorem l1Byte_ok (b : List Int) (i h : Int) (hl : b.length ≤ 1048576) (hi : CurOk b i) : ∃ r i' h', spec_l1Byte.f b i h = some (r, i', h') ∧ 0 ≤ r ∧ r ≤ 255 ∧ CurOk b i' := by
  unfold spec_l1Byte.f
  obtain ⟨h0, h1⟩ := hi
  by_cases hlt : i < b.length
  · rw [if_pos hlt, if_pos h0]
    refine ⟨_, _, _, rfl, (and255_range _).1, (and255_range _).2, ?_⟩
    rw [wrap64_id (by omega) (by omega)]
    exact ⟨by omega, by omega⟩
  · rw [if_neg hlt]
    exact ⟨_, _, _, rfl, (and255_range _).1, (and255_range _).2, h0, h1⟩
theorem l1Below_ok (b : List Int) (i h n : Int) (hl : b.length ≤ 1048576) (hi : CurOk b i) : ∃ r i' h', spec_l1Below.f b i h n = some (r, i', h') ∧ 0 ≤ r ∧ (0 < n → r < n) ∧ (n ≤ 0 → r = 0) ∧ CurOk b i' := by
  unfold spec_l1Below.f
  by_cases h0 : n ≤ 0
  · rw [if_pos h0]
    exact ⟨_, _, _, rfl, by omega, by omega, fun _ => rfl, hi⟩
  · rw [if_neg h0]
    by_cases h1 : n ≤ 256
    · rw [if_pos h1]
      obtain ⟨r, i1, h1', e, a, b', c⟩ := l1Byte_ok b i h hl hi
      rw [e]
      simp only [Option.bind_some]
      rw [if_neg (by omega)]
      have := tmod_range a (show 0 < n by omega)
      exact ⟨_, _, _, rfl, this.1, fun _ => this.2, fun h => absurd h h0, c⟩
    · rw [if_neg h1]
      obtain ⟨r1, i1, h1', e1, a1, b1, c1⟩ := l1Byte_ok b i h hl hi
      obtain ⟨r2, i2, h2', e2, a2, b2, c2⟩ := l1Byte_ok b i1 h1' hl c1
      obtain ⟨r3, i3, h3', e3, a3, b3, c3⟩ := l1Byte_ok b i2 h2' hl c2
      obtain ⟨r4, i4, h4', e4, a4, b4, c4⟩ := l1Byte_ok b i3 h3' hl c3
      rw [e1]; simp only [Option.bind_some]
      rw [e2]; simp only [Option.bind_some]
      rw [e3]; simp only [Option.bind_some]
      rw [e4]; simp only [Option.bind_some]
      rw [if_neg (by omega), wrap64_id (n := r1 * 16777216) (by omega) (by omega), wrap64_id (n := r2 * 65536) (by omega) (by omega), wrap64_id (n := r1 * 16777216 + r2 * 65536) (by omega) (by omega), wrap64_id (n := r3 * 256) (by omega) (by omega),
        wrap64_id (n := r1 * 16777216 + r2 * 65536 + r3 * 256) (by omega) (by omega), wrap64_id (n := r1 * 16777216 + r2 * 65536 + r3 * 256 + r4) (by omega) (by omega)]
      have := tmod_range (a := r1 * 16777216 + r2 * 65536 + r3 * 256 + r4) (n := n) (by omega) (by omega)
      exact ⟨_, _, _, rfl, this.1, fun _ => this.2, fun h => absurd h h0, c4⟩
theorem big_eq (l : List Int) : laws_big.f l = some (decide (1048576 < l.length)) := by
  unfold laws_big.f
  congr 1
  exact decide_eq_decide.2 ⟨fun h => by omega, fun h => by omega⟩
theorem spec_l3Letters_l0 (l : List Int) (n : Int) (h0 : -1000 ≤ n) (h1 : n ≤ 1000) (hl : l.length ≤ 1099511627776) (d : Nat) : ∀ (k i : Nat), i + d = l.length → d < k → spec_l3Letters.l0 k l n (i : Int) = some (lettersB (l.drop i) n) := by
  induction d with
  | zero =>
    intro k i hi hk
    obtain ⟨k, rfl⟩ := succ_of hk
    simp only [spec_l3Letters.l0]
    rw [if_neg (by omega), List.drop_eq_nil_of_le (by omega)]
    rfl
  | succ d ih =>
    intro k i hi hk
    obtain ⟨k, rfl⟩ := succ_of hk
    simp only [spec_l3Letters.l0]
    rw [if_pos (by omega), if_pos (by omega), rd_at (by omega), spec_l1In_eq, wrap64_id (n := n - 1) (by omega) (by omega), wrap64_succ (by omega), drop_cons (l := l) (i := i) (by omega)]
    simp only [Option.bind_some, lettersB, List.all_cons]
    by_cases h : inR l[i] 0 (n - 1) = true
    · rw [if_pos h, h, ih k (i + 1) (by omega) (by omega)]; rfl
    · rw [if_neg h]; simp at h; rw [h]; rfl
theorem spec_l3Letters_eq (l : List Int) (n : Int) (h0 : -1000 ≤ n) (h1 : n ≤ 1000) (hl : l.length ≤ 1099511627776) (k : Nat) (hk : l.length < k) : spec_l3Letters.f k l n = some (lettersB l n) := by
  unfold spec_l3Letters.f
  exact spec_l3Letters_l0 l n h0 h1 hl l.length k 0 (by omega) hk
theorem spec_WordOk_eq (s l : List Int) (n : Int) (hs : s.length ≤ 1099511627776) (hl : l.length ≤ 1099511627776) (k : Nat) (hk : s.length + l.length + 1 < k) : spec_WordOk.f k s l n = some (wordOkB s l n) := by
  unfold spec_WordOk.f wordOkB
  obtain ⟨k, rfl⟩ := succ_of hk
  rw [spec_l1In_eq, spec_l1In_eq]
  simp only [Option.bind_some, spec_WordOk.j0]
  by_cases h1 : inR n 1 8 = true
  · have h1' := inR_iff.1 h1
    rw [if_pos h1, h1]
    by_cases h2 : (s.length : Int) > 40
    · rw [if_pos h2, if_pos trivial, decide_eq_false (by omega)]; rfl
    · rw [if_neg h2, decide_eq_true (by omega)]
      by_cases h3 : inR (l.length : Int) 1 40 = true
      · rw [h3, spec_l3Letters_eq s n (by omega) (by omega) hs k (by omega)]
        simp only [Bool.not_true, Bool.false_eq_true, if_false, Option.bind_some, Bool.true_and]
        rw [spec_l3Letters_eq l n (by omega) (by omega) hl k (by omega)]
        by_cases h4 : lettersB s n = true
        · rw [if_pos h4, h4]; rfl
        · rw [if_neg h4]; simp at h4; rw [h4]; rfl
      · simp at h3; rw [h3]; rfl
  · rw [if_neg h1, if_pos trivial]; simp at h1; rw [h1]; rfl
theorem impl_isLetters_eq (n : Int) : impl_isLetters.f n = some (inR n 1 8) := by
  unfold impl_isLetters.f
  rw [impl_inRange_eq]; rfl
theorem impl_areLetters_l0 (l : List Int) (n : Int) (h0 : -1000 ≤ n) (h1 : n ≤ 1000) (hl : l.length ≤ 1099511627776) (d : Nat) : ∀ (k i : Nat), i + d = l.length → d < k → impl_areLetters.l0 k n l (l.length : Int) (i : Int) = some (lettersB (l.drop i) n) := by
  induction d with
  | zero =>
    intro k i hi hk
    obtain ⟨k, rfl⟩ := succ_of hk
    simp only [impl_areLetters.l0]
    rw [if_neg (by omega), List.drop_eq_nil_of_le (by omega)]
    rfl
  | succ d ih =>
    intro k i hi hk
    obtain ⟨k, rfl⟩ := succ_of hk
    simp only [impl_areLetters.l0]
    rw [if_pos (by omega), if_pos (by omega), if_pos (by omega), rd_at (by omega), impl_inRange_eq, wrap64_id (n := n - 1) (by omega) (by omega), wrap64_succ (by omega), drop_cons (l := l) (i := i) (by omega)]
    simp only [Option.bind_some, lettersB, List.all_cons]
    by_cases h : inR l[i] 0 (n - 1) = true
    · rw [if_pos h, h, ih k (i + 1) (by omega) (by omega)]; rfl
    · rw [if_neg h]; simp at h; rw [h]; rfl
theorem impl_areLetters_eq (l : List Int) (n : Int) (h0 : -1000 ≤ n) (h1 : n ≤ 1000) (hl : l.length ≤ 1099511627776) (k : Nat) (hk : l.length < k) : impl_areLetters.f k l n = some (lettersB l n) := by
  unfold impl_areLetters.f
  exact impl_areLetters_l0 l n h0 h1 hl l.length k 0 (by omega) hk
theorem impl_WordOk_eq (s l : List Int) (n : Int) (hs : s.length ≤ 1099511627776) (hl : l.length ≤ 1099511627776) (k : Nat) (hk : s.length + l.length + 1 < k) : impl_WordOk.f k s l n = some (wordOkB s l n) := by
  unfold impl_WordOk.f wordOkB
  obtain ⟨k, rfl⟩ := succ_of hk
  rw [impl_isLetters_eq, impl_inRange_eq]
  simp only [Option.bind_some, impl_WordOk.j0]
  by_cases h1 : inR n 1 8 = true
  · have h1' := inR_iff.1 h1
    rw [if_pos h1, h1]
    by_cases h2 : (s.length : Int) > 40
    · rw [if_pos h2, if_pos trivial, decide_eq_false (by omega)]; rfl
    · rw [if_neg h2, decide_eq_true (by omega)]
      by_cases h3 : inR (l.length : Int) 1 40 = true
      · rw [h3, impl_areLetters_eq s n (by omega) (by omega) hs k (by omega)]
        simp only [Bool.not_true, Bool.false_eq_true, if_false, Option.bind_some, Bool.true_and]
        rw [impl_areLetters_eq l n (by omega) (by omega) hl k (by omega)]
        by_cases h4 : lettersB s n = true
        · rw [if_pos h4, h4]; rfl
        · rw [if_neg h4]; simp at h4; rw [h4]; rfl
      · simp at h3; rw [h3]; rfl
  · rw [if_neg h1, if_pos trivial]; simp at h1; rw [h1]; rfl
theorem spec_l3Right_eq (s l : List Int) (hs : s.length ≤ 1099511627776) (hl : l.length ≤ 1099511627776) (k : Nat) (hk : s.length + l.length + 1 < k) : spec_l3Right.f k s l = some (wordOkB s l 8) := by
  unfold spec_l3Right.f
  rw [spec_WordOk_eq s l 8 hs hl k hk]; rfl
theorem impl_isRight_eq (s l : List Int) (hs : s.length ≤ 1099511627776) (hl : l.length ≤ 1099511627776) (k : Nat) (hk : s.length + l.length + 1 < k) : impl_isRight.f k s l = some (wordOkB s l 8) := by
  unfold impl_isRight.f
  rw [impl_WordOk_eq s l 8 hs hl k hk]; rfl
theorem spec_l3At_eq (s l : List Int) (i : Nat) (hi : (i : Int) ≤ 9223372036854775807) (h1 : 1 ≤ l.length) : spec_l3At.f s l (i : Int) = some (letterAt s l i) := by
  unfold spec_l3At.f letterAt
  by_cases h : i < s.length
  · rw [if_pos (by omega), if_pos (by omega), if_pos h, rd_nat]
  · have e : (i : Int) - s.length = ((i - s.length : Nat) : Int) := by omega
    have hm : (i - s.length) % l.length < l.length := Nat.mod_lt _ (by omega)
    rw [if_neg (by omega), if_neg (by omega), if_neg h, e, wrap64_id (by omega) (by omega), tmod_nat, if_pos (by omega), if_pos (by omega), rd_nat]
def placeW (s l : List Int) (i : Nat) : Nat := if i < s.length then i else s.length + (i - s.length) % l.length
theorem impl_Word_placeOf_eq (s l : List Int) (i : Nat) (hi : (i : Int) ≤ 9223372036854775807) (hs : s.length ≤ 1000) (h1 : 1 ≤ l.length) (h2 : l.length ≤ 1000) : impl_Word_placeOf.f s l (i : Int) = some (placeW s l i : Int) := by
  unfold impl_Word_placeOf.f placeW
  by_cases h : i < s.length
  · rw [if_pos (by omega), if_pos h]
  · have e : (i : Int) - s.length = ((i - s.length : Nat) : Int) := by omega
    have hm : (i - s.length) % l.length < l.length := Nat.mod_lt _ (by omega)
    rw [if_neg (by omega), if_neg (by omega), if_neg h, e, wrap64_id (n := ((i - s.length : Nat) : Int)) (by omega) (by omega), tmod_nat, wrap64_id (by omega) (by omega)]
    congr 1
theorem impl_Word_letter_eq (s l : List Int) (i : Nat) (h1 : 1 ≤ l.length) (h2 : l.length ≤ 1000) : impl_Word_letter.f s l (placeW s l i : Int) = some (letterAt s l i) := by
  unfold impl_Word_letter.f letterAt placeW
  by_cases h : i < s.length
  · rw [if_pos h, if_pos (by omega), if_pos (by omega), if_pos h, rd_nat]
  · have hm : (i - s.length) % l.length < l.length := Nat.mod_lt _ (by omega)
    have e : ((s.length + (i - s.length) % l.length : Nat) : Int) - s.length = (((i - s.length) % l.length : Nat) : Int) := by omega
    rw [if_neg h, if_neg (by omega), e, wrap64_id (by omega) (by omega), if_pos (by omega), if_pos (by omega), if_neg h, rd_nat]
theorem spec_WordAt_eq (s l : List Int) (a : Int) (ha : (Lit.int .i64 a).wf = true) (hs : s.length ≤ 1099511627776) (hl : l.length ≤ 1099511627776) (k : Nat) (hk : s.length + l.length + 1 < k) : spec_WordAt.f k s l a = some (if wordOkB s l 8 then (if a < 0 then -1 else letterAt s l a.toNat) else -1) := by
  have hb := wf_bounds ha
  unfold spec_WordAt.f
  rw [spec_l3Right_eq s l hs hl k hk]
  simp only [Option.bind_some]
  by_cases h : wordOkB s l 8 = true
  · rw [if_pos h, if_pos h]
    by_cases h' : a < 0
    · rw [if_pos h', if_pos h']
    · have g := wordOk_of h
      obtain ⟨i, rfl⟩ := Int.eq_ofNat_of_zero_le (show 0 ≤ a by omega)
      rw [if_neg h', if_neg h', spec_l3At_eq s l i (by omega) (by omega)]; rfl
  · rw [if_neg h, if_neg h]
theorem impl_WordAt_eq (s l : List Int) (a : Int) (ha : (Lit.int .i64 a).wf = true) (hs : s.length ≤ 1099511627776) (hl : l.length ≤ 1099511627776) (k : Nat) (hk : s.length + l.length + 1 < k) : impl_WordAt.f k s l a = some (if wordOkB s l 8 then (if a < 0 then -1 else letterAt s l a.toNat) else -1) := by
  have hb := wf_bounds ha
  unfold impl_WordAt.f
  obtain ⟨k, rfl⟩ := succ_of hk
  simp only [impl_WordAt.j0, if_true]
  rw [impl_isRight_eq s l hs hl _ hk]
  simp only [Option.bind_some]
  by_cases h' : a < 0
  · rw [if_pos h', if_pos h']; split <;> rfl
  · rw [if_neg h', if_neg h']
    by_cases h : wordOkB s l 8 = true
    · have g := wordOk_of h
      obtain ⟨i, rfl⟩ := Int.eq_ofNat_of_zero_le (show 0 ≤ a by omega)
      rw [h, if_neg (by simp), impl_Word_placeOf_eq s l i (by omega) (by omega) (by omega) (by omega)]
      simp only [Option.bind_some]
      rw [impl_Word_letter_eq s l i (by omega) (by omega)]; rfl
    · simp at h
      rw [h]; rfl
/-- A word's letters from a place on. -/
def takeFrom (s l : List Int) : Nat → Nat → List Int
  | _, 0 => []
  | i, d + 1 => letterAt s l i :: takeFrom s l (i + 1) d
theorem takeFrom_length (s l : List Int) (d : Nat) : ∀ i, (takeFrom s l i d).length = d := by
  induction d with
  | zero => intro i; rfl
  | succ d ih => intro i; simp [takeFrom, ih]
/-- What is taken of a word. -/
def takeW (s l : List Int) (n : Int) : List Int := if wordOkB s l 8 then (if inR n 0 1000 then takeFrom s l 0 n.toNat else []) else []
theorem takeW_length (s l : List Int) (n : Int) : (takeW s l n).length ≤ 1000 := by
  unfold takeW
  split
  · split
    · rename_i h
      have := inR_iff.1 h
      rw [takeFrom_length]; omega
    · simp
  · simp
theorem impl_WordTake_l0 (s l : List Int) (n : Nat) (hn : n ≤ 1000) (h : wordOkB s l 8 = true) (d : Nat) : ∀ (k i : Nat) (o : List Int), i + d = n → o.length ≤ i → d < k → impl_WordTake.l0 k o (n : Int) (i : Int) s l = some (o ++ takeFrom s l i d) := by
  have g := wordOk_of h
  induction d with
  | zero =>
    intro k i o hi ho hk
    obtain ⟨k, rfl⟩ := succ_of hk
    simp only [impl_WordTake.l0]
    rw [if_neg (by omega)]
    simp [takeFrom]
  | succ d ih =>
    intro k i o hi ho hk
    obtain ⟨k, rfl⟩ := succ_of hk
    simp only [impl_WordTake.l0]
    rw [if_pos (by omega), impl_Word_placeOf_eq s l i (by omega) (by omega) (by omega) (by omega)]
    simp only [Option.bind_some]
    rw [impl_Word_letter_eq s l i (by omega) (by omega)]
    simp only [Option.bind_some]
    rw [if_pos (by omega), wrap64_succ (by omega), ih k (i + 1) _ (by omega) (by rw [List.length_append, List.length_singleton]; omega) (by omega)]
    simp [takeFrom]
theorem impl_WordTake_eq (s l : List Int) (a : Int) (hs : s.length ≤ 1099511627776) (hl : l.length ≤ 1099511627776) (k : Nat) (hk : s.length + l.length + 1100 < k) : impl_WordTake.f k s l a = some (takeW s l a) := by
  unfold impl_WordTake.f takeW
  obtain ⟨k, rfl⟩ := succ_of hk
  rw [impl_inRange_eq]
  simp only [Option.bind_some, impl_WordTake.j0, if_true]
  rw [impl_isRight_eq s l hs hl _ (by omega)]
  simp only [Option.bind_some]
  by_cases h' : inR a 0 1000 = true
  · have g := inR_iff.1 h'
    rw [if_pos h', if_pos h']
    by_cases h : wordOkB s l 8 = true
    · obtain ⟨n, rfl⟩ := Int.eq_ofNat_of_zero_le g.1
      rw [if_pos h, h, if_neg (by simp)]
      exact impl_WordTake_l0 s l n (by omega) h n k 0 [] (by omega) (by simp) (by omega)
    · rw [if_neg h]
      simp at h
      rw [h]; rfl
  · rw [if_neg h', if_neg h']; split <;> rfl
theorem concat2 (a b : List Int) (h : a.length + b.length ≤ 1000000000) (k : Nat) (hk : 8 < k) : slices_Concat_int_int.f k [a, b] = some (a ++ b) := by
  obtain ⟨k, rfl⟩ : ∃ m, k = m + 8 := ⟨k - 8, by omega⟩
  have e0 : rd_L2 [a, b] 0 = a := rfl
  have e1 : rd_L2 [a, b] 1 = b := rfl
  have l2 : (([a, b].length : Nat) : Int) = 2 := rfl
  have w0 : wrap64 (0 + 1) = 1 := by rw [wrap64_id (by omega) (by omega)]; rfl
  have w1 : wrap64 (1 + 1) = 2 := by rw [wrap64_id (by omega) (by omega)]; rfl
  have wa : wrap64 (0 + (a.length : Int)) = (a.length : Int) := by rw [wrap64_id (by omega) (by omega)]; omega
  have wb : wrap64 ((a.length : Int) + (b.length : Int)) = (a.length : Int) + (b.length : Int) := wrap64_id (by omega) (by omega)
  have n1 : ((a.length : Int) < 0) = False := eq_false (by omega)
  have n2 : ((a.length : Int) + (b.length : Int) < 0) = False := eq_false (by omega)
  have n3 : ((0 : Int) ≤ (a.length : Int) + (b.length : Int)) = True := eq_true (by omega)
  have n4 : ((a.length : Int) + (b.length : Int) < 1099511627776) = True := eq_true (by omega)
  have n5 : (a.length < 17592186044416) = True := eq_true (by omega)
  have n6 : (a.length + b.length < 17592186044416) = True := eq_true (by omega)
  have c1 : ((0 : Int) < 2) = True := eq_true (by omega)
  have c2 : ((1 : Int) < 2) = True := eq_true (by omega)
  have c3 : ((2 : Int) < 2) = False := eq_false (by omega)
  have c4 : ((0 : Int) ≤ 1) = True := eq_true (by omega)
  unfold slices_Concat_int_int.f
  simp only [slices_Concat_int_int.l0, slices_Concat_int_int.l1, slices_Grow_int_int.f, e0, e1, l2, w0, w1, wa, wb, n1, n2, n3, n4, n5, n6, c1, c2, c3, c4, Int.le_refl, if_true, if_false, List.length_nil, and_self, Option.bind_some, List.nil_append, Nat.zero_add]
theorem impl_copyWord_eq (s l : List Int) (hs : s.length ≤ 1099511627776) (hl : l.length ≤ 1099511627776) : impl_copyWord.f s l = some (s, l) := by
  unfold impl_copyWord.f
  rw [slices_Clone_eq s hs, slices_Clone_eq l hl]; rfl
/-- A word without its first letters. -/
def tailW (s l : List Int) (a : Int) : List Int × List Int × Bool :=
  if wordOkB s l 8 then (if inR a 0 1000000 then (if a ≤ (s.length : Int) then (s.drop a.toNat, l, true) else ([], l.drop ((a.toNat - s.length) % l.length) ++ l.take ((a.toNat - s.length) % l.length), true)) else ([], [], false)) else ([], [], false)
theorem tailW_length (s l : List Int) (a : Int) : (tailW s l a).1.length ≤ s.length ∧ (tailW s l a).2.1.length ≤ l.length := by
  unfold tailW
  split
  · split
    · split
      · simp
      · simp; omega
    · simp
  · simp
theorem impl_WordTail_eq (s l : List Int) (a : Int) (hs : s.length ≤ 1099511627776) (hl : l.length ≤ 1099511627776) (k : Nat) (hk : s.length + l.length + 10 < k) : impl_WordTail.f k s l a = some (tailW s l a) := by
  unfold impl_WordTail.f tailW
  obtain ⟨k, rfl⟩ := succ_of hk
  rw [impl_isRight_eq s l hs hl _ (by omega), impl_inRange_eq]
  simp only [Option.bind_some, impl_WordTail.j0, if_true]
  by_cases h2 : inR a 0 1000000 = true
  · have g2 := inR_iff.1 h2
    obtain ⟨n, rfl⟩ := Int.eq_ofNat_of_zero_le g2.1
    rw [if_pos h2, if_pos h2]
    by_cases h : wordOkB s l 8 = true
    · have g := wordOk_of h
      rw [if_pos h, h, if_neg (by simp)]
      by_cases h3 : (n : Int) < s.length
      · rw [if_pos h3, if_pos (show (n : Int) ≤ s.length by omega), if_pos (by omega), if_pos (by omega), impl_copyWord_eq _ _ (by simp; omega) hl]
        simp
      · have e : (n : Int) - s.length = ((n - s.length : Nat) : Int) := by omega
        have hm : (n - s.length) % l.length < l.length := Nat.mod_lt _ (by omega)
        rw [if_neg h3, if_neg (show ¬ (l.length : Int) = 0 by omega), e, wrap64_id (n := ((n - s.length : Nat) : Int)) (by omega) (by omega), tmod_nat, if_pos (by omega), if_pos (by omega), concat2 _ _ (by simp; omega) k (by omega)]
        simp only [Option.bind_some, Int.toNat_natCast]
        by_cases h4 : (n : Int) ≤ s.length
        · have e4 : n - s.length = 0 := by omega
          rw [if_pos h4, e4]
          simp
          omega
        · rw [if_neg h4]
    · simp at h
      rw [h]; rfl
  · simp at h2
    rw [h2]
    simp only [Bool.false_eq_true, if_false]
    split <;> rfl
/-- A word, if it is right. -/
def toldW (s l : List Int) : List Int × List Int × Bool := if wordOkB s l 8 then (s, l, true) else ([], [], false)
theorem spec_l3Told_eq (s l : List Int) (hs : s.length ≤ 1099511627776) (hl : l.length ≤ 1099511627776) (k : Nat) (hk : s.length + l.length + 1 < k) : spec_l3Told.f k s l = some (toldW s l) := by
  unfold spec_l3Told.f toldW
  rw [spec_l3Right_eq s l hs hl k hk]
  simp only [Option.bind_some]
  by_cases h : wordOkB s l 8 = true
  · rw [if_pos h, if_pos h]
  · rw [if_neg h, if_neg h]
theorem impl_rightOr_eq (s l : List Int) (hs : s.length ≤ 1099511627776) (hl : l.length ≤ 1099511627776) (k : Nat) (hk : s.length + l.length + 1 < k) : impl_rightOr.f k s l true = some (toldW s l) := by
  unfold impl_rightOr.f toldW
  rw [impl_isRight_eq s l hs hl k hk, if_pos rfl]
  simp only [Option.bind_some]
  by_cases h : wordOkB s l 8 = true
  · rw [if_pos h, if_pos h]
  · rw [if_neg h, if_neg h]
/-- A word whose loop begins one letter later. -/
def turnW (s l : List Int) : List Int × List Int × Bool := if wordOkB s l 8 then toldW (s ++ l.take 1) (l.drop 1 ++ l.take 1) else ([], [], false)
theorem toldW_length (s l : List Int) : (toldW s l).1.length ≤ s.length ∧ (toldW s l).2.1.length ≤ l.length := by
  unfold toldW
  split <;> simp
theorem turnW_length (s l : List Int) : (turnW s l).1.length ≤ s.length + 1 ∧ (turnW s l).2.1.length ≤ l.length + 1 := by
  unfold turnW
  split
  · have := toldW_length (s ++ l.take 1) (l.drop 1 ++ l.take 1)
    simp only [List.length_append, List.length_take, List.length_drop] at this
    omega
  · simp
theorem take_one {l : List Int} (h : 1 ≤ l.length) : [rd l 0] = l.take 1 := by
  cases l with
  | nil => simp at h
  | cons x l => rfl
theorem spec_WordTurn_eq (s l : List Int) (hs : s.length ≤ 1099511627776) (hl : l.length ≤ 1099511627776) (k : Nat) (hk : s.length + l.length + 10 < k) : spec_WordTurn.f k s l = some (turnW s l) := by
  unfold spec_WordTurn.f turnW
  rw [spec_l3Right_eq s l hs hl _ (by omega)]
  simp only [Option.bind_some]
  by_cases h : wordOkB s l 8 = true
  · have g := wordOk_of h
    rw [if_pos h, if_pos h, if_pos (by simp; omega), if_pos (by omega), if_pos (by simp; omega), if_pos (by omega), if_pos (by simp; omega), if_pos (by simp; omega), take_one (by omega)]
    simp only [List.nil_append]
    rw [spec_l3Told_eq _ _ (by simp; omega) (by simp; omega) k (by simp; omega)]
    rfl
  · rw [if_neg h, if_neg h]
theorem impl_WordTurn_eq (s l : List Int) (hs : s.length ≤ 1099511627776) (hl : l.length ≤ 1099511627776) (k : Nat) (hk : s.length + l.length + 10 < k) : impl_WordTurn.f k s l = some (turnW s l) := by
  unfold impl_WordTurn.f turnW
  rw [impl_isRight_eq s l hs hl _ (by omega)]
  simp only [Option.bind_some]
  by_cases h : wordOkB s l 8 = true
  · have g := wordOk_of h
    rw [if_pos h, if_pos h, if_pos (by omega), concat2 s (l.take 1) (by simp; omega) k (by omega), concat2 (l.drop 1) (l.take 1) (by simp; omega) k (by omega)]
    simp only [Option.bind_some]
    rw [impl_rightOr_eq _ _ (by simp; omega) (by simp; omega) k (by simp; omega)]
    rfl
  · rw [if_neg h, if_neg h]
theorem slices_Equal_l0 (a b : List Int) (hab : a.length = b.length) (hl : a.length ≤ 1099511627776) (d : Nat) : ∀ (k i : Nat), i + d = a.length → d < k → slices_Equal_int_int.l0 k a b (a.length : Int) (i : Int) = some (decide (a.drop i = b.drop i)) := by
  induction d with
  | zero =>
    intro k i hi hk
    obtain ⟨k, rfl⟩ := succ_of hk
    simp only [slices_Equal_int_int.l0]
    rw [if_neg (by omega), List.drop_eq_nil_of_le (by omega), List.drop_eq_nil_of_le (by omega)]
    rfl
  | succ d ih =>
    intro k i hi hk
    obtain ⟨k, rfl⟩ := succ_of hk
    simp only [slices_Equal_int_int.l0]
    rw [if_pos (by omega), if_pos (by omega), if_pos (by omega), if_pos (by omega), rd_at (l := a) (by omega), rd_at (l := b) (by omega), wrap64_succ (by omega), ih k (i + 1) (by omega) (by omega), drop_cons (l := a) (i := i) (by omega), drop_cons (l := b) (i := i) (by omega)]
    by_cases h : a[i] = b[i]
    · rw [if_pos h]; congr 1; rw [decide_eq_decide, List.cons.injEq]; exact ⟨fun e => ⟨h, e⟩, fun e => e.2⟩
    · rw [if_neg h]; congr 1; symm; rw [decide_eq_false_iff_not, List.cons.injEq]; exact fun e => h e.1
theorem slices_Equal_eq (a b : List Int) (hl : a.length ≤ 1099511627776) (k : Nat) (hk : a.length < k) : slices_Equal_int_int.f k a b = some (decide (a = b)) := by
  unfold slices_Equal_int_int.f
  by_cases h : a.length = b.length
  · rw [if_pos (by omega)]
    have := slices_Equal_l0 a b h hl a.length k 0 (by omega) hk
    simpa using this
  · rw [if_neg (by omega), decide_eq_false (fun e => h (by rw [e]))]
/-- Is a loop the same over and over, so many letters each time? -/
def perB (l : List Int) (p : Nat) : Bool := decide (l.length % p = 0 ∧ l.drop p = l.take (l.length - p))
/-- The first such number, d numbers looked at from p on; else q. -/
def firstP (l : List Int) (q : Nat) : Nat → Nat → Nat
  | _, 0 => q
  | p, d + 1 => if perB l p then p else firstP l q (p + 1) d
/-- The length of the shortest loop. -/
def periodW (l : List Int) : Nat := firstP l l.length 1 (l.length - 1)
theorem firstP_range (l : List Int) (q : Nat) (d : Nat) : ∀ p, firstP l q p d = q ∨ (p ≤ firstP l q p d ∧ firstP l q p d < p + d) := by
  induction d with
  | zero => intro p; exact .inl rfl
  | succ d ih =>
    intro p
    unfold firstP
    split
    · right; omega
    · rcases ih (p + 1) with h | h
      · exact .inl h
      · right; omega
theorem periodW_range (l : List Int) (h : 1 ≤ l.length) : 1 ≤ periodW l ∧ periodW l ≤ l.length := by
  unfold periodW
  rcases firstP_range l l.length (l.length - 1) 1 with h | h <;> omega
theorem firstP_last (l : List Int) (d : Nat) : ∀ p q, firstP l q p (d + 1) = firstP l (if perB l (p + d) then p + d else q) p d := by
  induction d with
  | zero => intro p q; rfl
  | succ d ih =>
    intro p q
    have e := ih (p + 1) q
    rw [show p + 1 + d = p + (d + 1) by omega] at e
    rw [show firstP l q p (d + 1 + 1) = if perB l p then p else firstP l q (p + 1) (d + 1) from rfl, e]
    rfl
theorem perB_self (l : List Int) : perB l l.length = true := by
  unfold perB
  simp
/-- Letters on letters: the same after p places. -/
theorem per_iff (l : List Int) (p : Nat) (hp : 1 ≤ p) (hpl : p ≤ l.length) : l.drop p = l.take (l.length - p) ↔ ∀ i, i < l.length → l.getD i 0 = l.getD (i % p) 0 := by
  have hg : (∀ i, i + p < l.length → l.getD (i + p) 0 = l.getD i 0) ↔ l.drop p = l.take (l.length - p) := by
    constructor
    · intro h
      apply List.ext_getElem
      · simp
      · intro i h1 h2
        simp only [List.length_drop] at h1
        have := h i (by omega)
        rw [List.getD_eq_getElem?_getD, List.getD_eq_getElem?_getD, List.getElem?_eq_getElem (by omega), List.getElem?_eq_getElem (by omega)] at this
        simp only [Option.getD_some] at this
        simp only [List.getElem_drop, List.getElem_take]
        rw [← this]
        congr 1
        omega
    · intro h i hi
      have h3 := congrArg (fun x => x.getD i 0) h
      simp only [List.getD_eq_getElem?_getD, List.getElem?_drop, List.getElem?_take] at h3
      rw [if_pos (by omega)] at h3
      rw [List.getD_eq_getElem?_getD, List.getD_eq_getElem?_getD, Nat.add_comm i p]
      exact h3
  rw [← hg]
  constructor
  · intro h i
    induction i using Nat.strongRecOn with
    | _ i ih =>
      intro hi
      by_cases hlt : i < p
      · rw [Nat.mod_eq_of_lt hlt]
      · have h1 := h (i - p) (by omega)
        rw [show i - p + p = i by omega] at h1
        rw [h1, ih (i - p) (by omega) (by omega), Nat.mod_eq_sub_mod (a := i) (b := p) (by omega)]
  · intro h i hi
    rw [h (i + p) hi, Nat.add_mod_right, ← h i (by omega)]
/-- A word whose last letters have been taken into the loop, so long as they are the loop's last ones. -/
def rollW : Nat → List Int → List Int → List Int × List Int
  | 0, s, l => (s, l)
  | d + 1, s, l => if s.getD (s.length - 1) 0 = l.getD (l.length - 1) 0 then rollW d (s.take (s.length - 1)) (l.drop (l.length - 1) ++ l.take (l.length - 1)) else (s, l)
/-- The canonical form. -/
def canonW (s l : List Int) : List Int × List Int := if wordOkB s l 8 then rollW s.length s (l.take (periodW l)) else ([], [])
theorem rollW_length (d : Nat) : ∀ s l : List Int, (rollW d s l).1.length ≤ s.length ∧ (rollW d s l).2.length = l.length := by
  induction d with
  | zero => intro s l; exact ⟨Nat.le_refl _, rfl⟩
  | succ d ih =>
    intro s l
    unfold rollW
    split
    · have := ih (s.take (s.length - 1)) (l.drop (l.length - 1) ++ l.take (l.length - 1))
      simp only [List.length_append, List.length_take, List.length_drop] at this
      omega
    · exact ⟨Nat.le_refl _, rfl⟩
theorem canonW_length (s l : List Int) : (canonW s l).1.length ≤ s.length ∧ (canonW s l).2.length ≤ l.length := by
  unfold canonW
  split
  · have := rollW_length s.length s (l.take (periodW l))
    rw [List.length_take] at this
    omega
  · simp
theorem impl_period_l0 (l : List Int) (hl : l.length ≤ 1000) (d : Nat) : ∀ (k p : Nat), 1 ≤ p → p + d = l.length → d + l.length + 1 < k → impl_period.l0 k l (p : Int) = some (firstP l l.length p d : Int) := by
  induction d with
  | zero =>
    intro k p hp hpd hk
    obtain ⟨k, rfl⟩ := succ_of hk
    simp only [impl_period.l0]
    rw [if_neg (by omega)]; rfl
  | succ d ih =>
    intro k p hp hpd hk
    obtain ⟨k, rfl⟩ := succ_of hk
    simp only [impl_period.l0]
    have em : ((l.length : Int) % (p : Int) = 0) = (l.length % p = 0) := by
      rw [← Int.natCast_emod]; exact propext ⟨fun h => by omega, fun h => by omega⟩
    rw [if_pos (by omega), if_neg (by omega), wrap64_id (n := (l.length : Int) - (p : Int)) (by omega) (by omega), show (l.length : Int) - (p : Int) = ((l.length - p : Nat) : Int) by omega, wrap64_succ (by omega), ih k (p + 1) (by omega) (by omega) (by omega), show firstP l l.length p (d + 1) = if perB l p then p else firstP l l.length (p + 1) d from rfl]
    simp only [em]
    by_cases h1 : l.length % p = 0
    · rw [if_pos h1, if_pos (show (0 : Int) ≤ (p : Int) by omega), if_pos (show (p : Int) ≤ (l.length : Int) by omega), if_pos (show (0 : Int) ≤ ((l.length - p : Nat) : Int) by omega), if_pos (show ((l.length - p : Nat) : Int) ≤ (l.length : Int) by omega)]
      simp only [Int.toNat_natCast]
      rw [slices_Equal_eq _ _ (by simp; omega) k (by simp; omega)]
      simp only [Option.bind_some, decide_eq_true_eq]
      by_cases h2 : l.drop p = l.take (l.length - p)
      · rw [if_pos h2, if_pos (show perB l p = true by unfold perB; exact decide_eq_true ⟨h1, h2⟩)]
      · rw [if_neg h2, if_neg (show ¬ perB l p = true by unfold perB; intro h; exact h2 (of_decide_eq_true h).2)]
    · rw [if_neg h1, if_neg (show ¬ perB l p = true by unfold perB; intro h; exact h1 (of_decide_eq_true h).1)]
theorem impl_period_eq (l : List Int) (hl : l.length ≤ 1000) (h1 : 1 ≤ l.length) (k : Nat) (hk : 2 * l.length + 1 < k) : impl_period.f k l = some (periodW l : Int) := by
  unfold impl_period.f periodW
  exact impl_period_l0 l hl (l.length - 1) k 1 (by omega) (by omega) (by omega)
theorem impl_WordCanon_l0 (p : Nat) (hp : 1 ≤ p) (hp2 : p ≤ 1000) (d : Nat) : ∀ (k : Nat) (s l : List Int), s.length = d → s.length ≤ 1000 → l.length = p → d + 20 < k → impl_WordCanon.l0 k s l ((p : Int) - 1) = some (rollW d s l) := by
  induction d with
  | zero =>
    intro k s l hs hs2 hl hk
    obtain ⟨k, rfl⟩ := succ_of hk
    simp only [impl_WordCanon.l0]
    rw [if_neg (by omega)]; rfl
  | succ d ih =>
    intro k s l hs hs2 hl hk
    obtain ⟨k, rfl⟩ := succ_of hk
    simp only [impl_WordCanon.l0]
    rw [if_pos (by omega), wrap64_id (n := (s.length : Int) - 1) (by omega) (by omega), if_pos (by omega), if_pos (by omega), if_pos (by omega), if_pos (by omega), show (s.length : Int) - 1 = ((s.length - 1 : Nat) : Int) by omega, show (p : Int) - 1 = ((l.length - 1 : Nat) : Int) by omega, rd_nat, rd_nat]
    unfold rollW
    by_cases h : s.getD (s.length - 1) 0 = l.getD (l.length - 1) 0
    · rw [if_pos h, if_pos h, if_pos (by omega), if_pos (by omega)]
      simp only [Int.toNat_natCast]
      rw [concat2 _ _ (by simp; omega) k (by omega)]
      simp only [Option.bind_some]
      have := ih k (s.take (s.length - 1)) (l.drop (l.length - 1) ++ l.take (l.length - 1)) (by simp; omega) (by simp; omega) (by simp; omega) (by omega)
      rw [show (p : Int) - 1 = ((l.length - 1 : Nat) : Int) by omega] at this
      exact this
    · rw [if_neg h, if_neg h]
theorem impl_WordCanon_eq (s l : List Int) (hs : s.length ≤ 1048576) (hl : l.length ≤ 1048576) (k : Nat) (hk : s.length + 2 * l.length + 3000 < k) : impl_WordCanon.f k s l = some (canonW s l) := by
  unfold impl_WordCanon.f canonW
  rw [impl_isRight_eq s l (by omega) (by omega) _ (by omega)]
  simp only [Option.bind_some]
  by_cases h : wordOkB s l 8 = true
  · have g := wordOk_of h
    have hr := periodW_range l (by omega)
    rw [if_pos h, if_pos h, slices_Clone_eq s (by omega), impl_period_eq l (by omega) (by omega) k (by omega)]
    simp only [Option.bind_some]
    rw [if_pos (by omega), if_pos (by omega), Int.toNat_natCast, slices_Clone_eq _ (by simp; omega)]
    simp only [Option.bind_some]
    have e : (l.take (periodW l)).length = periodW l := by simp; omega
    rw [e, wrap64_id (n := (periodW l : Int) - 1) (by omega) (by omega)]
    exact impl_WordCanon_l0 (periodW l) hr.1 (by omega) s.length k s _ rfl (by omega) e (by omega)
  · rw [if_neg h, if_neg h]
/-- Are two words right, and the same? -/
def sameW (s l s' l' : List Int) : Bool := wordOkB s l 8 && (wordOkB s' l' 8 && decide (canonW s l = canonW s' l'))
theorem impl_WordSame_eq (s l s' l' : List Int) (hs : s.length ≤ 1048576) (hl : l.length ≤ 1048576) (hs' : s'.length ≤ 1048576) (hl' : l'.length ≤ 1048576) (k : Nat) (hk : 10000000 < k) : impl_WordSame.f k s l s' l' = some (sameW s l s' l') := by
  unfold impl_WordSame.f sameW impl_equalWords.f
  have h1 := canonW_length s l
  have h2 := canonW_length s' l'
  rw [impl_isRight_eq s l (by omega) (by omega) _ (by omega), impl_isRight_eq s' l' (by omega) (by omega) _ (by omega)]
  simp only [Option.bind_some]
  rw [impl_WordCanon_eq s l hs hl k (by omega), impl_WordCanon_eq s' l' hs' hl' k (by omega)]
  simp only [Option.bind_some]
  rw [slices_Equal_eq _ _ (by omega) k (by omega), slices_Equal_eq _ _ (by omega) k (by omega)]
  simp only [Option.bind_some, decide_eq_true_eq]
  cases wordOkB s l 8
  · rfl
  · cases wordOkB s' l' 8
    · rfl
    · simp only [if_true, Bool.true_and, Prod.ext_iff]
      by_cases h : (canonW s l).1 = (canonW s' l').1
      · rw [if_pos h, Option.bind_some]; congr 1; rw [decide_eq_decide]; exact ⟨fun e => ⟨h, e⟩, fun e => e.2⟩
      · rw [if_neg h, Option.bind_some]; congr 1; symm; rw [decide_eq_false_iff_not]; exact fun e => h e.1
/-- A list over and over. -/
def repL (l : List Int) : Nat → List Int
  | 0 => []
  | n + 1 => repL l n ++ l
theorem repL_length (l : List Int) (n : Nat) : (repL l n).length = n * l.length := by
  induction n with
  | zero => simp [repL]
  | succ n ih => rw [repL, List.length_append, ih, Nat.succ_mul]
/-- A word whose loop is written down so many times. -/
def powerW (s l : List Int) (n : Int) : List Int × List Int × Bool := if wordOkB s l 8 then (if inR n 1 40 then toldW s (repL l n.toNat) else ([], [], false)) else ([], [], false)
theorem toldW_le (s l : List Int) : (toldW s l).1.length ≤ s.length ∧ (toldW s l).2.1.length ≤ l.length := by
  unfold toldW
  split <;> simp
theorem powerW_length (s l : List Int) (n : Int) : (powerW s l n).1.length ≤ 40 ∧ (powerW s l n).2.1.length ≤ 1600 := by
  unfold powerW
  by_cases h : wordOkB s l 8 = true
  · have g := wordOk_of h
    rw [if_pos h]
    by_cases h2 : inR n 1 40 = true
    · have g2 := inR_iff.1 h2
      have h3 := toldW_le s (repL l n.toNat)
      have h4 := repL_length l n.toNat
      have : n.toNat * l.length ≤ 40 * 40 := Nat.mul_le_mul (by omega) (by omega)
      rw [if_pos h2]
      omega
    · rw [if_neg h2]; simp
  · rw [if_neg h]; simp
theorem spec_WordPower_l0 (s l s0 : List Int) (n : Nat) (hn : n ≤ 40) (hs0 : s0.length ≤ 40) (hl : l.length ≤ 40) (d : Nat) : ∀ (k i : Nat), i + d = n → d + 2000 < k → spec_WordPower.l0 k (n : Int) (i : Int) s l s0 (repL l i) = some (toldW s0 (repL l n)) := by
  induction d with
  | zero =>
    intro k i hi hk
    obtain ⟨k, rfl⟩ := succ_of (show 0 < k by omega)
    obtain rfl : i = n := by omega
    have h4 := repL_length l i
    have : i * l.length ≤ 40 * 40 := Nat.mul_le_mul hn hl
    simp only [spec_WordPower.l0]
    rw [if_neg (by omega), spec_l3Told_eq s0 _ (by omega) (by omega) k (by omega)]
    rfl
  | succ d ih =>
    intro k i hi hk
    obtain ⟨k, rfl⟩ := succ_of (show 0 < k by omega)
    have h4 := repL_length l i
    have : i * l.length ≤ 40 * 40 := Nat.mul_le_mul (by omega) hl
    simp only [spec_WordPower.l0]
    rw [if_pos (by omega), if_pos (by omega), wrap64_succ (by omega)]
    exact ih k (i + 1) (by omega) (by omega)
theorem spec_WordPower_eq (s l : List Int) (n : Int) (hs : s.length ≤ 1099511627776) (hl : l.length ≤ 1099511627776) (k : Nat) (hk : s.length + l.length + 2100 < k) : spec_WordPower.f k s l n = some (powerW s l n) := by
  unfold spec_WordPower.f powerW
  obtain ⟨j, rfl⟩ : ∃ j, k = j + 1 := ⟨k - 1, by omega⟩
  rw [spec_l3Right_eq s l hs hl _ (by omega), Option.bind_some, spec_l1In_eq, Option.bind_some, spec_WordPower.j0, spec_WordPower.j0]
  by_cases h : wordOkB s l 8 = true
  · have g := wordOk_of h
    rw [if_pos h, if_pos h]
    by_cases h2 : inR n 1 40 = true
    · have g2 := inR_iff.1 h2
      obtain ⟨m, rfl⟩ := Int.eq_ofNat_of_zero_le (show 0 ≤ n by omega)
      rw [h2, if_neg (by simp), Option.bind_some, if_pos (by simp; omega), if_pos rfl]
      exact spec_WordPower_l0 s l s m (by omega) (by omega) (by omega) m j 0 (by omega) (by omega)
    · simp at h2
      rw [h2]; rfl
  · rw [if_neg h, if_neg h, if_pos rfl]
theorem sameInts_l0 (a b : List Int) (hab : a.length = b.length) (hl : a.length ≤ 1099511627776) (d : Nat) : ∀ (k i : Nat), i + d = a.length → d < k → laws_sameInts.l0 k a b (i : Int) = some (decide (a.drop i = b.drop i)) := by
  induction d with
  | zero =>
    intro k i hi hk
    obtain ⟨k, rfl⟩ := succ_of hk
    simp only [laws_sameInts.l0]
    rw [if_neg (by omega), List.drop_eq_nil_of_le (by omega), List.drop_eq_nil_of_le (by omega)]
    rfl
  | succ d ih =>
    intro k i hi hk
    obtain ⟨k, rfl⟩ := succ_of hk
    simp only [laws_sameInts.l0]
    rw [if_pos (by omega), if_pos (by omega), if_pos (by omega), rd_at (l := a) (by omega), rd_at (l := b) (by omega), wrap64_succ (by omega), ih k (i + 1) (by omega) (by omega), drop_cons (l := a) (i := i) (by omega), drop_cons (l := b) (i := i) (by omega)]
    by_cases h : a[i] = b[i]
    · rw [if_pos h]; congr 1; rw [decide_eq_decide, List.cons.injEq]; exact ⟨fun e => ⟨h, e⟩, fun e => e.2⟩
    · rw [if_neg h]; congr 1; symm; rw [decide_eq_false_iff_not, List.cons.injEq]; exact fun e => h e.1
theorem sameInts_eq (a b : List Int) (hl : a.length ≤ 1099511627776) (k : Nat) (hk : a.length < k) : laws_sameInts.f k a b = some (decide (a = b)) := by
  unfold laws_sameInts.f
  by_cases h : a.length = b.length
  · rw [if_pos (by omega)]
    have := sameInts_l0 a b h hl a.length k 0 (by omega) hk
    simpa using this
  · rw [if_neg (by omega), decide_eq_false (fun e => h (by rw [e]))]
theorem l1PickInt_ok (b : List Int) (i h : Int) (l : List Int) (hl : b.length ≤ 1048576) (hi : CurOk b i) (h1 : 1 ≤ l.length) : ∃ r i' h', spec_l1PickInt.f b i h l = some (r, i', h') ∧ CurOk b i' := by
  unfold spec_l1PickInt.f
  obtain ⟨r, i1, h1', e, a, b1, _, c⟩ := l1Below_ok b i h (l.length : Int) hl hi
  have := b1 (by omega)
  rw [e, Option.bind_some, if_pos a, if_pos this]
  exact ⟨_, _, _, rfl, c⟩
theorem l1Once_ok (b : List Int) (i h n : Int) (hl : b.length ≤ 1048576) (hi : CurOk b i) : ∃ r i' h', spec_l1Once.f b i h n = some (r, i', h') ∧ CurOk b i' := by
  unfold spec_l1Once.f
  obtain ⟨r, i1, h1', e, a, b1, _, c⟩ := l1Below_ok b i h n hl hi
  rw [e, Option.bind_some]
  exact ⟨_, _, _, rfl, c⟩
theorem drawLetters_l0 (b : List Int) (x : Int) (hl : b.length ≤ 1048576) (n : Nat) (hn : n ≤ 1000) (d : Nat) : ∀ (k j : Nat) (i h : Int) (o : List Int), CurOk b i → j + d = n → o.length ≤ j → d < k → ∃ o' i' h', spec_l3DrawLetters.l0 k x o (n : Int) (j : Int) b i h = some (o', i', h') ∧ o'.length ≤ n ∧ CurOk b i' := by
  induction d with
  | zero =>
    intro k j i h o hi hj ho hk
    obtain ⟨k, rfl⟩ := succ_of hk
    simp only [spec_l3DrawLetters.l0]
    rw [if_neg (by omega)]
    exact ⟨_, _, _, rfl, by omega, hi⟩
  | succ d ih =>
    intro k j i h o hi hj ho hk
    obtain ⟨k, rfl⟩ := succ_of hk
    obtain ⟨r, i1, h1', e, _, _, _, c⟩ := l1Below_ok b i h x hl hi
    simp only [spec_l3DrawLetters.l0]
    rw [if_pos (by omega), e, Option.bind_some, if_pos (by omega), wrap64_succ (by omega)]
    exact ih k (j + 1) _ _ _ c (by omega) (by rw [List.length_append, List.length_singleton]; omega) (by omega)
theorem drawLetters_ok (b : List Int) (i h : Int) (m : Nat) (x : Int) (hl : b.length ≤ 1048576) (hi : CurOk b i) (hm : m ≤ 100) (k : Nat) (hk : 200 < k) : ∃ o i' h', spec_l3DrawLetters.f k b i h (m : Int) x = some (o, i', h') ∧ o.length ≤ m ∧ CurOk b i' := by
  unfold spec_l3DrawLetters.f
  rw [wrap64_succ (by omega)]
  obtain ⟨r, i1, h1', e, a, b1, _, c⟩ := l1Below_ok b i h ((m + 1 : Nat) : Int) hl hi
  have := b1 (by omega)
  obtain ⟨n, rfl⟩ := Int.eq_ofNat_of_zero_le a
  rw [e, Option.bind_some]
  obtain ⟨o, i2, h2', e2, l2, c2⟩ := drawLetters_l0 b x hl n (by omega) n k 0 i1 h1' [] c (by omega) (by simp) (by omega)
  exact ⟨o, i2, h2', e2, by omega, c2⟩
theorem drawRight_j0 (b : List Int) (i h : Int) (s l : List Int) (hl : b.length ≤ 1048576) (hi : CurOk b i) (h1 : s.length ≤ 1000) (h2 : l.length ≤ 2000) (k : Nat) (hk : 4000 < k) : ∃ s' l' i' h', spec_l3DrawRight.j0 k b i h s l = some (s', l', i', h') ∧ s'.length ≤ 1001 ∧ l'.length ≤ 2001 ∧ CurOk b i' := by
  obtain ⟨k, rfl⟩ := succ_of (show 0 < k by omega)
  obtain ⟨r, i1, h1', e, c⟩ := l1Once_ok b i h 6 hl hi
  rw [spec_l3DrawRight.j0, e, Option.bind_some]
  have ht := turnW_length s l
  cases r
  · rw [if_neg (by simp)]
    exact ⟨_, _, _, _, rfl, by omega, by omega, c⟩
  · rw [if_pos rfl, spec_WordTurn_eq s l (by omega) (by omega) k (by omega), Option.bind_some]
    exact ⟨_, _, _, _, rfl, by omega, by omega, c⟩
theorem drawRight_ok (b : List Int) (i h x : Int) (hl : b.length ≤ 1048576) (hi : CurOk b i) (k : Nat) (hk : 5000 < k) : ∃ s' l' i' h', spec_l3DrawRight.f k b i h x = some (s', l', i', h') ∧ s'.length ≤ 1001 ∧ l'.length ≤ 2001 ∧ CurOk b i' := by
  unfold spec_l3DrawRight.f
  obtain ⟨s, i1, h1, e1, l1, c1⟩ := drawLetters_ok b i h 4 x hl hi (by omega) k (by omega)
  obtain ⟨l, i2, h2, e2, l2, c2⟩ := drawLetters_ok b i1 h1 3 x hl c1 (by omega) k (by omega)
  obtain ⟨r, i3, h3, e3, _, _, _, c3⟩ := l1Below_ok b i2 h2 x hl c2
  obtain ⟨f, i4, h4, e4, c4⟩ := l1Once_ok b i3 h3 6 hl c3
  have e1' : spec_l3DrawLetters.f k b i h 4 x = some (s, i1, h1) := e1
  have e2' : spec_l3DrawLetters.f k b i1 h1 3 x = some (l, i2, h2) := e2
  rw [e1', Option.bind_some, e2', Option.bind_some, e3, Option.bind_some]
  dsimp only
  rw [if_pos (by omega), Option.bind_some, e4, Option.bind_some]
  have hll : (l ++ [r]).length ≤ 4 := by rw [List.length_append, List.length_singleton]; omega
  cases f
  · rw [if_neg (by simp)]
    exact drawRight_j0 b i4 h4 s (l ++ [r]) hl c4 (by omega) (by omega) k (by omega)
  · have hp := powerW_length s (l ++ [r]) 2
    rw [if_pos rfl, spec_WordPower_eq s (l ++ [r]) 2 (by omega) (by omega) k (by omega), Option.bind_some]
    exact drawRight_j0 b i4 h4 _ _ hl c4 (by omega) (by omega) k (by omega)
theorem drawWord_ok (b : List Int) (i h : Int) (hl : b.length ≤ 1048576) (hi : CurOk b i) (k : Nat) (hk : 5000 < k) : ∃ s' l' i' h', spec_l3DrawWord.f k b i h = some (s', l', i', h') ∧ s'.length ≤ 2002 ∧ l'.length ≤ 2002 ∧ CurOk b i' := by
  unfold spec_l3DrawWord.f
  obtain ⟨n, i1, h1, e1, c1⟩ := l1PickInt_ok b i h [1, 2, 2, 3, 8] hl hi (by simp)
  obtain ⟨s, l, i2, h2, e2, s2, l2, c2⟩ := drawRight_ok b i1 h1 n hl c1 k hk
  obtain ⟨r, i3, h3, e3, a3, b3, _, c3⟩ := l1Below_ok b i2 h2 25 hl c2
  rw [e1, Option.bind_some, e2, Option.bind_some, e3, Option.bind_some]
  dsimp only
  by_cases r0 : r = 0
  · rw [if_pos r0]
    exact ⟨_, _, _, _, rfl, by omega, by simp, c3⟩
  · rw [if_neg r0]
    by_cases r1 : r = 1
    · obtain ⟨x, i4, h4, e4, c4⟩ := l1PickInt_ok b i3 h3 [(-1), 7, 8] hl c3 (by simp)
      rw [if_pos r1, e4, Option.bind_some, if_pos (by omega)]
      exact ⟨_, _, _, _, rfl, by rw [List.length_append, List.length_singleton]; omega, by omega, c4⟩
    · rw [if_neg r1]
      obtain ⟨x, i4, h4, e4, a4, b4, _, c4⟩ := l1Below_ok b i3 h3 2 hl c3
      have := b4 (by omega)
      have hx : wrap64 (40 + x) = 40 + x := wrap64_id (by omega) (by omega)
      by_cases r2 : r = 2
      · rw [if_pos r2, e4, Option.bind_some, hx, if_pos (by omega), if_pos (by omega)]
        exact ⟨_, _, _, _, rfl, by rw [List.length_replicate]; omega, by omega, c4⟩
      · rw [if_neg r2]
        by_cases r3 : r = 3
        · rw [if_pos r3, e4, Option.bind_some, hx, if_pos (by omega), if_pos (by omega)]
          exact ⟨_, _, _, _, rfl, by omega, by rw [List.length_replicate]; omega, c4⟩
        · rw [if_neg r3]
          exact ⟨_, _, _, _, rfl, by omega, by omega, c3⟩
theorem repL_flat (l : List Int) (n : Nat) : (List.replicate n l).flatten = repL l n := by
  induction n with
  | zero => rfl
  | succ n ih => rw [List.replicate_succ', List.flatten_append, ih, repL]; simp
theorem slices_Repeat_eq (l : List Int) (n : Int) (h0 : 0 < l.length) (h1 : l.length < 1048576) (h2 : 0 < n) (h3 : n < 1048576) : slices_Repeat_int_int.f l n = some (repL l n.toNat) := by
  unfold slices_Repeat_int_int.f
  rw [if_pos ⟨h0, h1, h2, h3⟩, repL_flat]
theorem impl_WordPower_eq (s l : List Int) (n : Int) (hs : s.length ≤ 1099511627776) (hl : l.length ≤ 1099511627776) (k : Nat) (hk : s.length + l.length + 2100 < k) : impl_WordPower.f k s l n = some (powerW s l n) := by
  unfold impl_WordPower.f powerW
  obtain ⟨j, rfl⟩ : ∃ j, k = j + 1 := ⟨k - 1, by omega⟩
  rw [impl_inRange_eq, Option.bind_some, impl_WordPower.j0, impl_isRight_eq s l hs hl _ (by omega), Option.bind_some, impl_WordPower.j0]
  by_cases h : wordOkB s l 8 = true
  · have g := wordOk_of h
    rw [if_pos h]
    by_cases h2 : inR n 1 40 = true
    · have g2 := inR_iff.1 h2
      have h4 := repL_length l n.toNat
      have : n.toNat * l.length ≤ 40 * 40 := Nat.mul_le_mul (by omega) (by omega)
      rw [if_pos h2, if_pos h2, h, if_neg (by simp), slices_Clone_eq s (by omega), Option.bind_some, slices_Repeat_eq l n (by omega) (by omega) (by omega) (by omega), Option.bind_some, impl_rightOr_eq s _ (by omega) (by omega) j (by omega), Option.bind_some]
    · rw [if_neg h2, if_neg h2, if_pos rfl]
  · rw [if_neg h]
    simp at h
    rw [h, if_pos (show (!false) = true from rfl), if_pos rfl]
    split <;> rfl
theorem laws_at_eq (l : List Int) (hl : l.length ≤ 1048576) (hw : ∀ x ∈ l, 0 ≤ x ∧ x ≤ 255) : ∃ v, laws_at.f l 1 = some v ∧ 0 ≤ v := by
  unfold laws_at.f
  by_cases h : (1 : Int) < l.length
  · have hm : rd l 1 ∈ l := by
      have e := rd_at (l := l) (i := 1) (by omega)
      rw [show ((1 : Nat) : Int) = 1 from rfl] at e
      rw [e]
      exact List.getElem_mem _
    have hr := hw _ hm
    rw [if_pos h, if_pos (by omega), wrap64_id (n := rd l 1) (by omega) (by omega)]
    exact ⟨_, rfl, hr.1⟩
  · rw [if_neg h, wrap64_id (n := 1 * 7) (by omega) (by omega), wrap64_id (n := 1 * 7 + (l.length : Int)) (by omega) (by omega)]
    exact ⟨_, rfl, (tmod_range (show 0 ≤ 1 * 7 + (l.length : Int) by omega) (show (0 : Int) < 256 by omega)).1⟩
/-! What a word's canonical form, turns, powers and tails have as letters; two canonical words of the same letters are one. -/
theorem letterAt_period (s l : List Int) (i : Nat) (h : s.length ≤ i) : letterAt s l (i + l.length) = letterAt s l i := by
  unfold letterAt
  rw [if_neg (by omega), if_neg (by omega), show i + l.length - s.length = (i - s.length) + l.length by omega, Nat.add_mod_right]
theorem letterAt_periods (s l : List Int) (m : Nat) : ∀ i, s.length ≤ i → letterAt s l (i + m * l.length) = letterAt s l i := by
  induction m with
  | zero => intro i _; rw [Nat.zero_mul, Nat.add_zero]
  | succ m ih =>
    intro i h
    rw [Nat.succ_mul, ← Nat.add_assoc, letterAt_period _ _ _ (by omega), ih i h]
theorem letterAt_stem (s l : List Int) (i : Nat) (h : i < s.length) : letterAt s l i = s.getD i 0 := by unfold letterAt; rw [if_pos h]
theorem letterAt_loop (s l : List Int) (i : Nat) (h : i < l.length) : letterAt s l (s.length + i) = l.getD i 0 := by
  unfold letterAt
  rw [if_neg (by omega), Nat.add_sub_cancel_left, Nat.mod_eq_of_lt h]
/-- One letter taken into the loop. -/
theorem letterAt_roll (s l : List Int) (hs : 0 < s.length) (hl : 0 < l.length) (h : s.getD (s.length - 1) 0 = l.getD (l.length - 1) 0) (i : Nat) :
    letterAt (s.take (s.length - 1)) (l.drop (l.length - 1) ++ l.take (l.length - 1)) i = letterAt s l i := by
  have e1 : (s.take (s.length - 1)).length = s.length - 1 := by rw [List.length_take]; omega
  have e2 : (l.drop (l.length - 1) ++ l.take (l.length - 1)).length = l.length := by rw [List.length_append, List.length_take, List.length_drop]; omega
  have e3 : (l.drop (l.length - 1)).length = 1 := by rw [List.length_drop]; omega
  have r0 : (l.drop (l.length - 1) ++ l.take (l.length - 1)).getD 0 0 = l.getD (l.length - 1) 0 := by
    rw [List.getD_eq_getElem?_getD, List.getElem?_append_left (by omega), List.getElem?_drop, Nat.add_zero, ← List.getD_eq_getElem?_getD]
  have r1 : ∀ m, m < l.length - 1 → (l.drop (l.length - 1) ++ l.take (l.length - 1)).getD (m + 1) 0 = l.getD m 0 := by
    intro m hm
    rw [List.getD_eq_getElem?_getD, List.getElem?_append_right (by omega), e3, Nat.add_sub_cancel, List.getElem?_take_of_lt hm, ← List.getD_eq_getElem?_getD]
  unfold letterAt
  rw [e1, e2]
  by_cases c1 : i < s.length - 1
  · rw [if_pos c1, if_pos (by omega), List.getD_eq_getElem?_getD, List.getElem?_take_of_lt c1, ← List.getD_eq_getElem?_getD]
  · rw [if_neg c1]
    by_cases c2 : i < s.length
    · rw [if_pos c2, show i - (s.length - 1) = 0 by omega, Nat.zero_mod, r0, ← h, show s.length - 1 = i by omega]
    · rw [if_neg c2, show i - (s.length - 1) = (i - s.length) + 1 by omega]
      have hm := Nat.mod_lt (i - s.length) hl
      by_cases c3 : (i - s.length) % l.length = l.length - 1
      · have : ((i - s.length) + 1) % l.length = 0 := by
          rw [Nat.add_mod, c3]
          by_cases h1 : l.length = 1
          · rw [h1]
          · rw [Nat.mod_eq_of_lt (show 1 < l.length by omega), show l.length - 1 + 1 = l.length by omega, Nat.mod_self]
        rw [this, r0, c3]
      · have : ((i - s.length) + 1) % l.length = (i - s.length) % l.length + 1 := by
          rw [Nat.add_mod, Nat.mod_eq_of_lt (show 1 < l.length by omega), Nat.mod_eq_of_lt (by omega)]
        rw [this, r1 _ (by omega)]
theorem rollW_letters (d : Nat) : ∀ s l : List Int, s.length = d → 0 < l.length → ∀ i, letterAt (rollW d s l).1 (rollW d s l).2 i = letterAt s l i := by
  induction d with
  | zero => intro s l _ _ i; rfl
  | succ d ih =>
    intro s l hs hl i
    unfold rollW
    by_cases h : s.getD (s.length - 1) 0 = l.getD (l.length - 1) 0
    · rw [if_pos h, ih _ _ (by rw [List.length_take]; omega) (by rw [List.length_append, List.length_take, List.length_drop]; omega), letterAt_roll s l (by omega) hl h]
    · rw [if_neg h]
/-- Rolled out: no letter is left that could be taken in. -/
theorem rollW_last (d : Nat) : ∀ s l : List Int, s.length = d → (rollW d s l).1 = [] ∨ (rollW d s l).1.getD ((rollW d s l).1.length - 1) 0 ≠ (rollW d s l).2.getD ((rollW d s l).2.length - 1) 0 := by
  induction d with
  | zero => intro s l hs; exact .inl (List.eq_nil_of_length_eq_zero hs)
  | succ d ih =>
    intro s l hs
    unfold rollW
    by_cases h : s.getD (s.length - 1) 0 = l.getD (l.length - 1) 0
    · rw [if_pos h]; exact ih _ _ (by rw [List.length_take]; omega)
    · rw [if_neg h]; exact .inr h
theorem firstP_spec (l : List Int) (q : Nat) (hq : perB l q = true) (d : Nat) : ∀ p, perB l (firstP l q p d) = true ∧ ∀ g, p ≤ g → g < p + d → g < firstP l q p d → perB l g = false := by
  induction d with
  | zero => intro p; exact ⟨hq, fun g h1 h2 _ => by omega⟩
  | succ d ih =>
    intro p
    unfold firstP
    by_cases h : perB l p = true
    · rw [if_pos h]; exact ⟨h, fun g h1 _ h3 => by omega⟩
    · rw [if_neg h]
      obtain ⟨h1, h2⟩ := ih (p + 1)
      refine ⟨h1, fun g g1 g2 g3 => ?_⟩
      by_cases hg : g = p
      · rw [hg]; simpa using h
      · exact h2 g (by omega) (by omega) g3
theorem periodW_spec (l : List Int) : perB l (periodW l) = true ∧ ∀ g, 1 ≤ g → g < periodW l → g < l.length → perB l g = false := by
  obtain ⟨h1, h2⟩ := firstP_spec l l.length (perB_self l) (l.length - 1) 1
  exact ⟨h1, fun g g1 g2 g3 => h2 g g1 (by omega) g2⟩
theorem perB_iff (l : List Int) (p : Nat) (hp : 1 ≤ p) (hpl : p ≤ l.length) : perB l p = true ↔ l.length % p = 0 ∧ ∀ i, i < l.length → l.getD i 0 = l.getD (i % p) 0 := by
  unfold perB
  rw [decide_eq_true_iff, per_iff l p hp hpl]
theorem letterAt_root (s l : List Int) (p : Nat) (hp : 1 ≤ p) (hpl : p ≤ l.length) (h : perB l p = true) (i : Nat) : letterAt s (l.take p) i = letterAt s l i := by
  obtain ⟨h1, h2⟩ := (perB_iff l p hp hpl).1 h
  have e : (l.take p).length = p := by rw [List.length_take]; omega
  unfold letterAt
  rw [e]
  by_cases c : i < s.length
  · rw [if_pos c, if_pos c]
  · have hm := Nat.mod_lt (i - s.length) hp
    rw [if_neg c, if_neg c, List.getD_eq_getElem?_getD, List.getElem?_take_of_lt hm, ← List.getD_eq_getElem?_getD, h2 _ (Nat.mod_lt _ (by omega)), Nat.mod_mod_of_dvd _ (Nat.dvd_of_mod_eq_zero h1)]
theorem canonW_letters (s l : List Int) (h : wordOkB s l 8 = true) (i : Nat) : letterAt (canonW s l).1 (canonW s l).2 i = letterAt s l i := by
  have g := wordOk_of h
  have hr := periodW_range l (by omega)
  unfold canonW
  rw [if_pos h, rollW_letters _ s _ rfl (by rw [List.length_take]; omega), letterAt_root s l _ hr.1 hr.2 (periodW_spec l).1]
theorem canonW_form (s l : List Int) (h : wordOkB s l 8 = true) : (canonW s l).2.length = periodW l ∧ (canonW s l).1.length ≤ s.length ∧ ((canonW s l).1 = [] ∨ (canonW s l).1.getD ((canonW s l).1.length - 1) 0 ≠ (canonW s l).2.getD ((canonW s l).2.length - 1) 0) := by
  have g := wordOk_of h
  have hr := periodW_range l (by omega)
  have h1 := rollW_length s.length s (l.take (periodW l))
  unfold canonW
  rw [if_pos h]
  refine ⟨?_, h1.1, rollW_last _ s _ rfl⟩
  rw [h1.2, List.length_take]; omega
/-- Right words are so in all their letters. -/
theorem letterAt_range {s l : List Int} {n : Int} (h : wordOkB s l n = true) (i : Nat) : 0 ≤ letterAt s l i ∧ letterAt s l i ≤ n - 1 := by
  obtain ⟨_, _, ⟨h3, _⟩, h4, h5⟩ := wordOk_of h
  unfold letterAt
  by_cases c : i < s.length
  · rw [if_pos c, List.getD_eq_getElem?_getD, List.getElem?_eq_getElem c]; exact letters_mem h4 (List.getElem_mem c)
  · have hm := Nat.mod_lt (i - s.length) (show 0 < l.length by omega)
    rw [if_neg c, List.getD_eq_getElem?_getD, List.getElem?_eq_getElem hm]; exact letters_mem h5 (List.getElem_mem hm)
theorem wordOk_letters {s l : List Int} {n : Int} (h1 : 1 ≤ n) (h2 : n ≤ 8) (h3 : s.length ≤ 40) (h4 : 1 ≤ l.length) (h5 : l.length ≤ 40) (h : ∀ i, 0 ≤ letterAt s l i ∧ letterAt s l i ≤ n - 1) : wordOkB s l n = true := by
  refine wordOk_mk h1 h2 h3 h4 h5 (List.all_eq_true.2 fun x hx => ?_) (List.all_eq_true.2 fun x hx => ?_)
  · obtain ⟨i, hi, rfl⟩ := List.mem_iff_getElem.1 hx
    have := h i
    rw [letterAt_stem s l i hi, List.getD_eq_getElem?_getD, List.getElem?_eq_getElem hi] at this
    exact inR_iff.2 this
  · obtain ⟨i, hi, rfl⟩ := List.mem_iff_getElem.1 hx
    have := h (s.length + i)
    rw [letterAt_loop s l i hi, List.getD_eq_getElem?_getD, List.getElem?_eq_getElem hi] at this
    exact inR_iff.2 this
theorem canonW_ok (s l : List Int) (h : wordOkB s l 8 = true) : wordOkB (canonW s l).1 (canonW s l).2 8 = true := by
  have g := wordOk_of h
  have hr := periodW_range l (by omega)
  obtain ⟨f1, f2, _⟩ := canonW_form s l h
  refine wordOk_letters (by omega) (by omega) (by omega) (by omega) (by omega) fun i => ?_
  rw [canonW_letters s l h]
  exact letterAt_range h i
theorem list_ext0 {a b : List Int} (h : a.length = b.length) (h2 : ∀ i, i < a.length → a.getD i 0 = b.getD i 0) : a = b := by
  apply List.ext_getElem h
  intro i h3 h4
  have := h2 i h3
  rwa [List.getD_eq_getElem?_getD, List.getD_eq_getElem?_getD, List.getElem?_eq_getElem h3, List.getElem?_eq_getElem h4] at this
/-- What is the same after p places and after q ones is so after their greatest divisor. -/
theorem per_gcd (f : Nat → Int) (N p q : Nat) : (∀ n, N ≤ n → f (n + p) = f n) → (∀ n, N ≤ n → f (n + q) = f n) → ∀ n, N ≤ n → f (n + Nat.gcd p q) = f n := by
  induction p, q using Nat.gcd.induction with
  | H0 q => intro _ h n hn; rw [Nat.gcd_zero_left]; exact h n hn
  | H1 p q hp ih =>
    intro h1 h2 n hn
    have hm : ∀ m n, N ≤ n → f (n + m * p) = f n := by
      intro m
      induction m with
      | zero => intro n _; rw [Nat.zero_mul, Nat.add_zero]
      | succ m ihm => intro n hn; rw [Nat.succ_mul, ← Nat.add_assoc, h1 _ (by omega), ihm n hn]
    rw [Nat.gcd_rec]
    refine ih (fun n hn => ?_) h1 n hn
    have e := Nat.div_add_mod' q p
    rw [← hm (q / p) (n + q % p) (by omega), show n + q % p + q / p * p = n + q by omega, h2 n hn]
/-- The roots of two words of the same letters: the one's is a multiple of the other's. -/
theorem root_dvd (s l s' l' : List Int) (h : wordOkB s l 8 = true) (h' : wordOkB s' l' 8 = true) (e : ∀ i, letterAt s l i = letterAt s' l' i) : periodW l ∣ periodW l' := by
  have g := wordOk_of h
  have g' := wordOk_of h'
  have hr := periodW_range l (by omega)
  have hr' := periodW_range l' (by omega)
  obtain ⟨p1, p2⟩ := periodW_spec l
  obtain ⟨p1', _⟩ := periodW_spec l'
  obtain ⟨d1, d2⟩ := (perB_iff l _ hr.1 hr.2).1 p1
  -- the letters from the stem on, with both periods
  have per1 : ∀ m n, s.length ≤ n → letterAt s l (n + m * periodW l) = letterAt s l n := by
    intro m n hn
    have el : (l.take (periodW l)).length = periodW l := by rw [List.length_take]; omega
    have := letterAt_periods s (l.take (periodW l)) m n hn
    rw [el] at this
    rw [← letterAt_root s l _ hr.1 hr.2 p1, ← letterAt_root s l _ hr.1 hr.2 p1, this]
  have per2 : ∀ m n, s.length ≤ n → letterAt s l (n + m * periodW l') = letterAt s l n := by
    intro m n hn
    have el : (l'.take (periodW l')).length = periodW l' := by rw [List.length_take]; omega
    have h3 := letterAt_periods s' (l'.take (periodW l')) m (n + s'.length * periodW l) (by have := Nat.le_mul_of_pos_right s'.length hr.1; omega)
    rw [el, letterAt_root s' l' _ hr'.1 hr'.2 p1', letterAt_root s' l' _ hr'.1 hr'.2 p1', ← e, ← e] at h3
    rw [show n + s'.length * periodW l + m * periodW l' = (n + m * periodW l') + s'.length * periodW l by omega, per1 _ _ (by omega), per1 _ _ hn] at h3
    exact h3
  have hg0 : 0 < Nat.gcd (periodW l) (periodW l') := Nat.gcd_pos_of_pos_left _ hr.1
  have hg1 := Nat.gcd_dvd_left (periodW l) (periodW l')
  have hg2 := Nat.gcd_dvd_right (periodW l) (periodW l')
  have hgle := Nat.le_of_dvd hr.1 hg1
  have hperg : ∀ n, s.length ≤ n → letterAt s l (n + Nat.gcd (periodW l) (periodW l')) = letterAt s l n :=
    per_gcd (letterAt s l) s.length _ _ (fun n hn => by have := per1 1 n hn; rwa [Nat.one_mul] at this) (fun n hn => by have := per2 1 n hn; rwa [Nat.one_mul] at this)
  have hpergs : ∀ m n, s.length ≤ n → letterAt s l (n + m * Nat.gcd (periodW l) (periodW l')) = letterAt s l n := by
    intro m
    induction m with
    | zero => intro n _; rw [Nat.zero_mul, Nat.add_zero]
    | succ m ih => intro n hn; rw [Nat.succ_mul, ← Nat.add_assoc, hperg _ (by omega), ih n hn]
  by_cases hlt : Nat.gcd (periodW l) (periodW l') < periodW l
  · exfalso
    have hf := p2 _ hg0 hlt (by omega)
    have ht : perB l (Nat.gcd (periodW l) (periodW l')) = true := by
      refine (perB_iff l _ hg0 (by omega)).2 ⟨Nat.mod_eq_zero_of_dvd (Nat.dvd_trans hg1 (Nat.dvd_of_mod_eq_zero d1)), fun i hi => ?_⟩
      have hm := Nat.mod_le i (Nat.gcd (periodW l) (periodW l'))
      have h4 := hpergs (i / Nat.gcd (periodW l) (periodW l')) (s.length + i % Nat.gcd (periodW l) (periodW l')) (by omega)
      have h5 := Nat.div_add_mod' i (Nat.gcd (periodW l) (periodW l'))
      rw [show s.length + i % Nat.gcd (periodW l) (periodW l') + i / Nat.gcd (periodW l) (periodW l') * Nat.gcd (periodW l) (periodW l') = s.length + i by omega, letterAt_loop s l i hi, letterAt_loop s l _ (by omega)] at h4
      exact h4
    rw [ht] at hf; cases hf
  · rw [show periodW l = Nat.gcd (periodW l) (periodW l') by omega]; exact hg2
theorem stem_le (t m t' m' : List Int) (ht' : t' = [] ∨ t'.getD (t'.length - 1) 0 ≠ m'.getD (m'.length - 1) 0) (hm : m.length = m'.length) (h0 : 0 < m.length) (e : ∀ i, letterAt t m i = letterAt t' m' i) : t'.length ≤ t.length := by
  rcases ht' with rfl | h
  · exact Nat.zero_le _
  · apply Decidable.byContradiction
    intro hlt
    apply h
    have h1 := letterAt_period t m (t'.length - 1) (by omega)
    rw [e, e, letterAt_stem t' m' (t'.length - 1) (by omega), show t'.length - 1 + m.length = t'.length + (m'.length - 1) by omega, letterAt_loop t' m' (m'.length - 1) (by omega)] at h1
    exact h1.symm
/-- Two right words of the same letters have one canonical form. -/
theorem canonW_unique (s l s' l' : List Int) (h : wordOkB s l 8 = true) (h' : wordOkB s' l' 8 = true) (e : ∀ i, letterAt s l i = letterAt s' l' i) : canonW s l = canonW s' l' := by
  have g := wordOk_of h
  have hr := periodW_range l (by omega)
  obtain ⟨f1, _, f3⟩ := canonW_form s l h
  obtain ⟨f1', _, f3'⟩ := canonW_form s' l' h'
  have hp : periodW l = periodW l' := Nat.dvd_antisymm (root_dvd s l s' l' h h' e) (root_dvd s' l' s l h' h (fun i => (e i).symm))
  have ec : ∀ i, letterAt (canonW s l).1 (canonW s l).2 i = letterAt (canonW s' l').1 (canonW s' l').2 i := fun i => by rw [canonW_letters s l h, canonW_letters s' l' h', e]
  generalize canonW s l = T at *
  generalize canonW s' l' = T' at *
  obtain ⟨t, m⟩ := T
  obtain ⟨t', m'⟩ := T'
  dsimp only at *
  have hml : m.length = m'.length := by omega
  have a1 := stem_le t m t' m' f3' hml (by omega) ec
  have a2 := stem_le t' m' t m f3 hml.symm (by omega) (fun i => (ec i).symm)
  have htl : t.length = t'.length := by omega
  have e1 : t = t' := list_ext0 htl fun i hi => by
    have := ec i
    rwa [letterAt_stem t m i hi, letterAt_stem t' m' i (by omega)] at this
  have e2 : m = m' := list_ext0 hml fun i hi => by
    have := ec (t.length + i)
    rw [letterAt_loop t m i hi, htl, letterAt_loop t' m' i (by omega)] at this
    exact this
  rw [e1, e2]
/-- Right words whose first 200 letters are the same have all letters the same. -/
theorem letters_200 (s l s' l' : List Int) (h : wordOkB s l 8 = true) (h' : wordOkB s' l' 8 = true) (e : ∀ i, i < 200 → letterAt s l i = letterAt s' l' i) (i : Nat) : letterAt s l i = letterAt s' l' i := by
  have g := wordOk_of h
  have g' := wordOk_of h'
  induction i using Nat.strongRecOn with
  | _ n ih =>
    by_cases hn : n < 200
    · exact e n hn
    · have a1 := letterAt_period s l (n - l.length) (by omega)
      have a2 := letterAt_period s' l' (n - l.length - l'.length) (by omega)
      have a3 := letterAt_period s l (n - l.length - l'.length) (by omega)
      have a4 := letterAt_period s' l' (n - l'.length) (by omega)
      rw [show n - l.length + l.length = n by omega] at a1
      rw [show n - l.length - l'.length + l'.length = n - l.length by omega] at a2
      rw [show n - l.length - l'.length + l.length = n - l'.length by omega] at a3
      rw [show n - l'.length + l'.length = n by omega] at a4
      rw [a1, ih _ (by omega), a2, ← ih (n - l.length - l'.length) (by omega), ← a3, ih _ (by omega), a4]
theorem letterAt_turn (s l : List Int) (hl : 1 ≤ l.length) (i : Nat) : letterAt (s ++ l.take 1) (l.drop 1 ++ l.take 1) i = letterAt s l i := by
  obtain ⟨x, r, rfl⟩ : ∃ x r, l = x :: r := by
    cases l with
    | nil => simp at hl
    | cons x r => exact ⟨x, r, rfl⟩
  have h := letterAt_roll (s ++ [x]) (r ++ [x]) (by simp) (by simp) (by simp) i
  simp at h
  simpa using h.symm
theorem repL_at (l : List Int) (n : Nat) : ∀ m, m < n * l.length → (repL l n).getD m 0 = l.getD (m % l.length) 0 := by
  induction n with
  | zero => intro m hm; omega
  | succ n ih =>
    intro m hm
    rw [Nat.succ_mul] at hm
    have hr := repL_length l n
    simp only [repL]
    by_cases c : m < n * l.length
    · rw [List.getD_eq_getElem?_getD, List.getElem?_append_left (by omega), ← List.getD_eq_getElem?_getD, ih m c]
    · have e : m % l.length = m - n * l.length := by
        rw [show m = (m - n * l.length) + n * l.length by omega, Nat.add_mul_mod_self_right, Nat.mod_eq_of_lt (by omega)]; omega
      rw [List.getD_eq_getElem?_getD, List.getElem?_append_right (by omega), hr, ← List.getD_eq_getElem?_getD, e]
theorem letterAt_power (s l : List Int) (n : Nat) (hn : 1 ≤ n) (hl : 1 ≤ l.length) (i : Nat) : letterAt s (repL l n) i = letterAt s l i := by
  unfold letterAt
  have h1 := Nat.mul_le_mul hn hl
  rw [repL_length]
  by_cases c : i < s.length
  · rw [if_pos c, if_pos c]
  · rw [if_neg c, if_neg c, repL_at l n _ (Nat.mod_lt _ (by omega)), Nat.mod_mod_of_dvd _ (Nat.dvd_mul_left _ _)]
theorem letterAt_drop (s l : List Int) (n : Nat) (hn : n ≤ s.length) (i : Nat) : letterAt (s.drop n) l i = letterAt s l (i + n) := by
  unfold letterAt
  rw [List.length_drop]
  by_cases c : i < s.length - n
  · rw [if_pos c, if_pos (by omega), List.getD_eq_getElem?_getD, List.getElem?_drop, ← List.getD_eq_getElem?_getD, Nat.add_comm n i]
  · rw [if_neg c, if_neg (by omega), show i - (s.length - n) = i + n - s.length by omega]
theorem letterAt_rot (s l : List Int) (n : Nat) (hn : s.length < n) (hl : 1 ≤ l.length) (i : Nat) : letterAt [] (l.drop ((n - s.length) % l.length) ++ l.take ((n - s.length) % l.length)) i = letterAt s l (i + n) := by
  have hk := Nat.mod_lt (n - s.length) hl
  have hm := Nat.mod_lt i hl
  have e0 : (i + n - s.length) % l.length = (i % l.length + (n - s.length) % l.length) % l.length := by
    rw [show i + n - s.length = i + (n - s.length) by omega, Nat.add_mod]
  unfold letterAt
  rw [if_neg (by simp), if_neg (by omega), e0]
  generalize (n - s.length) % l.length = k at hk ⊢
  have el : (l.drop k ++ l.take k).length = l.length := by rw [List.length_append, List.length_drop, List.length_take]; omega
  rw [List.length_nil, Nat.sub_zero, el]
  generalize i % l.length = m at hm ⊢
  by_cases c : m < l.length - k
  · rw [List.getD_eq_getElem?_getD, List.getElem?_append_left (by rw [List.length_drop]; exact c), List.getElem?_drop, ← List.getD_eq_getElem?_getD, Nat.mod_eq_of_lt (by omega), Nat.add_comm k m]
  · rw [List.getD_eq_getElem?_getD, List.getElem?_append_right (by rw [List.length_drop]; omega), List.length_drop, List.getElem?_take_of_lt (by omega), ← List.getD_eq_getElem?_getD, Nat.mod_eq_sub_mod (a := m + k) (by omega), Nat.mod_eq_of_lt (by omega), show m - (l.length - k) = m + k - l.length by omega]
theorem powerW_letters {s l : List Int} {n : Int} (h : wordOkB s l 8 = true) (hk : (powerW s l n).2.2 = true) : wordOkB (powerW s l n).1 (powerW s l n).2.1 8 = true ∧ ∀ i, letterAt (powerW s l n).1 (powerW s l n).2.1 i = letterAt s l i := by
  have g := wordOk_of h
  unfold powerW at hk ⊢
  rw [if_pos h] at hk ⊢
  by_cases h2 : inR n 1 40 = true
  · have g2 := inR_iff.1 h2
    rw [if_pos h2] at hk ⊢
    unfold toldW at hk ⊢
    by_cases h3 : wordOkB s (repL l n.toNat) 8 = true
    · rw [if_pos h3]; exact ⟨h3, letterAt_power s l n.toNat (by omega) (by omega)⟩
    · rw [if_neg h3] at hk; cases hk
  · rw [if_neg h2] at hk; cases hk
theorem turnW_letters {s l : List Int} (h : wordOkB s l 8 = true) (hk : (turnW s l).2.2 = true) : wordOkB (turnW s l).1 (turnW s l).2.1 8 = true ∧ ∀ i, letterAt (turnW s l).1 (turnW s l).2.1 i = letterAt s l i := by
  have g := wordOk_of h
  unfold turnW at hk ⊢
  rw [if_pos h] at hk ⊢
  unfold toldW at hk ⊢
  by_cases h3 : wordOkB (s ++ l.take 1) (l.drop 1 ++ l.take 1) 8 = true
  · rw [if_pos h3]; exact ⟨h3, letterAt_turn s l (by omega)⟩
  · rw [if_neg h3] at hk; cases hk
theorem tailW_letters {s l : List Int} (h : wordOkB s l 8 = true) (n : Nat) (hn : n ≤ 1000) : (tailW s l n).2.2 = true ∧ wordOkB (tailW s l n).1 (tailW s l n).2.1 8 = true ∧ ∀ i, letterAt (tailW s l n).1 (tailW s l n).2.1 i = letterAt s l (i + n) := by
  have g := wordOk_of h
  unfold tailW
  rw [if_pos h, if_pos (inR_iff.2 ⟨by omega, by omega⟩), Int.toNat_natCast]
  by_cases c : (n : Int) ≤ s.length
  · rw [if_pos c]
    have e := letterAt_drop s l n (by omega)
    refine ⟨rfl, wordOk_letters (by omega) (by omega) (by rw [List.length_drop]; omega) (show 1 ≤ l.length by omega) (show l.length ≤ 40 by omega) fun i => ?_, e⟩
    show 0 ≤ letterAt (s.drop n) l i ∧ _
    rw [e]; exact letterAt_range h _
  · rw [if_neg c]
    have e := letterAt_rot s l n (by omega) (by omega)
    have el : ∀ k, k ≤ l.length → (l.drop k ++ l.take k).length = l.length := fun k hk => by rw [List.length_append, List.length_drop, List.length_take]; omega
    have hk := Nat.mod_lt (n - s.length) (show 0 < l.length by omega)
    refine ⟨rfl, wordOk_letters (by omega) (by omega) (by simp) ?_ ?_ fun i => ?_, e⟩
    · show 1 ≤ (l.drop _ ++ l.take _).length
      rw [el _ (by omega)]; omega
    · show (l.drop _ ++ l.take _).length ≤ 40
      rw [el _ (by omega)]; omega
    · show 0 ≤ letterAt [] (l.drop _ ++ l.take _) i ∧ _
      rw [e]; exact letterAt_range h _
theorem takeFrom_same (s l s' l' : List Int) (h : ∀ i, letterAt s l i = letterAt s' l' i) (d : Nat) : ∀ i, takeFrom s l i d = takeFrom s' l' i d := by
  induction d with
  | zero => intro i; rfl
  | succ d ih => intro i; simp only [takeFrom]; rw [h, ih]
theorem drawWordPower_ok (b : List Int) (hl : b.length ≤ 1048576) (k : Nat) (hk : 10000 < k) : ∃ s l n, spec_DrawWordPower.f k b = some (s, l, n) ∧ s.length ≤ 2100 ∧ l.length ≤ 2100 := by
  unfold spec_DrawWordPower.f
  obtain ⟨h, e⟩ := l1New_ok b k (by omega)
  obtain ⟨s, l, i2, h2, e2, s2, l2, c2⟩ := drawWord_ok b 0 h hl ⟨by omega, by omega⟩ k (by omega)
  obtain ⟨n, i3, h3, e3, c3⟩ := l1PickInt_ok b i2 h2 [1, 2, 3, 0, 40, 41, 10, 13] hl c2 (by simp)
  rw [e, Option.bind_some, e2, Option.bind_some, e3, Option.bind_some]
  exact ⟨_, _, _, rfl, (show s.length ≤ 2100 by omega), (show l.length ≤ 2100 by omega)⟩
end hFnLetters3
open hFnLetters3
theorem letters3_l0 (s l cs cl ps pl ts tl us ul : List Int) (ok fine : Bool) (n : Nat) (hn : n ≤ 50) (hw : wordOkB s l 8 = true) (hc : wordOkB cs cl 8 = true) (hcl : ∀ i, letterAt cs cl i = letterAt s l i) (hcs : sameW cs cl s l = true)
    (hp : ok = true → wordOkB ps pl 8 = true ∧ ∀ i, letterAt ps pl i = letterAt s l i) (ht : fine = true → wordOkB ts tl 8 = true ∧ ∀ i, letterAt ts tl i = letterAt s l i) (hu : wordOkB us ul 8 = true) (hul : ∀ i, letterAt us ul i = letterAt s l (i + n)) (d : Nat) :
    ∀ (k i : Nat), i + d = 120 → d + 20000000 < k → laws_FnLetters3.l0 k ok fine (n : Int) (i : Int) s l cs cl ps pl ts tl us ul = some true := by
  have gw := wordOk_of hw
  have gc := wordOk_of hc
  have gu := wordOk_of hu
  induction d with
  | zero =>
    intro k i hi hk
    obtain ⟨k, rfl⟩ := succ_of (show 0 < k by omega)
    have hk30 : hFnLetters3.takeW s l 30 = hFnLetters3.takeW cs cl 30 := by
      unfold hFnLetters3.takeW
      rw [if_pos hw, if_pos hc, if_pos (inR_iff.2 ⟨by omega, by omega⟩)]
      exact takeFrom_same s l cs cl (fun i => (hcl i).symm) _ 0
    have t1 := takeW_length s l 30
    have t2 := takeW_length cs cl 30
    simp only [laws_FnLetters3.l0]
    rw [if_neg (by omega), impl_WordSame_eq cs cl s l (by omega) (by omega) (by omega) (by omega) k (by omega), Option.bind_some, hcs, if_pos rfl, impl_WordTake_eq _ _ _ (by omega) (by omega) k (by omega), Option.bind_some, impl_WordTake_eq _ _ _ (by omega) (by omega) k (by omega), Option.bind_some, sameInts_eq _ _ (by omega) k (by omega), Option.bind_some, hk30, decide_eq_true rfl]
  | succ d ih =>
    intro k i hi hk
    obtain ⟨k, rfl⟩ := succ_of (show 0 < k by omega)
    have hwf : (Lit.int .i64 (i : Int)).wf = true := wf_of (by omega) (by omega)
    have at_ : ∀ (a b : List Int), wordOkB a b 8 = true → (∀ i, letterAt a b i = letterAt s l i) → impl_WordAt.f k a b (i : Int) = some (letterAt s l i) := by
      intro a b hab he
      have gab := wordOk_of hab
      rw [impl_WordAt_eq a b _ hwf (by omega) (by omega) k (by omega), if_pos hab, if_neg (by omega), Int.toNat_natCast, he]
    have hnext := ih k (i + 1) (by omega) (by omega)
    have htail : (if (i : Int) ≥ (n : Int) then ((impl_WordAt.f k us ul (wrap64 ((i : Int) - (n : Int)))).bind fun t559 => (if t559 = letterAt s l i then (laws_FnLetters3.l0 k ok fine (n : Int) (wrap64 ((i : Int) + 1)) s l cs cl ps pl ts tl us ul) else (some false))) else (laws_FnLetters3.l0 k ok fine (n : Int) (wrap64 ((i : Int) + 1)) s l cs cl ps pl ts tl us ul)) = some true := by
      rw [wrap64_succ (by omega), hnext]
      by_cases c : (i : Int) ≥ (n : Int)
      · rw [if_pos c, wrap64_id (by omega) (by omega), show (i : Int) - (n : Int) = ((i - n : Nat) : Int) by omega, impl_WordAt_eq us ul _ (wf_of (by omega) (by omega)) (by omega) (by omega) k (by omega), if_pos hu, if_neg (by omega), Int.toNat_natCast, Option.bind_some, hul, show i - n + n = i by omega, if_pos rfl]
      · rw [if_neg c]
    simp only [laws_FnLetters3.l0]
    rw [if_pos (show (i : Int) < 120 by omega), spec_WordAt_eq s l _ hwf (by omega) (by omega) k (by omega), if_pos hw, if_neg (show ¬ (i : Int) < 0 by omega), Int.toNat_natCast, Option.bind_some, at_ cs cl hc hcl, Option.bind_some, if_pos rfl]
    cases ok with
    | true =>
      obtain ⟨p1, p2⟩ := hp rfl
      rw [if_pos rfl, at_ ps pl p1 p2, Option.bind_some, if_pos rfl]
      cases fine with
      | true =>
        obtain ⟨t1, t2⟩ := ht rfl
        rw [if_pos rfl, at_ ts tl t1 t2, Option.bind_some, if_pos rfl]
        exact htail
      | false => rw [if_neg Bool.false_ne_true]; exact htail
    | false =>
      rw [if_neg Bool.false_ne_true]
      cases fine with
      | true =>
        obtain ⟨t1, t2⟩ := ht rfl
        rw [if_pos rfl, at_ ts tl t1 t2, Option.bind_some, if_pos rfl]
        exact htail
      | false => rw [if_neg Bool.false_ne_true]; exact htail
theorem FnLetters3 : laws_FnLetters3.Pure := by
  intro b hb wb
  obtain ⟨K, hK⟩ : ∃ K, K = 30000000 := ⟨_, rfl⟩
  refine ⟨K + 1, ?_⟩
  unfold laws_FnLetters3.f
  rw [big_eq, Option.bind_some]
  by_cases h0 : 1048576 < b.length
  · rw [if_pos (decide_eq_true h0)]
  · obtain ⟨s, l, n, e, hs, hl⟩ := drawWordPower_ok b (by omega) (K + 1) (by omega)
    rw [if_neg (by simp; omega), e, Option.bind_some]
    dsimp only
    rw [impl_WordCanon_eq s l (by omega) (by omega) _ (by omega), Option.bind_some, spec_WordOk_eq s l 8 (by omega) (by omega) _ (by omega), Option.bind_some]
    by_cases h : wordOkB s l 8 = true
    · have g := wordOk_of h
      obtain ⟨v, ev, v0⟩ := laws_at_eq b (by omega) (fun x hx => by
        have := wb x hx
        simp [Lit.wf, IntKind.min, IntKind.max, IntKind.signed, IntKind.bits] at this
        omega)
      have hv := tmod_range (a := v) (n := 50) v0 (by omega)
      obtain ⟨m, hm⟩ : ∃ m : Nat, Int.tmod v 50 = m := ⟨(Int.tmod v 50).toNat, by omega⟩
      obtain ⟨u1, u2, u3⟩ := tailW_letters h m (by omega)
      have cf := canonW_length s l
      have cok := canonW_ok s l h
      have gc := wordOk_of cok
      have hsame : sameW (canonW s l).1 (canonW s l).2 s l = true := by
        unfold sameW
        rw [cok, h, canonW_unique _ _ s l cok h (canonW_letters s l h), decide_eq_true rfl]; rfl
      rw [if_pos h, impl_WordPower_eq s l n (by omega) (by omega) _ (by omega), Option.bind_some, spec_WordPower_eq s l n (by omega) (by omega) _ (by omega), Option.bind_some, impl_WordTurn_eq s l (by omega) (by omega) _ (by omega), Option.bind_some, spec_WordTurn_eq s l (by omega) (by omega) _ (by omega), Option.bind_some, ev, Option.bind_some, hm, impl_WordTail_eq s l _ (by omega) (by omega) _ (by omega), Option.bind_some, bne_self_eq_false, if_neg Bool.false_ne_true, bne_self_eq_false, if_neg Bool.false_ne_true, u1, if_pos rfl, impl_WordOk_eq _ _ 8 (by omega) (by omega) _ (by omega), Option.bind_some, cok, if_pos rfl, if_neg (by omega), decide_eq_false (by omega)]
      simp only [laws_FnLetters3.j0]
      rw [if_neg Bool.false_ne_true]
      exact letters3_l0 s l _ _ _ _ _ _ _ _ _ _ m (by omega) h cok (canonW_letters s l h) hsame (powerW_letters h) (turnW_letters h) u2 u3 120 K 0 (by omega) (by omega)
    · have hc : canonW s l = ([], []) := by unfold canonW; rw [if_neg h]
      rw [if_neg h, hc]
      rw [if_pos (show ((([] : List Int).length : Int)) = 0 from rfl), impl_WordAt_eq s l 0 (wf_of (by omega) (by omega)) (by omega) (by omega) _ (by omega), if_neg h, Option.bind_some]
      rfl
end Go.Proofs.Ytbdcchbhelehcaa.Pure
