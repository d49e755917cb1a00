/- What the printed functions of FnJoin3 come to, one lemma a function, and from these the law: for all arguments (within the bounds that the printed statement names) it answers true. -/
import Derived.Test.YthkljpbddddhdaaMFnJoin3x7
import Derived.Test.YthkljpbddddhdaaBase
import Derived.Test.YthkljpbddddhdaaBaseD
import Derived.Test.YthkljpbddddhdaaBaseL
import Derived.Test.YthkljpbddddhdaaBaseS
import Derived.Test.YthkljpbddddhdaaBaseW
namespace Go.Proofs.Ythkljpbddddhdaa.Pure
open Go.RowKit Go.Proofs.Ythkljpbddddhdaa.MFnJoin3 Go.Proofs.YthkljpbddddhdaaW.PrintWords Go.Proofs.YthkljpbddddhdaaW.PrintLast Go.Proofs.Ythkljpbddddhdaa.Base

namespace hFnJoin3
theorem spec_l1In_eq (a b c : Int) : spec_l1In.f a b c = some (inR a b c) := by
  unfold spec_l1In.f inR
  by_cases h : a ≥ b
  · rw [if_pos h]; simp [show b ≤ a from h]
  · rw [if_neg h]; simp; omega
theorem impl_inRange_eq (a b c : Int) : impl_inRange.f a b c = some (inR a b c) := by
  unfold impl_inRange.f inR
  by_cases h : a ≥ b
  · rw [if_pos h]; simp [show b ≤ a from h]
  · rw [if_neg h]; simp; omega
theorem slices_Clone_eq (l : List Int) (h : l.length ≤ 1099511627776) : slices_Clone_int_int.f l = some l := by
  unfold slices_Clone_int_int.f
  rw [if_pos (by omega)]
theorem l1New_l0 (b : List Int) (d : Nat) : ∀ (k i : Nat) (h : Int), i + d = 4000 → d < k → ∃ h', spec_l1New.l0 k b h (i : Int) = some (b, 0, h') := by
  induction d with
  | zero =>
    intro k i h hi hk
    obtain ⟨k, rfl⟩ := succ_of hk
    simp only [spec_l1New.l0]
    by_cases h1 : (i : Int) < b.length
    · rw [if_pos h1, if_neg (by omega)]; exact ⟨_, rfl⟩
    · rw [if_neg h1]; exact ⟨_, rfl⟩
  | succ d ih =>
    intro k i h hi hk
    obtain ⟨k, rfl⟩ := succ_of hk
    simp only [spec_l1New.l0]
    by_cases h1 : (i : Int) < b.length
    · rw [if_pos h1, if_pos (by omega), if_pos (by omega), wrap64_succ (by omega)]
      exact ih k (i + 1) _ (by omega) (by omega)
    · rw [if_neg h1]; exact ⟨_, rfl⟩
theorem l1New_ok (b : List Int) (k : Nat) (hk : 4000 < k) : ∃ h, spec_l1New.f k b = some (b, 0, h) := by
  unfold spec_l1New.f
  exact l1New_l0 b 4000 k 0 _ (by omega) hk
theorem l1Byte_ok (b : List Int) (i h : Int) (hl : b.length ≤ 1048576) (hi : CurOk b i) : ∃ r i' h', spec_l1Byte.f b i h = some (r, i', h') ∧ 0 ≤ r ∧ r ≤ 255 ∧ CurOk b i' := by
  unfold spec_l1Byte.f
  obtain ⟨h0, h1⟩ := hi
  by_cases hlt : i < b.length
  · rw [if_pos hlt, if_pos h0]
    refine ⟨_, _, _, rfl, (and255_range _).1, (and255_range _).2, ?_⟩
    rw [wrap64_id (by omega) (by omega)]
    exact ⟨by omega, by omega⟩
  · rw [if_neg hlt]
    exact ⟨_, _, _, rfl, (and255_range _).1, (and255_range _).2, h0, h1⟩
theorem l1Below_ok (b : List Int) (i h n : Int) (hl : b.length ≤ 1048576) (hi : CurOk b i) : ∃ r i' h', spec_l1Below.f b i h n = some (r, i', h') ∧ 0 ≤ r ∧ (0 < n → r < n) ∧ (n ≤ 0 → r = 0) ∧ CurOk b i' := by
  unfold spec_l1Below.f
  by_cases h0 : n ≤ 0
  · rw [if_pos h0]
    exact ⟨_, _, _, rfl, by omega, by omega, fun _ => rfl, hi⟩
  · rw [if_neg h0]
    by_cases h1 : n ≤ 256
    · rw [if_pos h1]
      obtain ⟨r, i1, h1', e, a, b', c⟩ := l1Byte_ok b i h hl hi
      rw [e]
      simp only [Option.bind_some]
      rw [if_neg (by omega)]
      have := tmod_range a (show 0 < n by omega)
      exact ⟨_, _, _, rfl, this.1, fun _ => this.2, fun h => absurd h h0, c⟩
    · rw [if_neg h1]
      obtain ⟨r1, i1, h1', e1, a1, b1, c1⟩ := l1Byte_ok b i h hl hi
      obtain ⟨r2, i2, h2', e2, a2, b2, c2⟩ := l1Byte_ok b i1 h1' hl c1
      obtain ⟨r3, i3, h3', e3, a3, b3, c3⟩ := l1Byte_ok b i2 h2' hl c2
      obtain ⟨r4, i4, h4', e4, a4, b4, c4⟩ := l1Byte_ok b i3 h3' hl c3
      rw [e1]; simp only [Option.bind_some]
      rw [e2]; simp only [Option.bind_some]
      rw [e3]; simp only [Option.bind_some]
      rw [e4]; simp only [Option.bind_some]
      rw [if_neg (by omega), wrap64_id (n := r1 * 16777216) (by omega) (by omega), wrap64_id (n := r2 * 65536) (by omega) (by omega), wrap64_id (n := r1 * 16777216 + r2 * 65536) (by omega) (by omega), wrap64_id (n := r3 * 256) (by omega) (by omega),
        wrap64_id (n := r1 * 16777216 + r2 * 65536 + r3 * 256) (by omega) (by omega), wrap64_id (n := r1 * 16777216 + r2 * 65536 + r3 * 256 + r4) (by omega) (by omega)]
      have := tmod_range (a := r1 * 16777216 + r2 * 65536 + r3 * 256 + r4) (n := n) (by omega) (by omega)
      exact ⟨_, _, _, rfl, this.1, fun _ => this.2, fun h => absurd h h0, c4⟩
theorem big_eq (l : List Int) : laws_big.f l = some (decide (1048576 < l.length)) := by
  unfold laws_big.f
  congr 1
  exact decide_eq_decide.2 ⟨fun h => by omega, fun h => by omega⟩
theorem spec_l3Letters_l0 (l : List Int) (n : Int) (h0 : -1000 ≤ n) (h1 : n ≤ 1000) (hl : l.length ≤ 1099511627776) (d : Nat) : ∀ (k i : Nat), i + d = l.length → d < k → spec_l3Letters.l0 k l n (i : Int) = some (lettersB (l.drop i) n) := by
  induction d with
  | zero =>
    intro k i hi hk
    obtain ⟨k, rfl⟩ := succ_of hk
    simp only [spec_l3Letters.l0]
    rw [if_neg (by omega), List.drop_eq_nil_of_le (by omega)]
    rfl
  | succ d ih =>
    intro k i hi hk
    obtain ⟨k, rfl⟩ := succ_of hk
    simp only [spec_l3Letters.l0]
    rw [if_pos (by omega), if_pos (by omega), rd_at (by omega), spec_l1In_eq, wrap64_id (n := n - 1) (by omega) (by omega), wrap64_succ (by omega), drop_cons (l := l) (i := i) (by omega)]
    simp only [Option.bind_some, lettersB, List.all_cons]
    by_cases h : inR l[i] 0 (n - 1) = true
    · rw [if_pos h, h, ih k (i + 1) (by omega) (by omega)]; rfl
    · rw [if_neg h]; simp at h; rw [h]; rfl
theorem spec_l3Letters_eq (l : List Int) (n : Int) (h0 : -1000 ≤ n) (h1 : n ≤ 1000) (hl : l.length ≤ 1099511627776) (k : Nat) (hk : l.length < k) : spec_l3Letters.f k l n = some (lettersB l n) := by
  unfold spec_l3Letters.f
  exact spec_l3Letters_l0 l n h0 h1 hl l.length k 0 (by omega) hk
theorem spec_WordOk_eq (s l : List Int) (n : Int) (hs : s.length ≤ 1099511627776) (hl : l.length ≤ 1099511627776) (k : Nat) (hk : s.length + l.length + 1 < k) : spec_WordOk.f k s l n = some (wordOkB s l n) := by
  unfold spec_WordOk.f wordOkB
  obtain ⟨k, rfl⟩ := succ_of hk
  rw [spec_l1In_eq, spec_l1In_eq]
  simp only [Option.bind_some, spec_WordOk.j0]
  by_cases h1 : inR n 1 8 = true
  · have h1' := inR_iff.1 h1
    rw [if_pos h1, h1]
    by_cases h2 : (s.length : Int) > 40
    · rw [if_pos h2, if_pos trivial, decide_eq_false (by omega)]; rfl
    · rw [if_neg h2, decide_eq_true (by omega)]
      by_cases h3 : inR (l.length : Int) 1 40 = true
      · rw [h3, spec_l3Letters_eq s n (by omega) (by omega) hs k (by omega)]
        simp only [Bool.not_true, Bool.false_eq_true, if_false, Option.bind_some, Bool.true_and]
        rw [spec_l3Letters_eq l n (by omega) (by omega) hl k (by omega)]
        by_cases h4 : lettersB s n = true
        · rw [if_pos h4, h4]; rfl
        · rw [if_neg h4]; simp at h4; rw [h4]; rfl
      · simp at h3; rw [h3]; rfl
  · rw [if_neg h1, if_pos trivial]; simp at h1; rw [h1]; rfl
theorem impl_isLetters_eq (n : Int) : impl_isLetters.f n = some (inR n 1 8) := by
  unfold impl_isLetters.f
  rw [impl_inRange_eq]; rfl
theorem impl_areLetters_l0 (l : List Int) (n : Int) (h0 : -1000 ≤ n) (h1 : n ≤ 1000) (hl : l.length ≤ 1099511627776) (d : Nat) : ∀ (k i : Nat), i + d = l.length → d < k → impl_areLetters.l0 k n l (l.length : Int) (i : Int) = some (lettersB (l.drop i) n) := by
  induction d with
  | zero =>
    intro k i hi hk
    obtain ⟨k, rfl⟩ := succ_of hk
    simp only [impl_areLetters.l0]
    rw [if_neg (by omega), List.drop_eq_nil_of_le (by omega)]
    rfl
  | succ d ih =>
    intro k i hi hk
    obtain ⟨k, rfl⟩ := succ_of hk
    simp only [impl_areLetters.l0]
    rw [if_pos (by omega), if_pos (by omega), if_pos (by omega), rd_at (by omega), impl_inRange_eq, wrap64_id (n := n - 1) (by omega) (by omega), wrap64_succ (by omega), drop_cons (l := l) (i := i) (by omega)]
    simp only [Option.bind_some, lettersB, List.all_cons]
    by_cases h : inR l[i] 0 (n - 1) = true
    · rw [if_pos h, h, ih k (i + 1) (by omega) (by omega)]; rfl
    · rw [if_neg h]; simp at h; rw [h]; rfl
theorem impl_areLetters_eq (l : List Int) (n : Int) (h0 : -1000 ≤ n) (h1 : n ≤ 1000) (hl : l.length ≤ 1099511627776) (k : Nat) (hk : l.length < k) : impl_areLetters.f k l n = some (lettersB l n) := by
  unfold impl_areLetters.f
  exact impl_areLetters_l0 l n h0 h1 hl l.length k 0 (by omega) hk
theorem impl_WordOk_eq (s l : List Int) (n : Int) (hs : s.length ≤ 1099511627776) (hl : l.length ≤ 1099511627776) (k : Nat) (hk : s.length + l.length + 1 < k) : impl_WordOk.f k s l n = some (wordOkB s l n) := by
  unfold impl_WordOk.f wordOkB
  obtain ⟨k, rfl⟩ := succ_of hk
  rw [impl_isLetters_eq, impl_inRange_eq]
  simp only [Option.bind_some, impl_WordOk.j0]
  by_cases h1 : inR n 1 8 = true
  · have h1' := inR_iff.1 h1
    rw [if_pos h1, h1]
    by_cases h2 : (s.length : Int) > 40
    · rw [if_pos h2, if_pos trivial, decide_eq_false (by omega)]; rfl
    · rw [if_neg h2, decide_eq_true (by omega)]
      by_cases h3 : inR (l.length : Int) 1 40 = true
      · rw [h3, impl_areLetters_eq s n (by omega) (by omega) hs k (by omega)]
        simp only [Bool.not_true, Bool.false_eq_true, if_false, Option.bind_some, Bool.true_and]
        rw [impl_areLetters_eq l n (by omega) (by omega) hl k (by omega)]
        by_cases h4 : lettersB s n = true
        · rw [if_pos h4, h4]; rfl
        · rw [if_neg h4]; simp at h4; rw [h4]; rfl
      · simp at h3; rw [h3]; rfl
  · rw [if_neg h1, if_pos trivial]; simp at h1; rw [h1]; rfl
theorem spec_l3Right_eq (s l : List Int) (hs : s.length ≤ 1099511627776) (hl : l.length ≤ 1099511627776) (k : Nat) (hk : s.length + l.length + 1 < k) : spec_l3Right.f k s l = some (wordOkB s l 8) := by
  unfold spec_l3Right.f
  rw [spec_WordOk_eq s l 8 hs hl k hk]; rfl
theorem impl_isRight_eq (s l : List Int) (hs : s.length ≤ 1099511627776) (hl : l.length ≤ 1099511627776) (k : Nat) (hk : s.length + l.length + 1 < k) : impl_isRight.f k s l = some (wordOkB s l 8) := by
  unfold impl_isRight.f
  rw [impl_WordOk_eq s l 8 hs hl k hk]; rfl
def placeW (s l : List Int) (i : Nat) : Nat := if i < s.length then i else s.length + (i - s.length) % l.length
theorem impl_Word_placeOf_eq (s l : List Int) (i : Nat) (hi : (i : Int) ≤ 9223372036854775807) (hs : s.length ≤ 1000) (h1 : 1 ≤ l.length) (h2 : l.length ≤ 1000) : impl_Word_placeOf.f s l (i : Int) = some (placeW s l i : Int) := by
  unfold impl_Word_placeOf.f placeW
  by_cases h : i < s.length
  · rw [if_pos (by omega), if_pos h]
  · have e : (i : Int) - s.length = ((i - s.length : Nat) : Int) := by omega
    have hm : (i - s.length) % l.length < l.length := Nat.mod_lt _ (by omega)
    rw [if_neg (by omega), if_neg (by omega), if_neg h, e, wrap64_id (n := ((i - s.length : Nat) : Int)) (by omega) (by omega), tmod_nat, wrap64_id (by omega) (by omega)]
    congr 1
theorem impl_Word_letter_eq (s l : List Int) (i : Nat) (h1 : 1 ≤ l.length) (h2 : l.length ≤ 1000) : impl_Word_letter.f s l (placeW s l i : Int) = some (letterAt s l i) := by
  unfold impl_Word_letter.f letterAt placeW
  by_cases h : i < s.length
  · rw [if_pos h, if_pos (by omega), if_pos (by omega), if_pos h, rd_nat]
  · have hm : (i - s.length) % l.length < l.length := Nat.mod_lt _ (by omega)
    have e : ((s.length + (i - s.length) % l.length : Nat) : Int) - s.length = (((i - s.length) % l.length : Nat) : Int) := by omega
    rw [if_neg h, if_neg (by omega), e, wrap64_id (by omega) (by omega), if_pos (by omega), if_pos (by omega), if_neg h, rd_nat]
/-- A word's letters from a place on. -/
def takeFrom (s l : List Int) : Nat → Nat → List Int
  | _, 0 => []
  | i, d + 1 => letterAt s l i :: takeFrom s l (i + 1) d
theorem takeFrom_length (s l : List Int) (d : Nat) : ∀ i, (takeFrom s l i d).length = d := by
  induction d with
  | zero => intro i; rfl
  | succ d ih => intro i; simp [takeFrom, ih]
/-- What is taken of a word. -/
def takeW (s l : List Int) (n : Int) : List Int := if wordOkB s l 8 then (if inR n 0 1000 then takeFrom s l 0 n.toNat else []) else []
theorem takeW_length (s l : List Int) (n : Int) : (takeW s l n).length ≤ 1000 := by
  unfold takeW
  split
  · split
    · rename_i h
      have := inR_iff.1 h
      rw [takeFrom_length]; omega
    · simp
  · simp
theorem impl_WordTake_l0 (s l : List Int) (n : Nat) (hn : n ≤ 1000) (h : wordOkB s l 8 = true) (d : Nat) : ∀ (k i : Nat) (o : List Int), i + d = n → o.length ≤ i → d < k → impl_WordTake.l0 k o (n : Int) (i : Int) s l = some (o ++ takeFrom s l i d) := by
  have g := wordOk_of h
  induction d with
  | zero =>
    intro k i o hi ho hk
    obtain ⟨k, rfl⟩ := succ_of hk
    simp only [impl_WordTake.l0]
    rw [if_neg (by omega)]
    simp [takeFrom]
  | succ d ih =>
    intro k i o hi ho hk
    obtain ⟨k, rfl⟩ := succ_of hk
    simp only [impl_WordTake.l0]
    rw [if_pos (by omega), impl_Word_placeOf_eq s l i (by omega) (by omega) (by omega) (by omega)]
    simp only [Option.bind_some]
    rw [impl_Word_letter_eq s l i (by omega) (by omega)]
    simp only [Option.bind_some]
    rw [if_pos (by omega), wrap64_succ (by omega), ih k (i + 1) _ (by omega) (by rw [List.length_append, List.length_singleton]; omega) (by omega)]
    simp [takeFrom]
theorem impl_WordTake_eq (s l : List Int) (a : Int) (hs : s.length ≤ 1099511627776) (hl : l.length ≤ 1099511627776) (k : Nat) (hk : s.length + l.length + 1100 < k) : impl_WordTake.f k s l a = some (takeW s l a) := by
  unfold impl_WordTake.f takeW
  obtain ⟨k, rfl⟩ := succ_of hk
  rw [impl_inRange_eq]
  simp only [Option.bind_some, impl_WordTake.j0, if_true]
  rw [impl_isRight_eq s l hs hl _ (by omega)]
  simp only [Option.bind_some]
  by_cases h' : inR a 0 1000 = true
  · have g := inR_iff.1 h'
    rw [if_pos h', if_pos h']
    by_cases h : wordOkB s l 8 = true
    · obtain ⟨n, rfl⟩ := Int.eq_ofNat_of_zero_le g.1
      rw [if_pos h, h, if_neg (by simp)]
      exact impl_WordTake_l0 s l n (by omega) h n k 0 [] (by omega) (by simp) (by omega)
    · rw [if_neg h]
      simp at h
      rw [h]; rfl
  · rw [if_neg h', if_neg h']; split <;> rfl
theorem concat2 (a b : List Int) (h : a.length + b.length ≤ 1000000000) (k : Nat) (hk : 8 < k) : slices_Concat_int_int.f k [a, b] = some (a ++ b) := by
  obtain ⟨k, rfl⟩ : ∃ m, k = m + 8 := ⟨k - 8, by omega⟩
  have e0 : rd_L1 [a, b] 0 = a := rfl
  have e1 : rd_L1 [a, b] 1 = b := rfl
  have l2 : (([a, b].length : Nat) : Int) = 2 := rfl
  have w0 : wrap64 (0 + 1) = 1 := by rw [wrap64_id (by omega) (by omega)]; rfl
  have w1 : wrap64 (1 + 1) = 2 := by rw [wrap64_id (by omega) (by omega)]; rfl
  have wa : wrap64 (0 + (a.length : Int)) = (a.length : Int) := by rw [wrap64_id (by omega) (by omega)]; omega
  have wb : wrap64 ((a.length : Int) + (b.length : Int)) = (a.length : Int) + (b.length : Int) := wrap64_id (by omega) (by omega)
  have n1 : ((a.length : Int) < 0) = False := eq_false (by omega)
  have n2 : ((a.length : Int) + (b.length : Int) < 0) = False := eq_false (by omega)
  have n3 : ((0 : Int) ≤ (a.length : Int) + (b.length : Int)) = True := eq_true (by omega)
  have n4 : ((a.length : Int) + (b.length : Int) < 1099511627776) = True := eq_true (by omega)
  have n5 : (a.length < 17592186044416) = True := eq_true (by omega)
  have n6 : (a.length + b.length < 17592186044416) = True := eq_true (by omega)
  have c1 : ((0 : Int) < 2) = True := eq_true (by omega)
  have c2 : ((1 : Int) < 2) = True := eq_true (by omega)
  have c3 : ((2 : Int) < 2) = False := eq_false (by omega)
  have c4 : ((0 : Int) ≤ 1) = True := eq_true (by omega)
  unfold slices_Concat_int_int.f
  simp only [slices_Concat_int_int.l0, slices_Concat_int_int.l1, slices_Grow_int_int.f, e0, e1, l2, w0, w1, wa, wb, n1, n2, n3, n4, n5, n6, c1, c2, c3, c4, Int.le_refl, if_true, if_false, List.length_nil, and_self, Option.bind_some, List.nil_append, Nat.zero_add]
theorem impl_copyWord_eq (s l : List Int) (hs : s.length ≤ 1099511627776) (hl : l.length ≤ 1099511627776) : impl_copyWord.f s l = some (s, l) := by
  unfold impl_copyWord.f
  rw [slices_Clone_eq s hs, slices_Clone_eq l hl]; rfl
/-- A word without its first letters. -/
def tailW (s l : List Int) (a : Int) : List Int × List Int × Bool :=
  if wordOkB s l 8 then (if inR a 0 1000000 then (if a ≤ (s.length : Int) then (s.drop a.toNat, l, true) else ([], l.drop ((a.toNat - s.length) % l.length) ++ l.take ((a.toNat - s.length) % l.length), true)) else ([], [], false)) else ([], [], false)
theorem tailW_length (s l : List Int) (a : Int) : (tailW s l a).1.length ≤ s.length ∧ (tailW s l a).2.1.length ≤ l.length := by
  unfold tailW
  split
  · split
    · split
      · simp
      · simp; omega
    · simp
  · simp
theorem impl_WordTail_eq (s l : List Int) (a : Int) (hs : s.length ≤ 1099511627776) (hl : l.length ≤ 1099511627776) (k : Nat) (hk : s.length + l.length + 10 < k) : impl_WordTail.f k s l a = some (tailW s l a) := by
  unfold impl_WordTail.f tailW
  obtain ⟨k, rfl⟩ := succ_of hk
  rw [impl_isRight_eq s l hs hl _ (by omega), impl_inRange_eq]
  simp only [Option.bind_some, impl_WordTail.j0, if_true]
  by_cases h2 : inR a 0 1000000 = true
  · have g2 := inR_iff.1 h2
    obtain ⟨n, rfl⟩ := Int.eq_ofNat_of_zero_le g2.1
    rw [if_pos h2, if_pos h2]
    by_cases h : wordOkB s l 8 = true
    · have g := wordOk_of h
      rw [if_pos h, h, if_neg (by simp)]
      by_cases h3 : (n : Int) < s.length
      · rw [if_pos h3, if_pos (show (n : Int) ≤ s.length by omega), if_pos (by omega), if_pos (by omega), impl_copyWord_eq _ _ (by simp; omega) hl]
        simp
      · have e : (n : Int) - s.length = ((n - s.length : Nat) : Int) := by omega
        have hm : (n - s.length) % l.length < l.length := Nat.mod_lt _ (by omega)
        rw [if_neg h3, if_neg (show ¬ (l.length : Int) = 0 by omega), e, wrap64_id (n := ((n - s.length : Nat) : Int)) (by omega) (by omega), tmod_nat, if_pos (by omega), if_pos (by omega), concat2 _ _ (by simp; omega) k (by omega)]
        simp only [Option.bind_some, Int.toNat_natCast]
        by_cases h4 : (n : Int) ≤ s.length
        · have e4 : n - s.length = 0 := by omega
          rw [if_pos h4, e4]
          simp
          omega
        · rw [if_neg h4]
    · simp at h
      rw [h]; rfl
  · simp at h2
    rw [h2]
    simp only [Bool.false_eq_true, if_false]
    split <;> rfl
/-- A word, if it is right. -/
def toldW (s l : List Int) : List Int × List Int × Bool := if wordOkB s l 8 then (s, l, true) else ([], [], false)
theorem spec_l3Told_eq (s l : List Int) (hs : s.length ≤ 1099511627776) (hl : l.length ≤ 1099511627776) (k : Nat) (hk : s.length + l.length + 1 < k) : spec_l3Told.f k s l = some (toldW s l) := by
  unfold spec_l3Told.f toldW
  rw [spec_l3Right_eq s l hs hl k hk]
  simp only [Option.bind_some]
  by_cases h : wordOkB s l 8 = true
  · rw [if_pos h, if_pos h]
  · rw [if_neg h, if_neg h]
theorem impl_rightOr_eq (s l : List Int) (hs : s.length ≤ 1099511627776) (hl : l.length ≤ 1099511627776) (k : Nat) (hk : s.length + l.length + 1 < k) : impl_rightOr.f k s l true = some (toldW s l) := by
  unfold impl_rightOr.f toldW
  rw [impl_isRight_eq s l hs hl k hk, if_pos rfl]
  simp only [Option.bind_some]
  by_cases h : wordOkB s l 8 = true
  · rw [if_pos h, if_pos h]
  · rw [if_neg h, if_neg h]
/-- A word whose loop begins one letter later. -/
def turnW (s l : List Int) : List Int × List Int × Bool := if wordOkB s l 8 then toldW (s ++ l.take 1) (l.drop 1 ++ l.take 1) else ([], [], false)
theorem toldW_length (s l : List Int) : (toldW s l).1.length ≤ s.length ∧ (toldW s l).2.1.length ≤ l.length := by
  unfold toldW
  split <;> simp
theorem turnW_length (s l : List Int) : (turnW s l).1.length ≤ s.length + 1 ∧ (turnW s l).2.1.length ≤ l.length + 1 := by
  unfold turnW
  split
  · have := toldW_length (s ++ l.take 1) (l.drop 1 ++ l.take 1)
    simp only [List.length_append, List.length_take, List.length_drop] at this
    omega
  · simp
theorem take_one {l : List Int} (h : 1 ≤ l.length) : [rd l 0] = l.take 1 := by
  cases l with
  | nil => simp at h
  | cons x l => rfl
theorem spec_WordTurn_eq (s l : List Int) (hs : s.length ≤ 1099511627776) (hl : l.length ≤ 1099511627776) (k : Nat) (hk : s.length + l.length + 10 < k) : spec_WordTurn.f k s l = some (turnW s l) := by
  unfold spec_WordTurn.f turnW
  rw [spec_l3Right_eq s l hs hl _ (by omega)]
  simp only [Option.bind_some]
  by_cases h : wordOkB s l 8 = true
  · have g := wordOk_of h
    rw [if_pos h, if_pos h, if_pos (by simp; omega), if_pos (by omega), if_pos (by simp; omega), if_pos (by omega), if_pos (by simp; omega), if_pos (by simp; omega), take_one (by omega)]
    simp only [List.nil_append]
    rw [spec_l3Told_eq _ _ (by simp; omega) (by simp; omega) k (by simp; omega)]
    rfl
  · rw [if_neg h, if_neg h]
theorem slices_Equal_l0 (a b : List Int) (hab : a.length = b.length) (hl : a.length ≤ 1099511627776) (d : Nat) : ∀ (k i : Nat), i + d = a.length → d < k → slices_Equal_int_int.l0 k a b (a.length : Int) (i : Int) = some (decide (a.drop i = b.drop i)) := by
  induction d with
  | zero =>
    intro k i hi hk
    obtain ⟨k, rfl⟩ := succ_of hk
    simp only [slices_Equal_int_int.l0]
    rw [if_neg (by omega), List.drop_eq_nil_of_le (by omega), List.drop_eq_nil_of_le (by omega)]
    rfl
  | succ d ih =>
    intro k i hi hk
    obtain ⟨k, rfl⟩ := succ_of hk
    simp only [slices_Equal_int_int.l0]
    rw [if_pos (by omega), if_pos (by omega), if_pos (by omega), if_pos (by omega), rd_at (l := a) (by omega), rd_at (l := b) (by omega), wrap64_succ (by omega), ih k (i + 1) (by omega) (by omega), drop_cons (l := a) (i := i) (by omega), drop_cons (l := b) (i := i) (by omega)]
    by_cases h : a[i] = b[i]
    · rw [if_pos h]; congr 1; rw [decide_eq_decide, List.cons.injEq]; exact ⟨fun e => ⟨h, e⟩, fun e => e.2⟩
    · rw [if_neg h]; congr 1; symm; rw [decide_eq_false_iff_not, List.cons.injEq]; exact fun e => h e.1
theorem slices_Equal_eq (a b : List Int) (hl : a.length ≤ 1099511627776) (k : Nat) (hk : a.length < k) : slices_Equal_int_int.f k a b = some (decide (a = b)) := by
  unfold slices_Equal_int_int.f
  by_cases h : a.length = b.length
  · rw [if_pos (by omega)]
    have := slices_Equal_l0 a b h hl a.length k 0 (by omega) hk
    simpa using this
  · rw [if_neg (by omega), decide_eq_false (fun e => h (by rw [e]))]
/-- Is a loop the same over and over, so many letters each time? -/
def perB (l : List Int) (p : Nat) : Bool := decide (l.length % p = 0 ∧ l.drop p = l.take (l.length - p))
/-- The first such number, d numbers looked at from p on; else q. -/
def firstP (l : List Int) (q : Nat) : Nat → Nat → Nat
  | _, 0 => q
  | p, d + 1 => if perB l p then p else firstP l q (p + 1) d
/-- The length of the shortest loop. -/
def periodW (l : List Int) : Nat := firstP l l.length 1 (l.length - 1)
theorem firstP_range (l : List Int) (q : Nat) (d : Nat) : ∀ p, firstP l q p d = q ∨ (p ≤ firstP l q p d ∧ firstP l q p d < p + d) := by
  induction d with
  | zero => intro p; exact .inl rfl
  | succ d ih =>
    intro p
    unfold firstP
    split
    · right; omega
    · rcases ih (p + 1) with h | h
      · exact .inl h
      · right; omega
theorem periodW_range (l : List Int) (h : 1 ≤ l.length) : 1 ≤ periodW l ∧ periodW l ≤ l.length := by
  unfold periodW
  rcases firstP_range l l.length (l.length - 1) 1 with h | h <;> omega
theorem firstP_last (l : List Int) (d : Nat) : ∀ p q, firstP l q p (d + 1) = firstP l (if perB l (p + d) then p + d else q) p d := by
  induction d with
  | zero => intro p q; rfl
  | succ d ih =>
    intro p q
    have e := ih (p + 1) q
    rw [show p + 1 + d = p + (d + 1) by omega] at e
    rw [show firstP l q p (d + 1 + 1) = if perB l p then p else firstP l q (p + 1) (d + 1) from rfl, e]
    rfl
theorem perB_self (l : List Int) : perB l l.length = true := by
  unfold perB
  simp
/-- Letters on letters: the same after p places. -/
theorem per_iff (l : List Int) (p : Nat) (hp : 1 ≤ p) (hpl : p ≤ l.length) : l.drop p = l.take (l.length - p) ↔ ∀ i, i < l.length → l.getD i 0 = l.getD (i % p) 0 := by
  have hg : (∀ i, i + p < l.length → l.getD (i + p) 0 = l.getD i 0) ↔ l.drop p = l.take (l.length - p) := by
    constructor
    · intro h
      apply List.ext_getElem
      · simp
      · intro i h1 h2
        simp only [List.length_drop] at h1
        have := h i (by omega)
        rw [List.getD_eq_getElem?_getD, List.getD_eq_getElem?_getD, List.getElem?_eq_getElem (by omega), List.getElem?_eq_getElem (by omega)] at this
        simp only [Option.getD_some] at this
        simp only [List.getElem_drop, List.getElem_take]
        rw [← this]
        congr 1
        omega
    · intro h i hi
      have h3 := congrArg (fun x => x.getD i 0) h
      simp only [List.getD_eq_getElem?_getD, List.getElem?_drop, List.getElem?_take] at h3
      rw [if_pos (by omega)] at h3
      rw [List.getD_eq_getElem?_getD, List.getD_eq_getElem?_getD, Nat.add_comm i p]
      exact h3
  rw [← hg]
  constructor
  · intro h i
    induction i using Nat.strongRecOn with
    | _ i ih =>
      intro hi
      by_cases hlt : i < p
      · rw [Nat.mod_eq_of_lt hlt]
      · have h1 := h (i - p) (by omega)
        rw [show i - p + p = i by omega] at h1
        rw [h1, ih (i - p) (by omega) (by omega), Nat.mod_eq_sub_mod (a := i) (b := p) (by omega)]
  · intro h i hi
    rw [h (i + p) hi, Nat.add_mod_right, ← h i (by omega)]
/-- A word whose last letters have been taken into the loop, so long as they are the loop's last ones. -/
def rollW : Nat → List Int → List Int → List Int × List Int
  | 0, s, l => (s, l)
  | d + 1, s, l => if s.getD (s.length - 1) 0 = l.getD (l.length - 1) 0 then rollW d (s.take (s.length - 1)) (l.drop (l.length - 1) ++ l.take (l.length - 1)) else (s, l)
/-- The canonical form. -/
def canonW (s l : List Int) : List Int × List Int := if wordOkB s l 8 then rollW s.length s (l.take (periodW l)) else ([], [])
theorem rollW_length (d : Nat) : ∀ s l : List Int, (rollW d s l).1.length ≤ s.length ∧ (rollW d s l).2.length = l.length := by
  induction d with
  | zero => intro s l; exact ⟨Nat.le_refl _, rfl⟩
  | succ d ih =>
    intro s l
    unfold rollW
    split
    · have := ih (s.take (s.length - 1)) (l.drop (l.length - 1) ++ l.take (l.length - 1))
      simp only [List.length_append, List.length_take, List.length_drop] at this
      omega
    · exact ⟨Nat.le_refl _, rfl⟩
theorem canonW_length (s l : List Int) : (canonW s l).1.length ≤ s.length ∧ (canonW s l).2.length ≤ l.length := by
  unfold canonW
  split
  · have := rollW_length s.length s (l.take (periodW l))
    rw [List.length_take] at this
    omega
  · simp
theorem impl_period_l0 (l : List Int) (hl : l.length ≤ 1000) (d : Nat) : ∀ (k p : Nat), 1 ≤ p → p + d = l.length → d + l.length + 1 < k → impl_period.l0 k l (p : Int) = some (firstP l l.length p d : Int) := by
  induction d with
  | zero =>
    intro k p hp hpd hk
    obtain ⟨k, rfl⟩ := succ_of hk
    simp only [impl_period.l0]
    rw [if_neg (by omega)]; rfl
  | succ d ih =>
    intro k p hp hpd hk
    obtain ⟨k, rfl⟩ := succ_of hk
    simp only [impl_period.l0]
    have em : ((l.length : Int) % (p : Int) = 0) = (l.length % p = 0) := by
      rw [← Int.natCast_emod]; exact propext ⟨fun h => by omega, fun h => by omega⟩
    rw [if_pos (by omega), if_neg (by omega), wrap64_id (n := (l.length : Int) - (p : Int)) (by omega) (by omega), show (l.length : Int) - (p : Int) = ((l.length - p : Nat) : Int) by omega, wrap64_succ (by omega), ih k (p + 1) (by omega) (by omega) (by omega), show firstP l l.length p (d + 1) = if perB l p then p else firstP l l.length (p + 1) d from rfl]
    simp only [em]
    by_cases h1 : l.length % p = 0
    · rw [if_pos h1, if_pos (show (0 : Int) ≤ (p : Int) by omega), if_pos (show (p : Int) ≤ (l.length : Int) by omega), if_pos (show (0 : Int) ≤ ((l.length - p : Nat) : Int) by omega), if_pos (show ((l.length - p : Nat) : Int) ≤ (l.length : Int) by omega)]
      simp only [Int.toNat_natCast]
      rw [slices_Equal_eq _ _ (by simp; omega) k (by simp; omega)]
      simp only [Option.bind_some, decide_eq_true_eq]
      by_cases h2 : l.drop p = l.take (l.length - p)
      · rw [if_pos h2, if_pos (show perB l p = true by unfold perB; exact decide_eq_true ⟨h1, h2⟩)]
      · rw [if_neg h2, if_neg (show ¬ perB l p = true by unfold perB; intro h; exact h2 (of_decide_eq_true h).2)]
    · rw [if_neg h1, if_neg (show ¬ perB l p = true by unfold perB; intro h; exact h1 (of_decide_eq_true h).1)]
theorem impl_period_eq (l : List Int) (hl : l.length ≤ 1000) (h1 : 1 ≤ l.length) (k : Nat) (hk : 2 * l.length + 1 < k) : impl_period.f k l = some (periodW l : Int) := by
  unfold impl_period.f periodW
  exact impl_period_l0 l hl (l.length - 1) k 1 (by omega) (by omega) (by omega)
theorem impl_WordCanon_l0 (p : Nat) (hp : 1 ≤ p) (hp2 : p ≤ 1000) (d : Nat) : ∀ (k : Nat) (s l : List Int), s.length = d → s.length ≤ 1000 → l.length = p → d + 20 < k → impl_WordCanon.l0 k s l ((p : Int) - 1) = some (rollW d s l) := by
  induction d with
  | zero =>
    intro k s l hs hs2 hl hk
    obtain ⟨k, rfl⟩ := succ_of hk
    simp only [impl_WordCanon.l0]
    rw [if_neg (by omega)]; rfl
  | succ d ih =>
    intro k s l hs hs2 hl hk
    obtain ⟨k, rfl⟩ := succ_of hk
    simp only [impl_WordCanon.l0]
    rw [if_pos (by omega), wrap64_id (n := (s.length : Int) - 1) (by omega) (by omega), if_pos (by omega), if_pos (by omega), if_pos (by omega), if_pos (by omega), show (s.length : Int) - 1 = ((s.length - 1 : Nat) : Int) by omega, show (p : Int) - 1 = ((l.length - 1 : Nat) : Int) by omega, rd_nat, rd_nat]
    unfold rollW
    by_cases h : s.getD (s.length - 1) 0 = l.getD (l.length - 1) 0
    · rw [if_pos h, if_pos h, if_pos (by omega), if_pos (by omega)]
      simp only [Int.toNat_natCast]
      rw [concat2 _ _ (by simp; omega) k (by omega)]
      simp only [Option.bind_some]
      have := ih k (s.take (s.length - 1)) (l.drop (l.length - 1) ++ l.take (l.length - 1)) (by simp; omega) (by simp; omega) (by simp; omega) (by omega)
      rw [show (p : Int) - 1 = ((l.length - 1 : Nat) : Int) by omega] at this
      exact this
    · rw [if_neg h, if_neg h]
theorem impl_WordCanon_eq (s l : List Int) (hs : s.length ≤ 1048576) (hl : l.length ≤ 1048576) (k : Nat) (hk : s.length + 2 * l.length + 3000 < k) : impl_WordCanon.f k s l = some (canonW s l) := by
  unfold impl_WordCanon.f canonW
  rw [impl_isRight_eq s l (by omega) (by omega) _ (by omega)]
  simp only [Option.bind_some]
  by_cases h : wordOkB s l 8 = true
  · have g := wordOk_of h
    have hr := periodW_range l (by omega)
    rw [if_pos h, if_pos h, slices_Clone_eq s (by omega), impl_period_eq l (by omega) (by omega) k (by omega)]
    simp only [Option.bind_some]
    rw [if_pos (by omega), if_pos (by omega), Int.toNat_natCast, slices_Clone_eq _ (by simp; omega)]
    simp only [Option.bind_some]
    have e : (l.take (periodW l)).length = periodW l := by simp; omega
    rw [e, wrap64_id (n := (periodW l : Int) - 1) (by omega) (by omega)]
    exact impl_WordCanon_l0 (periodW l) hr.1 (by omega) s.length k s _ rfl (by omega) e (by omega)
  · rw [if_neg h, if_neg h]
/-- Are two words right, and the same? -/
def sameW (s l s' l' : List Int) : Bool := wordOkB s l 8 && (wordOkB s' l' 8 && decide (canonW s l = canonW s' l'))
theorem impl_WordSame_eq (s l s' l' : List Int) (hs : s.length ≤ 1048576) (hl : l.length ≤ 1048576) (hs' : s'.length ≤ 1048576) (hl' : l'.length ≤ 1048576) (k : Nat) (hk : 10000000 < k) : impl_WordSame.f k s l s' l' = some (sameW s l s' l') := by
  unfold impl_WordSame.f sameW impl_equalWords.f
  have h1 := canonW_length s l
  have h2 := canonW_length s' l'
  rw [impl_isRight_eq s l (by omega) (by omega) _ (by omega), impl_isRight_eq s' l' (by omega) (by omega) _ (by omega)]
  simp only [Option.bind_some]
  rw [impl_WordCanon_eq s l hs hl k (by omega), impl_WordCanon_eq s' l' hs' hl' k (by omega)]
  simp only [Option.bind_some]
  rw [slices_Equal_eq _ _ (by omega) k (by omega), slices_Equal_eq _ _ (by omega) k (by omega)]
  simp only [Option.bind_some, decide_eq_true_eq]
  cases wordOkB s l 8
  · rfl
  · cases wordOkB s' l' 8
    · rfl
    · simp only [if_true, Bool.true_and, Prod.ext_iff]
      by_cases h : (canonW s l).1 = (canonW s' l').1
      · rw [if_pos h, Option.bind_some]; congr 1; rw [decide_eq_decide]; exact ⟨fun e => ⟨h, e⟩, fun e => e.2⟩
      · rw [if_neg h, Option.bind_some]; congr 1; symm; rw [decide_eq_false_iff_not]; exact fun e => h e.1
/-- A head ahead of a word. -/
def joinW (h s l : List Int) : List Int × List Int × Bool := if wordOkB s l 8 then toldW (h ++ s) l else ([], [], false)
theorem joinW_length (h s l : List Int) : (joinW h s l).1.length ≤ h.length + s.length ∧ (joinW h s l).2.1.length ≤ l.length := by
  unfold joinW toldW
  split
  · split
    · simp
    · simp
  · simp
theorem spec_WordJoin_eq (h s l : List Int) (hh : h.length ≤ 1048576) (hs : s.length ≤ 1048576) (hl : l.length ≤ 1048576) (k : Nat) (hk : 4000000 < k) : spec_WordJoin.f k h s l = some (joinW h s l) := by
  unfold spec_WordJoin.f joinW
  rw [spec_l3Right_eq s l (by omega) (by omega) _ (by omega)]
  simp only [Option.bind_some]
  by_cases h1 : wordOkB s l 8 = true
  · rw [if_pos h1, if_pos h1]
    by_cases h2 : (h.length : Int) > 40
    · rw [if_pos h2]
      unfold toldW
      rw [if_neg]
      intro h3
      have := (wordOk_of h3).2.1
      rw [List.length_append] at this
      omega
    · rw [if_neg h2, if_pos (by simp; omega), if_pos (by simp; omega), if_pos (by simp; omega)]
      simp only [List.nil_append]
      rw [spec_l3Told_eq _ _ (by simp; omega) (by omega) k (by simp; omega)]
      rfl
  · rw [if_neg h1, if_neg h1]
theorem impl_WordJoin_eq (h s l : List Int) (hh : h.length ≤ 1048576) (hs : s.length ≤ 1048576) (hl : l.length ≤ 1048576) (k : Nat) (hk : 4000000 < k) : impl_WordJoin.f k h s l = some (joinW h s l) := by
  unfold impl_WordJoin.f joinW
  rw [concat2 h s (by omega) k (by omega), slices_Clone_eq l (by omega), impl_isRight_eq s l (by omega) (by omega) _ (by omega)]
  simp only [Option.bind_some]
  by_cases h1 : wordOkB s l 8 = true
  · rw [h1, impl_rightOr_eq _ _ (by simp; omega) (by omega) k (by simp; omega)]
    rfl
  · simp at h1
    rw [h1]
    unfold impl_rightOr.f
    rfl
/-- A list over and over. -/
def repL (l : List Int) : Nat → List Int
  | 0 => []
  | n + 1 => repL l n ++ l
theorem repL_length (l : List Int) (n : Nat) : (repL l n).length = n * l.length := by
  induction n with
  | zero => simp [repL]
  | succ n ih => rw [repL, List.length_append, ih, Nat.succ_mul]
/-- A word whose loop is written down so many times. -/
def powerW (s l : List Int) (n : Int) : List Int × List Int × Bool := if wordOkB s l 8 then (if inR n 1 40 then toldW s (repL l n.toNat) else ([], [], false)) else ([], [], false)
theorem toldW_le (s l : List Int) : (toldW s l).1.length ≤ s.length ∧ (toldW s l).2.1.length ≤ l.length := by
  unfold toldW
  split <;> simp
theorem powerW_length (s l : List Int) (n : Int) : (powerW s l n).1.length ≤ 40 ∧ (powerW s l n).2.1.length ≤ 1600 := by
  unfold powerW
  by_cases h : wordOkB s l 8 = true
  · have g := wordOk_of h
    rw [if_pos h]
    by_cases h2 : inR n 1 40 = true
    · have g2 := inR_iff.1 h2
      have h3 := toldW_le s (repL l n.toNat)
      have h4 := repL_length l n.toNat
      have : n.toNat * l.length ≤ 40 * 40 := Nat.mul_le_mul (by omega) (by omega)
      rw [if_pos h2]
      omega
    · rw [if_neg h2]; simp
  · rw [if_neg h]; simp
theorem spec_WordPower_l0 (s l s0 : List Int) (n : Nat) (hn : n ≤ 40) (hs0 : s0.length ≤ 40) (hl : l.length ≤ 40) (d : Nat) : ∀ (k i : Nat), i + d = n → d + 2000 < k → spec_WordPower.l0 k (n : Int) (i : Int) s l s0 (repL l i) = some (toldW s0 (repL l n)) := by
  induction d with
  | zero =>
    intro k i hi hk
    obtain ⟨k, rfl⟩ := succ_of (show 0 < k by omega)
    obtain rfl : i = n := by omega
    have h4 := repL_length l i
    have : i * l.length ≤ 40 * 40 := Nat.mul_le_mul hn hl
    simp only [spec_WordPower.l0]
    rw [if_neg (by omega), spec_l3Told_eq s0 _ (by omega) (by omega) k (by omega)]
    rfl
  | succ d ih =>
    intro k i hi hk
    obtain ⟨k, rfl⟩ := succ_of (show 0 < k by omega)
    have h4 := repL_length l i
    have : i * l.length ≤ 40 * 40 := Nat.mul_le_mul (by omega) hl
    simp only [spec_WordPower.l0]
    rw [if_pos (by omega), if_pos (by omega), wrap64_succ (by omega)]
    exact ih k (i + 1) (by omega) (by omega)
theorem spec_WordPower_eq (s l : List Int) (n : Int) (hs : s.length ≤ 1099511627776) (hl : l.length ≤ 1099511627776) (k : Nat) (hk : s.length + l.length + 2100 < k) : spec_WordPower.f k s l n = some (powerW s l n) := by
  unfold spec_WordPower.f powerW
  obtain ⟨j, rfl⟩ : ∃ j, k = j + 1 := ⟨k - 1, by omega⟩
  rw [spec_l3Right_eq s l hs hl _ (by omega), Option.bind_some, spec_l1In_eq, Option.bind_some, spec_WordPower.j0, spec_WordPower.j0]
  by_cases h : wordOkB s l 8 = true
  · have g := wordOk_of h
    rw [if_pos h, if_pos h]
    by_cases h2 : inR n 1 40 = true
    · have g2 := inR_iff.1 h2
      obtain ⟨m, rfl⟩ := Int.eq_ofNat_of_zero_le (show 0 ≤ n by omega)
      rw [h2, if_neg (by simp), Option.bind_some, if_pos (by simp; omega), if_pos rfl]
      exact spec_WordPower_l0 s l s m (by omega) (by omega) (by omega) m j 0 (by omega) (by omega)
    · simp at h2
      rw [h2]; rfl
  · rw [if_neg h, if_neg h, if_pos rfl]
theorem sameInts_l0 (a b : List Int) (hab : a.length = b.length) (hl : a.length ≤ 1099511627776) (d : Nat) : ∀ (k i : Nat), i + d = a.length → d < k → laws_sameInts.l0 k a b (i : Int) = some (decide (a.drop i = b.drop i)) := by
  induction d with
  | zero =>
    intro k i hi hk
    obtain ⟨k, rfl⟩ := succ_of hk
    simp only [laws_sameInts.l0]
    rw [if_neg (by omega), List.drop_eq_nil_of_le (by omega), List.drop_eq_nil_of_le (by omega)]
    rfl
  | succ d ih =>
    intro k i hi hk
    obtain ⟨k, rfl⟩ := succ_of hk
    simp only [laws_sameInts.l0]
    rw [if_pos (by omega), if_pos (by omega), if_pos (by omega), rd_at (l := a) (by omega), rd_at (l := b) (by omega), wrap64_succ (by omega), ih k (i + 1) (by omega) (by omega), drop_cons (l := a) (i := i) (by omega), drop_cons (l := b) (i := i) (by omega)]
    by_cases h : a[i] = b[i]
    · rw [if_pos h]; congr 1; rw [decide_eq_decide, List.cons.injEq]; exact ⟨fun e => ⟨h, e⟩, fun e => e.2⟩
    · rw [if_neg h]; congr 1; symm; rw [decide_eq_false_iff_not, List.cons.injEq]; exact fun e => h e.1
theorem sameInts_eq (a b : List Int) (hl : a.length ≤ 1099511627776) (k : Nat) (hk : a.length < k) : laws_sameInts.f k a b = some (decide (a = b)) := by
  unfold laws_sameInts.f
  by_cases h : a.length = b.length
  · rw [if_pos (by omega)]
    have := sameInts_l0 a b h hl a.length k 0 (by omega) hk
    simpa using this
  · rw [if_neg (by omega), decide_eq_false (fun e => h (by rw [e]))]
theorem l1PickInt_ok (b : List Int) (i h : Int) (l : List Int) (hl : b.length ≤ 1048576) (hi : CurOk b i) (h1 : 1 ≤ l.length) : ∃ r i' h', spec_l1PickInt.f b i h l = some (r, i', h') ∧ CurOk b i' := by
  unfold spec_l1PickInt.f
  obtain ⟨r, i1, h1', e, a, b1, _, c⟩ := l1Below_ok b i h (l.length : Int) hl hi
  have := b1 (by omega)
  rw [e, Option.bind_some, if_pos a, if_pos this]
  exact ⟨_, _, _, rfl, c⟩
theorem l1Once_ok (b : List Int) (i h n : Int) (hl : b.length ≤ 1048576) (hi : CurOk b i) : ∃ r i' h', spec_l1Once.f b i h n = some (r, i', h') ∧ CurOk b i' := by
  unfold spec_l1Once.f
  obtain ⟨r, i1, h1', e, a, b1, _, c⟩ := l1Below_ok b i h n hl hi
  rw [e, Option.bind_some]
  exact ⟨_, _, _, rfl, c⟩
theorem drawLetters_l0 (b : List Int) (x : Int) (hl : b.length ≤ 1048576) (n : Nat) (hn : n ≤ 1000) (d : Nat) : ∀ (k j : Nat) (i h : Int) (o : List Int), CurOk b i → j + d = n → o.length ≤ j → d < k → ∃ o' i' h', spec_l3DrawLetters.l0 k x o (n : Int) (j : Int) b i h = some (o', i', h') ∧ o'.length ≤ n ∧ CurOk b i' := by
  induction d with
  | zero =>
    intro k j i h o hi hj ho hk
    obtain ⟨k, rfl⟩ := succ_of hk
    simp only [spec_l3DrawLetters.l0]
    rw [if_neg (by omega)]
    exact ⟨_, _, _, rfl, by omega, hi⟩
  | succ d ih =>
    intro k j i h o hi hj ho hk
    obtain ⟨k, rfl⟩ := succ_of hk
    obtain ⟨r, i1, h1', e, _, _, _, c⟩ := l1Below_ok b i h x hl hi
    simp only [spec_l3DrawLetters.l0]
    rw [if_pos (by omega), e, Option.bind_some, if_pos (by omega), wrap64_succ (by omega)]
    exact ih k (j + 1) _ _ _ c (by omega) (by rw [List.length_append, List.length_singleton]; omega) (by omega)
theorem drawLetters_ok (b : List Int) (i h : Int) (m : Nat) (x : Int) (hl : b.length ≤ 1048576) (hi : CurOk b i) (hm : m ≤ 100) (k : Nat) (hk : 200 < k) : ∃ o i' h', spec_l3DrawLetters.f k b i h (m : Int) x = some (o, i', h') ∧ o.length ≤ m ∧ CurOk b i' := by
  unfold spec_l3DrawLetters.f
  rw [wrap64_succ (by omega)]
  obtain ⟨r, i1, h1', e, a, b1, _, c⟩ := l1Below_ok b i h ((m + 1 : Nat) : Int) hl hi
  have := b1 (by omega)
  obtain ⟨n, rfl⟩ := Int.eq_ofNat_of_zero_le a
  rw [e, Option.bind_some]
  obtain ⟨o, i2, h2', e2, l2, c2⟩ := drawLetters_l0 b x hl n (by omega) n k 0 i1 h1' [] c (by omega) (by simp) (by omega)
  exact ⟨o, i2, h2', e2, by omega, c2⟩
theorem drawRight_j0 (b : List Int) (i h : Int) (s l : List Int) (hl : b.length ≤ 1048576) (hi : CurOk b i) (h1 : s.length ≤ 1000) (h2 : l.length ≤ 2000) (k : Nat) (hk : 4000 < k) : ∃ s' l' i' h', spec_l3DrawRight.j0 k b i h s l = some (s', l', i', h') ∧ s'.length ≤ 1001 ∧ l'.length ≤ 2001 ∧ CurOk b i' := by
  obtain ⟨k, rfl⟩ := succ_of (show 0 < k by omega)
  obtain ⟨r, i1, h1', e, c⟩ := l1Once_ok b i h 6 hl hi
  rw [spec_l3DrawRight.j0, e, Option.bind_some]
  have ht := turnW_length s l
  cases r
  · rw [if_neg (by simp)]
    exact ⟨_, _, _, _, rfl, by omega, by omega, c⟩
  · rw [if_pos rfl, spec_WordTurn_eq s l (by omega) (by omega) k (by omega), Option.bind_some]
    exact ⟨_, _, _, _, rfl, by omega, by omega, c⟩
theorem drawRight_ok (b : List Int) (i h x : Int) (hl : b.length ≤ 1048576) (hi : CurOk b i) (k : Nat) (hk : 5000 < k) : ∃ s' l' i' h', spec_l3DrawRight.f k b i h x = some (s', l', i', h') ∧ s'.length ≤ 1001 ∧ l'.length ≤ 2001 ∧ CurOk b i' := by
  unfold spec_l3DrawRight.f
  obtain ⟨s, i1, h1, e1, l1, c1⟩ := drawLetters_ok b i h 4 x hl hi (by omega) k (by omega)
  obtain ⟨l, i2, h2, e2, l2, c2⟩ := drawLetters_ok b i1 h1 3 x hl c1 (by omega) k (by omega)
  obtain ⟨r, i3, h3, e3, _, _, _, c3⟩ := l1Below_ok b i2 h2 x hl c2
  obtain ⟨f, i4, h4, e4, c4⟩ := l1Once_ok b i3 h3 6 hl c3
  have e1' : spec_l3DrawLetters.f k b i h 4 x = some (s, i1, h1) := e1
  have e2' : spec_l3DrawLetters.f k b i1 h1 3 x = some (l, i2, h2) := e2
  rw [e1', Option.bind_some, e2', Option.bind_some, e3, Option.bind_some]
  dsimp only
  rw [if_pos (by omega), Option.bind_some, e4, Option.bind_some]
  have hll : (l ++ [r]).length ≤ 4 := by rw [List.length_append, List.length_singleton]; omega
  cases f
  · rw [if_neg (by simp)]
    exact drawRight_j0 b i4 h4 s (l ++ [r]) hl c4 (by omega) (by omega) k (by omega)
  · have hp := powerW_length s (l ++ [r]) 2
    rw [if_pos rfl, spec_WordPower_eq s (l ++ [r]) 2 (by omega) (by omega) k (by omega), Option.bind_some]
    exact drawRight_j0 b i4 h4 _ _ hl c4 (by omega) (by omega) k (by omega)
theorem drawWord_ok (b : List Int) (i h : Int) (hl : b.length ≤ 1048576) (hi : CurOk b i) (k : Nat) (hk : 5000 < k) : ∃ s' l' i' h', spec_l3DrawWord.f k b i h = some (s', l', i', h') ∧ s'.length ≤ 2002 ∧ l'.length ≤ 2002 ∧ CurOk b i' := by
  unfold spec_l3DrawWord.f
  obtain ⟨n, i1, h1, e1, c1⟩ := l1PickInt_ok b i h [1, 2, 2, 3, 8] hl hi (by simp)
  obtain ⟨s, l, i2, h2, e2, s2, l2, c2⟩ := drawRight_ok b i1 h1 n hl c1 k hk
  obtain ⟨r, i3, h3, e3, a3, b3, _, c3⟩ := l1Below_ok b i2 h2 25 hl c2
  rw [e1, Option.bind_some, e2, Option.bind_some, e3, Option.bind_some]
  dsimp only
  by_cases r0 : r = 0
  · rw [if_pos r0]
    exact ⟨_, _, _, _, rfl, by omega, by simp, c3⟩
  · rw [if_neg r0]
    by_cases r1 : r = 1
    · obtain ⟨x, i4, h4, e4, c4⟩ := l1PickInt_ok b i3 h3 [(-1), 7, 8] hl c3 (by simp)
      rw [if_pos r1, e4, Option.bind_some, if_pos (by omega)]
      exact ⟨_, _, _, _, rfl, by rw [List.length_append, List.length_singleton]; omega, by omega, c4⟩
    · rw [if_neg r1]
      obtain ⟨x, i4, h4, e4, a4, b4, _, c4⟩ := l1Below_ok b i3 h3 2 hl c3
      have := b4 (by omega)
      have hx : wrap64 (40 + x) = 40 + x := wrap64_id (by omega) (by omega)
      by_cases r2 : r = 2
      · rw [if_pos r2, e4, Option.bind_some, hx, if_pos (by omega), if_pos (by omega)]
        exact ⟨_, _, _, _, rfl, by rw [List.length_replicate]; omega, by omega, c4⟩
      · rw [if_neg r2]
        by_cases r3 : r = 3
        · rw [if_pos r3, e4, Option.bind_some, hx, if_pos (by omega), if_pos (by omega)]
          exact ⟨_, _, _, _, rfl, by omega, by rw [List.length_replicate]; omega, c4⟩
        · rw [if_neg r3]
          exact ⟨_, _, _, _, rfl, by omega, by omega, c3⟩
theorem drawWordJoin_ok (b : List Int) (hl : b.length ≤ 1048576) (k : Nat) (hk : 5000 < k) : ∃ d s l, spec_DrawWordJoin.f k b = some (d, s, l) ∧ d.length ≤ 40 ∧ s.length ≤ 2002 ∧ l.length ≤ 2002 := by
  unfold spec_DrawWordJoin.f
  obtain ⟨h, e⟩ := l1New_ok b k (by omega)
  obtain ⟨s, l, i2, h2, e2, s2, l2, c2⟩ := drawWord_ok b 0 h hl ⟨by omega, by omega⟩ k hk
  obtain ⟨d, i3, h3, e3, l3, c3⟩ := drawLetters_ok b i2 h2 5 9 hl c2 (by omega) k (by omega)
  obtain ⟨f, i4, h4, e4, c4⟩ := l1Once_ok b i3 h3 15 hl c3
  have e3' : spec_l3DrawLetters.f k b i2 h2 5 9 = some (d, i3, h3) := e3
  rw [e, Option.bind_some, e2, Option.bind_some, e3', Option.bind_some, e4, Option.bind_some]
  cases f
  · rw [if_neg (by simp)]
    exact ⟨_, _, _, rfl, (show d.length ≤ 40 by omega), s2, l2⟩
  · obtain ⟨x, i5, h5, e5, a5, b5, _, c5⟩ := l1Below_ok b i4 h4 6 hl c4
    have := b5 (by omega)
    rw [if_pos rfl, e5, Option.bind_some, wrap64_id (n := 40 - x) (by omega) (by omega), if_pos (by omega), if_pos (by omega)]
    exact ⟨_, _, _, rfl, by rw [List.length_replicate]; omega, s2, l2⟩
end hFnJoin3
open hFnJoin3
theorem takeFrom_head (d s l : List Int) : ∀ (n i : Nat), i + n = d.length → takeFrom (d ++ s) l i n = d.drop i := by
  intro n
  induction n with
  | zero => intro i h; rw [List.drop_eq_nil_of_le (by omega)]; rfl
  | succ n ih =>
    intro i h
    rw [show takeFrom (d ++ s) l i (n + 1) = letterAt (d ++ s) l i :: takeFrom (d ++ s) l (i + 1) n from rfl, ih (i + 1) (by omega), drop_cons (l := d) (i := i) (by omega)]
    congr 1
    unfold letterAt
    rw [if_pos (by rw [List.length_append]; omega), List.getD_eq_getElem?_getD, List.getElem?_append_left (by omega), List.getElem?_eq_getElem (by omega)]
    rfl
theorem FnJoin3 : laws_FnJoin3.Pure := by
  intro b hb wb
  obtain ⟨K, hK⟩ : ∃ K, K = 20000000 := ⟨_, rfl⟩
  refine ⟨K, ?_⟩
  unfold laws_FnJoin3.f
  rw [big_eq, Option.bind_some]
  by_cases h0 : 1048576 < b.length
  · rw [if_pos (decide_eq_true h0)]
  · obtain ⟨d, s, l, e, hd, hs, hl⟩ := drawWordJoin_ok b (by omega) K (by omega)
    have hL := joinW_length d s l
    rw [if_neg (by simp; omega), e, Option.bind_some, impl_WordJoin_eq d s l (by omega) (by omega) (by omega) K (by omega), Option.bind_some, spec_WordJoin_eq d s l (by omega) (by omega) (by omega) K (by omega), Option.bind_some, bne_self_eq_false, if_neg (by simp)]
    unfold joinW toldW
    by_cases h : wordOkB s l 8 = true
    · rw [if_pos h]
      by_cases h2 : wordOkB (d ++ s) l 8 = true
      · have g := wordOk_of h2
        rw [List.length_append] at g
        have ht : tailW (d ++ s) l (d.length : Int) = (s, l, true) := by
          unfold tailW
          rw [if_pos h2, if_pos (inR_iff.2 (by omega)), if_pos (by rw [List.length_append]; omega), Int.toNat_natCast, List.drop_left]
        have hk : hFnJoin3.takeW (d ++ s) l (d.length : Int) = d := by
          unfold hFnJoin3.takeW
          rw [if_pos h2, if_pos (inR_iff.2 (by omega)), Int.toNat_natCast, takeFrom_head d s l d.length 0 (by omega)]
          rfl
        have hq : sameW s l s l = true := by
          unfold sameW
          rw [h, decide_eq_true rfl]; rfl
        rw [if_pos h2, if_pos rfl]
        dsimp only
        rw [impl_WordTail_eq _ _ _ (by rw [List.length_append]; omega) (by omega) K (by rw [List.length_append]; omega), ht, Option.bind_some, if_pos rfl, impl_WordTake_eq _ _ _ (by rw [List.length_append]; omega) (by omega) K (by rw [List.length_append]; omega), hk, Option.bind_some, sameInts_eq d d (by omega) K (by omega), Option.bind_some, decide_eq_true rfl, if_pos rfl, impl_WordSame_eq s l s l (by omega) (by omega) (by omega) (by omega) K (by omega), Option.bind_some, hq]
      · rw [if_neg h2, if_neg (by simp)]; rfl
    · rw [if_neg h, if_neg (by simp)]; rfl
end Go.Proofs.Ythkljpbddddhdaa.Pure
