/- What the printed functions of FnExactWordSame come to, one lemma a function, and from these the law: for all arguments (within the bounds that the printed statement names) it answers true. -/
import Derived.Test.YthkljpbddddhdaaMFnExactWordSamex8
import Derived.Test.YthkljpbddddhdaaBase
import Derived.Test.YthkljpbddddhdaaBaseL
import Derived.Test.YthkljpbddddhdaaBaseS
import Derived.Test.YthkljpbddddhdaaBaseW
namespace Go.Proofs.Ythkljpbddddhdaa.Pure
open Go.RowKit Go.Proofs.Ythkljpbddddhdaa.MFnExactWordSame Go.Proofs.YthkljpbddddhdaaW.PrintWords Go.Proofs.YthkljpbddddhdaaW.PrintLast Go.Proofs.Ythkljpbddddhdaa.Base

namespace hFnExactWordSame
theorem spec_l1In_eq (a b c : Int) : spec_l1In.f a b c = some (inR a b c) := by
  unfold spec_l1In.f inR
  by_cases h : a ≥ b
  · rw [if_pos h]; simp [show b ≤ a from h]
  · rw [if_neg h]; simp; omega
theorem impl_inRange_eq (a b c : Int) : impl_inRange.f a b c = some (inR a b c) := by
  unfold impl_inRange.f inR
  by_cases h : a ≥ b
  · rw [if_pos h]; simp [show b ≤ a from h]
  · rw [if_neg h]; simp; omega
theorem toIntS_l0 (l : List Int) (hl : l.length ≤ 1099511627776) (d : Nat) : ∀ (k i : Nat) (rest : List Int), i + d = l.length → rest.length = d → d < k → laws_toIntS.l0 k l (l.take i ++ rest) (i : Int) = some l := by
  induction d with
  | zero =>
    intro k i rest hi hr hk
    obtain ⟨k, rfl⟩ := succ_of hk
    simp only [laws_toIntS.l0]
    rw [if_neg (by omega), List.eq_nil_of_length_eq_zero hr, List.append_nil, List.take_of_length_le (by omega)]
  | succ d ih =>
    intro k i rest hi hr hk
    obtain ⟨k, rfl⟩ := succ_of hk
    simp only [laws_toIntS.l0]
    have hll : (l.take i ++ rest).length = l.length := by rw [List.length_append, List.length_take]; omega
    rw [if_pos (by omega), if_pos (by omega), if_pos (by omega), rd_at (by omega), wrap64_succ (by omega)]
    rw [show ((i : Int)).toNat = i from rfl, take_set_drop (by omega) (by omega)]
    exact ih k (i + 1) rest.tail (by omega) (by rw [List.length_tail]; omega) (by omega)
theorem toIntS_eq (l : List Int) (hl : l.length ≤ 1099511627776) (k : Nat) (hk : l.length < k) : laws_toIntS.f k l = some l := by
  unfold laws_toIntS.f
  rw [if_pos (by omega), if_pos (by simp; omega)]
  exact toIntS_l0 l hl l.length k 0 _ (by omega) (by simp) hk
theorem eqIntS_l0 (a b : List Int) (hab : a.length = b.length) (hl : a.length ≤ 1099511627776) (d : Nat) : ∀ (k i : Nat), i + d = a.length → d < k → laws_eqIntS.l0 k a b (i : Int) = some (decide (a.drop i = b.drop i)) := by
  induction d with
  | zero =>
    intro k i hi hk
    obtain ⟨k, rfl⟩ := succ_of hk
    simp only [laws_eqIntS.l0]
    rw [if_neg (by omega), List.drop_eq_nil_of_le (by omega), List.drop_eq_nil_of_le (by omega)]
    simp
  | succ d ih =>
    intro k i hi hk
    obtain ⟨k, rfl⟩ := succ_of hk
    simp only [laws_eqIntS.l0]
    rw [if_pos (by omega), if_pos (by omega), if_pos (by omega), rd_at (by omega), rd_at (by omega), wrap64_succ (by omega)]
    rw [drop_cons (l := a) (i := i) (by omega), drop_cons (l := b) (i := i) (by omega)]
    by_cases h : a[i] = b[i]
    · rw [if_pos h, ih k (i + 1) (by omega) (by omega), h]
      congr 1
      exact decide_eq_decide.2 ⟨fun e => by rw [e], fun e => (List.cons.inj e).2⟩
    · rw [if_neg h]
      congr 1
      exact (decide_eq_false (fun e => h (List.cons.inj e).1)).symm
theorem eqIntS_eq (a b : List Int) (hl : a.length ≤ 1099511627776) (k : Nat) (hk : a.length < k) : laws_eqIntS.f k a b = some (decide (a = b)) := by
  unfold laws_eqIntS.f
  by_cases h : a.length = b.length
  · rw [if_pos (by omega)]
    exact eqIntS_l0 a b h hl a.length k 0 (by omega) hk
  · rw [if_neg (by omega)]
    have : a ≠ b := fun e => h (by rw [e])
    simp [this]
theorem szIntS_eq (l : List Int) (a : Int) (h0 : 0 ≤ a) (h1 : a ≤ 1048576) (hl : l.length ≤ 9223372036854775807) : laws_szIntS.f l a = some (if a < l.length then -1 else a - l.length) := by
  unfold laws_szIntS.f
  rw [wrap64_id (by omega) (by omega)]
  by_cases h : a < (l.length : Int)
  · rw [if_pos (by omega), if_pos h]
  · rw [if_neg (by omega), if_neg h]
theorem slices_Clone_eq (l : List Int) (h : l.length ≤ 1099511627776) : slices_Clone_int_int.f l = some l := by
  unfold slices_Clone_int_int.f
  rw [if_pos (by omega)]
theorem spec_l3Letters_l0 (l : List Int) (n : Int) (h0 : -1000 ≤ n) (h1 : n ≤ 1000) (hl : l.length ≤ 1099511627776) (d : Nat) : ∀ (k i : Nat), i + d = l.length → d < k → spec_l3Letters.l0 k l n (i : Int) = some (lettersB (l.drop i) n) := by
  induction d with
  | zero =>
    intro k i hi hk
    obtain ⟨k, rfl⟩ := succ_of hk
    simp only [spec_l3Letters.l0]
    rw [if_neg (by omega), List.drop_eq_nil_of_le (by omega)]
    rfl
  | succ d ih =>
    intro k i hi hk
    obtain ⟨k, rfl⟩ := succ_of hk
    simp only [spec_l3Letters.l0]
    rw [if_pos (by omega), if_pos (by omega), rd_at (by omega), spec_l1In_eq, wrap64_id (n := n - 1) (by omega) (by omega), wrap64_succ (by omega), drop_cons (l := l) (i := i) (by omega)]
    simp only [Option.bind_some, lettersB, List.all_cons]
    by_cases h : inR l[i] 0 (n - 1) = true
    · rw [if_pos h, h, ih k (i + 1) (by omega) (by omega)]; rfl
    · rw [if_neg h]; simp at h; rw [h]; rfl
theorem spec_l3Letters_eq (l : List Int) (n : Int) (h0 : -1000 ≤ n) (h1 : n ≤ 1000) (hl : l.length ≤ 1099511627776) (k : Nat) (hk : l.length < k) : spec_l3Letters.f k l n = some (lettersB l n) := by
  unfold spec_l3Letters.f
  exact spec_l3Letters_l0 l n h0 h1 hl l.length k 0 (by omega) hk
theorem spec_WordOk_eq (s l : List Int) (n : Int) (hs : s.length ≤ 1099511627776) (hl : l.length ≤ 1099511627776) (k : Nat) (hk : s.length + l.length + 1 < k) : spec_WordOk.f k s l n = some (wordOkB s l n) := by
  unfold spec_WordOk.f wordOkB
  obtain ⟨k, rfl⟩ := succ_of hk
  rw [spec_l1In_eq, spec_l1In_eq]
  simp only [Option.bind_some, spec_WordOk.j0]
  by_cases h1 : inR n 1 8 = true
  · have h1' := inR_iff.1 h1
    rw [if_pos h1, h1]
    by_cases h2 : (s.length : Int) > 40
    · rw [if_pos h2, if_pos trivial, decide_eq_false (by omega)]; rfl
    · rw [if_neg h2, decide_eq_true (by omega)]
      by_cases h3 : inR (l.length : Int) 1 40 = true
      · rw [h3, spec_l3Letters_eq s n (by omega) (by omega) hs k (by omega)]
        simp only [Bool.not_true, Bool.false_eq_true, if_false, Option.bind_some, Bool.true_and]
        rw [spec_l3Letters_eq l n (by omega) (by omega) hl k (by omega)]
        by_cases h4 : lettersB s n = true
        · rw [if_pos h4, h4]; rfl
        · rw [if_neg h4]; simp at h4; rw [h4]; rfl
      · simp at h3; rw [h3]; rfl
  · rw [if_neg h1, if_pos trivial]; simp at h1; rw [h1]; rfl
theorem impl_isLetters_eq (n : Int) : impl_isLetters.f n = some (inR n 1 8) := by
  unfold impl_isLetters.f
  rw [impl_inRange_eq]; rfl
theorem impl_areLetters_l0 (l : List Int) (n : Int) (h0 : -1000 ≤ n) (h1 : n ≤ 1000) (hl : l.length ≤ 1099511627776) (d : Nat) : ∀ (k i : Nat), i + d = l.length → d < k → impl_areLetters.l0 k n l (l.length : Int) (i : Int) = some (lettersB (l.drop i) n) := by
  induction d with
  | zero =>
    intro k i hi hk
    obtain ⟨k, rfl⟩ := succ_of hk
    simp only [impl_areLetters.l0]
    rw [if_neg (by omega), List.drop_eq_nil_of_le (by omega)]
    rfl
  | succ d ih =>
    intro k i hi hk
    obtain ⟨k, rfl⟩ := succ_of hk
    simp only [impl_areLetters.l0]
    rw [if_pos (by omega), if_pos (by omega), if_pos (by omega), rd_at (by omega), impl_inRange_eq, wrap64_id (n := n - 1) (by omega) (by omega), wrap64_succ (by omega), drop_cons (l := l) (i := i) (by omega)]
    simp only [Option.bind_some, lettersB, List.all_cons]
    by_cases h : inR l[i] 0 (n - 1) = true
    · rw [if_pos h, h, ih k (i + 1) (by omega) (by omega)]; rfl
    · rw [if_neg h]; simp at h; rw [h]; rfl
theorem impl_areLetters_eq (l : List Int) (n : Int) (h0 : -1000 ≤ n) (h1 : n ≤ 1000) (hl : l.length ≤ 1099511627776) (k : Nat) (hk : l.length < k) : impl_areLetters.f k l n = some (lettersB l n) := by
  unfold impl_areLetters.f
  exact impl_areLetters_l0 l n h0 h1 hl l.length k 0 (by omega) hk
theorem impl_WordOk_eq (s l : List Int) (n : Int) (hs : s.length ≤ 1099511627776) (hl : l.length ≤ 1099511627776) (k : Nat) (hk : s.length + l.length + 1 < k) : impl_WordOk.f k s l n = some (wordOkB s l n) := by
  unfold impl_WordOk.f wordOkB
  obtain ⟨k, rfl⟩ := succ_of hk
  rw [impl_isLetters_eq, impl_inRange_eq]
  simp only [Option.bind_some, impl_WordOk.j0]
  by_cases h1 : inR n 1 8 = true
  · have h1' := inR_iff.1 h1
    rw [if_pos h1, h1]
    by_cases h2 : (s.length : Int) > 40
    · rw [if_pos h2, if_pos trivial, decide_eq_false (by omega)]; rfl
    · rw [if_neg h2, decide_eq_true (by omega)]
      by_cases h3 : inR (l.length : Int) 1 40 = true
      · rw [h3, impl_areLetters_eq s n (by omega) (by omega) hs k (by omega)]
        simp only [Bool.not_true, Bool.false_eq_true, if_false, Option.bind_some, Bool.true_and]
        rw [impl_areLetters_eq l n (by omega) (by omega) hl k (by omega)]
        by_cases h4 : lettersB s n = true
        · rw [if_pos h4, h4]; rfl
        · rw [if_neg h4]; simp at h4; rw [h4]; rfl
      · simp at h3; rw [h3]; rfl
  · rw [if_neg h1, if_pos trivial]; simp at h1; rw [h1]; rfl
theorem spec_l3Right_eq (s l : List Int) (hs : s.length ≤ 1099511627776) (hl : l.length ≤ 1099511627776) (k : Nat) (hk : s.length + l.length + 1 < k) : spec_l3Right.f k s l = some (wordOkB s l 8) := by
  unfold spec_l3Right.f
  rw [spec_WordOk_eq s l 8 hs hl k hk]; rfl
theorem impl_isRight_eq (s l : List Int) (hs : s.length ≤ 1099511627776) (hl : l.length ≤ 1099511627776) (k : Nat) (hk : s.length + l.length + 1 < k) : impl_isRight.f k s l = some (wordOkB s l 8) := by
  unfold impl_isRight.f
  rw [impl_WordOk_eq s l 8 hs hl k hk]; rfl
theorem szWord_eq (s l : List Int) (a : Int) (h0 : 0 ≤ a) (h1 : a ≤ 1048576) (hs : s.length ≤ 9223372036854775807) (hl : l.length ≤ 9223372036854775807) :
    ∃ r, laws_szWord.f s l a = some r ∧ (0 ≤ r → s.length + l.length ≤ a ∧ r = a - s.length - l.length) := by
  unfold laws_szWord.f
  rw [szIntS_eq s a h0 h1 hs]
  simp only [Option.bind_some]
  by_cases h : a < (s.length : Int)
  · rw [if_pos h, if_pos (by omega)]
    exact ⟨-1, rfl, fun h => by omega⟩
  · rw [if_neg h, if_neg (by omega), szIntS_eq l _ (by omega) (by omega) hl]
    simp only [Option.bind_some]
    by_cases h' : a - (s.length : Int) < (l.length : Int)
    · rw [if_pos h', if_pos (by omega)]
      exact ⟨-1, rfl, fun h => by omega⟩
    · rw [if_neg h', if_neg (by omega)]
      exact ⟨_, rfl, fun _ => by omega⟩
theorem toWord_eq (s l : List Int) (hs : s.length ≤ 1099511627776) (hl : l.length ≤ 1099511627776) (k : Nat) (hk : s.length + l.length < k) : laws_toWord.f k s l = some (s, l) := by
  unfold laws_toWord.f
  rw [toIntS_eq s hs k (by omega)]
  simp only [Option.bind_some]
  rw [toIntS_eq l hl k (by omega)]
  rfl
theorem eqWord_eq (s l s' l' : List Int) (hs : s.length ≤ 1099511627776) (hl : l.length ≤ 1099511627776) (k : Nat) (hk : s.length + l.length < k) : laws_eqWord.f k s l s' l' = some (decide (s = s' ∧ l = l')) := by
  unfold laws_eqWord.f
  rw [eqIntS_eq s s' hs k (by omega)]
  simp only [Option.bind_some]
  by_cases h : s = s'
  · rw [decide_eq_true h, if_pos rfl, eqIntS_eq l l' hl k (by omega)]
    simp only [Option.bind_some]
    by_cases h' : l = l'
    · rw [decide_eq_true h', if_pos rfl, decide_eq_true ⟨h, h'⟩]
    · rw [decide_eq_false h', if_neg (by simp), decide_eq_false (fun e => h' e.2)]
  · rw [decide_eq_false h, if_neg (by simp), decide_eq_false (fun e => h e.1)]
theorem concat2 (a b : List Int) (h : a.length + b.length ≤ 1048576) (k : Nat) (hk : 8 < k) : slices_Concat_int_int.f k [a, b] = some (a ++ b) := by
  obtain ⟨k, rfl⟩ : ∃ m, k = m + 8 := ⟨k - 8, by omega⟩
  have e0 : rd_L1 [a, b] 0 = a := rfl
  have e1 : rd_L1 [a, b] 1 = b := rfl
  have l2 : (([a, b].length : Nat) : Int) = 2 := rfl
  have w0 : wrap64 (0 + 1) = 1 := by rw [wrap64_id (by omega) (by omega)]; rfl
  have w1 : wrap64 (1 + 1) = 2 := by rw [wrap64_id (by omega) (by omega)]; rfl
  have wa : wrap64 (0 + (a.length : Int)) = (a.length : Int) := by rw [wrap64_id (by omega) (by omega)]; omega
  have wb : wrap64 ((a.length : Int) + (b.length : Int)) = (a.length : Int) + (b.length : Int) := wrap64_id (by omega) (by omega)
  have n1 : ((a.length : Int) < 0) = False := eq_false (by omega)
  have n2 : ((a.length : Int) + (b.length : Int) < 0) = False := eq_false (by omega)
  have n3 : ((0 : Int) ≤ (a.length : Int) + (b.length : Int)) = True := eq_true (by omega)
  have n4 : ((a.length : Int) + (b.length : Int) < 1099511627776) = True := eq_true (by omega)
  have n5 : (a.length < 17592186044416) = True := eq_true (by omega)
  have n6 : (a.length + b.length < 17592186044416) = True := eq_true (by omega)
  have c1 : ((0 : Int) < 2) = True := eq_true (by omega)
  have c2 : ((1 : Int) < 2) = True := eq_true (by omega)
  have c3 : ((2 : Int) < 2) = False := eq_false (by omega)
  have c4 : ((0 : Int) ≤ 1) = True := eq_true (by omega)
  unfold slices_Concat_int_int.f
  simp only [slices_Concat_int_int.l0, slices_Concat_int_int.l1, slices_Grow_int_int.f, e0, e1, l2, w0, w1, wa, wb, n1, n2, n3, n4, n5, n6, c1, c2, c3, c4, Int.le_refl, if_true, if_false, List.length_nil, and_self, Option.bind_some, List.nil_append, Nat.zero_add]
theorem slices_Equal_l0 (a b : List Int) (hab : a.length = b.length) (hl : a.length ≤ 1099511627776) (d : Nat) : ∀ (k i : Nat), i + d = a.length → d < k → slices_Equal_int_int.l0 k a b (a.length : Int) (i : Int) = some (decide (a.drop i = b.drop i)) := by
  induction d with
  | zero =>
    intro k i hi hk
    obtain ⟨k, rfl⟩ := succ_of hk
    simp only [slices_Equal_int_int.l0]
    rw [if_neg (by omega), List.drop_eq_nil_of_le (by omega), List.drop_eq_nil_of_le (by omega)]
    rfl
  | succ d ih =>
    intro k i hi hk
    obtain ⟨k, rfl⟩ := succ_of hk
    simp only [slices_Equal_int_int.l0]
    rw [if_pos (by omega), if_pos (by omega), if_pos (by omega), if_pos (by omega), rd_at (l := a) (by omega), rd_at (l := b) (by omega), wrap64_succ (by omega), ih k (i + 1) (by omega) (by omega), drop_cons (l := a) (i := i) (by omega), drop_cons (l := b) (i := i) (by omega)]
    by_cases h : a[i] = b[i]
    · rw [if_pos h]; congr 1; rw [decide_eq_decide, List.cons.injEq]; exact ⟨fun e => ⟨h, e⟩, fun e => e.2⟩
    · rw [if_neg h]; congr 1; symm; rw [decide_eq_false_iff_not, List.cons.injEq]; exact fun e => h e.1
theorem slices_Equal_eq (a b : List Int) (hl : a.length ≤ 1099511627776) (k : Nat) (hk : a.length < k) : slices_Equal_int_int.f k a b = some (decide (a = b)) := by
  unfold slices_Equal_int_int.f
  by_cases h : a.length = b.length
  · rw [if_pos (by omega)]
    have := slices_Equal_l0 a b h hl a.length k 0 (by omega) hk
    simpa using this
  · rw [if_neg (by omega), decide_eq_false (fun e => h (by rw [e]))]
/-- Is a loop the same over and over, so many letters each time? -/
def perB (l : List Int) (p : Nat) : Bool := decide (l.length % p = 0 ∧ l.drop p = l.take (l.length - p))
/-- The first such number, d numbers looked at from p on; else q. -/
def firstP (l : List Int) (q : Nat) : Nat → Nat → Nat
  | _, 0 => q
  | p, d + 1 => if perB l p then p else firstP l q (p + 1) d
/-- The length of the shortest loop. -/
def periodW (l : List Int) : Nat := firstP l l.length 1 (l.length - 1)
theorem firstP_range (l : List Int) (q : Nat) (d : Nat) : ∀ p, firstP l q p d = q ∨ (p ≤ firstP l q p d ∧ firstP l q p d < p + d) := by
  induction d with
  | zero => intro p; exact .inl rfl
  | succ d ih =>
    intro p
    unfold firstP
    split
    · right; omega
    · rcases ih (p + 1) with h | h
      · exact .inl h
      · right; omega
theorem periodW_range (l : List Int) (h : 1 ≤ l.length) : 1 ≤ periodW l ∧ periodW l ≤ l.length := by
  unfold periodW
  rcases firstP_range l l.length (l.length - 1) 1 with h | h <;> omega
theorem firstP_last (l : List Int) (d : Nat) : ∀ p q, firstP l q p (d + 1) = firstP l (if perB l (p + d) then p + d else q) p d := by
  induction d with
  | zero => intro p q; rfl
  | succ d ih =>
    intro p q
    have e := ih (p + 1) q
    rw [show p + 1 + d = p + (d + 1) by omega] at e
    rw [show firstP l q p (d + 1 + 1) = if perB l p then p else firstP l q (p + 1) (d + 1) from rfl, e]
    rfl
theorem perB_self (l : List Int) : perB l l.length = true := by
  unfold perB
  simp
/-- Letters on letters: the same after p places. -/
theorem per_iff (l : List Int) (p : Nat) (hp : 1 ≤ p) (hpl : p ≤ l.length) : l.drop p = l.take (l.length - p) ↔ ∀ i, i < l.length → l.getD i 0 = l.getD (i % p) 0 := by
  have hg : (∀ i, i + p < l.length → l.getD (i + p) 0 = l.getD i 0) ↔ l.drop p = l.take (l.length - p) := by
    constructor
    · intro h
      apply List.ext_getElem
      · simp
      · intro i h1 h2
        simp only [List.length_drop] at h1
        have := h i (by omega)
        rw [List.getD_eq_getElem?_getD, List.getD_eq_getElem?_getD, List.getElem?_eq_getElem (by omega), List.getElem?_eq_getElem (by omega)] at this
        simp only [Option.getD_some] at this
        simp only [List.getElem_drop, List.getElem_take]
        rw [← this]
        congr 1
        omega
    · intro h i hi
      have h3 := congrArg (fun x => x.getD i 0) h
      simp only [List.getD_eq_getElem?_getD, List.getElem?_drop, List.getElem?_take] at h3
      rw [if_pos (by omega)] at h3
      rw [List.getD_eq_getElem?_getD, List.getD_eq_getElem?_getD, Nat.add_comm i p]
      exact h3
  rw [← hg]
  constructor
  · intro h i
    induction i using Nat.strongRecOn with
    | _ i ih =>
      intro hi
      by_cases hlt : i < p
      · rw [Nat.mod_eq_of_lt hlt]
      · have h1 := h (i - p) (by omega)
        rw [show i - p + p = i by omega] at h1
        rw [h1, ih (i - p) (by omega) (by omega), Nat.mod_eq_sub_mod (a := i) (b := p) (by omega)]
  · intro h i hi
    rw [h (i + p) hi, Nat.add_mod_right, ← h i (by omega)]
/-- A word whose last letters have been taken into the loop, so long as they are the loop's last ones. -/
def rollW : Nat → List Int → List Int → List Int × List Int
  | 0, s, l => (s, l)
  | d + 1, s, l => if s.getD (s.length - 1) 0 = l.getD (l.length - 1) 0 then rollW d (s.take (s.length - 1)) (l.drop (l.length - 1) ++ l.take (l.length - 1)) else (s, l)
/-- The canonical form. -/
def canonW (s l : List Int) : List Int × List Int := if wordOkB s l 8 then rollW s.length s (l.take (periodW l)) else ([], [])
theorem rollW_length (d : Nat) : ∀ s l : List Int, (rollW d s l).1.length ≤ s.length ∧ (rollW d s l).2.length = l.length := by
  induction d with
  | zero => intro s l; exact ⟨Nat.le_refl _, rfl⟩
  | succ d ih =>
    intro s l
    unfold rollW
    split
    · have := ih (s.take (s.length - 1)) (l.drop (l.length - 1) ++ l.take (l.length - 1))
      simp only [List.length_append, List.length_take, List.length_drop] at this
      omega
    · exact ⟨Nat.le_refl _, rfl⟩
theorem canonW_length (s l : List Int) : (canonW s l).1.length ≤ s.length ∧ (canonW s l).2.length ≤ l.length := by
  unfold canonW
  split
  · have := rollW_length s.length s (l.take (periodW l))
    rw [List.length_take] at this
    omega
  · simp
theorem spec_WordCanon_l2 (p : Nat) (hp : 1 ≤ p) (hp2 : p ≤ 1000) (d : Nat) : ∀ (k : Nat) (s l : List Int), s.length = d → s.length ≤ 1000 → l.length = p → d < k → spec_WordCanon.l2 k (p : Int) s l = some (rollW d s l) := by
  induction d with
  | zero =>
    intro k s l hs hs2 hl hk
    obtain ⟨k, rfl⟩ := succ_of hk
    simp only [spec_WordCanon.l2]
    rw [if_neg (by omega)]; rfl
  | succ d ih =>
    intro k s l hs hs2 hl hk
    obtain ⟨k, rfl⟩ := succ_of hk
    simp only [spec_WordCanon.l2]
    rw [if_pos (by omega), wrap64_id (n := (s.length : Int) - 1) (by omega) (by omega), wrap64_id (n := (p : Int) - 1) (by omega) (by omega), if_pos (by omega), if_pos (by omega), if_pos (by omega), if_pos (by omega), show (s.length : Int) - 1 = ((s.length - 1 : Nat) : Int) by omega, show (p : Int) - 1 = ((l.length - 1 : Nat) : Int) by omega, rd_nat, rd_nat]
    unfold rollW
    by_cases h : s.getD (s.length - 1) 0 = l.getD (l.length - 1) 0
    · have e : [l.getD (l.length - 1) 0] = l.drop (l.length - 1) := by
        rw [drop_cons (l := l) (i := l.length - 1) (by omega), List.drop_eq_nil_of_le (by omega), List.getD_eq_getElem?_getD, List.getElem?_eq_getElem (by omega)]; rfl
      rw [if_pos h, if_pos h, if_pos (by omega), e]
      simp only [Option.bind_some, Int.toNat_natCast]
      rw [if_pos (by omega), if_pos (by simp; omega)]
      exact ih k _ _ (by simp; omega) (by simp; omega) (by simp; omega) (by omega)
    · rw [if_neg h, if_neg h]
def sameFrom (l : List Int) (p : Nat) : Nat → Nat → Bool
  | _, 0 => true
  | i, d + 1 => (l.getD i 0 == l.getD (i % p) 0) && sameFrom l p (i + 1) d
theorem sameFrom_iff (l : List Int) (p : Nat) (d : Nat) : ∀ i, sameFrom l p i d = true ↔ ∀ j, i ≤ j → j < i + d → l.getD j 0 = l.getD (j % p) 0 := by
  induction d with
  | zero => intro i; simp only [sameFrom, true_iff]; intro j h1 h2; omega
  | succ d ih =>
    intro i
    simp only [sameFrom, Bool.and_eq_true, beq_iff_eq, ih]
    constructor
    · rintro ⟨h1, h2⟩ j h3 h4
      by_cases e : j = i
      · rw [e]; exact h1
      · exact h2 j (by omega) (by omega)
    · intro h
      exact ⟨h i (by omega) (by omega), fun j h1 h2 => h j (by omega) (by omega)⟩
theorem perB_eq (l : List Int) (p : Nat) (hp : 1 ≤ p) (hpl : p ≤ l.length) : perB l p = (decide (l.length % p = 0) && sameFrom l p 0 l.length) := by
  rw [Bool.eq_iff_iff]
  unfold perB
  simp only [decide_eq_true_eq, Bool.and_eq_true, sameFrom_iff]
  rw [per_iff l p hp hpl]
  constructor
  · rintro ⟨h1, h2⟩
    exact ⟨h1, fun j _ h => h2 j (by omega)⟩
  · rintro ⟨h1, h2⟩
    exact ⟨h1, fun j h => h2 j (by omega) (by omega)⟩
theorem spec_WordCanon_l1 (s l : List Int) (q p N : Nat) (R1 R2 : List Int × List Int) (hp : 1 ≤ p) (hpl : p ≤ l.length) (hl : l.length ≤ 1000)
    (h1 : ∀ k, N < k → spec_WordCanon.l0 k (l.length : Int) (p : Int) ((p - 1 : Nat) : Int) s l = some R1) (h2 : ∀ k, N < k → spec_WordCanon.l0 k (l.length : Int) (q : Int) ((p - 1 : Nat) : Int) s l = some R2) (d : Nat) : ∀ (k i : Nat) (b : Bool), i + d = l.length → N + d + 1 < k →
    spec_WordCanon.l1 k (l.length : Int) (q : Int) (p : Int) b (i : Int) s l = some (if (b && sameFrom l p i d) = true then R1 else R2) := by
  induction d with
  | zero =>
    intro k i b hi hk
    obtain ⟨k, rfl⟩ := succ_of hk
    simp only [spec_WordCanon.l1]
    rw [wrap64_id (n := (p : Int) - 1) (by omega) (by omega), show (p : Int) - 1 = ((p - 1 : Nat) : Int) by omega, h1 k (by omega), h2 k (by omega)]
    cases b
    · rfl
    · rw [if_pos rfl, if_neg (by omega)]; rfl
  | succ d ih =>
    intro k i b hi hk
    obtain ⟨k, rfl⟩ := succ_of hk
    simp only [spec_WordCanon.l1]
    have hm : i % p < p := Nat.mod_lt _ (by omega)
    rw [wrap64_id (n := (p : Int) - 1) (by omega) (by omega), show (p : Int) - 1 = ((p - 1 : Nat) : Int) by omega, h2 k (by omega)]
    cases b
    · rfl
    · rw [if_pos rfl, if_pos (by omega), if_pos (by omega), if_pos (by omega), if_neg (by omega), tmod_nat, if_pos (by omega), if_pos (by omega), rd_nat, rd_nat, wrap64_succ (by omega), ih k (i + 1) _ (by omega) (by omega)]
      rfl
theorem spec_WordCanon_l0 (s l : List Int) (hl : l.length ≤ 1000) (hl1 : 1 ≤ l.length) (hs : s.length ≤ 1000) (p : Nat) : ∀ (k q : Nat), p ≤ l.length → 1 ≤ q → q ≤ l.length → (p + 1) * (l.length + 3) + s.length + 5 < k → spec_WordCanon.l0 k (l.length : Int) (q : Int) (p : Int) s l = some (rollW s.length s (l.take (firstP l q 1 p))) := by
  induction p with
  | zero =>
    intro k q hp hq hq2 hk
    obtain ⟨k, rfl⟩ := succ_of (show 0 < k by omega)
    simp only [spec_WordCanon.l0]
    rw [if_neg (by omega)]
    simp only [Option.bind_some]
    rw [if_pos (by simp; omega), if_pos (by omega), if_pos (by omega), if_pos (by simp; omega)]
    simp only [List.nil_append, Int.toNat_natCast]
    exact spec_WordCanon_l2 q hq (by omega) s.length k s (l.take q) rfl hs (by simp; omega) (by omega)
  | succ p ih =>
    intro k q hp hq hq2 hk
    rw [Nat.succ_mul] at hk
    obtain ⟨k, rfl⟩ := succ_of (show 0 < k by omega)
    simp only [spec_WordCanon.l0]
    rw [if_pos (by omega), if_neg (by omega), tmod_nat, firstP_last, show 1 + p = p + 1 by omega]
    have h := spec_WordCanon_l1 s l q (p + 1) ((p + 1) * (l.length + 3) + s.length + 5) _ _ (by omega) hp hl (fun k hk => by rw [show p + 1 - 1 = p by omega]; exact ih k (p + 1) (by omega) (by omega) hp hk) (fun k hk => by rw [show p + 1 - 1 = p by omega]; exact ih k q (by omega) hq hq2 hk) l.length k 0 (((l.length % (p + 1) : Nat) : Int) == 0) (by omega) (by omega)
    rw [show ((0 : Nat) : Int) = 0 from rfl] at h
    rw [h, perB_eq l (p + 1) (by omega) hp]
    have e : (((l.length % (p + 1) : Nat) : Int) == 0) = decide (l.length % (p + 1) = 0) := by
      rw [Bool.eq_iff_iff]; simp only [beq_iff_eq, decide_eq_true_eq]; omega
    rw [e]
    cases (decide (l.length % (p + 1) = 0) && sameFrom l (p + 1) 0 l.length) <;> rfl
theorem spec_WordCanon_eq (s l : List Int) (hs : s.length ≤ 1048576) (hl : l.length ≤ 1048576) (k : Nat) (hk : s.length + l.length + 3000 < k) : spec_WordCanon.f k s l = some (canonW s l) := by
  unfold spec_WordCanon.f canonW
  rw [spec_l3Right_eq s l (by omega) (by omega) _ (by omega)]
  simp only [Option.bind_some]
  by_cases h : wordOkB s l 8 = true
  · have g := wordOk_of h
    have hk2 : (l.length + 1) * (l.length + 3) + s.length + 5 < k := by
      have : (l.length + 1) * (l.length + 3) ≤ 41 * 43 := Nat.mul_le_mul (by omega) (by omega)
      omega
    rw [if_pos h, if_pos h, spec_WordCanon_l0 s l (by omega) (by omega) (by omega) l.length k l.length (by omega) (by omega) (by omega) hk2]
    have e := firstP_last l (l.length - 1) 1 l.length
    rw [show l.length - 1 + 1 = l.length by omega, show 1 + (l.length - 1) = l.length by omega, ite_self] at e
    rw [e]; rfl
  · rw [if_neg h, if_neg h]
theorem impl_period_l0 (l : List Int) (hl : l.length ≤ 1000) (d : Nat) : ∀ (k p : Nat), 1 ≤ p → p + d = l.length → d + l.length + 1 < k → impl_period.l0 k l (p : Int) = some (firstP l l.length p d : Int) := by
  induction d with
  | zero =>
    intro k p hp hpd hk
    obtain ⟨k, rfl⟩ := succ_of hk
    simp only [impl_period.l0]
    rw [if_neg (by omega)]; rfl
  | succ d ih =>
    intro k p hp hpd hk
    obtain ⟨k, rfl⟩ := succ_of hk
    simp only [impl_period.l0]
    have em : ((l.length : Int) % (p : Int) = 0) = (l.length % p = 0) := by
      rw [← Int.natCast_emod]; exact propext ⟨fun h => by omega, fun h => by omega⟩
    rw [if_pos (by omega), if_neg (by omega), wrap64_id (n := (l.length : Int) - (p : Int)) (by omega) (by omega), show (l.length : Int) - (p : Int) = ((l.length - p : Nat) : Int) by omega, wrap64_succ (by omega), ih k (p + 1) (by omega) (by omega) (by omega), show firstP l l.length p (d + 1) = if perB l p then p else firstP l l.length (p + 1) d from rfl]
    simp only [em]
    by_cases h1 : l.length % p = 0
    · rw [if_pos h1, if_pos (show (0 : Int) ≤ (p : Int) by omega), if_pos (show (p : Int) ≤ (l.length : Int) by omega), if_pos (show (0 : Int) ≤ ((l.length - p : Nat) : Int) by omega), if_pos (show ((l.length - p : Nat) : Int) ≤ (l.length : Int) by omega)]
      simp only [Int.toNat_natCast]
      rw [slices_Equal_eq _ _ (by simp; omega) k (by simp; omega)]
      simp only [Option.bind_some, decide_eq_true_eq]
      by_cases h2 : l.drop p = l.take (l.length - p)
      · rw [if_pos h2, if_pos (show perB l p = true by unfold perB; exact decide_eq_true ⟨h1, h2⟩)]
      · rw [if_neg h2, if_neg (show ¬ perB l p = true by unfold perB; intro h; exact h2 (of_decide_eq_true h).2)]
    · rw [if_neg h1, if_neg (show ¬ perB l p = true by unfold perB; intro h; exact h1 (of_decide_eq_true h).1)]
theorem impl_period_eq (l : List Int) (hl : l.length ≤ 1000) (h1 : 1 ≤ l.length) (k : Nat) (hk : 2 * l.length + 1 < k) : impl_period.f k l = some (periodW l : Int) := by
  unfold impl_period.f periodW
  exact impl_period_l0 l hl (l.length - 1) k 1 (by omega) (by omega) (by omega)
theorem impl_WordCanon_l0 (p : Nat) (hp : 1 ≤ p) (hp2 : p ≤ 1000) (d : Nat) : ∀ (k : Nat) (s l : List Int), s.length = d → s.length ≤ 1000 → l.length = p → d + 20 < k → impl_WordCanon.l0 k s l ((p : Int) - 1) = some (rollW d s l) := by
  induction d with
  | zero =>
    intro k s l hs hs2 hl hk
    obtain ⟨k, rfl⟩ := succ_of hk
    simp only [impl_WordCanon.l0]
    rw [if_neg (by omega)]; rfl
  | succ d ih =>
    intro k s l hs hs2 hl hk
    obtain ⟨k, rfl⟩ := succ_of hk
    simp only [impl_WordCanon.l0]
    rw [if_pos (by omega), wrap64_id (n := (s.length : Int) - 1) (by omega) (by omega), if_pos (by omega), if_pos (by omega), if_pos (by omega), if_pos (by omega), show (s.length : Int) - 1 = ((s.length - 1 : Nat) : Int) by omega, show (p : Int) - 1 = ((l.length - 1 : Nat) : Int) by omega, rd_nat, rd_nat]
    unfold rollW
    by_cases h : s.getD (s.length - 1) 0 = l.getD (l.length - 1) 0
    · rw [if_pos h, if_pos h, if_pos (by omega), if_pos (by omega)]
      simp only [Int.toNat_natCast]
      rw [concat2 _ _ (by simp; omega) k (by omega)]
      simp only [Option.bind_some]
      have := ih k (s.take (s.length - 1)) (l.drop (l.length - 1) ++ l.take (l.length - 1)) (by simp; omega) (by simp; omega) (by simp; omega) (by omega)
      rw [show (p : Int) - 1 = ((l.length - 1 : Nat) : Int) by omega] at this
      exact this
    · rw [if_neg h, if_neg h]
theorem impl_WordCanon_eq (s l : List Int) (hs : s.length ≤ 1048576) (hl : l.length ≤ 1048576) (k : Nat) (hk : s.length + 2 * l.length + 3000 < k) : impl_WordCanon.f k s l = some (canonW s l) := by
  unfold impl_WordCanon.f canonW
  rw [impl_isRight_eq s l (by omega) (by omega) _ (by omega)]
  simp only [Option.bind_some]
  by_cases h : wordOkB s l 8 = true
  · have g := wordOk_of h
    have hr := periodW_range l (by omega)
    rw [if_pos h, if_pos h, slices_Clone_eq s (by omega), impl_period_eq l (by omega) (by omega) k (by omega)]
    simp only [Option.bind_some]
    rw [if_pos (by omega), if_pos (by omega), Int.toNat_natCast, slices_Clone_eq _ (by simp; omega)]
    simp only [Option.bind_some]
    have e : (l.take (periodW l)).length = periodW l := by simp; omega
    rw [e, wrap64_id (n := (periodW l : Int) - 1) (by omega) (by omega)]
    exact impl_WordCanon_l0 (periodW l) hr.1 (by omega) s.length k s _ rfl (by omega) e (by omega)
  · rw [if_neg h, if_neg h]
/-- Are two words right, and the same? -/
def sameW (s l s' l' : List Int) : Bool := wordOkB s l 8 && (wordOkB s' l' 8 && decide (canonW s l = canonW s' l'))
theorem spec_l3Same_l0 (a b : List Int) (hab : a.length = b.length) (hl : a.length ≤ 1099511627776) (d : Nat) : ∀ (k i : Nat), i + d = a.length → d < k → spec_l3Same.l0 k a b (i : Int) = some (decide (a.drop i = b.drop i)) := by
  induction d with
  | zero =>
    intro k i hi hk
    obtain ⟨k, rfl⟩ := succ_of hk
    simp only [spec_l3Same.l0]
    rw [if_neg (by omega), List.drop_eq_nil_of_le (by omega), List.drop_eq_nil_of_le (by omega)]
    rfl
  | succ d ih =>
    intro k i hi hk
    obtain ⟨k, rfl⟩ := succ_of hk
    simp only [spec_l3Same.l0]
    rw [if_pos (by omega), if_pos (by omega), if_pos (by omega), rd_at (l := a) (by omega), rd_at (l := b) (by omega), wrap64_succ (by omega), ih k (i + 1) (by omega) (by omega), drop_cons (l := a) (i := i) (by omega), drop_cons (l := b) (i := i) (by omega)]
    by_cases h : a[i] = b[i]
    · rw [if_pos h]; congr 1; rw [decide_eq_decide, List.cons.injEq]; exact ⟨fun e => ⟨h, e⟩, fun e => e.2⟩
    · rw [if_neg h]; congr 1; symm; rw [decide_eq_false_iff_not, List.cons.injEq]; exact fun e => h e.1
theorem spec_l3Same_eq (a b : List Int) (hl : a.length ≤ 1099511627776) (k : Nat) (hk : a.length < k) : spec_l3Same.f k a b = some (decide (a = b)) := by
  unfold spec_l3Same.f
  by_cases h : a.length = b.length
  · rw [if_pos (by omega)]
    have := spec_l3Same_l0 a b h hl a.length k 0 (by omega) hk
    simpa using this
  · rw [if_neg (by omega), decide_eq_false (fun e => h (by rw [e]))]
theorem spec_WordSame_eq (s l s' l' : List Int) (hs : s.length ≤ 1048576) (hl : l.length ≤ 1048576) (hs' : s'.length ≤ 1048576) (hl' : l'.length ≤ 1048576) (k : Nat) (hk : 10000000 < k) : spec_WordSame.f k s l s' l' = some (sameW s l s' l') := by
  unfold spec_WordSame.f sameW
  obtain ⟨k, rfl⟩ := succ_of hk
  have h1 := canonW_length s l
  have h2 := canonW_length s' l'
  rw [spec_l3Right_eq s l (by omega) (by omega) _ (by omega), spec_l3Right_eq s' l' (by omega) (by omega) _ (by omega)]
  simp only [Option.bind_some, spec_WordSame.j0, if_true]
  rw [spec_WordCanon_eq s l hs hl k (by omega), spec_WordCanon_eq s' l' hs' hl' k (by omega)]
  simp only [Option.bind_some]
  rw [spec_l3Same_eq _ _ (by omega) k (by omega), spec_l3Same_eq _ _ (by omega) k (by omega)]
  simp only [Option.bind_some, decide_eq_true_eq]
  cases wordOkB s l 8
  · rfl
  · cases wordOkB s' l' 8
    · rfl
    · simp only [if_true, Bool.not_true, Bool.false_eq_true, if_false, Bool.true_and, Prod.ext_iff]
      by_cases h : (canonW s l).1 = (canonW s' l').1
      · rw [if_pos h]; congr 1; rw [decide_eq_decide]; exact ⟨fun e => ⟨h, e⟩, fun e => e.2⟩
      · rw [if_neg h]; congr 1; symm; rw [decide_eq_false_iff_not]; exact fun e => h e.1
theorem impl_WordSame_eq (s l s' l' : List Int) (hs : s.length ≤ 1048576) (hl : l.length ≤ 1048576) (hs' : s'.length ≤ 1048576) (hl' : l'.length ≤ 1048576) (k : Nat) (hk : 10000000 < k) : impl_WordSame.f k s l s' l' = some (sameW s l s' l') := by
  unfold impl_WordSame.f sameW impl_equalWords.f
  have h1 := canonW_length s l
  have h2 := canonW_length s' l'
  rw [impl_isRight_eq s l (by omega) (by omega) _ (by omega), impl_isRight_eq s' l' (by omega) (by omega) _ (by omega)]
  simp only [Option.bind_some]
  rw [impl_WordCanon_eq s l hs hl k (by omega), impl_WordCanon_eq s' l' hs' hl' k (by omega)]
  simp only [Option.bind_some]
  rw [slices_Equal_eq _ _ (by omega) k (by omega), slices_Equal_eq _ _ (by omega) k (by omega)]
  simp only [Option.bind_some, decide_eq_true_eq]
  cases wordOkB s l 8
  · rfl
  · cases wordOkB s' l' 8
    · rfl
    · simp only [if_true, Bool.true_and, Prod.ext_iff]
      by_cases h : (canonW s l).1 = (canonW s' l').1
      · rw [if_pos h, Option.bind_some]; congr 1; rw [decide_eq_decide]; exact ⟨fun e => ⟨h, e⟩, fun e => e.2⟩
      · rw [if_neg h, Option.bind_some]; congr 1; symm; rw [decide_eq_false_iff_not]; exact fun e => h e.1
end hFnExactWordSame
open hFnExactWordSame
theorem FnExactWordSame : laws_FnExactWordSame.Pure := by
  intro s l s' l' hs hws hl hwl hs' hws' hl' hwl'
  obtain ⟨K, hK⟩ : ∃ K, K = 20000000 := ⟨_, rfl⟩
  refine ⟨K, ?_⟩
  unfold laws_FnExactWordSame.f
  obtain ⟨r, e, hr⟩ := szWord_eq s l 1048576 (by omega) (by omega) hs hl
  rw [e]
  simp only [Option.bind_some]
  by_cases h : r < 0
  · rw [if_pos h]
  · have hr' := hr (by omega)
    obtain ⟨r2, e2, hr2⟩ := szWord_eq s' l' r (by omega) (by omega) hs' hl'
    rw [if_neg h, e2]
    simp only [Option.bind_some]
    by_cases h2 : r2 < 0
    · rw [if_pos h2]
    · have hr2' := hr2 (by omega)
      rw [if_neg h2, toWord_eq s l (by omega) (by omega) _ (by omega), toWord_eq s' l' (by omega) (by omega) _ (by omega)]
      simp only [Option.bind_some]
      rw [spec_WordSame_eq s l s' l' (by omega) (by omega) (by omega) (by omega) K (by omega), impl_WordSame_eq s l s' l' (by omega) (by omega) (by omega) (by omega) K (by omega)]
      simp only [Option.bind_some, bne_self_eq_false, Bool.false_eq_true, if_false]
      rw [eqWord_eq s l s l (by omega) (by omega) _ (by omega), eqWord_eq s' l' s' l' (by omega) (by omega) _ (by omega)]
      simp
end Go.Proofs.Ythkljpbddddhdaa.Pure
