/- What the printed functions of FnExactWordTake come to, one lemma a function, and from these the law: for all arguments (within the bounds that the printed statement names) it answers true. -/
import Derived.Test.YthkljpbddddhdaaMFnExactWordTakex4
import Derived.Test.YthkljpbddddhdaaBase
import Derived.Test.YthkljpbddddhdaaBaseL
import Derived.Test.YthkljpbddddhdaaBaseS
import Derived.Test.YthkljpbddddhdaaBaseW
namespace Go.Proofs.Ythkljpbddddhdaa.Pure
open Go.RowKit Go.Proofs.Ythkljpbddddhdaa.MFnExactWordTake Go.Proofs.YthkljpbddddhdaaW.PrintWords Go.Proofs.YthkljpbddddhdaaW.PrintLast Go.Proofs.Ythkljpbddddhdaa.Base

namespace hFnExactWordTake
theorem spec_l1In_eq (a b c : Int) : spec_l1In.f a b c = some (inR a b c) := by
  unfold spec_l1In.f inR
  by_cases h : a ≥ b
  · rw [if_pos h]; simp [show b ≤ a from h]
  · rw [if_neg h]; simp; omega
theorem impl_inRange_eq (a b c : Int) : impl_inRange.f a b c = some (inR a b c) := by
  unfold impl_inRange.f inR
  by_cases h : a ≥ b
  · rw [if_pos h]; simp [show b ≤ a from h]
  · rw [if_neg h]; simp; omega
theorem toIntS_l0 (l : List Int) (hl : l.length ≤ 1099511627776) (d : Nat) : ∀ (k i : Nat) (rest : List Int), i + d = l.length → rest.length = d → d < k → laws_toIntS.l0 k l (l.take i ++ rest) (i : Int) = some l := by
  induction d with
  | zero =>
    intro k i rest hi hr hk
    obtain ⟨k, rfl⟩ := succ_of hk
    simp only [laws_toIntS.l0]
    rw [if_neg (by omega), List.eq_nil_of_length_eq_zero hr, List.append_nil, List.take_of_length_le (by omega)]
  | succ d ih =>
    intro k i rest hi hr hk
    obtain ⟨k, rfl⟩ := succ_of hk
    simp only [laws_toIntS.l0]
    have hll : (l.take i ++ rest).length = l.length := by rw [List.length_append, List.length_take]; omega
    rw [if_pos (by omega), if_pos (by omega), if_pos (by omega), rd_at (by omega), wrap64_succ (by omega)]
    rw [show ((i : Int)).toNat = i from rfl, take_set_drop (by omega) (by omega)]
    exact ih k (i + 1) rest.tail (by omega) (by rw [List.length_tail]; omega) (by omega)
theorem toIntS_eq (l : List Int) (hl : l.length ≤ 1099511627776) (k : Nat) (hk : l.length < k) : laws_toIntS.f k l = some l := by
  unfold laws_toIntS.f
  rw [if_pos (by omega), if_pos (by simp; omega)]
  exact toIntS_l0 l hl l.length k 0 _ (by omega) (by simp) hk
theorem eqIntS_l0 (a b : List Int) (hab : a.length = b.length) (hl : a.length ≤ 1099511627776) (d : Nat) : ∀ (k i : Nat), i + d = a.length → d < k → laws_eqIntS.l0 k a b (i : Int) = some (decide (a.drop i = b.drop i)) := by
  induction d with
  | zero =>
    intro k i hi hk
    obtain ⟨k, rfl⟩ := succ_of hk
    simp only [laws_eqIntS.l0]
    rw [if_neg (by omega), List.drop_eq_nil_of_le (by omega), List.drop_eq_nil_of_le (by omega)]
    simp
  | succ d ih =>
    intro k i hi hk
    obtain ⟨k, rfl⟩ := succ_of hk
    simp only [laws_eqIntS.l0]
    rw [if_pos (by omega), if_pos (by omega), if_pos (by omega), rd_at (by omega), rd_at (by omega), wrap64_succ (by omega)]
    rw [drop_cons (l := a) (i := i) (by omega), drop_cons (l := b) (i := i) (by omega)]
    by_cases h : a[i] = b[i]
    · rw [if_pos h, ih k (i + 1) (by omega) (by omega), h]
      congr 1
      exact decide_eq_decide.2 ⟨fun e => by rw [e], fun e => (List.cons.inj e).2⟩
    · rw [if_neg h]
      congr 1
      exact (decide_eq_false (fun e => h (List.cons.inj e).1)).symm
theorem eqIntS_eq (a b : List Int) (hl : a.length ≤ 1099511627776) (k : Nat) (hk : a.length < k) : laws_eqIntS.f k a b = some (decide (a = b)) := by
  unfold laws_eqIntS.f
  by_cases h : a.length = b.length
  · rw [if_pos (by omega)]
    exact eqIntS_l0 a b h hl a.length k 0 (by omega) hk
  · rw [if_neg (by omega)]
    have : a ≠ b := fun e => h (by rw [e])
    simp [this]
theorem markIntS_l0 (d : Nat) : ∀ (k i : Nat) (x : List Int) (a : Int), i + d = x.length → d < k → 0 ≤ a → a + d ≤ 4611686018427387904 → x.length ≤ 1099511627776 →
    laws_markIntS.l0 k x a (i : Int) = some (a + d, x.take i ++ seqI a d) := by
  induction d with
  | zero =>
    intro k i x a hi hk h0 h1 h2
    obtain ⟨k, rfl⟩ := succ_of hk
    simp only [laws_markIntS.l0]
    rw [if_neg (by omega), List.take_of_length_le (by omega)]
    simp [seqI]
  | succ d ih =>
    intro k i x a hi hk h0 h1 h2
    obtain ⟨k, rfl⟩ := succ_of hk
    simp only [laws_markIntS.l0]
    rw [if_pos (by omega), if_pos (by omega), wrap64_succ (by omega), wrap64_id (n := a + 1) (by omega) (by omega)]
    rw [ih k (i + 1) _ (a + 1) (by rw [List.length_set]; omega) (by omega) (by omega) (by omega) (by rw [List.length_set]; omega)]
    rw [show ((i : Int)).toNat = i from rfl, take_set_self (by omega)]
    simp only [seqI, List.append_assoc, List.singleton_append]
    congr 2
    omega
theorem markIntS_eq (x : List Int) (a : Int) (h0 : 0 ≤ a) (h1 : a ≤ 1099511627776) (h2 : x.length ≤ 1099511627776) (k : Nat) (hk : x.length < k) : laws_markIntS.f k x a = some (a + x.length, seqI a x.length) := by
  unfold laws_markIntS.f
  have := markIntS_l0 x.length k 0 x a (by omega) hk h0 (by omega) h2
  simpa using this
theorem heldIntS_l0 (n : Nat) (b : Int) (hn : n ≤ 1099511627776) (hb0 : 0 ≤ b) (hb : b ≤ 1099511627776) (d : Nat) : ∀ (k i : Nat), i + d = n → d < k → laws_heldIntS.l0 k (seqI b n) (b + i) (i : Int) = some (b + n) := by
  induction d with
  | zero =>
    intro k i hi hk
    obtain ⟨k, rfl⟩ := succ_of hk
    simp only [laws_heldIntS.l0]
    rw [if_neg (by rw [seqI_length]; omega)]
    congr 1; omega
  | succ d ih =>
    intro k i hi hk
    obtain ⟨k, rfl⟩ := succ_of hk
    simp only [laws_heldIntS.l0]
    rw [if_pos (by rw [seqI_length]; omega), if_pos (by omega), rd_at (by rw [seqI_length]; omega), seqI_at b n i (by omega), if_pos rfl, wrap64_succ (by omega), wrap64_id (n := b + i + 1) (by omega) (by omega)]
    have := ih k (i + 1) (by omega) (by omega)
    rw [show b + (i : Int) + 1 = b + ((i + 1 : Nat) : Int) by omega]
    exact this
theorem heldIntS_eq (n : Nat) (b : Int) (hn : n ≤ 1099511627776) (hb0 : 0 ≤ b) (hb : b ≤ 1099511627776) (k : Nat) (hk : n < k) : laws_heldIntS.f k (seqI b n) b = some (b + n) := by
  unfold laws_heldIntS.f
  have := heldIntS_l0 n b hn hb0 hb n k 0 (by omega) hk
  simpa using this
theorem szIntS_eq (l : List Int) (a : Int) (h0 : 0 ≤ a) (h1 : a ≤ 1048576) (hl : l.length ≤ 9223372036854775807) : laws_szIntS.f l a = some (if a < l.length then -1 else a - l.length) := by
  unfold laws_szIntS.f
  rw [wrap64_id (by omega) (by omega)]
  by_cases h : a < (l.length : Int)
  · rw [if_pos (by omega), if_pos h]
  · rw [if_neg (by omega), if_neg h]
theorem spec_l3Letters_l0 (l : List Int) (n : Int) (h0 : -1000 ≤ n) (h1 : n ≤ 1000) (hl : l.length ≤ 1099511627776) (d : Nat) : ∀ (k i : Nat), i + d = l.length → d < k → spec_l3Letters.l0 k l n (i : Int) = some (lettersB (l.drop i) n) := by
  induction d with
  | zero =>
    intro k i hi hk
    obtain ⟨k, rfl⟩ := succ_of hk
    simp only [spec_l3Letters.l0]
    rw [if_neg (by omega), List.drop_eq_nil_of_le (by omega)]
    rfl
  | succ d ih =>
    intro k i hi hk
    obtain ⟨k, rfl⟩ := succ_of hk
    simp only [spec_l3Letters.l0]
    rw [if_pos (by omega), if_pos (by omega), rd_at (by omega), spec_l1In_eq, wrap64_id (n := n - 1) (by omega) (by omega), wrap64_succ (by omega), drop_cons (l := l) (i := i) (by omega)]
    simp only [Option.bind_some, lettersB, List.all_cons]
    by_cases h : inR l[i] 0 (n - 1) = true
    · rw [if_pos h, h, ih k (i + 1) (by omega) (by omega)]; rfl
    · rw [if_neg h]; simp at h; rw [h]; rfl
theorem spec_l3Letters_eq (l : List Int) (n : Int) (h0 : -1000 ≤ n) (h1 : n ≤ 1000) (hl : l.length ≤ 1099511627776) (k : Nat) (hk : l.length < k) : spec_l3Letters.f k l n = some (lettersB l n) := by
  unfold spec_l3Letters.f
  exact spec_l3Letters_l0 l n h0 h1 hl l.length k 0 (by omega) hk
theorem spec_WordOk_eq (s l : List Int) (n : Int) (hs : s.length ≤ 1099511627776) (hl : l.length ≤ 1099511627776) (k : Nat) (hk : s.length + l.length + 1 < k) : spec_WordOk.f k s l n = some (wordOkB s l n) := by
  unfold spec_WordOk.f wordOkB
  obtain ⟨k, rfl⟩ := succ_of hk
  rw [spec_l1In_eq, spec_l1In_eq]
  simp only [Option.bind_some, spec_WordOk.j0]
  by_cases h1 : inR n 1 8 = true
  · have h1' := inR_iff.1 h1
    rw [if_pos h1, h1]
    by_cases h2 : (s.length : Int) > 40
    · rw [if_pos h2, if_pos trivial, decide_eq_false (by omega)]; rfl
    · rw [if_neg h2, decide_eq_true (by omega)]
      by_cases h3 : inR (l.length : Int) 1 40 = true
      · rw [h3, spec_l3Letters_eq s n (by omega) (by omega) hs k (by omega)]
        simp only [Bool.not_true, Bool.false_eq_true, if_false, Option.bind_some, Bool.true_and]
        rw [spec_l3Letters_eq l n (by omega) (by omega) hl k (by omega)]
        by_cases h4 : lettersB s n = true
        · rw [if_pos h4, h4]; rfl
        · rw [if_neg h4]; simp at h4; rw [h4]; rfl
      · simp at h3; rw [h3]; rfl
  · rw [if_neg h1, if_pos trivial]; simp at h1; rw [h1]; rfl
theorem impl_isLetters_eq (n : Int) : impl_isLetters.f n = some (inR n 1 8) := by
  unfold impl_isLetters.f
  rw [impl_inRange_eq]; rfl
theorem impl_areLetters_l0 (l : List Int) (n : Int) (h0 : -1000 ≤ n) (h1 : n ≤ 1000) (hl : l.length ≤ 1099511627776) (d : Nat) : ∀ (k i : Nat), i + d = l.length → d < k → impl_areLetters.l0 k n l (l.length : Int) (i : Int) = some (lettersB (l.drop i) n) := by
  induction d with
  | zero =>
    intro k i hi hk
    obtain ⟨k, rfl⟩ := succ_of hk
    simp only [impl_areLetters.l0]
    rw [if_neg (by omega), List.drop_eq_nil_of_le (by omega)]
    rfl
  | succ d ih =>
    intro k i hi hk
    obtain ⟨k, rfl⟩ := succ_of hk
    simp only [impl_areLetters.l0]
    rw [if_pos (by omega), if_pos (by omega), if_pos (by omega), rd_at (by omega), impl_inRange_eq, wrap64_id (n := n - 1) (by omega) (by omega), wrap64_succ (by omega), drop_cons (l := l) (i := i) (by omega)]
    simp only [Option.bind_some, lettersB, List.all_cons]
    by_cases h : inR l[i] 0 (n - 1) = true
    · rw [if_pos h, h, ih k (i + 1) (by omega) (by omega)]; rfl
    · rw [if_neg h]; simp at h; rw [h]; rfl
theorem impl_areLetters_eq (l : List Int) (n : Int) (h0 : -1000 ≤ n) (h1 : n ≤ 1000) (hl : l.length ≤ 1099511627776) (k : Nat) (hk : l.length < k) : impl_areLetters.f k l n = some (lettersB l n) := by
  unfold impl_areLetters.f
  exact impl_areLetters_l0 l n h0 h1 hl l.length k 0 (by omega) hk
theorem impl_WordOk_eq (s l : List Int) (n : Int) (hs : s.length ≤ 1099511627776) (hl : l.length ≤ 1099511627776) (k : Nat) (hk : s.length + l.length + 1 < k) : impl_WordOk.f k s l n = some (wordOkB s l n) := by
  unfold impl_WordOk.f wordOkB
  obtain ⟨k, rfl⟩ := succ_of hk
  rw [impl_isLetters_eq, impl_inRange_eq]
  simp only [Option.bind_some, impl_WordOk.j0]
  by_cases h1 : inR n 1 8 = true
  · have h1' := inR_iff.1 h1
    rw [if_pos h1, h1]
    by_cases h2 : (s.length : Int) > 40
    · rw [if_pos h2, if_pos trivial, decide_eq_false (by omega)]; rfl
    · rw [if_neg h2, decide_eq_true (by omega)]
      by_cases h3 : inR (l.length : Int) 1 40 = true
      · rw [h3, impl_areLetters_eq s n (by omega) (by omega) hs k (by omega)]
        simp only [Bool.not_true, Bool.false_eq_true, if_false, Option.bind_some, Bool.true_and]
        rw [impl_areLetters_eq l n (by omega) (by omega) hl k (by omega)]
        by_cases h4 : lettersB s n = true
        · rw [if_pos h4, h4]; rfl
        · rw [if_neg h4]; simp at h4; rw [h4]; rfl
      · simp at h3; rw [h3]; rfl
  · rw [if_neg h1, if_pos trivial]; simp at h1; rw [h1]; rfl
theorem spec_l3Right_eq (s l : List Int) (hs : s.length ≤ 1099511627776) (hl : l.length ≤ 1099511627776) (k : Nat) (hk : s.length + l.length + 1 < k) : spec_l3Right.f k s l = some (wordOkB s l 8) := by
  unfold spec_l3Right.f
  rw [spec_WordOk_eq s l 8 hs hl k hk]; rfl
theorem impl_isRight_eq (s l : List Int) (hs : s.length ≤ 1099511627776) (hl : l.length ≤ 1099511627776) (k : Nat) (hk : s.length + l.length + 1 < k) : impl_isRight.f k s l = some (wordOkB s l 8) := by
  unfold impl_isRight.f
  rw [impl_WordOk_eq s l 8 hs hl k hk]; rfl
theorem szWord_eq (s l : List Int) (a : Int) (h0 : 0 ≤ a) (h1 : a ≤ 1048576) (hs : s.length ≤ 9223372036854775807) (hl : l.length ≤ 9223372036854775807) :
    ∃ r, laws_szWord.f s l a = some r ∧ (0 ≤ r → s.length + l.length ≤ a ∧ r = a - s.length - l.length) := by
  unfold laws_szWord.f
  rw [szIntS_eq s a h0 h1 hs]
  simp only [Option.bind_some]
  by_cases h : a < (s.length : Int)
  · rw [if_pos h, if_pos (by omega)]
    exact ⟨-1, rfl, fun h => by omega⟩
  · rw [if_neg h, if_neg (by omega), szIntS_eq l _ (by omega) (by omega) hl]
    simp only [Option.bind_some]
    by_cases h' : a - (s.length : Int) < (l.length : Int)
    · rw [if_pos h', if_pos (by omega)]
      exact ⟨-1, rfl, fun h => by omega⟩
    · rw [if_neg h', if_neg (by omega)]
      exact ⟨_, rfl, fun _ => by omega⟩
theorem toWord_eq (s l : List Int) (hs : s.length ≤ 1099511627776) (hl : l.length ≤ 1099511627776) (k : Nat) (hk : s.length + l.length < k) : laws_toWord.f k s l = some (s, l) := by
  unfold laws_toWord.f
  rw [toIntS_eq s hs k (by omega)]
  simp only [Option.bind_some]
  rw [toIntS_eq l hl k (by omega)]
  rfl
theorem eqWord_eq (s l s' l' : List Int) (hs : s.length ≤ 1099511627776) (hl : l.length ≤ 1099511627776) (k : Nat) (hk : s.length + l.length < k) : laws_eqWord.f k s l s' l' = some (decide (s = s' ∧ l = l')) := by
  unfold laws_eqWord.f
  rw [eqIntS_eq s s' hs k (by omega)]
  simp only [Option.bind_some]
  by_cases h : s = s'
  · rw [decide_eq_true h, if_pos rfl, eqIntS_eq l l' hl k (by omega)]
    simp only [Option.bind_some]
    by_cases h' : l = l'
    · rw [decide_eq_true h', if_pos rfl, decide_eq_true ⟨h, h'⟩]
    · rw [decide_eq_false h', if_neg (by simp), decide_eq_false (fun e => h' e.2)]
  · rw [decide_eq_false h, if_neg (by simp), decide_eq_false (fun e => h e.1)]
theorem markWord_eq (s l : List Int) (a : Int) (h0 : 0 ≤ a) (h1 : a ≤ 274877906944) (hs : s.length ≤ 274877906944) (hl : l.length ≤ 274877906944) (k : Nat) (hk : s.length + l.length < k) :
    laws_markWord.f k s l a = some (a + s.length + l.length, seqI a s.length, seqI (a + s.length) l.length) := by
  unfold laws_markWord.f
  rw [markIntS_eq s a h0 (by omega) (by omega) k (by omega)]
  simp only [Option.bind_some]
  rw [markIntS_eq l _ (by omega) (by omega) (by omega) k (by omega)]
  rfl
/-- The letter of a word at a place. -/
def letterAt (s l : List Int) (i : Nat) : Int := if i < s.length then s.getD i 0 else l.getD ((i - s.length) % l.length) 0
theorem tmod_nat (a n : Nat) : Int.tmod (a : Int) (n : Int) = ((a % n : Nat) : Int) := by
  rw [Int.tmod_eq_emod_of_nonneg (by omega)]; exact (Int.natCast_emod a n).symm
theorem rd_nat (l : List Int) (i : Nat) : rd l (i : Int) = l.getD i 0 := by simp [rd]
theorem spec_l3At_eq (s l : List Int) (i : Nat) (hi : (i : Int) ≤ 9223372036854775807) (h1 : 1 ≤ l.length) : spec_l3At.f s l (i : Int) = some (letterAt s l i) := by
  unfold spec_l3At.f letterAt
  by_cases h : i < s.length
  · rw [if_pos (by omega), if_pos (by omega), if_pos h, rd_nat]
  · have e : (i : Int) - s.length = ((i - s.length : Nat) : Int) := by omega
    have hm : (i - s.length) % l.length < l.length := Nat.mod_lt _ (by omega)
    rw [if_neg (by omega), if_neg (by omega), if_neg h, e, wrap64_id (by omega) (by omega), tmod_nat, if_pos (by omega), if_pos (by omega), rd_nat]
def placeW (s l : List Int) (i : Nat) : Nat := if i < s.length then i else s.length + (i - s.length) % l.length
theorem impl_Word_placeOf_eq (s l : List Int) (i : Nat) (hi : (i : Int) ≤ 9223372036854775807) (hs : s.length ≤ 1000) (h1 : 1 ≤ l.length) (h2 : l.length ≤ 1000) : impl_Word_placeOf.f s l (i : Int) = some (placeW s l i : Int) := by
  unfold impl_Word_placeOf.f placeW
  by_cases h : i < s.length
  · rw [if_pos (by omega), if_pos h]
  · have e : (i : Int) - s.length = ((i - s.length : Nat) : Int) := by omega
    have hm : (i - s.length) % l.length < l.length := Nat.mod_lt _ (by omega)
    rw [if_neg (by omega), if_neg (by omega), if_neg h, e, wrap64_id (n := ((i - s.length : Nat) : Int)) (by omega) (by omega), tmod_nat, wrap64_id (by omega) (by omega)]
    congr 1
theorem impl_Word_letter_eq (s l : List Int) (i : Nat) (h1 : 1 ≤ l.length) (h2 : l.length ≤ 1000) : impl_Word_letter.f s l (placeW s l i : Int) = some (letterAt s l i) := by
  unfold impl_Word_letter.f letterAt placeW
  by_cases h : i < s.length
  · rw [if_pos h, if_pos (by omega), if_pos (by omega), if_pos h, rd_nat]
  · have hm : (i - s.length) % l.length < l.length := Nat.mod_lt _ (by omega)
    have e : ((s.length + (i - s.length) % l.length : Nat) : Int) - s.length = (((i - s.length) % l.length : Nat) : Int) := by omega
    rw [if_neg h, if_neg (by omega), e, wrap64_id (by omega) (by omega), if_pos (by omega), if_pos (by omega), if_neg h, rd_nat]
/-- A word's letters from a place on. -/
def takeFrom (s l : List Int) : Nat → Nat → List Int
  | _, 0 => []
  | i, d + 1 => letterAt s l i :: takeFrom s l (i + 1) d
theorem takeFrom_length (s l : List Int) (d : Nat) : ∀ i, (takeFrom s l i d).length = d := by
  induction d with
  | zero => intro i; rfl
  | succ d ih => intro i; simp [takeFrom, ih]
/-- What is taken of a word. -/
def takeW (s l : List Int) (n : Int) : List Int := if wordOkB s l 8 then (if inR n 0 1000 then takeFrom s l 0 n.toNat else []) else []
theorem takeW_length (s l : List Int) (n : Int) : (takeW s l n).length ≤ 1000 := by
  unfold takeW
  split
  · split
    · rename_i h
      have := inR_iff.1 h
      rw [takeFrom_length]; omega
    · simp
  · simp
theorem spec_WordTake_l0 (s l : List Int) (n : Nat) (hn : n ≤ 1000) (h : wordOkB s l 8 = true) (d : Nat) : ∀ (k i : Nat) (o : List Int), i + d = n → o.length ≤ i → d + s.length + l.length + 2 < k → spec_WordTake.l0 k (n : Int) o (i : Int) s l = some (o ++ takeFrom s l i d) := by
  have g := wordOk_of h
  induction d with
  | zero =>
    intro k i o hi ho hk
    obtain ⟨k, rfl⟩ := succ_of hk
    simp only [spec_WordTake.l0]
    rw [if_neg (by omega)]
    simp [takeFrom]
  | succ d ih =>
    intro k i o hi ho hk
    obtain ⟨k, rfl⟩ := succ_of hk
    simp only [spec_WordTake.l0]
    rw [if_pos (by omega), spec_l3Right_eq s l (by omega) (by omega) k (by omega)]
    simp only [Option.bind_some]
    rw [if_pos h, if_pos (by omega), spec_l3At_eq s l i (by omega) (by omega)]
    simp only [Option.bind_some]
    rw [if_pos (by omega), wrap64_succ (by omega), ih k (i + 1) _ (by omega) (by rw [List.length_append, List.length_singleton]; omega) (by omega)]
    simp [takeFrom]
theorem spec_WordTake_eq (s l : List Int) (a : Int) (hs : s.length ≤ 1099511627776) (hl : l.length ≤ 1099511627776) (k : Nat) (hk : s.length + l.length + 1100 < k) : spec_WordTake.f k s l a = some (takeW s l a) := by
  unfold spec_WordTake.f takeW
  by_cases h : wordOkB s l 8 = true
  · rw [if_pos h]
    by_cases h' : inR a 0 1000 = true
    · have g := inR_iff.1 h'
      obtain ⟨n, rfl⟩ := Int.eq_ofNat_of_zero_le g.1
      rw [if_pos h']
      exact spec_WordTake_l0 s l n (by omega) h n k 0 [] (by omega) (by simp) (by omega)
    · rw [if_neg h']
      have g : ¬ (0 ≤ a ∧ a ≤ 1000) := fun e => h' (inR_iff.2 e)
      obtain ⟨k, rfl⟩ := succ_of hk
      simp only [spec_WordTake.l0]
      by_cases h0 : 0 < a
      · rw [if_pos h0, spec_l3Right_eq s l hs hl k (by omega)]
        simp only [Option.bind_some]
        rw [if_pos h, if_neg (by omega)]
      · rw [if_neg h0]
  · rw [if_neg h]
    obtain ⟨k, rfl⟩ := succ_of hk
    simp only [spec_WordTake.l0]
    by_cases h0 : 0 < a
    · rw [if_pos h0, spec_l3Right_eq s l hs hl k (by omega)]
      simp only [Option.bind_some]
      rw [if_neg h]
    · rw [if_neg h0]
theorem impl_WordTake_l0 (s l : List Int) (n : Nat) (hn : n ≤ 1000) (h : wordOkB s l 8 = true) (d : Nat) : ∀ (k i : Nat) (o : List Int), i + d = n → o.length ≤ i → d < k → impl_WordTake.l0 k o (n : Int) (i : Int) s l = some (o ++ takeFrom s l i d) := by
  have g := wordOk_of h
  induction d with
  | zero =>
    intro k i o hi ho hk
    obtain ⟨k, rfl⟩ := succ_of hk
    simp only [impl_WordTake.l0]
    rw [if_neg (by omega)]
    simp [takeFrom]
  | succ d ih =>
    intro k i o hi ho hk
    obtain ⟨k, rfl⟩ := succ_of hk
    simp only [impl_WordTake.l0]
    rw [if_pos (by omega), impl_Word_placeOf_eq s l i (by omega) (by omega) (by omega) (by omega)]
    simp only [Option.bind_some]
    rw [impl_Word_letter_eq s l i (by omega) (by omega)]
    simp only [Option.bind_some]
    rw [if_pos (by omega), wrap64_succ (by omega), ih k (i + 1) _ (by omega) (by rw [List.length_append, List.length_singleton]; omega) (by omega)]
    simp [takeFrom]
theorem impl_WordTake_eq (s l : List Int) (a : Int) (hs : s.length ≤ 1099511627776) (hl : l.length ≤ 1099511627776) (k : Nat) (hk : s.length + l.length + 1100 < k) : impl_WordTake.f k s l a = some (takeW s l a) := by
  unfold impl_WordTake.f takeW
  obtain ⟨k, rfl⟩ := succ_of hk
  rw [impl_inRange_eq]
  simp only [Option.bind_some, impl_WordTake.j0, if_true]
  rw [impl_isRight_eq s l hs hl _ (by omega)]
  simp only [Option.bind_some]
  by_cases h' : inR a 0 1000 = true
  · have g := inR_iff.1 h'
    rw [if_pos h', if_pos h']
    by_cases h : wordOkB s l 8 = true
    · obtain ⟨n, rfl⟩ := Int.eq_ofNat_of_zero_le g.1
      rw [if_pos h, h, if_neg (by simp)]
      exact impl_WordTake_l0 s l n (by omega) h n k 0 [] (by omega) (by simp) (by omega)
    · rw [if_neg h]
      simp at h
      rw [h]; rfl
  · rw [if_neg h', if_neg h']; split <;> rfl
end hFnExactWordTake
open hFnExactWordTake
theorem FnExactWordTake : laws_FnExactWordTake.Pure := by
  intro s l a hs hws hl hwl _
  obtain ⟨M, hM⟩ : ∃ M, M = 1048576 := ⟨_, rfl⟩
  obtain ⟨K, hK⟩ : ∃ K, K = M + 3000 := ⟨_, rfl⟩
  refine ⟨K, ?_⟩
  unfold laws_FnExactWordTake.f
  obtain ⟨r, e, hr⟩ := szWord_eq s l 1048576 (by omega) (by omega) hs hl
  rw [e]
  simp only [Option.bind_some]
  by_cases h : r < 0
  · rw [if_pos h]
  · have hr' := hr (by omega)
    have ht := takeW_length s l a
    have e1 : ∀ k : Nat, M + 1 < k → laws_toWord.f k s l = some (s, l) := fun k hk => toWord_eq s l (by omega) (by omega) k (by omega)
    rw [if_neg h, e1 K (by omega)]
    simp only [Option.bind_some]
    rw [spec_WordTake_eq s l a (by omega) (by omega) K (by omega), impl_WordTake_eq s l a (by omega) (by omega) K (by omega)]
    simp only [Option.bind_some]
    rw [eqIntS_eq _ _ (by omega) K (by omega)]
    simp only [Option.bind_some, decide_true, if_true]
    rw [eqWord_eq s l s l (by omega) (by omega) K (by omega)]
    simp only [Option.bind_some, and_self, decide_true, if_true]
    rw [markWord_eq s l 1 (by omega) (by omega) (by omega) (by omega) K (by omega)]
    obtain ⟨k, rfl⟩ : ∃ m, K = m + 1 := ⟨K - 1, by omega⟩
    simp only [Option.bind_some, laws_FnExactWordTake.j0, Bool.not_true, Bool.false_eq_true, if_false]
    rw [if_neg (by omega), markIntS_eq _ 1 (by omega) (by omega) (by omega) k (by omega)]
    simp only [Option.bind_some]
    rw [heldIntS_eq _ 1 (by omega) (by omega) (by omega) k (by omega)]
    simp only [Option.bind_some]
    rw [if_neg (by omega), if_pos trivial, e1 k (by omega)]
    simp only [Option.bind_some]
    rw [impl_WordTake_eq s l a (by omega) (by omega) k (by omega)]
    simp only [Option.bind_some]
    rw [eqIntS_eq _ _ (by omega) k (by omega)]
    simp only [Option.bind_some, decide_true, if_true]
    rw [if_neg (by omega)]
end Go.Proofs.Ythkljpbddddhdaa.Pure
