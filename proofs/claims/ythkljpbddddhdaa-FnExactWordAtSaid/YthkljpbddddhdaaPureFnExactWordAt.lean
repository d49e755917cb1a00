/- What the printed functions of FnExactWordAt come to, one lemma a function, and from these the law: for all arguments (within the bounds that the printed statement names) it answers true. -/
import Derived.Test.YthkljpbddddhdaaMFnExactWordAtx3
import Derived.Test.YthkljpbddddhdaaBase
import Derived.Test.YthkljpbddddhdaaBaseL
import Derived.Test.YthkljpbddddhdaaBaseS
import Derived.Test.YthkljpbddddhdaaBaseW
namespace Go.Proofs.Ythkljpbddddhdaa.Pure
open Go.RowKit Go.Proofs.Ythkljpbddddhdaa.MFnExactWordAt Go.Proofs.YthkljpbddddhdaaW.PrintWords Go.Proofs.YthkljpbddddhdaaW.PrintLast Go.Proofs.Ythkljpbddddhdaa.Base

namespace hFnExactWordAt
theorem spec_l1In_eq (a b c : Int) : spec_l1In.f a b c = some (inR a b c) := by
  unfold spec_l1In.f inR
  by_cases h : a ≥ b
  · rw [if_pos h]; simp [show b ≤ a from h]
  · rw [if_neg h]; simp; omega
theorem impl_inRange_eq (a b c : Int) : impl_inRange.f a b c = some (inR a b c) := by
  unfold impl_inRange.f inR
  by_cases h : a ≥ b
  · rw [if_pos h]; simp [show b ≤ a from h]
  · rw [if_neg h]; simp; omega
theorem toIntS_l0 (l : List Int) (hl : l.length ≤ 1099511627776) (d : Nat) : ∀ (k i : Nat) (rest : List Int), i + d = l.length → rest.length = d → d < k → laws_toIntS.l0 k l (l.take i ++ rest) (i : Int) = some l := by
  induction d with
  | zero =>
    intro k i rest hi hr hk
    obtain ⟨k, rfl⟩ := succ_of hk
    simp only [laws_toIntS.l0]
    rw [if_neg (by omega), List.eq_nil_of_length_eq_zero hr, List.append_nil, List.take_of_length_le (by omega)]
  | succ d ih =>
    intro k i rest hi hr hk
    obtain ⟨k, rfl⟩ := succ_of hk
    simp only [laws_toIntS.l0]
    have hll : (l.take i ++ rest).length = l.length := by rw [List.length_append, List.length_take]; omega
    rw [if_pos (by omega), if_pos (by omega), if_pos (by omega), rd_at (by omega), wrap64_succ (by omega)]
    rw [show ((i : Int)).toNat = i from rfl, take_set_drop (by omega) (by omega)]
    exact ih k (i + 1) rest.tail (by omega) (by rw [List.length_tail]; omega) (by omega)
theorem toIntS_eq (l : List Int) (hl : l.length ≤ 1099511627776) (k : Nat) (hk : l.length < k) : laws_toIntS.f k l = some l := by
  unfold laws_toIntS.f
  rw [if_pos (by omega), if_pos (by simp; omega)]
  exact toIntS_l0 l hl l.length k 0 _ (by omega) (by simp) hk
theorem eqIntS_l0 (a b : List Int) (hab : a.length = b.length) (hl : a.length ≤ 1099511627776) (d : Nat) : ∀ (k i : Nat), i + d = a.length → d < k → laws_eqIntS.l0 k a b (i : Int) = some (decide (a.drop i = b.drop i)) := by
  induction d with
  | zero =>
    intro k i hi hk
    obtain ⟨k, rfl⟩ := succ_of hk
    simp only [laws_eqIntS.l0]
    rw [if_neg (by omega), List.drop_eq_nil_of_le (by omega), List.drop_eq_nil_of_le (by omega)]
    simp
  | succ d ih =>
    intro k i hi hk
    obtain ⟨k, rfl⟩ := succ_of hk
    simp only [laws_eqIntS.l0]
    rw [if_pos (by omega), if_pos (by omega), if_pos (by omega), rd_at (by omega), rd_at (by omega), wrap64_succ (by omega)]
    rw [drop_cons (l := a) (i := i) (by omega), drop_cons (l := b) (i := i) (by omega)]
    by_cases h : a[i] = b[i]
    · rw [if_pos h, ih k (i + 1) (by omega) (by omega), h]
      congr 1
      exact decide_eq_decide.2 ⟨fun e => by rw [e], fun e => (List.cons.inj e).2⟩
    · rw [if_neg h]
      congr 1
      exact (decide_eq_false (fun e => h (List.cons.inj e).1)).symm
theorem eqIntS_eq (a b : List Int) (hl : a.length ≤ 1099511627776) (k : Nat) (hk : a.length < k) : laws_eqIntS.f k a b = some (decide (a = b)) := by
  unfold laws_eqIntS.f
  by_cases h : a.length = b.length
  · rw [if_pos (by omega)]
    exact eqIntS_l0 a b h hl a.length k 0 (by omega) hk
  · rw [if_neg (by omega)]
    have : a ≠ b := fun e => h (by rw [e])
    simp [this]
theorem szIntS_eq (l : List Int) (a : Int) (h0 : 0 ≤ a) (h1 : a ≤ 1048576) (hl : l.length ≤ 9223372036854775807) : laws_szIntS.f l a = some (if a < l.length then -1 else a - l.length) := by
  unfold laws_szIntS.f
  rw [wrap64_id (by omega) (by omega)]
  by_cases h : a < (l.length : Int)
  · rw [if_pos (by omega), if_pos h]
  · rw [if_neg (by omega), if_neg h]
theorem spec_l3Letters_l0 (l : List Int) (n : Int) (h0 : -1000 ≤ n) (h1 : n ≤ 1000) (hl : l.length ≤ 1099511627776) (d : Nat) : ∀ (k i : Nat), i + d = l.length → d < k → spec_l3Letters.l0 k l n (i : Int) = some (lettersB (l.drop i) n) := by
  induction d with
  | zero =>
    intro k i hi hk
    obtain ⟨k, rfl⟩ := succ_of hk
    simp only [spec_l3Letters.l0]
    rw [if_neg (by omega), List.drop_eq_nil_of_le (by omega)]
    rfl
  | succ d ih =>
    intro k i hi hk
    obtain ⟨k, rfl⟩ := succ_of hk
    simp only [spec_l3Letters.l0]
    rw [if_pos (by omega), if_pos (by omega), rd_at (by omega), spec_l1In_eq, wrap64_id (n := n - 1) (by omega) (by omega), wrap64_succ (by omega), drop_cons (l := l) (i := i) (by omega)]
    simp only [Option.bind_some, lettersB, List.all_cons]
    by_cases h : inR l[i] 0 (n - 1) = true
    · rw [if_pos h, h, ih k (i + 1) (by omega) (by omega)]; rfl
    · rw [if_neg h]; simp at h; rw [h]; rfl
theorem spec_l3Letters_eq (l : List Int) (n : Int) (h0 : -1000 ≤ n) (h1 : n ≤ 1000) (hl : l.length ≤ 1099511627776) (k : Nat) (hk : l.length < k) : spec_l3Letters.f k l n = some (lettersB l n) := by
  unfold spec_l3Letters.f
  exact spec_l3Letters_l0 l n h0 h1 hl l.length k 0 (by omega) hk
theorem spec_WordOk_eq (s l : List Int) (n : Int) (hs : s.length ≤ 1099511627776) (hl : l.length ≤ 1099511627776) (k : Nat) (hk : s.length + l.length + 1 < k) : spec_WordOk.f k s l n = some (wordOkB s l n) := by
  unfold spec_WordOk.f wordOkB
  obtain ⟨k, rfl⟩ := succ_of hk
  rw [spec_l1In_eq, spec_l1In_eq]
  simp only [Option.bind_some, spec_WordOk.j0]
  by_cases h1 : inR n 1 8 = true
  · have h1' := inR_iff.1 h1
    rw [if_pos h1, h1]
    by_cases h2 : (s.length : Int) > 40
    · rw [if_pos h2, if_pos trivial, decide_eq_false (by omega)]; rfl
    · rw [if_neg h2, decide_eq_true (by omega)]
      by_cases h3 : inR (l.length : Int) 1 40 = true
      · rw [h3, spec_l3Letters_eq s n (by omega) (by omega) hs k (by omega)]
        simp only [Bool.not_true, Bool.false_eq_true, if_false, Option.bind_some, Bool.true_and]
        rw [spec_l3Letters_eq l n (by omega) (by omega) hl k (by omega)]
        by_cases h4 : lettersB s n = true
        · rw [if_pos h4, h4]; rfl
        · rw [if_neg h4]; simp at h4; rw [h4]; rfl
      · simp at h3; rw [h3]; rfl
  · rw [if_neg h1, if_pos trivial]; simp at h1; rw [h1]; rfl
theorem impl_isLetters_eq (n : Int) : impl_isLetters.f n = some (inR n 1 8) := by
  unfold impl_isLetters.f
  rw [impl_inRange_eq]; rfl
theorem impl_areLetters_l0 (l : List Int) (n : Int) (h0 : -1000 ≤ n) (h1 : n ≤ 1000) (hl : l.length ≤ 1099511627776) (d : Nat) : ∀ (k i : Nat), i + d = l.length → d < k → impl_areLetters.l0 k n l (l.length : Int) (i : Int) = some (lettersB (l.drop i) n) := by
  induction d with
  | zero =>
    intro k i hi hk
    obtain ⟨k, rfl⟩ := succ_of hk
    simp only [impl_areLetters.l0]
    rw [if_neg (by omega), List.drop_eq_nil_of_le (by omega)]
    rfl
  | succ d ih =>
    intro k i hi hk
    obtain ⟨k, rfl⟩ := succ_of hk
    simp only [impl_areLetters.l0]
    rw [if_pos (by omega), if_pos (by omega), if_pos (by omega), rd_at (by omega), impl_inRange_eq, wrap64_id (n := n - 1) (by omega) (by omega), wrap64_succ (by omega), drop_cons (l := l) (i := i) (by omega)]
    simp only [Option.bind_some, lettersB, List.all_cons]
    by_cases h : inR l[i] 0 (n - 1) = true
    · rw [if_pos h, h, ih k (i + 1) (by omega) (by omega)]; rfl
    · rw [if_neg h]; simp at h; rw [h]; rfl
theorem impl_areLetters_eq (l : List Int) (n : Int) (h0 : -1000 ≤ n) (h1 : n ≤ 1000) (hl : l.length ≤ 1099511627776) (k : Nat) (hk : l.length < k) : impl_areLetters.f k l n = some (lettersB l n) := by
  unfold impl_areLetters.f
  exact impl_areLetters_l0 l n h0 h1 hl l.length k 0 (by omega) hk
theorem impl_WordOk_eq (s l : List Int) (n : Int) (hs : s.length ≤ 1099511627776) (hl : l.length ≤ 1099511627776) (k : Nat) (hk : s.length + l.length + 1 < k) : impl_WordOk.f k s l n = some (wordOkB s l n) := by
  unfold impl_WordOk.f wordOkB
  obtain ⟨k, rfl⟩ := succ_of hk
  rw [impl_isLetters_eq, impl_inRange_eq]
  simp only [Option.bind_some, impl_WordOk.j0]
  by_cases h1 : inR n 1 8 = true
  · have h1' := inR_iff.1 h1
    rw [if_pos h1, h1]
    by_cases h2 : (s.length : Int) > 40
    · rw [if_pos h2, if_pos trivial, decide_eq_false (by omega)]; rfl
    · rw [if_neg h2, decide_eq_true (by omega)]
      by_cases h3 : inR (l.length : Int) 1 40 = true
      · rw [h3, impl_areLetters_eq s n (by omega) (by omega) hs k (by omega)]
        simp only [Bool.not_true, Bool.false_eq_true, if_false, Option.bind_some, Bool.true_and]
        rw [impl_areLetters_eq l n (by omega) (by omega) hl k (by omega)]
        by_cases h4 : lettersB s n = true
        · rw [if_pos h4, h4]; rfl
        · rw [if_neg h4]; simp at h4; rw [h4]; rfl
      · simp at h3; rw [h3]; rfl
  · rw [if_neg h1, if_pos trivial]; simp at h1; rw [h1]; rfl
theorem spec_l3Right_eq (s l : List Int) (hs : s.length ≤ 1099511627776) (hl : l.length ≤ 1099511627776) (k : Nat) (hk : s.length + l.length + 1 < k) : spec_l3Right.f k s l = some (wordOkB s l 8) := by
  unfold spec_l3Right.f
  rw [spec_WordOk_eq s l 8 hs hl k hk]; rfl
theorem impl_isRight_eq (s l : List Int) (hs : s.length ≤ 1099511627776) (hl : l.length ≤ 1099511627776) (k : Nat) (hk : s.length + l.length + 1 < k) : impl_isRight.f k s l = some (wordOkB s l 8) := by
  unfold impl_isRight.f
  rw [impl_WordOk_eq s l 8 hs hl k hk]; rfl
theorem szWord_eq (s l : List Int) (a : Int) (h0 : 0 ≤ a) (h1 : a ≤ 1048576) (hs : s.length ≤ 9223372036854775807) (hl : l.length ≤ 9223372036854775807) :
    ∃ r, laws_szWord.f s l a = some r ∧ (0 ≤ r → s.length + l.length ≤ a ∧ r = a - s.length - l.length) := by
  unfold laws_szWord.f
  rw [szIntS_eq s a h0 h1 hs]
  simp only [Option.bind_some]
  by_cases h : a < (s.length : Int)
  · rw [if_pos h, if_pos (by omega)]
    exact ⟨-1, rfl, fun h => by omega⟩
  · rw [if_neg h, if_neg (by omega), szIntS_eq l _ (by omega) (by omega) hl]
    simp only [Option.bind_some]
    by_cases h' : a - (s.length : Int) < (l.length : Int)
    · rw [if_pos h', if_pos (by omega)]
      exact ⟨-1, rfl, fun h => by omega⟩
    · rw [if_neg h', if_neg (by omega)]
      exact ⟨_, rfl, fun _ => by omega⟩
theorem toWord_eq (s l : List Int) (hs : s.length ≤ 1099511627776) (hl : l.length ≤ 1099511627776) (k : Nat) (hk : s.length + l.length < k) : laws_toWord.f k s l = some (s, l) := by
  unfold laws_toWord.f
  rw [toIntS_eq s hs k (by omega)]
  simp only [Option.bind_some]
  rw [toIntS_eq l hl k (by omega)]
  rfl
theorem eqWord_eq (s l s' l' : List Int) (hs : s.length ≤ 1099511627776) (hl : l.length ≤ 1099511627776) (k : Nat) (hk : s.length + l.length < k) : laws_eqWord.f k s l s' l' = some (decide (s = s' ∧ l = l')) := by
  unfold laws_eqWord.f
  rw [eqIntS_eq s s' hs k (by omega)]
  simp only [Option.bind_some]
  by_cases h : s = s'
  · rw [decide_eq_true h, if_pos rfl, eqIntS_eq l l' hl k (by omega)]
    simp only [Option.bind_some]
    by_cases h' : l = l'
    · rw [decide_eq_true h', if_pos rfl, decide_eq_true ⟨h, h'⟩]
    · rw [decide_eq_false h', if_neg (by simp), decide_eq_false (fun e => h' e.2)]
  · rw [decide_eq_false h, if_neg (by simp), decide_eq_false (fun e => h e.1)]
/-- The letter of a word at a place. -/
def letterAt (s l : List Int) (i : Nat) : Int := if i < s.length then s.getD i 0 else l.getD ((i - s.length) % l.length) 0
theorem tmod_nat (a n : Nat) : Int.tmod (a : Int) (n : Int) = ((a % n : Nat) : Int) := by
  rw [Int.tmod_eq_emod_of_nonneg (by omega)]; exact (Int.natCast_emod a n).symm
theorem rd_nat (l : List Int) (i : Nat) : rd l (i : Int) = l.getD i 0 := by simp [rd]
theorem spec_l3At_eq (s l : List Int) (i : Nat) (hi : (i : Int) ≤ 9223372036854775807) (h1 : 1 ≤ l.length) : spec_l3At.f s l (i : Int) = some (letterAt s l i) := by
  unfold spec_l3At.f letterAt
  by_cases h : i < s.length
  · rw [if_pos (by omega), if_pos (by omega), if_pos h, rd_nat]
  · have e : (i : Int) - s.length = ((i - s.length : Nat) : Int) := by omega
    have hm : (i - s.length) % l.length < l.length := Nat.mod_lt _ (by omega)
    rw [if_neg (by omega), if_neg (by omega), if_neg h, e, wrap64_id (by omega) (by omega), tmod_nat, if_pos (by omega), if_pos (by omega), rd_nat]
def placeW (s l : List Int) (i : Nat) : Nat := if i < s.length then i else s.length + (i - s.length) % l.length
theorem impl_Word_placeOf_eq (s l : List Int) (i : Nat) (hi : (i : Int) ≤ 9223372036854775807) (hs : s.length ≤ 1000) (h1 : 1 ≤ l.length) (h2 : l.length ≤ 1000) : impl_Word_placeOf.f s l (i : Int) = some (placeW s l i : Int) := by
  unfold impl_Word_placeOf.f placeW
  by_cases h : i < s.length
  · rw [if_pos (by omega), if_pos h]
  · have e : (i : Int) - s.length = ((i - s.length : Nat) : Int) := by omega
    have hm : (i - s.length) % l.length < l.length := Nat.mod_lt _ (by omega)
    rw [if_neg (by omega), if_neg (by omega), if_neg h, e, wrap64_id (n := ((i - s.length : Nat) : Int)) (by omega) (by omega), tmod_nat, wrap64_id (by omega) (by omega)]
    congr 1
theorem impl_Word_letter_eq (s l : List Int) (i : Nat) (h1 : 1 ≤ l.length) (h2 : l.length ≤ 1000) : impl_Word_letter.f s l (placeW s l i : Int) = some (letterAt s l i) := by
  unfold impl_Word_letter.f letterAt placeW
  by_cases h : i < s.length
  · rw [if_pos h, if_pos (by omega), if_pos (by omega), if_pos h, rd_nat]
  · have hm : (i - s.length) % l.length < l.length := Nat.mod_lt _ (by omega)
    have e : ((s.length + (i - s.length) % l.length : Nat) : Int) - s.length = (((i - s.length) % l.length : Nat) : Int) := by omega
    rw [if_neg h, if_neg (by omega), e, wrap64_id (by omega) (by omega), if_pos (by omega), if_pos (by omega), if_neg h, rd_nat]
theorem spec_WordAt_eq (s l : List Int) (a : Int) (ha : (Lit.int .i64 a).wf = true) (hs : s.length ≤ 1099511627776) (hl : l.length ≤ 1099511627776) (k : Nat) (hk : s.length + l.length + 1 < k) : spec_WordAt.f k s l a = some (if wordOkB s l 8 then (if a < 0 then -1 else letterAt s l a.toNat) else -1) := by
  have hb := wf_bounds ha
  unfold spec_WordAt.f
  rw [spec_l3Right_eq s l hs hl k hk]
  simp only [Option.bind_some]
  by_cases h : wordOkB s l 8 = true
  · rw [if_pos h, if_pos h]
    by_cases h' : a < 0
    · rw [if_pos h', if_pos h']
    · have g := wordOk_of h
      obtain ⟨i, rfl⟩ := Int.eq_ofNat_of_zero_le (show 0 ≤ a by omega)
      rw [if_neg h', if_neg h', spec_l3At_eq s l i (by omega) (by omega)]; rfl
  · rw [if_neg h, if_neg h]
theorem impl_WordAt_eq (s l : List Int) (a : Int) (ha : (Lit.int .i64 a).wf = true) (hs : s.length ≤ 1099511627776) (hl : l.length ≤ 1099511627776) (k : Nat) (hk : s.length + l.length + 1 < k) : impl_WordAt.f k s l a = some (if wordOkB s l 8 then (if a < 0 then -1 else letterAt s l a.toNat) else -1) := by
  have hb := wf_bounds ha
  unfold impl_WordAt.f
  obtain ⟨k, rfl⟩ := succ_of hk
  simp only [impl_WordAt.j0, if_true]
  rw [impl_isRight_eq s l hs hl _ hk]
  simp only [Option.bind_some]
  by_cases h' : a < 0
  · rw [if_pos h', if_pos h']; split <;> rfl
  · rw [if_neg h', if_neg h']
    by_cases h : wordOkB s l 8 = true
    · have g := wordOk_of h
      obtain ⟨i, rfl⟩ := Int.eq_ofNat_of_zero_le (show 0 ≤ a by omega)
      rw [h, if_neg (by simp), impl_Word_placeOf_eq s l i (by omega) (by omega) (by omega) (by omega)]
      simp only [Option.bind_some]
      rw [impl_Word_letter_eq s l i (by omega) (by omega)]; rfl
    · simp at h
      rw [h]; rfl
end hFnExactWordAt
open hFnExactWordAt
theorem FnExactWordAt : laws_FnExactWordAt.Pure := by
  intro s l a hs hws hl hwl ha
  obtain ⟨K, hK⟩ : ∃ K, K = s.length + l.length + 1000 := ⟨_, rfl⟩
  refine ⟨K, ?_⟩
  unfold laws_FnExactWordAt.f
  obtain ⟨r, e, hr⟩ := szWord_eq s l 1048576 (by omega) (by omega) hs hl
  rw [e]
  simp only [Option.bind_some]
  by_cases h : r < 0
  · rw [if_pos h]
  · have hr' := hr (by omega)
    rw [if_neg h, toWord_eq s l (by omega) (by omega) _ (by omega)]
    simp only [Option.bind_some]
    rw [spec_WordAt_eq s l a ha (by omega) (by omega) _ (by omega)]
    simp only [Option.bind_some]
    rw [impl_WordAt_eq s l a ha (by omega) (by omega) _ (by omega)]
    simp only [Option.bind_some]
    rw [if_pos trivial, eqWord_eq s l s l (by omega) (by omega) _ (by omega)]
    simp
end Go.Proofs.Ythkljpbddddhdaa.Pure
