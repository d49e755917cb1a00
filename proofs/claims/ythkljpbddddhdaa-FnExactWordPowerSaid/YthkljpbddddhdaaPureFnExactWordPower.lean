/- What the printed functions of FnExactWordPower come to, one lemma a function, and from these the law: for all arguments (within the bounds that the printed statement names) it answers true. -/
import Derived.Test.YthkljpbddddhdaaMFnExactWordPowerx4
import Derived.Test.YthkljpbddddhdaaBase
import Derived.Test.YthkljpbddddhdaaBaseL
import Derived.Test.YthkljpbddddhdaaBaseS
import Derived.Test.YthkljpbddddhdaaBaseW
namespace Go.Proofs.Ythkljpbddddhdaa.Pure
open Go.RowKit Go.Proofs.Ythkljpbddddhdaa.MFnExactWordPower Go.Proofs.YthkljpbddddhdaaW.PrintWords Go.Proofs.YthkljpbddddhdaaW.PrintLast Go.Proofs.Ythkljpbddddhdaa.Base

namespace hFnExactWordPower
theorem spec_l1In_eq (a b c : Int) : spec_l1In.f a b c = some (inR a b c) := by
  unfold spec_l1In.f inR
  by_cases h : a ≥ b
  · rw [if_pos h]; simp [show b ≤ a from h]
  · rw [if_neg h]; simp; omega
theorem impl_inRange_eq (a b c : Int) : impl_inRange.f a b c = some (inR a b c) := by
  unfold impl_inRange.f inR
  by_cases h : a ≥ b
  · rw [if_pos h]; simp [show b ≤ a from h]
  · rw [if_neg h]; simp; omega
theorem toIntS_l0 (l : List Int) (hl : l.length ≤ 1099511627776) (d : Nat) : ∀ (k i : Nat) (rest : List Int), i + d = l.length → rest.length = d → d < k → laws_toIntS.l0 k l (l.take i ++ rest) (i : Int) = some l := by
  induction d with
  | zero =>
    intro k i rest hi hr hk
    obtain ⟨k, rfl⟩ := succ_of hk
    simp only [laws_toIntS.l0]
    rw [if_neg (by omega), List.eq_nil_of_length_eq_zero hr, List.append_nil, List.take_of_length_le (by omega)]
  | succ d ih =>
    intro k i rest hi hr hk
    obtain ⟨k, rfl⟩ := succ_of hk
    simp only [laws_toIntS.l0]
    have hll : (l.take i ++ rest).length = l.length := by rw [List.length_append, List.length_take]; omega
    rw [if_pos (by omega), if_pos (by omega), if_pos (by omega), rd_at (by omega), wrap64_succ (by omega)]
    rw [show ((i : Int)).toNat = i from rfl, take_set_drop (by omega) (by omega)]
    exact ih k (i + 1) rest.tail (by omega) (by rw [List.length_tail]; omega) (by omega)
theorem toIntS_eq (l : List Int) (hl : l.length ≤ 1099511627776) (k : Nat) (hk : l.length < k) : laws_toIntS.f k l = some l := by
  unfold laws_toIntS.f
  rw [if_pos (by omega), if_pos (by simp; omega)]
  exact toIntS_l0 l hl l.length k 0 _ (by omega) (by simp) hk
theorem eqIntS_l0 (a b : List Int) (hab : a.length = b.length) (hl : a.length ≤ 1099511627776) (d : Nat) : ∀ (k i : Nat), i + d = a.length → d < k → laws_eqIntS.l0 k a b (i : Int) = some (decide (a.drop i = b.drop i)) := by
  induction d with
  | zero =>
    intro k i hi hk
    obtain ⟨k, rfl⟩ := succ_of hk
    simp only [laws_eqIntS.l0]
    rw [if_neg (by omega), List.drop_eq_nil_of_le (by omega), List.drop_eq_nil_of_le (by omega)]
    simp
  | succ d ih =>
    intro k i hi hk
    obtain ⟨k, rfl⟩ := succ_of hk
    simp only [laws_eqIntS.l0]
    rw [if_pos (by omega), if_pos (by omega), if_pos (by omega), rd_at (by omega), rd_at (by omega), wrap64_succ (by omega)]
    rw [drop_cons (l := a) (i := i) (by omega), drop_cons (l := b) (i := i) (by omega)]
    by_cases h : a[i] = b[i]
    · rw [if_pos h, ih k (i + 1) (by omega) (by omega), h]
      congr 1
      exact decide_eq_decide.2 ⟨fun e => by rw [e], fun e => (List.cons.inj e).2⟩
    · rw [if_neg h]
      congr 1
      exact (decide_eq_false (fun e => h (List.cons.inj e).1)).symm
theorem eqIntS_eq (a b : List Int) (hl : a.length ≤ 1099511627776) (k : Nat) (hk : a.length < k) : laws_eqIntS.f k a b = some (decide (a = b)) := by
  unfold laws_eqIntS.f
  by_cases h : a.length = b.length
  · rw [if_pos (by omega)]
    exact eqIntS_l0 a b h hl a.length k 0 (by omega) hk
  · rw [if_neg (by omega)]
    have : a ≠ b := fun e => h (by rw [e])
    simp [this]
theorem markIntS_l0 (d : Nat) : ∀ (k i : Nat) (x : List Int) (a : Int), i + d = x.length → d < k → 0 ≤ a → a + d ≤ 4611686018427387904 → x.length ≤ 1099511627776 →
    laws_markIntS.l0 k x a (i : Int) = some (a + d, x.take i ++ seqI a d) := by
  induction d with
  | zero =>
    intro k i x a hi hk h0 h1 h2
    obtain ⟨k, rfl⟩ := succ_of hk
    simp only [laws_markIntS.l0]
    rw [if_neg (by omega), List.take_of_length_le (by omega)]
    simp [seqI]
  | succ d ih =>
    intro k i x a hi hk h0 h1 h2
    obtain ⟨k, rfl⟩ := succ_of hk
    simp only [laws_markIntS.l0]
    rw [if_pos (by omega), if_pos (by omega), wrap64_succ (by omega), wrap64_id (n := a + 1) (by omega) (by omega)]
    rw [ih k (i + 1) _ (a + 1) (by rw [List.length_set]; omega) (by omega) (by omega) (by omega) (by rw [List.length_set]; omega)]
    rw [show ((i : Int)).toNat = i from rfl, take_set_self (by omega)]
    simp only [seqI, List.append_assoc, List.singleton_append]
    congr 2
    omega
theorem markIntS_eq (x : List Int) (a : Int) (h0 : 0 ≤ a) (h1 : a ≤ 1099511627776) (h2 : x.length ≤ 1099511627776) (k : Nat) (hk : x.length < k) : laws_markIntS.f k x a = some (a + x.length, seqI a x.length) := by
  unfold laws_markIntS.f
  have := markIntS_l0 x.length k 0 x a (by omega) hk h0 (by omega) h2
  simpa using this
theorem heldIntS_l0 (n : Nat) (b : Int) (hn : n ≤ 1099511627776) (hb0 : 0 ≤ b) (hb : b ≤ 1099511627776) (d : Nat) : ∀ (k i : Nat), i + d = n → d < k → laws_heldIntS.l0 k (seqI b n) (b + i) (i : Int) = some (b + n) := by
  induction d with
  | zero =>
    intro k i hi hk
    obtain ⟨k, rfl⟩ := succ_of hk
    simp only [laws_heldIntS.l0]
    rw [if_neg (by rw [seqI_length]; omega)]
    congr 1; omega
  | succ d ih =>
    intro k i hi hk
    obtain ⟨k, rfl⟩ := succ_of hk
    simp only [laws_heldIntS.l0]
    rw [if_pos (by rw [seqI_length]; omega), if_pos (by omega), rd_at (by rw [seqI_length]; omega), seqI_at b n i (by omega), if_pos rfl, wrap64_succ (by omega), wrap64_id (n := b + i + 1) (by omega) (by omega)]
    have := ih k (i + 1) (by omega) (by omega)
    rw [show b + (i : Int) + 1 = b + ((i + 1 : Nat) : Int) by omega]
    exact this
theorem heldIntS_eq (n : Nat) (b : Int) (hn : n ≤ 1099511627776) (hb0 : 0 ≤ b) (hb : b ≤ 1099511627776) (k : Nat) (hk : n < k) : laws_heldIntS.f k (seqI b n) b = some (b + n) := by
  unfold laws_heldIntS.f
  have := heldIntS_l0 n b hn hb0 hb n k 0 (by omega) hk
  simpa using this
theorem szIntS_eq (l : List Int) (a : Int) (h0 : 0 ≤ a) (h1 : a ≤ 1048576) (hl : l.length ≤ 9223372036854775807) : laws_szIntS.f l a = some (if a < l.length then -1 else a - l.length) := by
  unfold laws_szIntS.f
  rw [wrap64_id (by omega) (by omega)]
  by_cases h : a < (l.length : Int)
  · rw [if_pos (by omega), if_pos h]
  · rw [if_neg (by omega), if_neg h]
theorem slices_Clone_eq (l : List Int) (h : l.length ≤ 1099511627776) : slices_Clone_int_int.f l = some l := by
  unfold slices_Clone_int_int.f
  rw [if_pos (by omega)]
theorem spec_l3Letters_l0 (l : List Int) (n : Int) (h0 : -1000 ≤ n) (h1 : n ≤ 1000) (hl : l.length ≤ 1099511627776) (d : Nat) : ∀ (k i : Nat), i + d = l.length → d < k → spec_l3Letters.l0 k l n (i : Int) = some (lettersB (l.drop i) n) := by
  induction d with
  | zero =>
    intro k i hi hk
    obtain ⟨k, rfl⟩ := succ_of hk
    simp only [spec_l3Letters.l0]
    rw [if_neg (by omega), List.drop_eq_nil_of_le (by omega)]
    rfl
  | succ d ih =>
    intro k i hi hk
    obtain ⟨k, rfl⟩ := succ_of hk
    simp only [spec_l3Letters.l0]
    rw [if_pos (by omega), if_pos (by omega), rd_at (by omega), spec_l1In_eq, wrap64_id (n := n - 1) (by omega) (by omega), wrap64_succ (by omega), drop_cons (l := l) (i := i) (by omega)]
    simp only [Option.bind_some, lettersB, List.all_cons]
    by_cases h : inR l[i] 0 (n - 1) = true
    · rw [if_pos h, h, ih k (i + 1) (by omega) (by omega)]; rfl
    · rw [if_neg h]; simp at h; rw [h]; rfl
theorem spec_l3Letters_eq (l : List Int) (n : Int) (h0 : -1000 ≤ n) (h1 : n ≤ 1000) (hl : l.length ≤ 1099511627776) (k : Nat) (hk : l.length < k) : spec_l3Letters.f k l n = some (lettersB l n) := by
  unfold spec_l3Letters.f
  exact spec_l3Letters_l0 l n h0 h1 hl l.length k 0 (by omega) hk
theorem spec_WordOk_eq (s l : List Int) (n : Int) (hs : s.length ≤ 1099511627776) (hl : l.length ≤ 1099511627776) (k : Nat) (hk : s.length + l.length + 1 < k) : spec_WordOk.f k s l n = some (wordOkB s l n) := by
  unfold spec_WordOk.f wordOkB
  obtain ⟨k, rfl⟩ := succ_of hk
  rw [spec_l1In_eq, spec_l1In_eq]
  simp only [Option.bind_some, spec_WordOk.j0]
  by_cases h1 : inR n 1 8 = true
  · have h1' := inR_iff.1 h1
    rw [if_pos h1, h1]
    by_cases h2 : (s.length : Int) > 40
    · rw [if_pos h2, if_pos trivial, decide_eq_false (by omega)]; rfl
    · rw [if_neg h2, decide_eq_true (by omega)]
      by_cases h3 : inR (l.length : Int) 1 40 = true
      · rw [h3, spec_l3Letters_eq s n (by omega) (by omega) hs k (by omega)]
        simp only [Bool.not_true, Bool.false_eq_true, if_false, Option.bind_some, Bool.true_and]
        rw [spec_l3Letters_eq l n (by omega) (by omega) hl k (by omega)]
        by_cases h4 : lettersB s n = true
        · rw [if_pos h4, h4]; rfl
        · rw [if_neg h4]; simp at h4; rw [h4]; rfl
      · simp at h3; rw [h3]; rfl
  · rw [if_neg h1, if_pos trivial]; simp at h1; rw [h1]; rfl
theorem impl_isLetters_eq (n : Int) : impl_isLetters.f n = some (inR n 1 8) := by
  unfold impl_isLetters.f
  rw [impl_inRange_eq]; rfl
theorem impl_areLetters_l0 (l : List Int) (n : Int) (h0 : -1000 ≤ n) (h1 : n ≤ 1000) (hl : l.length ≤ 1099511627776) (d : Nat) : ∀ (k i : Nat), i + d = l.length → d < k → impl_areLetters.l0 k n l (l.length : Int) (i : Int) = some (lettersB (l.drop i) n) := by
  induction d with
  | zero =>
    intro k i hi hk
    obtain ⟨k, rfl⟩ := succ_of hk
    simp only [impl_areLetters.l0]
    rw [if_neg (by omega), List.drop_eq_nil_of_le (by omega)]
    rfl
  | succ d ih =>
    intro k i hi hk
    obtain ⟨k, rfl⟩ := succ_of hk
    simp only [impl_areLetters.l0]
    rw [if_pos (by omega), if_pos (by omega), if_pos (by omega), rd_at (by omega), impl_inRange_eq, wrap64_id (n := n - 1) (by omega) (by omega), wrap64_succ (by omega), drop_cons (l := l) (i := i) (by omega)]
    simp only [Option.bind_some, lettersB, List.all_cons]
    by_cases h : inR l[i] 0 (n - 1) = true
    · rw [if_pos h, h, ih k (i + 1) (by omega) (by omega)]; rfl
    · rw [if_neg h]; simp at h; rw [h]; rfl
theorem impl_areLetters_eq (l : List Int) (n : Int) (h0 : -1000 ≤ n) (h1 : n ≤ 1000) (hl : l.length ≤ 1099511627776) (k : Nat) (hk : l.length < k) : impl_areLetters.f k l n = some (lettersB l n) := by
  unfold impl_areLetters.f
  exact impl_areLetters_l0 l n h0 h1 hl l.length k 0 (by omega) hk
theorem impl_WordOk_eq (s l : List Int) (n : Int) (hs : s.length ≤ 1099511627776) (hl : l.length ≤ 1099511627776) (k : Nat) (hk : s.length + l.length + 1 < k) : impl_WordOk.f k s l n = some (wordOkB s l n) := by
  unfold impl_WordOk.f wordOkB
  obtain ⟨k, rfl⟩ := succ_of hk
  rw [impl_isLetters_eq, impl_inRange_eq]
  simp only [Option.bind_some, impl_WordOk.j0]
  by_cases h1 : inR n 1 8 = true
  · have h1' := inR_iff.1 h1
    rw [if_pos h1, h1]
    by_cases h2 : (s.length : Int) > 40
    · rw [if_pos h2, if_pos trivial, decide_eq_false (by omega)]; rfl
    · rw [if_neg h2, decide_eq_true (by omega)]
      by_cases h3 : inR (l.length : Int) 1 40 = true
      · rw [h3, impl_areLetters_eq s n (by omega) (by omega) hs k (by omega)]
        simp only [Bool.not_true, Bool.false_eq_true, if_false, Option.bind_some, Bool.true_and]
        rw [impl_areLetters_eq l n (by omega) (by omega) hl k (by omega)]
        by_cases h4 : lettersB s n = true
        · rw [if_pos h4, h4]; rfl
        · rw [if_neg h4]; simp at h4; rw [h4]; rfl
      · simp at h3; rw [h3]; rfl
  · rw [if_neg h1, if_pos trivial]; simp at h1; rw [h1]; rfl
theorem spec_l3Right_eq (s l : List Int) (hs : s.length ≤ 1099511627776) (hl : l.length ≤ 1099511627776) (k : Nat) (hk : s.length + l.length + 1 < k) : spec_l3Right.f k s l = some (wordOkB s l 8) := by
  unfold spec_l3Right.f
  rw [spec_WordOk_eq s l 8 hs hl k hk]; rfl
theorem impl_isRight_eq (s l : List Int) (hs : s.length ≤ 1099511627776) (hl : l.length ≤ 1099511627776) (k : Nat) (hk : s.length + l.length + 1 < k) : impl_isRight.f k s l = some (wordOkB s l 8) := by
  unfold impl_isRight.f
  rw [impl_WordOk_eq s l 8 hs hl k hk]; rfl
theorem szWord_eq (s l : List Int) (a : Int) (h0 : 0 ≤ a) (h1 : a ≤ 1048576) (hs : s.length ≤ 9223372036854775807) (hl : l.length ≤ 9223372036854775807) :
    ∃ r, laws_szWord.f s l a = some r ∧ (0 ≤ r → s.length + l.length ≤ a ∧ r = a - s.length - l.length) := by
  unfold laws_szWord.f
  rw [szIntS_eq s a h0 h1 hs]
  simp only [Option.bind_some]
  by_cases h : a < (s.length : Int)
  · rw [if_pos h, if_pos (by omega)]
    exact ⟨-1, rfl, fun h => by omega⟩
  · rw [if_neg h, if_neg (by omega), szIntS_eq l _ (by omega) (by omega) hl]
    simp only [Option.bind_some]
    by_cases h' : a - (s.length : Int) < (l.length : Int)
    · rw [if_pos h', if_pos (by omega)]
      exact ⟨-1, rfl, fun h => by omega⟩
    · rw [if_neg h', if_neg (by omega)]
      exact ⟨_, rfl, fun _ => by omega⟩
theorem toWord_eq (s l : List Int) (hs : s.length ≤ 1099511627776) (hl : l.length ≤ 1099511627776) (k : Nat) (hk : s.length + l.length < k) : laws_toWord.f k s l = some (s, l) := by
  unfold laws_toWord.f
  rw [toIntS_eq s hs k (by omega)]
  simp only [Option.bind_some]
  rw [toIntS_eq l hl k (by omega)]
  rfl
theorem eqWord_eq (s l s' l' : List Int) (hs : s.length ≤ 1099511627776) (hl : l.length ≤ 1099511627776) (k : Nat) (hk : s.length + l.length < k) : laws_eqWord.f k s l s' l' = some (decide (s = s' ∧ l = l')) := by
  unfold laws_eqWord.f
  rw [eqIntS_eq s s' hs k (by omega)]
  simp only [Option.bind_some]
  by_cases h : s = s'
  · rw [decide_eq_true h, if_pos rfl, eqIntS_eq l l' hl k (by omega)]
    simp only [Option.bind_some]
    by_cases h' : l = l'
    · rw [decide_eq_true h', if_pos rfl, decide_eq_true ⟨h, h'⟩]
    · rw [decide_eq_false h', if_neg (by simp), decide_eq_false (fun e => h' e.2)]
  · rw [decide_eq_false h, if_neg (by simp), decide_eq_false (fun e => h e.1)]
theorem markWord_eq (s l : List Int) (a : Int) (h0 : 0 ≤ a) (h1 : a ≤ 274877906944) (hs : s.length ≤ 274877906944) (hl : l.length ≤ 274877906944) (k : Nat) (hk : s.length + l.length < k) :
    laws_markWord.f k s l a = some (a + s.length + l.length, seqI a s.length, seqI (a + s.length) l.length) := by
  unfold laws_markWord.f
  rw [markIntS_eq s a h0 (by omega) (by omega) k (by omega)]
  simp only [Option.bind_some]
  rw [markIntS_eq l _ (by omega) (by omega) (by omega) k (by omega)]
  rfl
theorem heldWord_eq (m n : Nat) (b : Int) (hm : m ≤ 274877906944) (hn : n ≤ 274877906944) (hb0 : 0 ≤ b) (hb : b ≤ 274877906944) (k : Nat) (hk : m + n < k) :
    laws_heldWord.f k (seqI b m) (seqI (b + m) n) b = some (b + m + n) := by
  unfold laws_heldWord.f
  rw [heldIntS_eq m b (by omega) hb0 (by omega) k (by omega)]
  simp only [Option.bind_some]
  rw [if_neg (by omega), heldIntS_eq n _ (by omega) (by omega) (by omega) k (by omega)]
  simp only [Option.bind_some]
  rw [if_neg (by omega)]
/-- A word, if it is right. -/
def toldW (s l : List Int) : List Int × List Int × Bool := if wordOkB s l 8 then (s, l, true) else ([], [], false)
theorem spec_l3Told_eq (s l : List Int) (hs : s.length ≤ 1099511627776) (hl : l.length ≤ 1099511627776) (k : Nat) (hk : s.length + l.length + 1 < k) : spec_l3Told.f k s l = some (toldW s l) := by
  unfold spec_l3Told.f toldW
  rw [spec_l3Right_eq s l hs hl k hk]
  simp only [Option.bind_some]
  by_cases h : wordOkB s l 8 = true
  · rw [if_pos h, if_pos h]
  · rw [if_neg h, if_neg h]
theorem impl_rightOr_eq (s l : List Int) (hs : s.length ≤ 1099511627776) (hl : l.length ≤ 1099511627776) (k : Nat) (hk : s.length + l.length + 1 < k) : impl_rightOr.f k s l true = some (toldW s l) := by
  unfold impl_rightOr.f toldW
  rw [impl_isRight_eq s l hs hl k hk, if_pos rfl]
  simp only [Option.bind_some]
  by_cases h : wordOkB s l 8 = true
  · rw [if_pos h, if_pos h]
  · rw [if_neg h, if_neg h]
/-- A list over and over. -/
def repL (l : List Int) : Nat → List Int
  | 0 => []
  | n + 1 => repL l n ++ l
theorem repL_length (l : List Int) (n : Nat) : (repL l n).length = n * l.length := by
  induction n with
  | zero => simp [repL]
  | succ n ih => rw [repL, List.length_append, ih, Nat.succ_mul]
/-- A word whose loop is written down so many times. -/
def powerW (s l : List Int) (n : Int) : List Int × List Int × Bool := if wordOkB s l 8 then (if inR n 1 40 then toldW s (repL l n.toNat) else ([], [], false)) else ([], [], false)
theorem toldW_le (s l : List Int) : (toldW s l).1.length ≤ s.length ∧ (toldW s l).2.1.length ≤ l.length := by
  unfold toldW
  split <;> simp
theorem powerW_length (s l : List Int) (n : Int) : (powerW s l n).1.length ≤ 40 ∧ (powerW s l n).2.1.length ≤ 1600 := by
  unfold powerW
  by_cases h : wordOkB s l 8 = true
  · have g := wordOk_of h
    rw [if_pos h]
    by_cases h2 : inR n 1 40 = true
    · have g2 := inR_iff.1 h2
      have h3 := toldW_le s (repL l n.toNat)
      have h4 := repL_length l n.toNat
      have : n.toNat * l.length ≤ 40 * 40 := Nat.mul_le_mul (by omega) (by omega)
      rw [if_pos h2]
      omega
    · rw [if_neg h2]; simp
  · rw [if_neg h]; simp
theorem spec_WordPower_l0 (s l s0 : List Int) (n : Nat) (hn : n ≤ 40) (hs0 : s0.length ≤ 40) (hl : l.length ≤ 40) (d : Nat) : ∀ (k i : Nat), i + d = n → d + 2000 < k → spec_WordPower.l0 k (n : Int) (i : Int) s l s0 (repL l i) = some (toldW s0 (repL l n)) := by
  induction d with
  | zero =>
    intro k i hi hk
    obtain ⟨k, rfl⟩ := succ_of (show 0 < k by omega)
    obtain rfl : i = n := by omega
    have h4 := repL_length l i
    have : i * l.length ≤ 40 * 40 := Nat.mul_le_mul hn hl
    simp only [spec_WordPower.l0]
    rw [if_neg (by omega), spec_l3Told_eq s0 _ (by omega) (by omega) k (by omega)]
    rfl
  | succ d ih =>
    intro k i hi hk
    obtain ⟨k, rfl⟩ := succ_of (show 0 < k by omega)
    have h4 := repL_length l i
    have : i * l.length ≤ 40 * 40 := Nat.mul_le_mul (by omega) hl
    simp only [spec_WordPower.l0]
    rw [if_pos (by omega), if_pos (by omega), wrap64_succ (by omega)]
    exact ih k (i + 1) (by omega) (by omega)
theorem spec_WordPower_eq (s l : List Int) (n : Int) (hs : s.length ≤ 1099511627776) (hl : l.length ≤ 1099511627776) (k : Nat) (hk : s.length + l.length + 2100 < k) : spec_WordPower.f k s l n = some (powerW s l n) := by
  unfold spec_WordPower.f powerW
  obtain ⟨j, rfl⟩ : ∃ j, k = j + 1 := ⟨k - 1, by omega⟩
  rw [spec_l3Right_eq s l hs hl _ (by omega), Option.bind_some, spec_l1In_eq, Option.bind_some, spec_WordPower.j0, spec_WordPower.j0]
  by_cases h : wordOkB s l 8 = true
  · have g := wordOk_of h
    rw [if_pos h, if_pos h]
    by_cases h2 : inR n 1 40 = true
    · have g2 := inR_iff.1 h2
      obtain ⟨m, rfl⟩ := Int.eq_ofNat_of_zero_le (show 0 ≤ n by omega)
      rw [h2, if_neg (by simp), Option.bind_some, if_pos (by simp; omega), if_pos rfl]
      exact spec_WordPower_l0 s l s m (by omega) (by omega) (by omega) m j 0 (by omega) (by omega)
    · simp at h2
      rw [h2]; rfl
  · rw [if_neg h, if_neg h, if_pos rfl]
theorem repL_flat (l : List Int) (n : Nat) : (List.replicate n l).flatten = repL l n := by
  induction n with
  | zero => rfl
  | succ n ih => rw [List.replicate_succ', List.flatten_append, ih, repL]; simp
theorem slices_Repeat_eq (l : List Int) (n : Int) (h0 : 0 < l.length) (h1 : l.length < 1048576) (h2 : 0 < n) (h3 : n < 1048576) : slices_Repeat_int_int.f l n = some (repL l n.toNat) := by
  unfold slices_Repeat_int_int.f
  rw [if_pos ⟨h0, h1, h2, h3⟩, repL_flat]
theorem impl_WordPower_eq (s l : List Int) (n : Int) (hs : s.length ≤ 1099511627776) (hl : l.length ≤ 1099511627776) (k : Nat) (hk : s.length + l.length + 2100 < k) : impl_WordPower.f k s l n = some (powerW s l n) := by
  unfold impl_WordPower.f powerW
  obtain ⟨j, rfl⟩ : ∃ j, k = j + 1 := ⟨k - 1, by omega⟩
  rw [impl_inRange_eq, Option.bind_some, impl_WordPower.j0, impl_isRight_eq s l hs hl _ (by omega), Option.bind_some, impl_WordPower.j0]
  by_cases h : wordOkB s l 8 = true
  · have g := wordOk_of h
    rw [if_pos h]
    by_cases h2 : inR n 1 40 = true
    · have g2 := inR_iff.1 h2
      have h4 := repL_length l n.toNat
      have : n.toNat * l.length ≤ 40 * 40 := Nat.mul_le_mul (by omega) (by omega)
      rw [if_pos h2, if_pos h2, h, if_neg (by simp), slices_Clone_eq s (by omega), Option.bind_some, slices_Repeat_eq l n (by omega) (by omega) (by omega) (by omega), Option.bind_some, impl_rightOr_eq s _ (by omega) (by omega) j (by omega), Option.bind_some]
    · rw [if_neg h2, if_neg h2, if_pos rfl]
  · rw [if_neg h]
    simp at h
    rw [h, if_pos (show (!false) = true from rfl), if_pos rfl]
    split <;> rfl
end hFnExactWordPower
open hFnExactWordPower
theorem FnExactWordPower : laws_FnExactWordPower.Pure := by
  intro s l n hs hws hl hwl _
  obtain ⟨M, hM⟩ : ∃ M, M = 1048576 := ⟨_, rfl⟩
  obtain ⟨k, hk⟩ : ∃ k, k = M + 3000 := ⟨_, rfl⟩
  refine ⟨k + 3, ?_⟩
  unfold laws_FnExactWordPower.f
  obtain ⟨r, e, hr⟩ := szWord_eq s l 1048576 (by omega) (by omega) hs hl
  rw [e]
  simp only [Option.bind_some]
  by_cases h : r < 0
  · rw [if_pos h]
  · have hr' := hr (by omega)
    have hL := powerW_length s l n
    have e1 : ∀ j : Nat, laws_toWord.f (k + j) s l = some (s, l) := fun j => toWord_eq s l (by omega) (by omega) _ (by omega)
    have hA : ∀ j : Nat, spec_WordPower.f (k + j) s l n = some (powerW s l n) := fun j => spec_WordPower_eq s l n (by omega) (by omega) _ (by omega)
    have hB : ∀ j : Nat, impl_WordPower.f (k + j) s l n = some (powerW s l n) := fun j => impl_WordPower_eq s l n (by omega) (by omega) _ (by omega)
    generalize powerW s l n = T at hA hB hL
    obtain ⟨u, v, ok⟩ := T
    simp only at hL
    have e2 : ∀ j : Nat, laws_eqWord.f (k + j) u v u v = some true := fun j => by rw [eqWord_eq u v u v (by omega) (by omega) _ (by omega)]; simp
    have e3 : ∀ j : Nat, laws_eqWord.f (k + j) s l s l = some true := fun j => by rw [eqWord_eq s l s l (by omega) (by omega) _ (by omega)]; simp
    obtain ⟨z, q4, q5, n1, e4⟩ : ∃ (z : Int) (q4 q5 : List Int), ¬ z < 0 ∧ ∀ j : Nat, laws_markWord.f (k + j) s l 1 = some (z, q4, q5) := ⟨_, _, _, by omega, fun j => markWord_eq s l 1 (by omega) (by omega) (by omega) (by omega) _ (by omega)⟩
    obtain ⟨y, p4, p5, n2, e5, e6⟩ : ∃ (y : Int) (p4 p5 : List Int), ¬ y < 0 ∧ (∀ j : Nat, laws_markWord.f (k + j) u v 1 = some (y, p4, p5)) ∧ ∀ j : Nat, laws_heldWord.f (k + j) p4 p5 1 = some y := ⟨1 + (u.length : Int) + v.length, _, _, by omega, fun j => markWord_eq u v 1 (by omega) (by omega) (by omega) (by omega) _ (by omega), fun j => heldWord_eq u.length v.length 1 (by omega) (by omega) (by omega) (by omega) _ (by omega)⟩
    have e60 : laws_heldWord.f k p4 p5 1 = some y := e6 0
    clear hk hL hr' hr e
    rw [if_neg h, e1, Option.bind_some, hA, Option.bind_some, Option.bind_some, hB, Option.bind_some, e2, Option.bind_some, if_pos rfl, bne_self_eq_false]
    rw [laws_FnExactWordPower.j0, if_neg (by simp), e1, Option.bind_some, e3, Option.bind_some, if_pos rfl, e4, Option.bind_some, if_neg n1, e2, Option.bind_some, if_pos rfl, bne_self_eq_false]
    rw [laws_FnExactWordPower.j1, if_neg (by simp), e5, Option.bind_some, e6, Option.bind_some, if_neg n2, if_pos rfl, e1, Option.bind_some, hB, Option.bind_some, e2, Option.bind_some, if_pos rfl, bne_self_eq_false]
    rw [laws_FnExactWordPower.j2, if_neg (by simp), e60, Option.bind_some, if_neg n2, if_pos rfl]
end Go.Proofs.Ythkljpbddddhdaa.Pure
