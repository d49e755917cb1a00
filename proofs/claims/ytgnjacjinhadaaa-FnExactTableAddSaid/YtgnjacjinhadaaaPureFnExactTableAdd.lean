/- What the printed functions of FnExactTableAdd come to, one lemma a function, and from these the law: for all arguments (within the bounds that the printed statement names) it answers true. -/
import Derived.Test.YtgnjacjinhadaaaMFnExactTableAddx4
import Derived.Test.YtgnjacjinhadaaaBase
import Derived.Test.YtgnjacjinhadaaaBaseL
import Derived.Test.YtgnjacjinhadaaaBaseS
import Derived.Test.YtgnjacjinhadaaaBaseT
namespace Go.Proofs.Ytgnjacjinhadaaa.Pure
open Go.RowKit Go.Proofs.Ytgnjacjinhadaaa.MFnExactTableAdd Go.Proofs.YtgnjacjinhadaaaW.PrintWords Go.Proofs.YtgnjacjinhadaaaW.PrintLast Go.Proofs.Ytgnjacjinhadaaa.Base

namespace hFnExactTableAdd
theorem toIntS_l0 (l : List Int) (hl : l.length ≤ 1099511627776) (d : Nat) : ∀ (k i : Nat) (rest : List Int), i + d = l.length → rest.length = d → d < k → laws_toIntS.l0 k l (l.take i ++ rest) (i : Int) = some l := by
  induction d with
  | zero =>
    intro k i rest hi hr hk
    obtain ⟨k, rfl⟩ := succ_of hk
    simp only [laws_toIntS.l0]
    rw [if_neg (by omega), List.eq_nil_of_length_eq_zero hr, List.append_nil, List.take_of_length_le (by omega)]
  | succ d ih =>
    intro k i rest hi hr hk
    obtain ⟨k, rfl⟩ := succ_of hk
    simp only [laws_toIntS.l0]
    have hll : (l.take i ++ rest).length = l.length := by rw [List.length_append, List.length_take]; omega
    rw [if_pos (by omega), if_pos (by omega), if_pos (by omega), rd_at (by omega), wrap64_succ (by omega)]
    rw [show ((i : Int)).toNat = i from rfl, take_set_drop (by omega) (by omega)]
    exact ih k (i + 1) rest.tail (by omega) (by rw [List.length_tail]; omega) (by omega)
theorem toIntS_eq (l : List Int) (hl : l.length ≤ 1099511627776) (k : Nat) (hk : l.length < k) : laws_toIntS.f k l = some l := by
  unfold laws_toIntS.f
  rw [if_pos (by omega), if_pos (by simp; omega)]
  exact toIntS_l0 l hl l.length k 0 _ (by omega) (by simp) hk
theorem eqIntS_l0 (a b : List Int) (hab : a.length = b.length) (hl : a.length ≤ 1099511627776) (d : Nat) : ∀ (k i : Nat), i + d = a.length → d < k → laws_eqIntS.l0 k a b (i : Int) = some (decide (a.drop i = b.drop i)) := by
  induction d with
  | zero =>
    intro k i hi hk
    obtain ⟨k, rfl⟩ := succ_of hk
    simp only [laws_eqIntS.l0]
    rw [if_neg (by omega), List.drop_eq_nil_of_le (by omega), List.drop_eq_nil_of_le (by omega)]
    simp
  | succ d ih =>
    intro k i hi hk
    obtain ⟨k, rfl⟩ := succ_of hk
    simp only [laws_eqIntS.l0]
    rw [if_pos (by omega), if_pos (by omega), if_pos (by omega), rd_at (by omega), rd_at (by omega), wrap64_succ (by omega)]
    rw [drop_cons (l := a) (i := i) (by omega), drop_cons (l := b) (i := i) (by omega)]
    by_cases h : a[i] = b[i]
    · rw [if_pos h, ih k (i + 1) (by omega) (by omega), h]
      congr 1
      exact decide_eq_decide.2 ⟨fun e => by rw [e], fun e => (List.cons.inj e).2⟩
    · rw [if_neg h]
      congr 1
      exact (decide_eq_false (fun e => h (List.cons.inj e).1)).symm
theorem eqIntS_eq (a b : List Int) (hl : a.length ≤ 1099511627776) (k : Nat) (hk : a.length < k) : laws_eqIntS.f k a b = some (decide (a = b)) := by
  unfold laws_eqIntS.f
  by_cases h : a.length = b.length
  · rw [if_pos (by omega)]
    exact eqIntS_l0 a b h hl a.length k 0 (by omega) hk
  · rw [if_neg (by omega)]
    have : a ≠ b := fun e => h (by rw [e])
    simp [this]
theorem markIntS_l0 (d : Nat) : ∀ (k i : Nat) (x : List Int) (a : Int), i + d = x.length → d < k → 0 ≤ a → a + d ≤ 4611686018427387904 → x.length ≤ 1099511627776 →
    laws_markIntS.l0 k x a (i : Int) = some (a + d, x.take i ++ seqI a d) := by
  induction d with
  | zero =>
    intro k i x a hi hk h0 h1 h2
    obtain ⟨k, rfl⟩ := succ_of hk
    simp only [laws_markIntS.l0]
    rw [if_neg (by omega), List.take_of_length_le (by omega)]
    simp [seqI]
  | succ d ih =>
    intro k i x a hi hk h0 h1 h2
    obtain ⟨k, rfl⟩ := succ_of hk
    simp only [laws_markIntS.l0]
    rw [if_pos (by omega), if_pos (by omega), wrap64_succ (by omega), wrap64_id (n := a + 1) (by omega) (by omega)]
    rw [ih k (i + 1) _ (a + 1) (by rw [List.length_set]; omega) (by omega) (by omega) (by omega) (by rw [List.length_set]; omega)]
    rw [show ((i : Int)).toNat = i from rfl, take_set_self (by omega)]
    simp only [seqI, List.append_assoc, List.singleton_append]
    congr 2
    omega
theorem markIntS_eq (x : List Int) (a : Int) (h0 : 0 ≤ a) (h1 : a ≤ 1099511627776) (h2 : x.length ≤ 1099511627776) (k : Nat) (hk : x.length < k) : laws_markIntS.f k x a = some (a + x.length, seqI a x.length) := by
  unfold laws_markIntS.f
  have := markIntS_l0 x.length k 0 x a (by omega) hk h0 (by omega) h2
  simpa using this
theorem heldIntS_l0 (n : Nat) (b : Int) (hn : n ≤ 1099511627776) (hb0 : 0 ≤ b) (hb : b ≤ 1099511627776) (d : Nat) : ∀ (k i : Nat), i + d = n → d < k → laws_heldIntS.l0 k (seqI b n) (b + i) (i : Int) = some (b + n) := by
  induction d with
  | zero =>
    intro k i hi hk
    obtain ⟨k, rfl⟩ := succ_of hk
    simp only [laws_heldIntS.l0]
    rw [if_neg (by rw [seqI_length]; omega)]
    congr 1; omega
  | succ d ih =>
    intro k i hi hk
    obtain ⟨k, rfl⟩ := succ_of hk
    simp only [laws_heldIntS.l0]
    rw [if_pos (by rw [seqI_length]; omega), if_pos (by omega), rd_at (by rw [seqI_length]; omega), seqI_at b n i (by omega), if_pos rfl, wrap64_succ (by omega), wrap64_id (n := b + i + 1) (by omega) (by omega)]
    have := ih k (i + 1) (by omega) (by omega)
    rw [show b + (i : Int) + 1 = b + ((i + 1 : Nat) : Int) by omega]
    exact this
theorem heldIntS_eq (n : Nat) (b : Int) (hn : n ≤ 1099511627776) (hb0 : 0 ≤ b) (hb : b ≤ 1099511627776) (k : Nat) (hk : n < k) : laws_heldIntS.f k (seqI b n) b = some (b + n) := by
  unfold laws_heldIntS.f
  have := heldIntS_l0 n b hn hb0 hb n k 0 (by omega) hk
  simpa using this
theorem szIntS_eq (l : List Int) (a : Int) (h0 : 0 ≤ a) (h1 : a ≤ 1048576) (hl : l.length ≤ 9223372036854775807) : laws_szIntS.f l a = some (if a < l.length then -1 else a - l.length) := by
  unfold laws_szIntS.f
  rw [wrap64_id (by omega) (by omega)]
  by_cases h : a < (l.length : Int)
  · rw [if_pos (by omega), if_pos h]
  · rw [if_neg (by omega), if_neg h]
theorem szTable_eq (l : List Int) (a : Int) (h0 : 0 ≤ a) (h1 : a ≤ 1048576) (hl : l.length ≤ 9223372036854775807) : laws_szTable.f l a = some (if a < l.length then -1 else a - l.length) := by
  unfold laws_szTable.f
  rw [szIntS_eq l a h0 h1 hl]
  simp only [Option.bind_some]
  by_cases h : a < (l.length : Int)
  · rw [if_pos h, if_pos (by omega)]
  · rw [if_neg h, if_neg (by omega)]
theorem toTable_eq (l : List Int) (hl : l.length ≤ 1099511627776) (k : Nat) (hk : l.length < k) : laws_toTable.f k l = some l := by
  unfold laws_toTable.f
  rw [toIntS_eq l hl k hk]
  rfl
theorem eqTable_eq (a b : List Int) (hl : a.length ≤ 1099511627776) (k : Nat) (hk : a.length < k) : laws_eqTable.f k a b = some (decide (a = b)) := by
  unfold laws_eqTable.f
  rw [eqIntS_eq a b hl k hk]
  simp only [Option.bind_some]
  by_cases h : a = b <;> simp [h]
theorem markTable_eq (x : List Int) (a : Int) (h0 : 0 ≤ a) (h1 : a ≤ 1099511627776) (h2 : x.length ≤ 1099511627776) (k : Nat) (hk : x.length < k) : laws_markTable.f k x a = some (a + x.length, seqI a x.length) := by
  unfold laws_markTable.f
  rw [markIntS_eq x a h0 h1 h2 k hk]
  rfl
theorem heldTable_eq (n : Nat) (b : Int) (hn : n ≤ 1099511627776) (hb0 : 0 ≤ b) (hb : b ≤ 1099511627776) (k : Nat) (hk : n < k) : laws_heldTable.f k (seqI b n) b = some (b + n) := by
  unfold laws_heldTable.f
  rw [heldIntS_eq n b hn hb0 hb k hk]
  simp only [Option.bind_some]
  rw [if_neg (by omega)]
theorem spec_TableOk_hit (l : List Int) (hl : l.length ≤ 1000) (i : Nat) (hi : i < l.length) (d : Nat) :
    ∀ (k kk : Nat), kk + d = i → d < k → l[i] ∈ (l.take i).drop kk → spec_TableOk.l1 k (i : Int) (kk : Int) l = some false := by
  induction d with
  | zero =>
    intro k kk hkk hk hm
    rw [List.drop_eq_nil_of_le (by rw [List.length_take]; omega)] at hm
    cases hm
  | succ d ih =>
    intro k kk hkk hk hm
    obtain ⟨k, rfl⟩ := succ_of hk
    simp only [spec_TableOk.l1]
    rw [if_pos (by omega), if_pos (by omega), if_pos (by omega), if_pos (by omega), if_pos (by omega), rd_at (by omega), rd_at hi, wrap64_succ (by omega)]
    rw [drop_cons (l := l.take i) (i := kk) (by rw [List.length_take]; omega), List.getElem_take, List.mem_cons] at hm
    by_cases h : l[kk] = l[i]
    · rw [if_pos h]
    · rw [if_neg h]
      exact ih k (kk + 1) (by omega) (by omega) (hm.resolve_left (fun e => h e.symm))
theorem spec_TableOk_miss (l : List Int) (hl : l.length ≤ 1000) (i : Nat) (hi : i < l.length) (k : Nat) (d : Nat) :
    ∀ (kk K : Nat), K = k + d + 1 → kk + d = i → l[i] ∉ (l.take i).drop kk → spec_TableOk.l1 K (i : Int) (kk : Int) l = spec_TableOk.l0 k ((i + 1 : Nat) : Int) l := by
  induction d with
  | zero =>
    intro kk K hK hkk hm
    obtain ⟨K, rfl⟩ := succ_of (show k < K by omega)
    obtain rfl : K = k := by omega
    simp only [spec_TableOk.l1]
    rw [if_neg (by omega), wrap64_succ (by omega)]
  | succ d ih =>
    intro kk K hK hkk hm
    obtain ⟨K, rfl⟩ := succ_of (show k < K by omega)
    simp only [spec_TableOk.l1]
    rw [if_pos (by omega), if_pos (by omega), if_pos (by omega), if_pos (by omega), if_pos (by omega), rd_at (by omega), rd_at hi, wrap64_succ (by omega)]
    rw [drop_cons (l := l.take i) (i := kk) (by rw [List.length_take]; omega), List.getElem_take, List.mem_cons] at hm
    rw [if_neg (fun e => hm (.inl e.symm))]
    exact ih (kk + 1) K (by omega) (by omega) (fun e => hm (.inr e))
theorem spec_TableOk_l0 (l : List Int) (hl : l.length ≤ 1000) (d : Nat) : ∀ (k i : Nat), i + d = l.length → 1003 * d < k → (l.take i).Nodup → spec_TableOk.l0 k (i : Int) l = some (decide l.Nodup) := by
  induction d with
  | zero =>
    intro k i hi hk hn
    obtain ⟨k, rfl⟩ := succ_of hk
    simp only [spec_TableOk.l0]
    rw [if_neg (by omega)]
    rw [List.take_of_length_le (by omega)] at hn
    rw [decide_eq_true hn]
  | succ d ih =>
    intro k i hi hk hn
    have hil : i < l.length := by omega
    have ht : l.take (i + 1) = l.take i ++ [l[i]] := List.take_succ_eq_append_getElem hil
    by_cases h : l[i] ∈ l.take i
    · obtain ⟨k, rfl⟩ := succ_of hk
      simp only [spec_TableOk.l0]
      rw [if_pos (by omega)]
      have hf : decide l.Nodup = false := decide_eq_false (fun hh => by
        have := hh.sublist (List.take_sublist (i + 1) l)
        rw [ht] at this
        exact not_nodup_snoc h this)
      rw [hf]
      exact spec_TableOk_hit l hl i hil i k 0 (by omega) (by omega) (by rw [List.drop_zero]; exact h)
    · have hn' : (l.take (i + 1)).Nodup := by rw [ht]; exact nodup_snoc hn h
      obtain ⟨k, rfl⟩ := succ_of hk
      simp only [spec_TableOk.l0]
      rw [if_pos (by omega)]
      have := spec_TableOk_miss l hl i hil (k - i - 1) i 0 k (by omega) (by omega) (by rw [List.drop_zero]; exact h)
      rw [show ((0 : Nat) : Int) = 0 from rfl] at this
      rw [this]
      exact ih (k - i - 1) (i + 1) (by omega) (by omega) hn'
theorem spec_TableOk_eq (l : List Int) (k : Nat) (hk : 1003000 < k) : spec_TableOk.f k l = some (okT l) := by
  unfold spec_TableOk.f okT
  by_cases h : l.length ≤ 1000
  · rw [if_neg (by omega)]
    have := spec_TableOk_l0 l h l.length k 0 (by omega) (by omega) (by simp)
    rw [show ((0 : Nat) : Int) = 0 from rfl] at this
    rw [this]
    simp [h]
  · rw [if_pos (by omega)]
    simp [h]
theorem impl_TableOk_eq (l : List Int) (hw : ∀ x ∈ l, (Lit.int .i64 x).wf = true) : impl_TableOk.f l = some (okT l) := by
  unfold impl_TableOk.f okT
  rw [if_pos (List.all_eq_true.2 hw)]
  by_cases h : l.length ≤ 1000
  · rw [if_neg (by omega)]
    simp [h]
  · rw [if_pos (by omega)]
    simp [h]
theorem slices_Index_l0 (l : List Int) (a : Int) (hl : l.length ≤ 1099511627776) (d : Nat) : ∀ (k i : Nat), i + d = l.length → d < k → slices_Index_int_int.l0 k l a (l.length : Int) (i : Int) = some (idxFrom a (l.drop i) i) := by
  induction d with
  | zero =>
    intro k i hi hk
    obtain ⟨k, rfl⟩ := succ_of hk
    simp only [slices_Index_int_int.l0]
    rw [if_neg (by omega), List.drop_eq_nil_of_le (by omega)]
    rfl
  | succ d ih =>
    intro k i hi hk
    obtain ⟨k, rfl⟩ := succ_of hk
    simp only [slices_Index_int_int.l0]
    rw [if_pos (by omega), if_pos (by omega), if_pos (by omega), rd_at (by omega), wrap64_succ (by omega), drop_cons (l := l) (i := i) (by omega)]
    unfold idxFrom
    by_cases h : l[i] = a
    · rw [if_pos h.symm, if_pos h]
    · rw [if_neg (fun e => h e.symm), if_neg h, ih k (i + 1) (by omega) (by omega)]
      rfl
theorem slices_Index_eq (l : List Int) (a : Int) (hl : l.length ≤ 1099511627776) (k : Nat) (hk : l.length < k) : slices_Index_int_int.f k l a = some (idxFrom a l 0) := by
  unfold slices_Index_int_int.f
  exact slices_Index_l0 l a hl l.length k 0 (by omega) hk
theorem spec_TableFind_l0 (l : List Int) (a : Int) (hl : l.length ≤ 1000) (d : Nat) : ∀ (k i : Nat), i + d = l.length → d < k → spec_TableFind.l0 k a (i : Int) l = some (idxFrom a (l.drop i) i) := by
  induction d with
  | zero =>
    intro k i hi hk
    obtain ⟨k, rfl⟩ := succ_of hk
    simp only [spec_TableFind.l0]
    rw [if_neg (by omega), List.drop_eq_nil_of_le (by omega)]
    rfl
  | succ d ih =>
    intro k i hi hk
    obtain ⟨k, rfl⟩ := succ_of hk
    simp only [spec_TableFind.l0]
    rw [if_pos (by omega), if_pos (by omega), rd_at (by omega), wrap64_succ (by omega), drop_cons (l := l) (i := i) (by omega)]
    unfold idxFrom
    by_cases h : l[i] = a
    · rw [if_pos h, if_pos h]
    · rw [if_neg h, if_neg h, ih k (i + 1) (by omega) (by omega)]
      rfl
theorem spec_TableFind_eq (l : List Int) (a : Int) (k : Nat) (hk : 1003000 < k) : spec_TableFind.f k l a = some (if okT l then idxFrom a l 0 else -1) := by
  unfold spec_TableFind.f
  rw [spec_TableOk_eq l k hk]
  simp only [Option.bind_some]
  by_cases h : okT l = true
  · rw [if_pos h, if_pos h]
    exact spec_TableFind_l0 l a (okT_of h).1 l.length k 0 (by omega) (by have := (okT_of h).1; omega)
  · rw [if_neg h, if_neg h]
theorem spec_TableAdd_eq (l : List Int) (a : Int) (k : Nat) (hk : 1003000 < k) : spec_TableAdd.f k l a = some (addT l a) := by
  unfold spec_TableAdd.f addT
  rw [spec_TableOk_eq l k hk]
  simp only [Option.bind_some, List.nil_append, List.length_nil, Nat.zero_add]
  by_cases h : okT l = true
  · have ho := okT_of h
    rw [if_pos h, if_pos h, if_pos (by omega), spec_TableFind_eq l a k hk, if_pos h]
    simp only [Option.bind_some]
    by_cases h1 : idxFrom a l 0 ≥ 0
    · rw [if_pos h1, if_pos h1]
    · rw [if_neg h1, if_neg h1]
      by_cases h2 : l.length = 1000
      · rw [if_pos (by omega), if_pos h2]
      · rw [if_neg (by omega), if_neg h2, if_pos (by omega)]
  · rw [if_neg h, if_neg h]
theorem slices_Clone_eq (l : List Int) (h : l.length ≤ 1099511627776) : slices_Clone_int_int.f l = some l := by
  unfold slices_Clone_int_int.f
  rw [if_pos (by omega)]
theorem impl_TableAdd_eq (l : List Int) (a : Int) (hw : ∀ x ∈ l, (Lit.int .i64 x).wf = true) (hl : l.length ≤ 1099511627776) (k : Nat) (hk : l.length + 1 < k) : impl_TableAdd.f k l a = some (addT l a) := by
  unfold impl_TableAdd.f addT
  obtain ⟨k, rfl⟩ := succ_of hk
  rw [slices_Index_eq l a hl _ (by omega)]
  simp only [Option.bind_some]
  rw [impl_TableOk_eq l hw]
  simp only [Option.bind_some, impl_TableAdd.j0, slices_Clone_eq l hl]
  by_cases h : okT l = true
  · have ho := okT_of h
    rw [if_pos h, if_pos h]
    by_cases h1 : idxFrom a l 0 < 0
    · have h1' : ¬ (0 ≤ idxFrom a l 0) := by omega
      rw [if_pos h1]
      simp only [ge_iff_le, if_neg h1']
      by_cases h2 : l.length = 1000
      · rw [if_pos (by simp; omega), if_pos h2]
      · rw [if_neg (by simp; omega), if_pos (by omega), if_neg h2]
    · have h1' : 0 ≤ idxFrom a l 0 := by omega
      rw [if_neg h1, if_neg (by simp)]
      simp only [ge_iff_le, if_pos h1']
  · rw [if_neg h, if_neg h]
    simp only [if_true]
end hFnExactTableAdd
open hFnExactTableAdd
theorem FnExactTableAdd : laws_FnExactTableAdd.Pure := by
  intro l a hl hw _
  obtain ⟨K, hK⟩ : ∃ K, K = l.length + 2000000 := ⟨_, rfl⟩
  refine ⟨K + 1 + 1 + 1, ?_⟩
  unfold laws_FnExactTableAdd.f
  rw [szTable_eq l _ (by omega) (by omega) hl]
  simp only [Option.bind_some]
  by_cases h : (1048576 : Int) < l.length
  · rw [if_pos h]; rfl
  · have hr := addT_length l a
    rw [if_neg h, if_neg (by omega), toTable_eq l (by omega) _ (by omega)]
    simp only [Option.bind_some]
    rw [spec_TableAdd_eq l a _ (by omega)]
    simp only [Option.bind_some]
    rw [impl_TableAdd_eq l a hw (by omega) _ (by omega)]
    simp only [Option.bind_some]
    generalize hr0 : addT l a = r at hr ⊢
    rw [eqTable_eq r.1 r.1 (by omega) _ (by omega)]
    simp only [Option.bind_some, decide_true, if_true, bne_self_eq_false, laws_FnExactTableAdd.j0, Bool.false_eq_true, if_false]
    rw [toTable_eq l (by omega) _ (by omega)]
    simp only [Option.bind_some]
    rw [eqTable_eq l l (by omega) _ (by omega)]
    simp only [Option.bind_some, decide_true, if_true]
    rw [markTable_eq l 1 (by omega) (by omega) (by omega) _ (by omega)]
    simp only [Option.bind_some]
    rw [if_neg (by omega), eqTable_eq r.1 r.1 (by omega) _ (by omega)]
    simp only [Option.bind_some, decide_true, if_true, laws_FnExactTableAdd.j1, Bool.false_eq_true, if_false]
    rw [markTable_eq r.1 1 (by omega) (by omega) (by omega) _ (by omega)]
    simp only [Option.bind_some]
    rw [heldTable_eq r.1.length 1 (by omega) (by omega) (by omega) _ (by omega)]
    simp only [Option.bind_some, if_true]
    rw [if_neg (by omega), toTable_eq l (by omega) _ (by omega)]
    simp only [Option.bind_some]
    rw [impl_TableAdd_eq l a hw (by omega) _ (by omega)]
    rw [hr0]
    simp only [Option.bind_some]
    rw [eqTable_eq r.1 r.1 (by omega) _ (by omega)]
    simp only [Option.bind_some, decide_true, if_true, bne_self_eq_false, laws_FnExactTableAdd.j2, Bool.false_eq_true, if_false]
    rw [heldTable_eq r.1.length 1 (by omega) (by omega) (by omega) _ (by omega)]
    simp only [Option.bind_some, if_true]
    rw [if_neg (by omega)]
end Go.Proofs.Ytgnjacjinhadaaa.Pure
