/- What the printed functions of FnTables come to, one lemma a function, and from these the law: for all arguments (within the bounds that the printed statement names) it answers true. -/
import Derived.Test.YtgnjacjinhadaaaMFnTablesx5
import Derived.Test.YtgnjacjinhadaaaBase
import Derived.Test.YtgnjacjinhadaaaBaseD
import Derived.Test.YtgnjacjinhadaaaBaseL
import Derived.Test.YtgnjacjinhadaaaBaseS
import Derived.Test.YtgnjacjinhadaaaBaseT
namespace Go.Proofs.Ytgnjacjinhadaaa.Pure
open Go.RowKit Go.Proofs.Ytgnjacjinhadaaa.MFnTables Go.Proofs.YtgnjacjinhadaaaW.PrintWords Go.Proofs.YtgnjacjinhadaaaW.PrintLast Go.Proofs.Ytgnjacjinhadaaa.Base

namespace hFnTables
theorem spec_TableOk_hit (l : List Int) (hl : l.length ≤ 1000) (i : Nat) (hi : i < l.length) (d : Nat) :
    ∀ (k kk : Nat), kk + d = i → d < k → l[i] ∈ (l.take i).drop kk → spec_TableOk.l1 k (i : Int) (kk : Int) l = some false := by
  induction d with
  | zero =>
    intro k kk hkk hk hm
    rw [List.drop_eq_nil_of_le (by rw [List.length_take]; omega)] at hm
    cases hm
  | succ d ih =>
    intro k kk hkk hk hm
    obtain ⟨k, rfl⟩ := succ_of hk
    simp only [spec_TableOk.l1]
    rw [if_pos (by omega), if_pos (by omega), if_pos (by omega), if_pos (by omega), if_pos (by omega), rd_at (by omega), rd_at hi, wrap64_succ (by omega)]
    rw [drop_cons (l := l.take i) (i := kk) (by rw [List.length_take]; omega), List.getElem_take, List.mem_cons] at hm
    by_cases h : l[kk] = l[i]
    · rw [if_pos h]
    · rw [if_neg h]
      exact ih k (kk + 1) (by omega) (by omega) (hm.resolve_left (fun e => h e.symm))
theorem spec_TableOk_miss (l : List Int) (hl : l.length ≤ 1000) (i : Nat) (hi : i < l.length) (k : Nat) (d : Nat) :
    ∀ (kk K : Nat), K = k + d + 1 → kk + d = i → l[i] ∉ (l.take i).drop kk → spec_TableOk.l1 K (i : Int) (kk : Int) l = spec_TableOk.l0 k ((i + 1 : Nat) : Int) l := by
  induction d with
  | zero =>
    intro kk K hK hkk hm
    obtain ⟨K, rfl⟩ := succ_of (show k < K by omega)
    obtain rfl : K = k := by omega
    simp only [spec_TableOk.l1]
    rw [if_neg (by omega), wrap64_succ (by omega)]
  | succ d ih =>
    intro kk K hK hkk hm
    obtain ⟨K, rfl⟩ := succ_of (show k < K by omega)
    simp only [spec_TableOk.l1]
    rw [if_pos (by omega), if_pos (by omega), if_pos (by omega), if_pos (by omega), if_pos (by omega), rd_at (by omega), rd_at hi, wrap64_succ (by omega)]
    rw [drop_cons (l := l.take i) (i := kk) (by rw [List.length_take]; omega), List.getElem_take, List.mem_cons] at hm
    rw [if_neg (fun e => hm (.inl e.symm))]
    exact ih (kk + 1) K (by omega) (by omega) (fun e => hm (.inr e))
theorem spec_TableOk_l0 (l : List Int) (hl : l.length ≤ 1000) (d : Nat) : ∀ (k i : Nat), i + d = l.length → 1003 * d < k → (l.take i).Nodup → spec_TableOk.l0 k (i : Int) l = some (decide l.Nodup) := by
  induction d with
  | zero =>
    intro k i hi hk hn
    obtain ⟨k, rfl⟩ := succ_of hk
    simp only [spec_TableOk.l0]
    rw [if_neg (by omega)]
    rw [List.take_of_length_le (by omega)] at hn
    rw [decide_eq_true hn]
  | succ d ih =>
    intro k i hi hk hn
    have hil : i < l.length := by omega
    have ht : l.take (i + 1) = l.take i ++ [l[i]] := List.take_succ_eq_append_getElem hil
    by_cases h : l[i] ∈ l.take i
    · obtain ⟨k, rfl⟩ := succ_of hk
      simp only [spec_TableOk.l0]
      rw [if_pos (by omega)]
      have hf : decide l.Nodup = false := decide_eq_false (fun hh => by
        have := hh.sublist (List.take_sublist (i + 1) l)
        rw [ht] at this
        exact not_nodup_snoc h this)
      rw [hf]
      exact spec_TableOk_hit l hl i hil i k 0 (by omega) (by omega) (by rw [List.drop_zero]; exact h)
    · have hn' : (l.take (i + 1)).Nodup := by rw [ht]; exact nodup_snoc hn h
      obtain ⟨k, rfl⟩ := succ_of hk
      simp only [spec_TableOk.l0]
      rw [if_pos (by omega)]
      have := spec_TableOk_miss l hl i hil (k - i - 1) i 0 k (by omega) (by omega) (by rw [List.drop_zero]; exact h)
      rw [show ((0 : Nat) : Int) = 0 from rfl] at this
      rw [this]
      exact ih (k - i - 1) (i + 1) (by omega) (by omega) hn'
theorem spec_TableOk_eq (l : List Int) (k : Nat) (hk : 1003000 < k) : spec_TableOk.f k l = some (okT l) := by
  unfold spec_TableOk.f okT
  by_cases h : l.length ≤ 1000
  · rw [if_neg (by omega)]
    have := spec_TableOk_l0 l h l.length k 0 (by omega) (by omega) (by simp)
    rw [show ((0 : Nat) : Int) = 0 from rfl] at this
    rw [this]
    simp [h]
  · rw [if_pos (by omega)]
    simp [h]
theorem impl_TableOk_eq (l : List Int) (hw : ∀ x ∈ l, (Lit.int .i64 x).wf = true) : impl_TableOk.f l = some (okT l) := by
  unfold impl_TableOk.f okT
  rw [if_pos (List.all_eq_true.2 hw)]
  by_cases h : l.length ≤ 1000
  · rw [if_neg (by omega)]
    simp [h]
  · rw [if_pos (by omega)]
    simp [h]
theorem slices_Index_l0 (l : List Int) (a : Int) (hl : l.length ≤ 1099511627776) (d : Nat) : ∀ (k i : Nat), i + d = l.length → d < k → slices_Index_int_int.l0 k l a (l.length : Int) (i : Int) = some (idxFrom a (l.drop i) i) := by
  induction d with
  | zero =>
    intro k i hi hk
    obtain ⟨k, rfl⟩ := succ_of hk
    simp only [slices_Index_int_int.l0]
    rw [if_neg (by omega), List.drop_eq_nil_of_le (by omega)]
    rfl
  | succ d ih =>
    intro k i hi hk
    obtain ⟨k, rfl⟩ := succ_of hk
    simp only [slices_Index_int_int.l0]
    rw [if_pos (by omega), if_pos (by omega), if_pos (by omega), rd_at (by omega), wrap64_succ (by omega), drop_cons (l := l) (i := i) (by omega)]
    unfold idxFrom
    by_cases h : l[i] = a
    · rw [if_pos h.symm, if_pos h]
    · rw [if_neg (fun e => h e.symm), if_neg h, ih k (i + 1) (by omega) (by omega)]
      rfl
theorem slices_Index_eq (l : List Int) (a : Int) (hl : l.length ≤ 1099511627776) (k : Nat) (hk : l.length < k) : slices_Index_int_int.f k l a = some (idxFrom a l 0) := by
  unfold slices_Index_int_int.f
  exact slices_Index_l0 l a hl l.length k 0 (by omega) hk
theorem spec_TableFind_l0 (l : List Int) (a : Int) (hl : l.length ≤ 1000) (d : Nat) : ∀ (k i : Nat), i + d = l.length → d < k → spec_TableFind.l0 k a (i : Int) l = some (idxFrom a (l.drop i) i) := by
  induction d with
  | zero =>
    intro k i hi hk
    obtain ⟨k, rfl⟩ := succ_of hk
    simp only [spec_TableFind.l0]
    rw [if_neg (by omega), List.drop_eq_nil_of_le (by omega)]
    rfl
  | succ d ih =>
    intro k i hi hk
    obtain ⟨k, rfl⟩ := succ_of hk
    simp only [spec_TableFind.l0]
    rw [if_pos (by omega), if_pos (by omega), rd_at (by omega), wrap64_succ (by omega), drop_cons (l := l) (i := i) (by omega)]
    unfold idxFrom
    by_cases h : l[i] = a
    · rw [if_pos h, if_pos h]
    · rw [if_neg h, if_neg h, ih k (i + 1) (by omega) (by omega)]
      rfl
theorem spec_TableFind_eq (l : List Int) (a : Int) (k : Nat) (hk : 1003000 < k) : spec_TableFind.f k l a = some (if okT l then idxFrom a l 0 else -1) := by
  unfold spec_TableFind.f
  rw [spec_TableOk_eq l k hk]
  simp only [Option.bind_some]
  by_cases h : okT l = true
  · rw [if_pos h, if_pos h]
    exact spec_TableFind_l0 l a (okT_of h).1 l.length k 0 (by omega) (by have := (okT_of h).1; omega)
  · rw [if_neg h, if_neg h]
theorem impl_TableFind_eq (l : List Int) (a : Int) (hw : ∀ x ∈ l, (Lit.int .i64 x).wf = true) (hl : l.length ≤ 1099511627776) (k : Nat) (hk : l.length < k) : impl_TableFind.f k l a = some (if okT l then idxFrom a l 0 else -1) := by
  unfold impl_TableFind.f
  rw [impl_TableOk_eq l hw]
  simp only [Option.bind_some]
  by_cases h : okT l = true
  · rw [if_pos h, if_pos h, slices_Index_eq l a hl k hk]
    rfl
  · rw [if_neg h, if_neg h]
theorem spec_TableAdd_eq (l : List Int) (a : Int) (k : Nat) (hk : 1003000 < k) : spec_TableAdd.f k l a = some (addT l a) := by
  unfold spec_TableAdd.f addT
  rw [spec_TableOk_eq l k hk]
  simp only [Option.bind_some, List.nil_append, List.length_nil, Nat.zero_add]
  by_cases h : okT l = true
  · have ho := okT_of h
    rw [if_pos h, if_pos h, if_pos (by omega), spec_TableFind_eq l a k hk, if_pos h]
    simp only [Option.bind_some]
    by_cases h1 : idxFrom a l 0 ≥ 0
    · rw [if_pos h1, if_pos h1]
    · rw [if_neg h1, if_neg h1]
      by_cases h2 : l.length = 1000
      · rw [if_pos (by omega), if_pos h2]
      · rw [if_neg (by omega), if_neg h2, if_pos (by omega)]
  · rw [if_neg h, if_neg h]
theorem slices_Clone_eq (l : List Int) (h : l.length ≤ 1099511627776) : slices_Clone_int_int.f l = some l := by
  unfold slices_Clone_int_int.f
  rw [if_pos (by omega)]
theorem impl_TableAdd_eq (l : List Int) (a : Int) (hw : ∀ x ∈ l, (Lit.int .i64 x).wf = true) (hl : l.length ≤ 1099511627776) (k : Nat) (hk : l.length + 1 < k) : impl_TableAdd.f k l a = some (addT l a) := by
  unfold impl_TableAdd.f addT
  obtain ⟨k, rfl⟩ := succ_of hk
  rw [slices_Index_eq l a hl _ (by omega)]
  simp only [Option.bind_some]
  rw [impl_TableOk_eq l hw]
  simp only [Option.bind_some, impl_TableAdd.j0, slices_Clone_eq l hl]
  by_cases h : okT l = true
  · have ho := okT_of h
    rw [if_pos h, if_pos h]
    by_cases h1 : idxFrom a l 0 < 0
    · have h1' : ¬ (0 ≤ idxFrom a l 0) := by omega
      rw [if_pos h1]
      simp only [ge_iff_le, if_neg h1']
      by_cases h2 : l.length = 1000
      · rw [if_pos (by simp; omega), if_pos h2]
      · rw [if_neg (by simp; omega), if_pos (by omega), if_neg h2]
    · have h1' : 0 ≤ idxFrom a l 0 := by omega
      rw [if_neg h1, if_neg (by simp)]
      simp only [ge_iff_le, if_pos h1']
  · rw [if_neg h, if_neg h]
    simp only [if_true]
theorem l1New_l0 (b : List Int) (d : Nat) : ∀ (k i : Nat) (h : Int), i + d = 4000 → d < k → ∃ h', spec_l1New.l0 k b h (i : Int) = some (b, 0, h') := by
  induction d with
  | zero =>
    intro k i h hi hk
    obtain ⟨k, rfl⟩ := succ_of hk
    simp only [spec_l1New.l0]
    by_cases h1 : (i : Int) < b.length
    · rw [if_pos h1, if_neg (by omega)]; exact ⟨_, rfl⟩
    · rw [if_neg h1]; exact ⟨_, rfl⟩
  | succ d ih =>
    intro k i h hi hk
    obtain ⟨k, rfl⟩ := succ_of hk
    simp only [spec_l1New.l0]
    by_cases h1 : (i : Int) < b.length
    · rw [if_pos h1, if_pos (by omega), if_pos (by omega), wrap64_succ (by omega)]
      exact ih k (i + 1) _ (by omega) (by omega)
    · rw [if_neg h1]; exact ⟨_, rfl⟩
theorem l1New_ok (b : List Int) (k : Nat) (hk : 4000 < k) : ∃ h, spec_l1New.f k b = some (b, 0, h) := by
  unfold spec_l1New.f
  exact l1New_l0 b 4000 k 0 _ (by omega) hk
theorem l1Byte_ok (b : List Int) (i h : Int) (hl : b.length ≤ 1048576) (hi : CurOk b i) : ∃ r i' h', spec_l1Byte.f b i h = some (r, i', h') ∧ 0 ≤ r ∧ r ≤ 255 ∧ CurOk b i' := by
  unfold spec_l1Byte.f
  obtain ⟨h0, h1⟩ := hi
  by_cases hlt : i < b.length
  · rw [if_pos hlt, if_pos h0]
    refine ⟨_, _, _, rfl, (and255_range _).1, (and255_range _).2, ?_⟩
    rw [wrap64_id (by omega) (by omega)]
    exact ⟨by omega, by omega⟩
  · rw [if_neg hlt]
    exact ⟨_, _, _, rfl, (and255_range _).1, (and255_range _).2, h0, h1⟩
theorem l1Below_ok (b : List Int) (i h n : Int) (hl : b.length ≤ 1048576) (hi : CurOk b i) : ∃ r i' h', spec_l1Below.f b i h n = some (r, i', h') ∧ 0 ≤ r ∧ (0 < n → r < n) ∧ (n ≤ 0 → r = 0) ∧ CurOk b i' := by
  unfold spec_l1Below.f
  by_cases h0 : n ≤ 0
  · rw [if_pos h0]
    exact ⟨_, _, _, rfl, by omega, by omega, fun _ => rfl, hi⟩
  · rw [if_neg h0]
    by_cases h1 : n ≤ 256
    · rw [if_pos h1]
      obtain ⟨r, i1, h1', e, a, b', c⟩ := l1Byte_ok b i h hl hi
      rw [e]
      simp only [Option.bind_some]
      rw [if_neg (by omega)]
      have := tmod_range a (show 0 < n by omega)
      exact ⟨_, _, _, rfl, this.1, fun _ => this.2, fun h => absurd h h0, c⟩
    · rw [if_neg h1]
      obtain ⟨r1, i1, h1', e1, a1, b1, c1⟩ := l1Byte_ok b i h hl hi
      obtain ⟨r2, i2, h2', e2, a2, b2, c2⟩ := l1Byte_ok b i1 h1' hl c1
      obtain ⟨r3, i3, h3', e3, a3, b3, c3⟩ := l1Byte_ok b i2 h2' hl c2
      obtain ⟨r4, i4, h4', e4, a4, b4, c4⟩ := l1Byte_ok b i3 h3' hl c3
      rw [e1]; simp only [Option.bind_some]
      rw [e2]; simp only [Option.bind_some]
      rw [e3]; simp only [Option.bind_some]
      rw [e4]; simp only [Option.bind_some]
      rw [if_neg (by omega), wrap64_id (n := r1 * 16777216) (by omega) (by omega), wrap64_id (n := r2 * 65536) (by omega) (by omega), wrap64_id (n := r1 * 16777216 + r2 * 65536) (by omega) (by omega), wrap64_id (n := r3 * 256) (by omega) (by omega),
        wrap64_id (n := r1 * 16777216 + r2 * 65536 + r3 * 256) (by omega) (by omega), wrap64_id (n := r1 * 16777216 + r2 * 65536 + r3 * 256 + r4) (by omega) (by omega)]
      have := tmod_range (a := r1 * 16777216 + r2 * 65536 + r3 * 256 + r4) (n := n) (by omega) (by omega)
      exact ⟨_, _, _, rfl, this.1, fun _ => this.2, fun h => absurd h h0, c4⟩
theorem drawTable_l1 (b : List Int) (hl : b.length ≤ 1048576) (d : Nat) : ∀ (k j : Nat) (i h : Int) (t : List Int), CurOk b i → j + d = 1001 → d < k → t.length = j → (∀ x ∈ t, 0 ≤ x ∧ x ≤ 1001) →
    ∃ t' i' h', spec_l1DrawTable.l1 k (j : Int) b i h t = some (t', i', h') ∧ t'.length ≤ 1001 ∧ (∀ x ∈ t', 0 ≤ x ∧ x ≤ 1001) ∧ CurOk b i' := by
  induction d with
  | zero =>
    intro k j i h t hi hj hk htl hx
    obtain ⟨k, rfl⟩ := succ_of hk
    simp only [spec_l1DrawTable.l1]
    obtain ⟨r, i1, h1, e, a0, a1, _, c⟩ := l1Below_ok b i h 2 hl hi
    have a2 := a1 (by omega)
    rw [e]; simp only [Option.bind_some]
    rw [wrap64_id (by omega) (by omega), if_neg (by omega)]
    exact ⟨_, _, _, rfl, by omega, hx, c⟩
  | succ d ih =>
    intro k j i h t hi hj hk htl hx
    obtain ⟨k, rfl⟩ := succ_of hk
    simp only [spec_l1DrawTable.l1]
    obtain ⟨r, i1, h1, e, a0, a1, _, c⟩ := l1Below_ok b i h 2 hl hi
    have a2 := a1 (by omega)
    rw [e]; simp only [Option.bind_some]
    rw [wrap64_id (n := 1000 + r) (by omega) (by omega)]
    by_cases h2 : (j : Int) < 1000 + r
    · rw [if_pos h2, if_pos (by omega), wrap64_succ (by omega)]
      exact ih k (j + 1) _ _ _ c (by omega) (by omega) (by simp; omega) (fun x hm => by
        rcases List.mem_append.1 hm with hm | hm
        · exact hx x hm
        · rw [List.mem_singleton] at hm; omega)
    · rw [if_neg h2]
      exact ⟨_, _, _, rfl, by omega, hx, c⟩
theorem drawTable_end (b : List Int) (hl : b.length ≤ 1048576) (k : Nat) (i h : Int) (t : List Int) (hi : CurOk b i) (hk : 1002 < k) (htl : t.length ≤ 1001) (hx : ∀ x ∈ t, -5 ≤ x ∧ x ≤ 1001) :
    ∃ t' i' h', ((spec_l1Below.f b i h 20).bind fun bt157 => (if bt157.1 = 0 then ((spec_l1Below.f b bt157.2.1 bt157.2.2 20).bind fun bt160 => (if t.length < 17592186044416 then (some ((t ++ [wrap64 (bt160.1 - 5)]), bt160.2.1, bt160.2.2)) else (none))) else (if bt157.1 = 1 then (spec_l1DrawTable.l1 k 0 b bt157.2.1 bt157.2.2 ([] : List Int)) else (some (t, bt157.2.1, bt157.2.2))))) = some (t', i', h') ∧
      t'.length ≤ 1002 ∧ (∀ x ∈ t', -5 ≤ x ∧ x ≤ 1001) ∧ CurOk b i' := by
  obtain ⟨r, i1, h1, e, a0, a1, _, c⟩ := l1Below_ok b i h 20 hl hi
  rw [e]; simp only [Option.bind_some]
  by_cases h0 : r = 0
  · rw [if_pos h0]
    obtain ⟨r2, i2, h2, e2, a02, a12, _, c2⟩ := l1Below_ok b i1 h1 20 hl c
    have a22 := a12 (by omega)
    rw [e2]; simp only [Option.bind_some]
    rw [if_pos (by omega), wrap64_id (by omega) (by omega)]
    exact ⟨_, _, _, rfl, by simp; omega, fun x hm => by
      rcases List.mem_append.1 hm with hm | hm
      · exact hx x hm
      · rw [List.mem_singleton] at hm; omega, c2⟩
  · rw [if_neg h0]
    by_cases h1' : r = 1
    · rw [if_pos h1']
      obtain ⟨t', i', h', e', b1, b2, b3⟩ := drawTable_l1 b hl 1001 k 0 i1 h1 [] c (by omega) (by omega) rfl (by simp)
      exact ⟨t', i', h', e', by omega, fun x hm => by have := b2 x hm; omega, b3⟩
    · rw [if_neg h1']
      exact ⟨_, _, _, rfl, by omega, hx, c⟩
theorem drawTable_l0 (b : List Int) (hl : b.length ≤ 1048576) (d : Nat) : ∀ (k j : Nat) (i h : Int) (t : List Int), CurOk b i → j + d = 9 → d + 1005000 < k → t.length ≤ 1001 → (∀ x ∈ t, -5 ≤ x ∧ x ≤ 1001) →
    ∃ t' i' h', spec_l1DrawTable.l0 k (j : Int) b i h t = some (t', i', h') ∧ t'.length ≤ 1002 ∧ (∀ x ∈ t', -5 ≤ x ∧ x ≤ 1001) ∧ CurOk b i' := by
  induction d with
  | zero =>
    intro k j i h t hi hj hk htl hx
    obtain ⟨k, rfl⟩ := succ_of hk
    simp only [spec_l1DrawTable.l0]
    obtain ⟨r, i1, h1, e, a0, a1, _, c⟩ := l1Below_ok b i h 9 hl hi
    have a2 := a1 (by omega)
    rw [e]; simp only [Option.bind_some]
    rw [if_neg (by omega)]
    exact drawTable_end b hl k i1 h1 t c (by omega) htl hx
  | succ d ih =>
    intro k j i h t hi hj hk htl hx
    obtain ⟨k, rfl⟩ := succ_of hk
    simp only [spec_l1DrawTable.l0]
    obtain ⟨r, i1, h1, e, a0, a1, _, c⟩ := l1Below_ok b i h 9 hl hi
    rw [e]; simp only [Option.bind_some]
    by_cases h2 : (j : Int) < r
    · rw [if_pos h2]
      obtain ⟨r2, i2, h2', e2, a02, a12, _, c2⟩ := l1Below_ok b i1 h1 20 hl c
      have a22 := a12 (by omega)
      rw [e2]; simp only [Option.bind_some]
      rw [spec_TableAdd_eq _ _ k (by omega)]
      simp only [Option.bind_some]
      rw [wrap64_id (n := r2 - 5) (by omega) (by omega), wrap64_succ (by omega)]
      exact ih k (j + 1) _ _ _ c2 (by omega) (by omega) (addT_length _ _) (fun x hm => by
        rcases addT_mem hm with hm | hm
        · exact hx x hm
        · omega)
    · rw [if_neg h2]
      exact drawTable_end b hl k i1 h1 t c (by omega) htl hx
theorem drawTable_ok (b : List Int) (i h : Int) (hl : b.length ≤ 1048576) (hi : CurOk b i) (k : Nat) (hk : 1006000 < k) :
    ∃ t' i' h', spec_l1DrawTable.f k b i h = some (t', i', h') ∧ t'.length ≤ 1002 ∧ (∀ x ∈ t', -5 ≤ x ∧ x ≤ 1001) ∧ CurOk b i' := by
  unfold spec_l1DrawTable.f
  exact drawTable_l0 b hl 9 k 0 i h [] hi (by omega) (by omega) (by simp) (by simp)
theorem drawTableAdd_ok (b : List Int) (hl : b.length ≤ 1048576) (k : Nat) (hk : 1006000 < k) :
    ∃ t a, spec_DrawTableAdd.f k b = some (t, a) ∧ t.length ≤ 1002 ∧ (∀ x ∈ t, -5 ≤ x ∧ x ≤ 1001) ∧ -6 ≤ a ∧ a ≤ 17 := by
  unfold spec_DrawTableAdd.f
  obtain ⟨h, e⟩ := l1New_ok b k (by omega)
  rw [e]; simp only [Option.bind_some]
  obtain ⟨t, i1, h1, e1, a1, a2, c1⟩ := drawTable_ok b 0 h hl ⟨by omega, by omega⟩ k hk
  rw [e1]; simp only [Option.bind_some]
  obtain ⟨r, i2, h2, e2, a3, a4, _, c2⟩ := l1Below_ok b i1 h1 24 hl c1
  have a5 := a4 (by omega)
  rw [e2]; simp only [Option.bind_some]
  rw [wrap64_id (by omega) (by omega)]
  exact ⟨_, _, rfl, a1, a2, by omega, by omega⟩
theorem big_eq (l : List Int) : laws_big.f l = some (decide (1048576 < l.length)) := by
  unfold laws_big.f
  congr 1
  exact decide_eq_decide.2 ⟨fun h => by omega, fun h => by omega⟩
end hFnTables
open hFnTables
theorem FnTables : laws_FnTables.Pure := by
  intro b hl hw
  obtain ⟨K, hK⟩ : ∃ K, K = b.length + 2000000 := ⟨_, rfl⟩
  refine ⟨K + 1 + 1, ?_⟩
  unfold laws_FnTables.f
  rw [big_eq]
  simp only [Option.bind_some]
  by_cases hb : 1048576 < b.length
  · rw [if_pos (by simpa using hb)]
  · rw [if_neg (by simpa using hb)]
    obtain ⟨t, a, e, ht, hx, ha0, ha1⟩ := drawTableAdd_ok b (by omega) (K + 1 + 1) (by omega)
    rw [e]
    simp only [Option.bind_some]
    have hwt : ∀ x ∈ t, (Lit.int .i64 x).wf = true := fun x h => wf_of (by have := hx x h; omega) (by have := hx x h; omega)
    have hwa : (Lit.int .i64 a).wf = true := wf_of (by omega) (by omega)
    rw [impl_TableAdd_eq t a hwt (by omega) _ (by omega)]
    simp only [Option.bind_some]
    rw [spec_TableAdd_eq t a _ (by omega)]
    simp only [Option.bind_some, if_true, bne_self_eq_false, laws_FnTables.j0, Bool.false_eq_true, if_false]
    have hwr : ∀ x ∈ (addT t a).1, (Lit.int .i64 x).wf = true := fun x h => by
      rcases addT_mem h with h | h
      · exact hwt x h
      · rw [h]; exact hwa
    have hlen := addT_length t a
    by_cases hp : (addT t a).2.1 < 0
    · have h0 := addT_neg hp
      rw [if_pos hp, h0]
      simp only [List.length_nil]
      rw [impl_TableFind_eq [] 3 (by simp) (by simp) _ (by simp)]
      rfl
    · rw [if_neg hp, impl_TableAdd_eq (addT t a).1 a hwr (by omega) _ (by omega)]
      have h2 := addT_twice (l := t) (a := a) (by omega)
      rw [h2]
      simp only [Option.bind_some, if_true, Bool.false_eq_true, if_false]
      rw [impl_TableFind_eq _ a hwr (by omega) _ (by omega)]
      have h3 := addT_find (l := t) (a := a) (by omega)
      rw [if_pos h3.1, h3.2.1]
      simp only [Option.bind_some, if_true]
      rw [impl_TableOk_eq _ hwr, h3.1]
      simp only [Option.bind_some, Bool.not_true, laws_FnTables.j1, Bool.false_eq_true, if_false]
      have key : ∀ (d k i : Nat), i + d = t.length → 2 * d + 1 + t.length + 1000 < k → laws_FnTables.l0 k (i : Int) t (addT t a).1 = some true := by
        intro d
        induction d with
        | zero =>
          intro k i hi hk
          obtain ⟨k, rfl⟩ : ∃ m, k = m + 2 := ⟨k - 2, by omega⟩
          simp only [laws_FnTables.l0]
          rw [if_neg (by omega)]
          simp only [laws_FnTables.j3]
          rfl
        | succ d ih =>
          intro k i hi hk
          obtain ⟨k, rfl⟩ : ∃ m, k = m + 2 := ⟨k - 2, by omega⟩
          simp only [laws_FnTables.l0]
          rw [if_pos (by omega)]
          simp only [laws_FnTables.j3]
          by_cases h20 : (i : Int) < 20
          · rw [if_pos (by simpa using h20), if_pos (by omega), if_pos (by omega), rd_at (by omega), impl_TableFind_eq _ _ hwr (by omega) _ (by omega), if_pos h3.1, h3.2.2 i (by omega)]
            simp only [Option.bind_some, if_true]
            rw [wrap64_succ (by omega)]
            exact ih k (i + 1) (by omega) (by omega)
          · rw [if_neg (by simpa using h20)]
      exact key t.length K 0 (by omega) (by omega)
end Go.Proofs.Ytgnjacjinhadaaa.Pure
