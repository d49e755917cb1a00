/- What the printed functions of FnExprOf come to, one lemma a function, and from these the law: for all arguments (within the bounds that the printed statement names) it answers true. -/
import Derived.Test.YtjnieoogddmmcaaMFnExprOfx6
import Derived.Test.YtjnieoogddmmcaaBase
import Derived.Test.YtjnieoogddmmcaaBaseD
import Derived.Test.YtjnieoogddmmcaaBaseL
import Derived.Test.YtjnieoogddmmcaaBaseS
import Derived.Test.YtjnieoogddmmcaaBaseW
namespace Go.Proofs.Ytjnieoogddmmcaa.Pure
open Go.RowKit Go.Proofs.Ytjnieoogddmmcaa.MFnExprOf Go.Proofs.YtjnieoogddmmcaaW.PrintWords Go.Proofs.YtjnieoogddmmcaaW.PrintLast Go.Proofs.Ytjnieoogddmmcaa.Base

namespace hFnExprOf
theorem spec_l1In_eq (a b c : Int) : spec_l1In.f a b c = some (inR a b c) := by
  unfold spec_l1In.f inR
  by_cases h : a ≥ b
  · rw [if_pos h]; simp [show b ≤ a from h]
  · rw [if_neg h]; simp; omega
theorem impl_inRange_eq (a b c : Int) : impl_inRange.f a b c = some (inR a b c) := by
  unfold impl_inRange.f inR
  by_cases h : a ≥ b
  · rw [if_pos h]; simp [show b ≤ a from h]
  · rw [if_neg h]; simp; omega
theorem spec_SetOk_eq (s : Int) : spec_SetOk.f s = some (okB s) := by
  simp only [spec_SetOk.f, spec_l1In_eq, Option.bind_some, okB]
theorem impl_SetOk_eq (s : Int) : impl_SetOk.f s = some (okB s) := by
  simp only [impl_SetOk.f, impl_inRange_eq, Option.bind_some, okB]
theorem spec_l1Bit_eq (i : Int) (h0 : 0 ≤ i) (h1 : i ≤ 31) : spec_l1Bit.f i = some (bitZ i) := by
  obtain ⟨n, rfl⟩ := Int.eq_ofNat_of_zero_le h0
  unfold spec_l1Bit.f
  rw [and31 n (by omega), if_pos h0, shl_one n (by omega)]
theorem impl_only_eq (i : Int) (h0 : 0 ≤ i) (h1 : i ≤ 62) : impl_only.f i = some (bitZ i) := by
  obtain ⟨n, rfl⟩ := Int.eq_ofNat_of_zero_le h0
  unfold impl_only.f
  rw [wrap_u64_id h0 (by omega), if_pos h0, shl_one n (by omega)]
theorem spec_l1Has_eq (s i : Int) (h0 : 0 ≤ s) (h1 : s < 9223372036854775808) : spec_l1Has.f s i = some (hasZ s i) := by
  unfold spec_l1Has.f hasZ
  rw [spec_l1In_eq]
  simp only [Option.bind_some]
  by_cases h : inR i 0 30 = true
  · have hi := inR_iff.1 h
    have hp := bitZ_pos i
    rw [if_pos h, spec_l1Bit_eq i hi.1 (by omega), h]
    simp only [Option.bind_some, Bool.true_and]
    rw [and_bitZ s i h0 h1 hi.1 (by omega)]
    congr 1
    by_cases hb : s.toNat.testBit i.toNat = true
    · rw [if_pos hb, hb]; rw [bne_iff_ne]; omega
    · rw [if_neg hb]; simp at hb; rw [hb]; rfl
  · rw [if_neg h]; simp at h; rw [h]; rfl
theorem impl_has_eq (s i : Int) (h0 : 0 ≤ s) (h1 : s < 9223372036854775808) (hi0 : 0 ≤ i) (hi : i ≤ 62) : impl_has.f s i = some (s.toNat.testBit i.toNat) := by
  unfold impl_has.f
  rw [wrap_u64_id hi0 (by omega), if_pos hi0, shr_and_one s i h0 h1 hi0 (by omega)]
theorem spec_SetHas_eq (s i : Int) : spec_SetHas.f s i = some (okB s && hasZ s i) := by
  unfold spec_SetHas.f
  rw [spec_SetOk_eq]
  simp only [Option.bind_some]
  by_cases h : okB s = true
  · have hs := inR_iff.1 h
    rw [if_pos h, spec_l1Has_eq s i hs.1 (by omega), h]; rfl
  · rw [if_neg h]; simp at h; rw [h]; rfl
theorem spec_SetIn_eq (a b : Int) : spec_SetIn.f a b = some (okB a && okB b && (Go.bits .and .i64 a b == a)) := by
  unfold spec_SetIn.f
  rw [spec_SetOk_eq, spec_SetOk_eq]
  simp only [Option.bind_some]
  cases okB a <;> cases okB b <;> simp
theorem impl_SetList_l0 (s : Int) (h0 : 0 ≤ s) (h1 : s ≤ 2147483647) (d : Nat) : ∀ (k i : Nat) (out : List Int), i + d = 31 → d < k → out.length ≤ i → impl_SetList.l0 k s out (i : Int) = some (out ++ listFrom s i d) := by
  induction d with
  | zero =>
    intro k i out hi hk ho
    obtain ⟨k, rfl⟩ := succ_of hk
    simp only [impl_SetList.l0]
    rw [if_neg (by omega)]
    simp [listFrom]
  | succ d ih =>
    intro k i out hi hk ho
    obtain ⟨k, rfl⟩ := succ_of hk
    simp only [impl_SetList.l0]
    rw [if_pos (by omega), impl_has_eq s _ h0 (by omega) (by omega) (by omega)]
    simp only [Option.bind_some]
    rw [wrap64_succ (by omega)]
    unfold listFrom
    have e : hasZ s (i : Int) = s.toNat.testBit (i : Int).toNat := by
      unfold hasZ
      rw [show inR (i : Int) 0 30 = true from inR_iff.2 (by omega)]
      rfl
    rw [e]
    by_cases hb : s.toNat.testBit (i : Int).toNat = true
    · rw [if_pos hb, if_pos (by omega), ih k (i + 1) _ (by omega) (by omega) (by simp; omega), if_pos hb]
      simp
    · rw [if_neg hb, ih k (i + 1) _ (by omega) (by omega) (by omega), if_neg hb]
theorem impl_SetList_eq (s : Int) (k : Nat) (hk : 70 ≤ k) : impl_SetList.f k s = some (listOf s) := by
  unfold impl_SetList.f listOf
  rw [impl_SetOk_eq]
  simp only [Option.bind_some]
  by_cases h : okB s = true
  · have hs := inR_iff.1 h
    rw [if_pos h, if_pos h]
    have := impl_SetList_l0 s hs.1 hs.2 31 k 0 [] (by omega) (by omega) (by simp)
    simpa using this
  · rw [if_neg h, if_neg h]
theorem l1New_l0 (b : List Int) (d : Nat) : ∀ (k i : Nat) (h : Int), i + d = 4000 → d < k → ∃ h', spec_l1New.l0 k b h (i : Int) = some (b, 0, h') := by
  induction d with
  | zero =>
    intro k i h hi hk
    obtain ⟨k, rfl⟩ := succ_of hk
    simp only [spec_l1New.l0]
    by_cases h1 : (i : Int) < b.length
    · rw [if_pos h1, if_neg (by omega)]; exact ⟨_, rfl⟩
    · rw [if_neg h1]; exact ⟨_, rfl⟩
  | succ d ih =>
    intro k i h hi hk
    obtain ⟨k, rfl⟩ := succ_of hk
    simp only [spec_l1New.l0]
    by_cases h1 : (i : Int) < b.length
    · rw [if_pos h1, if_pos (by omega), if_pos (by omega), wrap64_succ (by omega)]
      exact ih k (i + 1) _ (by omega) (by omega)
    · rw [if_neg h1]; exact ⟨_, rfl⟩
theorem l1New_ok (b : List Int) (k : Nat) (hk : 4000 < k) : ∃ h, spec_l1New.f k b = some (b, 0, h) := by
  unfold spec_l1New.f
  exact l1New_l0 b 4000 k 0 _ (by omega) hk
theorem l1Byte_ok (b : List Int) (i h : Int) (hl : b.length ≤ 1048576) (hi : CurOk b i) : ∃ r i' h', spec_l1Byte.f b i h = some (r, i', h') ∧ 0 ≤ r ∧ r ≤ 255 ∧ CurOk b i' := by
  unfold spec_l1Byte.f
  obtain ⟨h0, h1⟩ := hi
  by_cases hlt : i < b.length
  · rw [if_pos hlt, if_pos h0]
    refine ⟨_, _, _, rfl, (and255_range _).1, (and255_range _).2, ?_⟩
    rw [wrap64_id (by omega) (by omega)]
    exact ⟨by omega, by omega⟩
  · rw [if_neg hlt]
    exact ⟨_, _, _, rfl, (and255_range _).1, (and255_range _).2, h0, h1⟩
theorem l1Below_ok (b : List Int) (i h n : Int) (hl : b.length ≤ 1048576) (hi : CurOk b i) : ∃ r i' h', spec_l1Below.f b i h n = some (r, i', h') ∧ 0 ≤ r ∧ (0 < n → r < n) ∧ (n ≤ 0 → r = 0) ∧ CurOk b i' := by
  unfold spec_l1Below.f
  by_cases h0 : n ≤ 0
  · rw [if_pos h0]
    exact ⟨_, _, _, rfl, by omega, by omega, fun _ => rfl, hi⟩
  · rw [if_neg h0]
    by_cases h1 : n ≤ 256
    · rw [if_pos h1]
      obtain ⟨r, i1, h1', e, a, b', c⟩ := l1Byte_ok b i h hl hi
      rw [e]
      simp only [Option.bind_some]
      rw [if_neg (by omega)]
      have := tmod_range a (show 0 < n by omega)
      exact ⟨_, _, _, rfl, this.1, fun _ => this.2, fun h => absurd h h0, c⟩
    · rw [if_neg h1]
      obtain ⟨r1, i1, h1', e1, a1, b1, c1⟩ := l1Byte_ok b i h hl hi
      obtain ⟨r2, i2, h2', e2, a2, b2, c2⟩ := l1Byte_ok b i1 h1' hl c1
      obtain ⟨r3, i3, h3', e3, a3, b3, c3⟩ := l1Byte_ok b i2 h2' hl c2
      obtain ⟨r4, i4, h4', e4, a4, b4, c4⟩ := l1Byte_ok b i3 h3' hl c3
      rw [e1]; simp only [Option.bind_some]
      rw [e2]; simp only [Option.bind_some]
      rw [e3]; simp only [Option.bind_some]
      rw [e4]; simp only [Option.bind_some]
      rw [if_neg (by omega), wrap64_id (n := r1 * 16777216) (by omega) (by omega), wrap64_id (n := r2 * 65536) (by omega) (by omega), wrap64_id (n := r1 * 16777216 + r2 * 65536) (by omega) (by omega), wrap64_id (n := r3 * 256) (by omega) (by omega),
        wrap64_id (n := r1 * 16777216 + r2 * 65536 + r3 * 256) (by omega) (by omega), wrap64_id (n := r1 * 16777216 + r2 * 65536 + r3 * 256 + r4) (by omega) (by omega)]
      have := tmod_range (a := r1 * 16777216 + r2 * 65536 + r3 * 256 + r4) (n := n) (by omega) (by omega)
      exact ⟨_, _, _, rfl, this.1, fun _ => this.2, fun h => absurd h h0, c4⟩
theorem big_eq (l : List Int) : laws_big.f l = some (decide (1048576 < l.length)) := by
  unfold laws_big.f
  congr 1
  exact decide_eq_decide.2 ⟨fun h => by omega, fun h => by omega⟩
theorem l1PickInt_ok (b : List Int) (i h : Int) (l : List Int) (hl : b.length ≤ 1048576) (hi : CurOk b i) (h1 : 1 ≤ l.length) : ∃ r i' h', spec_l1PickInt.f b i h l = some (r, i', h') ∧ CurOk b i' := by
  unfold spec_l1PickInt.f
  obtain ⟨r, i1, h1', e, a, b1, _, c⟩ := l1Below_ok b i h (l.length : Int) hl hi
  have := b1 (by omega)
  rw [e, Option.bind_some, if_pos a, if_pos this]
  exact ⟨_, _, _, rfl, c⟩
theorem l1Once_ok (b : List Int) (i h n : Int) (hl : b.length ≤ 1048576) (hi : CurOk b i) : ∃ r i' h', spec_l1Once.f b i h n = some (r, i', h') ∧ CurOk b i' := by
  unfold spec_l1Once.f
  obtain ⟨r, i1, h1', e, a, b1, _, c⟩ := l1Below_ok b i h n hl hi
  rw [e, Option.bind_some]
  exact ⟨_, _, _, rfl, c⟩
theorem rdD_at {l : List S45} {i : Nat} (h : i < l.length) : rd_T45 l (i : Int) = l[i] := by
  simp [rd_T45, List.getD_eq_getElem?_getD, List.getElem?_eq_getElem h]
/-- One node more of a list of trees: where its own tree begins; nothing where it is no tree. P: how many parts a node has. -/
def begStep (P : S45 → Int) (b : List Int) (n : S45) : Option (List Int) :=
  if P n = 0 then some (b ++ [(b.length : Int)])
  else if P n = 1 then (if b.length = 0 then none else if n.f1 = (b.length : Int) - 1 ∧ n.f2 = 0 then some (b ++ [b.getD (b.length - 1) 0]) else none)
  else if P n = 2 then (if b.length = 0 then none else if n.f2 = (b.length : Int) - 1 ∧ n.f1 = b.getD (b.length - 1) 0 - 1 ∧ 0 ≤ n.f1 then some (b ++ [b.getD n.f1.toNat 0]) else none)
  else none
def begs (P : S45 → Int) : List Int → List S45 → Option (List Int)
  | b, [] => some b
  | b, n :: l => (begStep P b n).bind fun b' => begs P b' l
def BegOk (b : List Int) : Prop := ∀ j, j < b.length → 0 ≤ b.getD j 0 ∧ b.getD j 0 ≤ j
theorem BegOk_nil : BegOk [] := fun j h => by simp at h
theorem getD_snoc (b : List Int) (x : Int) (j : Nat) : (b ++ [x]).getD j 0 = if j < b.length then b.getD j 0 else if j = b.length then x else 0 := by
  simp only [List.getD_eq_getElem?_getD, List.getElem?_append]
  by_cases h : j < b.length
  · rw [if_pos h, if_pos h]
  · rw [if_neg h, if_neg h]
    by_cases h2 : j = b.length
    · rw [if_pos h2, h2]; simp
    · rw [if_neg h2]
      rw [List.getElem?_eq_none (by simp; omega)]; rfl
theorem BegOk_snoc {b : List Int} {x : Int} (h : BegOk b) (h0 : 0 ≤ x) (h1 : x ≤ b.length) : BegOk (b ++ [x]) := by
  intro j hj
  rw [List.length_append, List.length_singleton] at hj
  rw [getD_snoc]
  by_cases h2 : j < b.length
  · rw [if_pos h2]; exact h j h2
  · rw [if_neg h2, if_pos (by omega)]; omega
/-- A list is a tree of nodes. -/
def treeB (P : S45 → Int) (l : List S45) : Bool := inR l.length 1 31 && (match begs P [] l with | none => false | some b => b.getD (l.length - 1) 0 == 0)
def endB (n : Nat) : Option (List Int) → List Int × Bool
  | none => ([], false)
  | some b => (b, b.getD (n - 1) 0 == 0)
theorem begStep_ok {P : S45 → Int} {b b' : List Int} {n : S45} (h : BegOk b) (e : begStep P b n = some b') : BegOk b' ∧ b'.length = b.length + 1 := by
  unfold begStep at e
  split at e
  · cases e; exact ⟨BegOk_snoc h (by omega) (by omega), by simp⟩
  · split at e
    · split at e
      · cases e
      · split at e
        · cases e
          have := h (b.length - 1) (by omega)
          exact ⟨BegOk_snoc h this.1 (by omega), by simp⟩
        · cases e
    · split at e
      · split at e
        · cases e
        · split at e
          · rename_i h0 h1
            cases e
            have h2 := h (b.length - 1) (by omega)
            have h3 := h n.f1.toNat (by omega)
            exact ⟨BegOk_snoc h h3.1 (by omega), by simp⟩
          · cases e
      · cases e
def leafZ (n : S45) (m : Int) : Int := if n.f2 = 0 then (if inR n.f1 0 m then 0 else -1) else -1
theorem impl_leaf_eq (n : S45) (m : Int) : impl_leaf.f n.f0 n.f1 n.f2 m = some (leafZ n m) := by
  unfold impl_leaf.f leafZ
  rw [impl_inRange_eq]
  by_cases h : n.f2 = 0
  · rw [if_pos h, if_pos h]
    simp only [Option.bind_some]
    split <;> rfl
  · rw [if_neg h, if_neg h]
def partsE (n : S45) : Int := if n.f0 = 1 then leafZ n 0 else if n.f0 = 2 then leafZ n 0 else if n.f0 = 3 then leafZ n 2 else if n.f0 = 4 then 1 else if n.f0 = 5 then 2 else if n.f0 = 6 then 2 else -1
theorem impl_exprParts_eq (n : S45) (k : Nat) (hk : 2 < k) : impl_exprParts.f k n.f0 n.f1 n.f2 = some (partsE n) := by
  unfold impl_exprParts.f partsE
  obtain ⟨k, rfl⟩ := succ_of hk
  simp only [impl_exprParts.j0, impl_leaf_eq, Option.bind_some]
  by_cases h1 : n.f0 = 1
  · rw [if_pos h1, if_pos h1, h1]; rfl
  · rw [if_neg h1, if_neg h1]
    by_cases h2 : n.f0 = 2
    · rw [if_pos h2, h2]; rfl
    · rw [if_neg h2, if_neg (by simpa using h2)]
      split <;> (try split) <;> (try split) <;> (try split) <;> rfl
theorem impl_begins_l0 (l : List S45) (h1 : 1 ≤ l.length) (hl : l.length ≤ 1000) (d : Nat) : ∀ (k : Nat) (b rest : List Int), rest.length = d → b.length + d = l.length → BegOk b → d + 10 < k →
    impl_begins.l0 k l (b ++ rest) l (l.length : Int) (b.length : Int) = some (endB l.length (begs partsE b (l.drop b.length))) := by
  induction d with
  | zero =>
    intro k b rest hr hb hB hk
    obtain rfl := List.eq_nil_of_length_eq_zero hr
    obtain ⟨k, rfl⟩ := succ_of hk
    simp only [impl_begins.l0, List.append_nil]
    rw [if_neg (by omega), wrap64_id (n := (l.length : Int) - 1) (by omega) (by omega), if_pos (by omega), if_pos (by omega), List.drop_eq_nil_of_le (by omega), show (l.length : Int) - 1 = ((l.length - 1 : Nat) : Int) by omega, rd_nat]
    rfl
  | succ d ih =>
    intro k b rest hr hb hB hk
    obtain ⟨k, rfl⟩ := succ_of hk
    obtain ⟨r, rest2, rfl⟩ : ∃ (r : Int) (t : List Int), rest = r :: t := by
      match rest, hr with
      | r :: t, _ => exact ⟨r, t, rfl⟩
    have hr' : rest2.length = d := by simpa using hr
    have hlen : (b ++ r :: rest2).length = l.length := by simp; omega
    have hset : ∀ v : Int, (b ++ r :: rest2).set b.length v = (b ++ [v]) ++ rest2 := by intro v; simp
    have hset2 : ∀ u v : Int, ((b ++ [u]) ++ rest2).set b.length v = (b ++ [v]) ++ rest2 := by intro u v; simp
    have hget : ∀ (u : Int) (j : Nat), j < b.length → ((b ++ [u]) ++ rest2).getD j 0 = b.getD j 0 := by
      intro u j hj
      rw [List.append_assoc, List.getD_eq_getElem?_getD, List.getD_eq_getElem?_getD, List.getElem?_append_left hj]
    have hrec : ∀ v : Int, 0 ≤ v → v ≤ b.length → impl_begins.l0 k l ((b ++ [v]) ++ rest2) l (l.length : Int) ((b.length + 1 : Nat) : Int) = some (endB l.length (begs partsE (b ++ [v]) (l.drop (b.length + 1)))) := by
      intro v v0 v1
      have := ih k (b ++ [v]) rest2 hr' (by simp; omega) (BegOk_snoc hB v0 v1) (by omega)
      simpa using this
    simp only [impl_begins.l0]
    rw [hlen, if_pos (by omega), if_pos (by omega), if_pos (by omega), if_pos (by omega), Int.toNat_natCast, hset, rdD_at (by omega), impl_exprParts_eq _ k (by omega), drop_cons (l := l) (i := b.length) (by omega), wrap64_succ (by omega)]
    simp only [Option.bind_some]
    generalize l[b.length] = n
    rw [show begs partsE b (n :: l.drop (b.length + 1)) = (begStep partsE b n).bind fun b' => begs partsE b' (l.drop (b.length + 1)) from rfl]
    unfold begStep
    generalize partsE n = p
    by_cases p0 : p = 0
    · rw [if_pos p0, if_pos p0, hrec _ (by omega) (by omega)]; rfl
    · rw [if_neg p0, if_neg p0]
      by_cases p1 : p = 1
      · rw [if_pos p1, if_pos p1]
        by_cases i0 : b.length = 0
        · rw [if_pos (show (b.length : Int) = 0 by omega), if_pos i0]; rfl
        · have e : (b.length : Int) - 1 = ((b.length - 1 : Nat) : Int) := by omega
          have hj := hB (b.length - 1) (by omega)
          rw [if_neg (show ¬ (b.length : Int) = 0 by omega), if_neg i0, e, wrap64_id (n := ((b.length - 1 : Nat) : Int)) (by omega) (by omega)]
          by_cases a1 : n.f1 = ((b.length - 1 : Nat) : Int)
          · by_cases a2 : n.f2 = 0
            · rw [if_pos a1, if_pos a2, if_pos (show n.f1 = ((b.length - 1 : Nat) : Int) ∧ n.f2 = 0 from ⟨a1, a2⟩), a1, if_pos (by omega), if_pos (by omega), rd_nat, hget _ _ (by omega), hset2, hrec _ hj.1 (by omega)]; rfl
            · rw [if_pos a1, if_neg a2, if_neg (fun h => a2 h.2)]; rfl
          · rw [if_neg a1, if_neg (fun h => a1 h.1)]; rfl
      · rw [if_neg p1, if_neg p1]
        by_cases p2 : p = 2
        · rw [if_pos p2, if_pos p2]
          by_cases i0 : b.length = 0
          · rw [if_pos (show (b.length : Int) = 0 by omega), if_pos i0]; rfl
          · have e : (b.length : Int) - 1 = ((b.length - 1 : Nat) : Int) := by omega
            have hj := hB (b.length - 1) (by omega)
            rw [if_neg (show ¬ (b.length : Int) = 0 by omega), if_neg i0, e, wrap64_id (n := ((b.length - 1 : Nat) : Int)) (by omega) (by omega)]
            by_cases a1 : n.f2 = ((b.length - 1 : Nat) : Int)
            · rw [if_pos a1, if_pos (show (0 : Int) ≤ ((b.length - 1 : Nat) : Int) by omega), if_pos (show ((b.length - 1 : Nat) : Int) < (l.length : Int) by omega), rd_nat, hget _ _ (by omega), wrap64_id (n := b.getD (b.length - 1) 0 - 1) (by omega) (by omega)]
              by_cases a2 : n.f1 = b.getD (b.length - 1) 0 - 1
              · rw [if_pos a2]
                by_cases a3 : n.f1 < 0
                · rw [if_pos a3, if_neg (fun h => by omega)]; rfl
                · obtain ⟨m, hm⟩ := Int.eq_ofNat_of_zero_le (show 0 ≤ n.f1 by omega)
                  have hm2 := hB m (by omega)
                  rw [if_neg a3, if_pos (by omega), if_pos (by omega), if_pos (show n.f2 = ((b.length - 1 : Nat) : Int) ∧ n.f1 = b.getD (b.length - 1) 0 - 1 ∧ 0 ≤ n.f1 from ⟨a1, a2, by omega⟩), hm, rd_nat, hget _ _ (by omega), hset2, hrec _ hm2.1 (by omega), Int.toNat_natCast]; rfl
              · rw [if_neg a2, if_neg (fun h => a2 h.2.1)]; rfl
            · rw [if_neg a1, if_neg (fun h => a1 h.1)]; rfl
        · rw [if_neg p2, if_neg p2]; rfl
theorem impl_begins_eq (l : List S45) (hl : l.length ≤ 1048576) (k : Nat) (hk : 100 < k) : impl_begins.f k l = some (if inR l.length 1 31 then endB l.length (begs partsE [] l) else ([], false)) := by
  unfold impl_begins.f
  rw [impl_inRange_eq]
  simp only [Option.bind_some]
  by_cases h : inR (l.length : Int) 1 31 = true
  · have g := inR_iff.1 h
    rw [if_pos h, if_pos h, if_pos (by omega), if_pos (by simp; omega)]
    have := impl_begins_l0 l (by omega) (by omega) l.length k [] (List.replicate l.length 0) (by simp) (by simp) BegOk_nil (by omega)
    simpa using this
  · rw [if_neg h, if_neg h]
theorem impl_isTree_eq (l : List S45) (hl : l.length ≤ 1048576) (k : Nat) (hk : 100 < k) : impl_isTree.f k l = some (treeB partsE l) := by
  unfold impl_isTree.f treeB
  rw [impl_begins_eq l hl k hk]
  simp only [Option.bind_some]
  by_cases h : inR (l.length : Int) 1 31 = true
  · rw [if_pos h, h, Bool.true_and]
    cases begs partsE [] l <;> rfl
  · rw [if_neg h]
    simp at h
    rw [h]; rfl
theorem impl_ExprOk_eq (l : List S45) (hl : l.length ≤ 1048576) (k : Nat) (hk : 100 < k) : impl_ExprOk.f k l = some (treeB partsE l) := by
  unfold impl_ExprOk.f
  rw [impl_isTree_eq l hl k hk]; rfl
/-- What a node says of a letter, given what the nodes ahead of it say. -/
def plainV (n : S45) (v : List Bool) (a : Int) : Bool := if n.f0 = 1 then true else if n.f0 = 3 then a.toNat.testBit n.f1.toNat else if n.f0 = 4 then !(v.getD n.f1.toNat false) else if n.f0 = 5 then (v.getD n.f1.toNat false && v.getD n.f2.toNat false) else if n.f0 = 6 then (v.getD n.f1.toNat false || v.getD n.f2.toNat false) else false
def valsT (a : Int) : List Bool → List S45 → List Bool
  | v, [] => v
  | v, n :: l => valsT a (v ++ [plainV n v a]) l
/-- A node that stands at a right place: its parts stand ahead of it. -/
def NodeAt (j : Nat) (n : S45) : Prop := n.f0 = 1 ∨ n.f0 = 2 ∨ (n.f0 = 3 ∧ 0 ≤ n.f1 ∧ n.f1 ≤ 2) ∨ (n.f0 = 4 ∧ 0 ≤ n.f1 ∧ n.f1 < j) ∨ (n.f0 = 5 ∧ 0 ≤ n.f1 ∧ n.f1 < j ∧ 0 ≤ n.f2 ∧ n.f2 < j) ∨ (n.f0 = 6 ∧ 0 ≤ n.f1 ∧ n.f1 < j ∧ 0 ≤ n.f2 ∧ n.f2 < j)
theorem nodeAt_of {b b' : List Int} {n : S45} (hB : BegOk b) (h : begStep partsE b n = some b') : NodeAt b.length n := by
  obtain ⟨x, a, c⟩ := n
  unfold begStep at h
  unfold NodeAt
  simp only at h ⊢
  have key : x = 1 ∨ x = 2 ∨ x = 3 ∨ x = 4 ∨ x = 5 ∨ x = 6 ∨ (x ≠ 1 ∧ x ≠ 2 ∧ x ≠ 3 ∧ x ≠ 4 ∧ x ≠ 5 ∧ x ≠ 6) := by omega
  rcases key with rfl | rfl | rfl | rfl | rfl | rfl | ⟨n1, n2, n3, n4, n5, n6⟩
  · exact Or.inl rfl
  · exact Or.inr (Or.inl rfl)
  · refine Or.inr (Or.inr (Or.inl ⟨rfl, ?_⟩))
    by_cases hr : inR a 0 2 = true
    · exact inR_iff.1 hr
    · exfalso
      have e : partsE ⟨3, a, c⟩ = -1 := by
        unfold partsE leafZ
        simp only [Bool.not_eq_true] at hr
        simp [hr]
      rw [e] at h
      simp at h
  · refine Or.inr (Or.inr (Or.inr (Or.inl ⟨rfl, ?_⟩)))
    rw [show partsE ⟨4, a, c⟩ = 1 from rfl, if_neg (by omega), if_pos rfl] at h
    by_cases h0 : b.length = 0
    · rw [if_pos h0] at h; cases h
    · rw [if_neg h0] at h
      by_cases h1 : a = (b.length : Int) - 1 ∧ c = 0
      · omega
      · rw [if_neg h1] at h; cases h
  · refine Or.inr (Or.inr (Or.inr (Or.inr (Or.inl ⟨rfl, ?_⟩))))
    rw [show partsE ⟨5, a, c⟩ = 2 from rfl, if_neg (by omega), if_neg (by omega), if_pos rfl] at h
    by_cases h0 : b.length = 0
    · rw [if_pos h0] at h; cases h
    · rw [if_neg h0] at h
      have := hB (b.length - 1) (by omega)
      by_cases h1 : c = (b.length : Int) - 1 ∧ a = b.getD (b.length - 1) 0 - 1 ∧ 0 ≤ a
      · omega
      · rw [if_neg h1] at h; cases h
  · refine Or.inr (Or.inr (Or.inr (Or.inr (Or.inr ⟨rfl, ?_⟩))))
    rw [show partsE ⟨6, a, c⟩ = 2 from rfl, if_neg (by omega), if_neg (by omega), if_pos rfl] at h
    by_cases h0 : b.length = 0
    · rw [if_pos h0] at h; cases h
    · rw [if_neg h0] at h
      have := hB (b.length - 1) (by omega)
      by_cases h1 : c = (b.length : Int) - 1 ∧ a = b.getD (b.length - 1) 0 - 1 ∧ 0 ≤ a
      · omega
      · rw [if_neg h1] at h; cases h
  · exfalso
    have e : partsE ⟨x, a, c⟩ = -1 := by
      unfold partsE
      simp [n1, n2, n3, n4, n5, n6]
    rw [e] at h
    simp at h
theorem begs_nodes (l : List S45) : ∀ {b b' : List Int}, BegOk b → begs partsE b l = some b' → ∀ j (h : j < l.length), NodeAt (b.length + j) l[j] := by
  induction l with
  | nil => intro b b' _ _ j h; simp at h
  | cons n l ih =>
    intro b b' hB e j h
    rw [show begs partsE b (n :: l) = (begStep partsE b n).bind fun b' => begs partsE b' l from rfl] at e
    obtain ⟨c, hc, he⟩ := Option.bind_eq_some_iff.1 e
    obtain ⟨h1, h2⟩ := begStep_ok hB hc
    cases j with
    | zero => exact nodeAt_of hB hc
    | succ j =>
      have := ih h1 he j (by simpa using h)
      rw [h2] at this
      simpa [Nat.add_assoc, Nat.add_comm 1 j] using this
theorem tree_nodes {l : List S45} (h : treeB partsE l = true) : (1 ≤ l.length ∧ l.length ≤ 31) ∧ ∀ j (h : j < l.length), NodeAt j l[j] := by
  unfold treeB at h
  rw [Bool.and_eq_true] at h
  obtain ⟨h1, h2⟩ := h
  have g := inR_iff.1 h1
  refine ⟨by omega, ?_⟩
  cases hb : begs partsE [] l with
  | none => rw [hb] at h2; cases h2
  | some b =>
    intro j hj
    have := begs_nodes l BegOk_nil hb j hj
    simpa using this
theorem plainV_congr {j : Nat} {n : S45} {u v : List Bool} (a : Int) (hn : NodeAt j n) (h : ∀ i, i < j → u.getD i false = v.getD i false) : plainV n u a = plainV n v a := by
  unfold plainV
  rcases hn with h0 | h0 | ⟨h0, _⟩ | ⟨h0, h1, h2⟩ | ⟨h0, h1, h2, h3, h4⟩ | ⟨h0, h1, h2, h3, h4⟩
  · rw [h0]; rfl
  · rw [h0]; rfl
  · rw [h0]; rfl
  · rw [h0, h n.f1.toNat (by omega)]; rfl
  · rw [h0, h n.f1.toNat (by omega), h n.f2.toNat (by omega)]
  · rw [h0, h n.f1.toNat (by omega), h n.f2.toNat (by omega)]
theorem plainV4 {n : S45} (v : List Bool) (a : Int) (h0 : n.f0 = 4) : plainV n v a = !(v.getD n.f1.toNat false) := by
  unfold plainV; rw [if_neg (by omega), if_neg (by omega), if_pos h0]
theorem plainV5 {n : S45} (v : List Bool) (a : Int) (h0 : n.f0 = 5) : plainV n v a = (v.getD n.f1.toNat false && v.getD n.f2.toNat false) := by
  unfold plainV; rw [if_neg (by omega), if_neg (by omega), if_neg (by omega), if_pos h0]
theorem plainV6 {n : S45} (v : List Bool) (a : Int) (h0 : n.f0 = 6) : plainV n v a = (v.getD n.f1.toNat false || v.getD n.f2.toNat false) := by
  unfold plainV; rw [if_neg (by omega), if_neg (by omega), if_neg (by omega), if_neg (by omega), if_pos h0]
theorem plainV3 {n : S45} (v : List Bool) (a : Int) (h0 : n.f0 = 3) : plainV n v a = a.toNat.testBit n.f1.toNat := by
  unfold plainV; rw [if_neg (by omega), if_pos h0]
theorem plainV1 {n : S45} (v : List Bool) (a : Int) (h0 : n.f0 = 1) : plainV n v a = true := by
  unfold plainV; rw [if_pos h0]
theorem plainV2 {n : S45} (v : List Bool) (a : Int) (h0 : n.f0 = 2) : plainV n v a = false := by
  unfold plainV; rw [h0]; rfl
theorem valsT_length (a : Int) (l : List S45) : ∀ v, (valsT a v l).length = v.length + l.length := by
  induction l with
  | nil => intro v; rfl
  | cons n l ih =>
    intro v
    rw [show valsT a v (n :: l) = valsT a (v ++ [plainV n v a]) l from rfl, ih]
    simp; omega
theorem valsT_get_lt (a : Int) (l : List S45) : ∀ v i, i < v.length → (valsT a v l).getD i false = v.getD i false := by
  induction l with
  | nil => intro v i _; rfl
  | cons n l ih =>
    intro v i hi
    rw [show valsT a v (n :: l) = valsT a (v ++ [plainV n v a]) l from rfl, ih _ i (by simp; omega)]
    simp [List.getD_eq_getElem?_getD, List.getElem?_append_left hi]
theorem valsT_get (a : Int) (l : List S45) : ∀ v, (∀ j (h : j < l.length), NodeAt (v.length + j) l[j]) → ∀ j (h : j < l.length), (valsT a v l).getD (v.length + j) false = plainV l[j] (valsT a v l) a := by
  induction l with
  | nil => intro v _ j h; simp at h
  | cons n l ih =>
    intro v hn j h
    rw [show valsT a v (n :: l) = valsT a (v ++ [plainV n v a]) l from rfl]
    cases j with
    | zero =>
      have hn0 := hn 0 h
      rw [Nat.add_zero] at hn0 ⊢
      rw [valsT_get_lt a l _ v.length (by simp)]
      rw [List.getElem_cons_zero] at hn0 ⊢
      rw [plainV_congr (u := valsT a (v ++ [plainV n v a]) l) (v := v) a hn0 (fun i hi => by
        rw [valsT_get_lt a l _ i (by simp; omega)]
        simp [List.getD_eq_getElem?_getD, List.getElem?_append_left hi])]
      simp [List.getD_eq_getElem?_getD]
    | succ j =>
      have := ih (v ++ [plainV n v a]) (fun i hi => by
        have := hn (i + 1) (by simpa using hi)
        simpa [Nat.add_assoc, Nat.add_comm 1 i] using this) j (by simpa using h)
      simpa [Nat.add_assoc, Nat.add_comm 1 j] using this
/-- What each node of a tree says of a letter. -/
def vals (a : Int) (l : List S45) : List Bool := valsT a [] l
theorem vals_length (a : Int) (l : List S45) : (vals a l).length = l.length := by
  unfold vals; rw [valsT_length]; simp
theorem vals_get {a : Int} {l : List S45} (hn : ∀ j (h : j < l.length), NodeAt j l[j]) (j : Nat) (h : j < l.length) : (vals a l).getD j false = plainV l[j] (vals a l) a := by
  have := valsT_get a l [] (fun j h => by simpa using hn j h) j h
  unfold vals
  simpa using this
theorem impl_plain_eq (j : Nat) (n : S45) (v : List Bool) (a : Int) (ha : 0 ≤ a) (ha2 : a < 9223372036854775808) (hn : NodeAt j n) (hj : j ≤ v.length) : impl_plain.f n.f0 n.f1 n.f2 v a = some (plainV n v a) := by
  have rdb : ∀ m : Nat, rdOf false v (m : Int) = v.getD m false := fun m => rfl
  unfold impl_plain.f
  rcases hn with h0 | h0 | ⟨h0, h1, h2⟩ | ⟨h0, h1, h2⟩ | ⟨h0, h1, h2, h3, h4⟩ | ⟨h0, h1, h2, h3, h4⟩
  · rw [plainV1 _ _ h0, if_pos h0]
  · rw [plainV2 _ _ h0, h0]; rfl
  · rw [plainV3 _ _ h0, if_neg (by omega), if_pos h0, impl_has_eq a _ ha ha2 h1 (by omega), Option.bind_some]
  · obtain ⟨m, hm⟩ := Int.eq_ofNat_of_zero_le h1
    rw [plainV4 _ _ h0, if_neg (by omega), if_neg (by omega), if_pos h0, if_pos h1, if_pos (by omega), hm, rdb, Int.toNat_natCast]
  · obtain ⟨m, hm⟩ := Int.eq_ofNat_of_zero_le h1
    obtain ⟨p, hp⟩ := Int.eq_ofNat_of_zero_le h3
    rw [plainV5 _ _ h0, if_neg (by omega), if_neg (by omega), if_neg (by omega), if_pos h0, if_pos h1, if_pos (by omega), hm, hp, rdb, rdb, Int.toNat_natCast, Int.toNat_natCast]
    cases v.getD m false
    · rw [if_neg (by simp), Bool.false_and]
    · rw [if_pos rfl, if_pos (by omega), if_pos (by omega), Bool.true_and]
  · obtain ⟨m, hm⟩ := Int.eq_ofNat_of_zero_le h1
    obtain ⟨p, hp⟩ := Int.eq_ofNat_of_zero_le h3
    rw [plainV6 _ _ h0, if_neg (by omega), if_neg (by omega), if_neg (by omega), if_neg (by omega), if_pos h0, if_pos h1, if_pos (by omega), hm, hp, rdb, rdb, Int.toNat_natCast, Int.toNat_natCast]
    cases v.getD m false
    · rw [if_neg (by simp), if_pos (by omega), if_pos (by omega), Bool.false_or]
    · rw [if_pos rfl, Bool.true_or]
theorem take_get {v rest : List Bool} {i j : Nat} (hj : j ≤ v.length) (hi : i < j) : (v.take j ++ rest).getD i false = v.getD i false := by
  rw [List.getD_eq_getElem?_getD, List.getD_eq_getElem?_getD, List.getElem?_append_left (by rw [List.length_take]; omega), List.getElem?_take_of_lt hi]
theorem impl_holds_l0 (a : Int) (ha : 0 ≤ a) (ha2 : a < 9223372036854775808) (l : List S45) (hl1 : 1 ≤ l.length) (hl : l.length ≤ 1000) (hn : ∀ j (h : j < l.length), NodeAt j l[j]) (d : Nat) : ∀ (k i : Nat) (rest : List Bool), i + d = l.length → rest.length = d → d < k →
    impl_holds.l0 k l a ((vals a l).take i ++ rest) l (l.length : Int) (i : Int) = some ((vals a l).getD (l.length - 1) false) := by
  have hv := vals_length a l
  induction d with
  | zero =>
    intro k i rest hi hr hk
    obtain ⟨k, rfl⟩ := succ_of hk
    obtain rfl := List.eq_nil_of_length_eq_zero hr
    simp only [impl_holds.l0]
    rw [List.append_nil, List.take_of_length_le (by omega), if_neg (by omega), wrap64_id (n := (l.length : Int) - 1) (by omega) (by omega), if_pos (by omega), if_pos (by omega), show (l.length : Int) - 1 = ((l.length - 1 : Nat) : Int) by omega]
    rfl
  | succ d ih =>
    intro k i rest hi hr hk
    obtain ⟨k, rfl⟩ := succ_of hk
    have hlen : ((vals a l).take i ++ rest).length = l.length := by rw [List.length_append, List.length_take]; omega
    simp only [impl_holds.l0]
    rw [if_pos (by omega), if_pos (by omega), if_pos (by omega), rdD_at (by omega), impl_plain_eq i _ _ a ha ha2 (hn i (by omega)) (by omega), Option.bind_some, if_pos (by omega), wrap64_succ (by omega), plainV_congr (v := vals a l) a (hn i (by omega)) (fun j hj => take_get (by omega) hj), ← vals_get hn i (by omega), Int.toNat_natCast]
    have e : (vals a l).getD i false = (vals a l)[i]'(by omega) := by simp [List.getD_eq_getElem?_getD, List.getElem?_eq_getElem (show i < (vals a l).length by omega)]
    rw [e, take_set_drop (by omega) (by omega)]
    exact ih k (i + 1) rest.tail (by omega) (by rw [List.length_tail]; omega) (by omega)
theorem impl_holds_eq (a : Int) (ha : 0 ≤ a) (ha2 : a < 9223372036854775808) (l : List S45) (hl1 : 1 ≤ l.length) (hl : l.length ≤ 1000) (hn : ∀ j (h : j < l.length), NodeAt j l[j]) (k : Nat) (hk : 1000 < k) : impl_holds.f k l a = some ((vals a l).getD (l.length - 1) false) := by
  unfold impl_holds.f
  rw [if_pos (by omega), if_pos (by omega)]
  have := impl_holds_l0 a ha ha2 l hl1 hl hn l.length k 0 (List.replicate l.length false) (by omega) (by simp) (by omega)
  simpa using this
def holdsB (l : List S45) (a : Int) : Bool := treeB partsE l && (inR a 0 7 && (vals a l).getD (l.length - 1) false)
theorem impl_ExprHolds_eq (l : List S45) (a : Int) (hl : l.length ≤ 1048576) (k : Nat) (hk : 3000 < k) : impl_ExprHolds.f k l a = some (holdsB l a) := by
  unfold impl_ExprHolds.f holdsB impl_isLetter.f
  rw [impl_inRange_eq, Option.bind_some, Option.bind_some]
  by_cases ha : inR a 0 7 = true
  · have ha' := inR_iff.1 ha
    rw [if_pos ha, ha, Bool.true_and, impl_ExprOk_eq l hl k (by omega), Option.bind_some]
    by_cases h : treeB partsE l = true
    · obtain ⟨hl2, hn⟩ := tree_nodes h
      rw [if_pos h, h, Bool.true_and, impl_holds_eq a ha'.1 (by omega) l (by omega) (by omega) hn k (by omega), Option.bind_some]
    · rw [if_neg h]; simp at h; rw [h, Bool.false_and]
  · rw [if_neg ha]; simp at ha; rw [ha, Bool.false_and, Bool.and_false]
def letGo (f : Nat → Bool) : Nat → Nat → Int → Int
  | 0, _, s => s
  | d + 1, i, s => letGo f d (i + 1) (if f i then Go.bits .or .i64 s (bitZ i) else s)
def lettersZ (l : List S45) (a : Int) : Int := if treeB partsE l && inR a 0 3 then letGo (fun i => (vals (i : Int) l).getD (l.length - 1) false) (2 ^ a.toNat) 0 0 else 0
theorem pow8 {a : Int} (h : inR a 0 3 = true) : 2 ^ a.toNat ≤ 8 := by
  have := inR_iff.1 h
  exact Nat.pow_le_pow_right (by omega) (show a.toNat ≤ 3 by omega)
theorem impl_ExprLetters_l0 (l : List S45) (h : treeB partsE l = true) (a : Int) (ha : inR a 0 3 = true) (d : Nat) : ∀ (k i : Nat) (s : Int), i + d = 2 ^ a.toNat → d + 1100 < k →
    impl_ExprLetters.l0 k l s (bitZ a) (i : Int) = some (letGo (fun i => (vals (i : Int) l).getD (l.length - 1) false) d i s) := by
  have h8 := pow8 ha
  have ha' := inR_iff.1 ha
  obtain ⟨hl2, hn⟩ := tree_nodes h
  have hb : bitZ a = ((2 ^ a.toNat : Nat) : Int) := rfl
  induction d with
  | zero =>
    intro k i s hi hk
    obtain ⟨k, rfl⟩ := succ_of (show 0 < k by omega)
    simp only [impl_ExprLetters.l0]
    rw [if_neg (by omega)]
    rfl
  | succ d ih =>
    intro k i s hi hk
    obtain ⟨k, rfl⟩ := succ_of (show 0 < k by omega)
    simp only [impl_ExprLetters.l0]
    rw [if_pos (by omega), impl_holds_eq (i : Int) (by omega) (by omega) l (by omega) (by omega) hn k (by omega), Option.bind_some, impl_only_eq _ (by omega) (by omega), Option.bind_some, wrap64_succ (by omega), ih k (i + 1) _ (by omega) (by omega), ih k (i + 1) _ (by omega) (by omega)]
    rw [show letGo (fun i => (vals (i : Int) l).getD (l.length - 1) false) (d + 1) i s = letGo (fun i => (vals (i : Int) l).getD (l.length - 1) false) d (i + 1) (if (vals (i : Int) l).getD (l.length - 1) false then Go.bits .or .i64 s (bitZ i) else s) from rfl]
    cases (vals (i : Int) l).getD (l.length - 1) false <;> rfl
theorem impl_ExprLetters_eq (l : List S45) (a : Int) (hl : l.length ≤ 1048576) (k : Nat) (hk : 3000 < k) : impl_ExprLetters.f k l a = some (lettersZ l a) := by
  obtain ⟨j, hj⟩ : ∃ j, k = j + 1 := ⟨k - 1, by omega⟩
  unfold impl_ExprLetters.f lettersZ impl_isProps.f
  rw [impl_inRange_eq, Option.bind_some, Option.bind_some, impl_ExprOk_eq l hl k (by omega), Option.bind_some, hj]
  simp only [impl_ExprLetters.j0]
  by_cases ha : inR a 0 3 = true
  · have ha' := inR_iff.1 ha
    rw [if_pos ha, ha, Bool.and_true]
    by_cases h : treeB partsE l = true
    · have := impl_ExprLetters_l0 l h a ha (2 ^ a.toNat) j 0 0 (by omega) (by have := pow8 ha; omega)
      rw [h, if_neg (by simp), if_pos rfl, impl_only_eq a ha'.1 (by omega), Option.bind_some, ← this]; rfl
    · simp at h; rw [h]; rfl
  · rw [if_neg ha, if_pos trivial]; simp at ha; rw [ha, Bool.and_false]; rfl
/-- The letters of a product, p places looked at. -/
def prodE (x : Nat) : Nat → List S45 → List S45
  | 0, xs => xs
  | n + 1, xs => impl_ExprOf.stepL (x.testBit n) n (prodE x n xs)
/-- The sum of the products of the letters of s below n. -/
def sumE (s p : Nat) : Nat → List S45
  | 0 => []
  | n + 1 => if s.testBit n then (if sumE s p n = [] then prodE n p [] else prodE n p (sumE s p n) ++ [⟨6, ((sumE s p n).length : Int) - 1, ((prodE n p (sumE s p n)).length : Int) - 1⟩]) else sumE s p n
theorem stepL_length (b : Bool) (i : Nat) (xs : List S45) : xs.length + 1 ≤ (impl_ExprOf.stepL b i xs).length ∧ (impl_ExprOf.stepL b i xs).length ≤ xs.length + 3 := by
  unfold impl_ExprOf.stepL
  cases b <;> by_cases h : 0 < i <;> simp [h] <;> omega
theorem prodE_length (x p : Nat) (xs : List S45) : xs.length + p ≤ (prodE x p xs).length ∧ (prodE x p xs).length ≤ xs.length + 3 * p := by
  induction p with
  | zero => simp [prodE]
  | succ p ih =>
    have := stepL_length (x.testBit p) p (prodE x p xs)
    simp only [prodE]
    omega
theorem sumE_length (s p n : Nat) : (sumE s p n).length ≤ n * (3 * p + 1) := by
  induction n with
  | zero => simp [sumE]
  | succ n ih =>
    have e : (n + 1) * (3 * p + 1) = n * (3 * p + 1) + (3 * p + 1) := Nat.succ_mul _ _
    simp only [sumE]
    split
    · split
      · have := prodE_length n p ([] : List S45)
        simp at this
        omega
      · have := prodE_length n p (sumE s p n)
        rw [List.length_append, List.length_singleton]
        omega
    · omega
theorem prodO_eq (x : Nat) (hx : x < 1000) (xs : List S45) (hl : xs.length ≤ 1000) (p : Nat) (hp : p ≤ 3) : impl_ExprOf.prodO (x : Int) p xs = some (prodE x p xs) := by
  induction p with
  | zero => rfl
  | succ p ih =>
    have hpl := prodE_length x p xs
    rw [impl_ExprOf.prodO, ih (by omega), Option.bind_some, impl_has_eq (x : Int) _ (by omega) (by omega) (by omega) (by omega), Option.bind_some, if_pos (by omega)]
    rfl
theorem listFrom_snoc (s : Int) (d : Nat) : ∀ i, listFrom s i (d + 1) = listFrom s i d ++ (if hasZ s ((i + d : Nat) : Int) then [((i + d : Nat) : Int)] else []) := by
  induction d with
  | zero => intro i; simp [listFrom]
  | succ d ih =>
    intro i
    rw [show listFrom s i (d + 1 + 1) = (if hasZ s (i : Int) then (i : Int) :: listFrom s (i + 1) (d + 1) else listFrom s (i + 1) (d + 1)) from rfl, ih (i + 1), show listFrom s i (d + 1) = (if hasZ s (i : Int) then (i : Int) :: listFrom s (i + 1) d else listFrom s (i + 1) d) from rfl, show i + 1 + d = i + (d + 1) by omega]
    split <;> rfl
theorem sumO_congr (p : Nat) (A B : List Int) (n : Nat) (h : n ≤ A.length) : impl_ExprOf.sumO p (A ++ B) n = impl_ExprOf.sumO p A n := by
  induction n with
  | zero => rfl
  | succ n ih =>
    have e : rd (A ++ B) (n : Int) = rd A (n : Int) := by
      rw [rd_at (l := A ++ B) (i := n) (by rw [List.length_append]; omega), rd_at (l := A) (i := n) (by omega), List.getElem_append_left (by omega)]
    rw [impl_ExprOf.sumO, impl_ExprOf.sumO, ih (by omega), e]
theorem hasZ_nat {s : Nat} {n : Nat} (h : n ≤ 30) : hasZ (s : Int) (n : Int) = s.testBit n := by
  unfold hasZ
  rw [inR_iff.2 (by omega)]; rfl
theorem sumO_eq (s p : Nat) (hp0 : 1 ≤ p) (hp : p ≤ 3) (n : Nat) (hn : n ≤ 8) : impl_ExprOf.sumO p (listFrom s 0 n) (listFrom s 0 n).length = some (sumE s p n) ∧ (sumE s p n = [] ↔ (listFrom s 0 n).length = 0) := by
  induction n with
  | zero => exact ⟨rfl, by simp [sumE, listFrom]⟩
  | succ n ih =>
    obtain ⟨ih1, ih2⟩ := ih (by omega)
    have hl := sumE_length s p n
    have hl2 : n * (3 * p + 1) ≤ 7 * 10 := Nat.mul_le_mul (by omega) (by omega)
    have hll := listFrom_length s n 0
    rw [listFrom_snoc, Nat.zero_add, hasZ_nat (by omega)]
    simp only [sumE]
    cases hb : s.testBit n
    · simp only [Bool.false_eq_true, if_false, List.append_nil]
      exact ⟨ih1, ih2⟩
    · simp only [if_true]
      have e1 : rd (listFrom s 0 n ++ [(n : Int)]) ((listFrom s 0 n).length : Int) = n := by
        rw [rd_at (by simp)]; simp
      have hpl := prodE_length n p (sumE s p n)
      rw [List.length_append, List.length_singleton, impl_ExprOf.sumO, sumO_congr p _ _ _ (Nat.le_refl _), ih1, Option.bind_some, e1, if_pos (by omega), prodO_eq n (by omega) _ (by omega) p hp, Option.bind_some, if_pos (by omega)]
      by_cases h0 : sumE s p n = []
      · have := ih2.1 h0
        rw [if_neg (by omega), if_pos h0, h0]
        refine ⟨rfl, ⟨fun h => ?_, fun h => by omega⟩⟩
        rw [h0] at hpl
        rw [h] at hpl
        simp at hpl
        omega
      · rw [if_pos (Nat.pos_of_ne_zero fun h => h0 (ih2.2 h)), if_neg h0]
        exact ⟨rfl, ⟨fun h => by simp at h, fun h => by omega⟩⟩
/-- The expression of a set of letters of p places. -/
def exprZ (s p : Int) : List S45 × Bool :=
  if inR p 0 3 && (okB s && decide (s < 2 ^ 2 ^ p.toNat)) then (if s = 0 then ([⟨2, 0, 0⟩], true) else if s = 2 ^ 2 ^ p.toNat - 1 then ([⟨1, 0, 0⟩], true) else if (sumE s.toNat p.toNat (2 ^ p.toNat)).length > 31 then ([], false) else (sumE s.toNat p.toNat (2 ^ p.toNat), true)) else ([], false)
theorem exprZ_length (s p : Int) : (exprZ s p).1.length ≤ 31 := by
  unfold exprZ
  split
  · split
    · simp
    · split
      · simp
      · split
        · simp
        · simp only; omega
  · simp
theorem listFrom_far (s m : Nat) (hm : s < 2 ^ m) (d : Nat) : ∀ i, m ≤ i → listFrom (s : Int) i d = [] := by
  induction d with
  | zero => intro i _; rfl
  | succ d ih =>
    intro i hi
    have : hasZ (s : Int) (i : Int) = false := by
      unfold hasZ
      rw [Int.toNat_natCast, Int.toNat_natCast, Nat.testBit_lt_two_pow (Nat.lt_of_lt_of_le hm (Nat.pow_le_pow_right (by omega) hi)), Bool.and_false]
    rw [listFrom, this, if_neg (by simp), ih (i + 1) (by omega)]
theorem listFrom_add (s : Int) (a : Nat) : ∀ i b, listFrom s i (a + b) = listFrom s i a ++ listFrom s (i + a) b := by
  induction a with
  | zero => intro i b; simp [listFrom]
  | succ a ih =>
    intro i b
    rw [show a + 1 + b = (a + b) + 1 by omega, show listFrom s i (a + b + 1) = (if hasZ s (i : Int) then (i : Int) :: listFrom s (i + 1) (a + b) else listFrom s (i + 1) (a + b)) from rfl, ih (i + 1) b, show listFrom s i (a + 1) = (if hasZ s (i : Int) then (i : Int) :: listFrom s (i + 1) a else listFrom s (i + 1) a) from rfl, show i + 1 + a = i + (a + 1) by omega]
    split <;> rfl
theorem full_eq (p : Nat) (hp : p ≤ 3) : shl .i64 1 (shl .u64 1 (p : Int)) = (2 : Int) ^ 2 ^ p ∧ bitZ (bitZ (p : Int)) = (2 : Int) ^ 2 ^ p ∧ bitZ (p : Int) = ((2 ^ p : Nat) : Int) ∧ (2 : Int) ^ 2 ^ p ≤ 256 ∧ 2 ^ p ≤ 8 ∧ (2 : Int) ≤ 2 ^ 2 ^ p := by
  have : p = 0 ∨ p = 1 ∨ p = 2 ∨ p = 3 := by omega
  rcases this with rfl | rfl | rfl | rfl <;> refine ⟨by decide +kernel, by decide +kernel, by decide +kernel, by decide +kernel, by decide +kernel, by decide +kernel⟩
theorem impl_ExprOf_eq (s p : Int) (k : Nat) (hk : 70 ≤ k) : impl_ExprOf.f k s p = some (exprZ s p) := by
  unfold impl_ExprOf.f exprZ impl_isProps.f
  rw [impl_inRange_eq, Option.bind_some, Option.bind_some]
  cases hr : inR p 0 3
  · rw [if_neg (by simp), Bool.false_and, if_neg (by simp)]
  · obtain ⟨h0, h3⟩ := inR_iff.1 hr
    obtain ⟨q, rfl⟩ := Int.eq_ofNat_of_zero_le h0
    obtain ⟨_, f2, f3, f4, f5, f6⟩ := full_eq q (by omega)
    have f7 : bitZ (q : Int) ≤ 8 := by rw [f3]; exact Int.ofNat_le.2 f5
    have f8 := bitZ_pos (q : Int)
    rw [if_pos rfl, impl_SetOk_eq, Option.bind_some, Bool.true_and]
    cases hs : okB s
    · rw [if_neg (by simp), Bool.false_and, if_neg (by simp)]
    · obtain ⟨s0, s1⟩ := inR_iff.1 hs
      rw [if_pos rfl, impl_only_eq _ (by omega) (by omega), Option.bind_some, impl_only_eq _ (by omega) (by omega), Option.bind_some, f2, Bool.true_and, Int.toNat_natCast]
      by_cases hlt : s < 2 ^ 2 ^ q
      · rw [if_neg (by omega), decide_eq_true hlt, if_pos rfl, wrap64_id (by omega) (by omega)]
        by_cases e0 : s = 0
        · rw [if_pos e0, if_pos e0]
        · rw [if_neg e0, if_neg e0]
          by_cases e1 : s = 2 ^ 2 ^ q - 1
          · rw [if_pos e1, if_pos e1]
          · rw [if_neg e1, if_neg e1, if_pos (by omega)]
            obtain ⟨t, rfl⟩ := Int.eq_ofNat_of_zero_le s0
            have q1 : 1 ≤ q := by
              rcases Nat.eq_zero_or_pos q with rfl | h
              · have h2 : (2 : Int) ^ 2 ^ 0 = 2 := by decide
                rw [h2] at hlt e1
                omega
              · exact h
            have ht : t < 2 ^ 2 ^ q := by
              have : ((2 ^ 2 ^ q : Nat) : Int) = (2 : Int) ^ 2 ^ q := by simp
              omega
            have hL : listOf (t : Int) = listFrom t 0 (2 ^ q) := by
              unfold listOf
              rw [if_pos hs, show 31 = 2 ^ q + (31 - 2 ^ q) by omega, listFrom_add, listFrom_far t (2 ^ q) ht (31 - 2 ^ q) (0 + 2 ^ q) (by omega), List.append_nil]
            have hlen := sumE_length t q (2 ^ q)
            have hlen2 : 2 ^ q * (3 * q + 1) ≤ 8 * 10 := Nat.mul_le_mul (by omega) (by omega)
            unfold impl_ExprOf.restO
            rw [impl_SetList_eq _ k hk, Option.bind_some, hL, (sumO_eq t q q1 (by omega) (2 ^ q) (by omega)).1, Option.bind_some, if_pos (by omega), Int.toNat_natCast]
            split <;> rfl
      · rw [if_pos (by omega), decide_eq_false hlt, if_neg (by simp)]
theorem shr_and_one0 (x i : Nat) (hx : x < 1000) (hi : i ≤ 63) : (Go.bits .and .i64 (shr .i64 (x : Int) (i : Int)) 1 = 0) ↔ x.testBit i = false := by
  have hle : x / 2 ^ i ≤ x := Nat.div_le_self _ _
  rw [shr_nat _ _ (by omega)]
  have := i64_and (x / 2 ^ i) 1 (by omega) (by omega)
  rw [nat_mask1] at this
  rw [show (1 : Int) = ((1 : Nat) : Int) from rfl, this, Nat.testBit_eq_decide_div_mod_eq, decide_eq_false_iff_not]
  omega
theorem spec_l2Product_l0 (x p : Nat) (hx : x < 1000) (hp : p ≤ 3) (xs : List S45) (hl : xs.length ≤ 1000) (d : Nat) : ∀ (k i : Nat), i + d = p → d < k → spec_l2Product.l0 k (prodE x i xs) x p (i : Int) = some (prodE x p xs) := by
  induction d with
  | zero =>
    intro k i hi hk
    obtain ⟨k, rfl⟩ := succ_of hk
    obtain rfl : i = p := by omega
    simp only [spec_l2Product.l0]
    rw [if_neg (by omega)]
  | succ d ih =>
    intro k i hi hk
    obtain ⟨k, rfl⟩ := succ_of hk
    have hpl := prodE_length x i xs
    have ih' := ih k (i + 1) (by omega) (by omega)
    rw [prodE] at ih'
    unfold impl_ExprOf.stepL at ih'
    generalize prodE x i xs = ys at ih' hpl ⊢
    simp only [spec_l2Product.l0]
    rw [if_pos (by omega), if_pos (by omega), Option.bind_some, if_pos (by omega), wrap64_succ (by omega)]
    have el : ∀ z : S45, (ys ++ [z]).length = ys.length + 1 := fun z => by simp
    by_cases hb : x.testBit i = true
    · rw [if_neg (fun h => by rw [(shr_and_one0 x i hx (by omega)).1 h] at hb; cases hb)]
      rw [hb] at ih'
      simp only [if_true] at ih'
      by_cases h0 : 0 < i
      · rw [if_pos h0] at ih'
        rw [if_pos (by omega), if_pos (by rw [el]; omega), el, wrap64_id (n := (ys.length : Int) - 1) (by omega) (by omega), wrap64_id (n := ((ys.length + 1 : Nat) : Int) - 1) (by omega) (by omega)]
        rw [el] at ih'
        exact ih'
      · rw [if_neg h0] at ih'
        rw [if_neg (by omega)]
        exact ih'
    · simp only [Bool.not_eq_true] at hb
      rw [if_pos ((shr_and_one0 x i hx (by omega)).2 hb), if_pos (by rw [el]; omega), Option.bind_some, el, wrap64_id (n := ((ys.length + 1 : Nat) : Int) - 1) (by omega) (by omega)]
      rw [hb] at ih'
      simp only [Bool.false_eq_true, if_false, el] at ih'
      have el2 : ∀ z z' : S45, ((ys ++ [z]) ++ [z']).length = ys.length + 2 := fun z z' => by simp
      by_cases h0 : 0 < i
      · rw [if_pos h0] at ih'
        rw [if_pos (by omega), if_pos (by rw [el2]; omega), el2, wrap64_id (n := (ys.length : Int) - 1) (by omega) (by omega), wrap64_id (n := ((ys.length + 2 : Nat) : Int) - 1) (by omega) (by omega)]
        rw [el2] at ih'
        exact ih'
      · rw [if_neg h0] at ih'
        rw [if_neg (by omega)]
        exact ih'
theorem spec_ExprOf_l0 (s p : Nat) (hs : s ≤ 2147483647) (hp0 : 1 ≤ p) (hp : p ≤ 3) (d : Nat) : ∀ (k i : Nat), i + d = 2 ^ p → d + 10 < k →
    spec_ExprOf.l0 k (s : Int) (p : Int) [] (sumE s p i) (i : Int) = some (if (sumE s p (2 ^ p)).length > 31 then ([], false) else (sumE s p (2 ^ p), true)) := by
  have h8 : 2 ^ p ≤ 8 := (full_eq p hp).2.2.2.2.1
  have hsh : shl .i64 1 (p : Int) = ((2 ^ p : Nat) : Int) := by rw [shl_one p (by omega), bitZ_nat]
  induction d with
  | zero =>
    intro k i hi hk
    obtain ⟨k, rfl⟩ := succ_of (show 0 < k by omega)
    obtain rfl : i = 2 ^ p := by omega
    simp only [spec_ExprOf.l0]
    rw [if_pos (by omega), hsh, if_neg (by omega)]
    by_cases h : (sumE s p (2 ^ p)).length > 31
    · rw [if_pos h, if_pos (by omega)]
    · rw [if_neg h, if_neg (by omega)]
  | succ d ih =>
    intro k i hi hk
    obtain ⟨k, rfl⟩ := succ_of (show 0 < k by omega)
    have hl := sumE_length s p i
    have hl2 : i * (3 * p + 1) ≤ 8 * 10 := Nat.mul_le_mul (by omega) (by omega)
    have ih' := ih k (i + 1) (by omega) (by omega)
    simp only [sumE] at ih'
    simp only [spec_ExprOf.l0]
    rw [if_pos (by omega), hsh, if_pos (by omega), spec_l1Has_eq _ _ (by omega) (by omega), Option.bind_some, hasZ_nat (by omega), wrap64_succ (by omega)]
    cases hb : s.testBit i
    · rw [hb] at ih'
      rw [if_neg (by simp)]
      simpa using ih'
    · rw [hb] at ih'
      simp only [if_true] at ih'
      have hp1 := spec_l2Product_l0 i p (by omega) hp (sumE s p i) (by omega) p k 0 (by omega) (by omega)
      rw [prodE] at hp1
      have hpl := prodE_length i p (sumE s p i)
      unfold spec_l2Product.f
      rw [if_pos rfl, show (0 : Int) = ((0 : Nat) : Int) from rfl, hp1, Option.bind_some, wrap64_id (n := ((sumE s p i).length : Int) - 1) (by omega) (by omega), wrap64_id (n := ((prodE i p (sumE s p i)).length : Int) - 1) (by omega) (by omega)]
      by_cases h0 : sumE s p i = []
      · rw [h0] at ih' ⊢
        rw [if_pos rfl] at ih'
        rw [if_neg (by simp)]
        exact ih'
      · rw [if_neg h0] at ih'
        have : 0 < (sumE s p i).length := List.length_pos_iff.2 h0
        rw [if_pos (by omega), if_pos (by omega)]
        exact ih'
theorem spec_ExprOf_eq (s p : Int) (k : Nat) (hk : 70 ≤ k) : spec_ExprOf.f k s p = some (exprZ s p) := by
  unfold spec_ExprOf.f exprZ
  rw [Option.bind_some, spec_l1In_eq, Option.bind_some]
  cases hr : inR p 0 3
  · rw [if_neg (by simp), Bool.false_and, if_neg (by simp)]
  · obtain ⟨h0, h3⟩ := inR_iff.1 hr
    obtain ⟨q, rfl⟩ := Int.eq_ofNat_of_zero_le h0
    obtain ⟨f1, f2, f3, f4, f5, f6⟩ := full_eq q (by omega)
    obtain ⟨k, rfl⟩ := succ_of (show 0 < k by omega)
    rw [if_pos rfl, if_pos h0, spec_SetOk_eq, Option.bind_some, Bool.true_and, f1, wrap64_id (by omega) (by omega), Int.toNat_natCast]
    simp only [spec_ExprOf.j0]
    cases hs : okB s
    · rw [if_neg Bool.false_ne_true, if_pos trivial, Bool.false_and, if_neg Bool.false_ne_true]
    · obtain ⟨s0, s1⟩ := inR_iff.1 hs
      obtain ⟨t, rfl⟩ := Int.eq_ofNat_of_zero_le s0
      have hpn : ((2 ^ 2 ^ q : Nat) : Int) = (2 : Int) ^ 2 ^ q := by simp
      have hpp := Nat.two_pow_pos (2 ^ q)
      have hIn : (okB (t : Int) && okB ((2 : Int) ^ 2 ^ q - 1) && (Go.bits .and .i64 (t : Int) ((2 : Int) ^ 2 ^ q - 1) == (t : Int))) = decide ((t : Int) < 2 ^ 2 ^ q) := by
        have e : (2 : Int) ^ 2 ^ q - 1 = ((2 ^ 2 ^ q - 1 : Nat) : Int) := by omega
        have ok2 : okB ((2 : Int) ^ 2 ^ q - 1) = true := inR_iff.2 (by omega)
        rw [hs, ok2, Bool.true_and, Bool.true_and, e, i64_and _ _ (by omega) (by omega), Nat.and_two_pow_sub_one_eq_mod]
        rw [Bool.eq_iff_iff, beq_iff_eq, decide_eq_true_iff, ← hpn]
        constructor
        · intro h
          have := Nat.mod_lt t hpp
          omega
        · intro h
          rw [Nat.mod_eq_of_lt (by omega)]
      rw [if_pos rfl, spec_SetIn_eq, Option.bind_some, hIn, Bool.true_and]
      by_cases hlt : (t : Int) < 2 ^ 2 ^ q
      · rw [decide_eq_true hlt, if_pos rfl, Bool.not_true, if_neg (by simp)]
        by_cases e0 : (t : Int) = 0
        · rw [if_pos e0, if_pos e0]
        · rw [if_neg e0, if_neg e0]
          by_cases e1 : (t : Int) = 2 ^ 2 ^ q - 1
          · rw [if_pos e1, if_pos e1]
          · rw [if_neg e1, if_neg e1]
            have q1 : 1 ≤ q := by
              rcases Nat.eq_zero_or_pos q with rfl | h
              · have h2 : (2 : Int) ^ 2 ^ 0 = 2 := by decide
                rw [h2] at hlt e1
                omega
              · exact h
            have := spec_ExprOf_l0 t q (by omega) q1 (by omega) (2 ^ q) k 0 (by omega) (by omega)
            rw [sumE] at this
            exact this
      · rw [decide_eq_false hlt, Bool.not_false, if_pos rfl, if_neg Bool.false_ne_true]
/-- A made expression is a tree, and true at just the letters of its set (where it is no more than 31 nodes). -/
def goodE (p t : Nat) (l : List S45) : Bool := treeB partsE l && ((List.range (2 ^ p)).all fun x => (vals (x : Int) l).getD (l.length - 1) false == t.testBit x)
def chkE (p t : Nat) : Bool := let l := sumE t p (2 ^ p); decide (31 < l.length) || (decide (l = []) || goodE p t l)
set_option maxRecDepth 100000 in
theorem chk1 : ((List.range 4).all fun i => chkE 1 i) = true := by decide +kernel
set_option maxRecDepth 100000 in
theorem chk2 : ((List.range 16).all fun i => chkE 2 i) = true := by decide +kernel
set_option maxRecDepth 100000 in
theorem chk3_0 : ((List.range 32).all fun i => chkE 3 i) = true := by decide +kernel
set_option maxRecDepth 100000 in
theorem chk3_1 : ((List.range 32).all fun i => chkE 3 (32 + i)) = true := by decide +kernel
set_option maxRecDepth 100000 in
theorem chk3_2 : ((List.range 32).all fun i => chkE 3 (64 + i)) = true := by decide +kernel
set_option maxRecDepth 100000 in
theorem chk3_3 : ((List.range 32).all fun i => chkE 3 (96 + i)) = true := by decide +kernel
set_option maxRecDepth 100000 in
theorem chk3_4 : ((List.range 32).all fun i => chkE 3 (128 + i)) = true := by decide +kernel
set_option maxRecDepth 100000 in
theorem chk3_5 : ((List.range 32).all fun i => chkE 3 (160 + i)) = true := by decide +kernel
set_option maxRecDepth 100000 in
theorem chk3_6 : ((List.range 32).all fun i => chkE 3 (192 + i)) = true := by decide +kernel
set_option maxRecDepth 100000 in
theorem chk3_7 : ((List.range 32).all fun i => chkE 3 (224 + i)) = true := by decide +kernel
theorem all_at {f : Nat → Bool} {n : Nat} (h : ((List.range n).all f) = true) {i : Nat} (hi : i < n) : f i = true := List.all_eq_true.1 h i (List.mem_range.2 hi)
theorem chkE_ok (p t : Nat) (h1 : 1 ≤ p) (h3 : p ≤ 3) (ht : t < 2 ^ 2 ^ p) : chkE p t = true := by
  have : p = 1 ∨ p = 2 ∨ p = 3 := by omega
  rcases this with rfl | rfl | rfl
  · exact all_at chk1 ht
  · exact all_at chk2 ht
  · have ht' : t < 256 := ht
    have : t < 32 ∨ (32 ≤ t ∧ t < 64) ∨ (64 ≤ t ∧ t < 96) ∨ (96 ≤ t ∧ t < 128) ∨ (128 ≤ t ∧ t < 160) ∨ (160 ≤ t ∧ t < 192) ∨ (192 ≤ t ∧ t < 224) ∨ (224 ≤ t ∧ t < 256) := by omega
    rcases this with h | h | h | h | h | h | h | h
    · exact all_at chk3_0 h
    · obtain ⟨j, rfl⟩ := Nat.exists_eq_add_of_le h.1; exact all_at chk3_1 (by omega)
    · obtain ⟨j, rfl⟩ := Nat.exists_eq_add_of_le h.1; exact all_at chk3_2 (by omega)
    · obtain ⟨j, rfl⟩ := Nat.exists_eq_add_of_le h.1; exact all_at chk3_3 (by omega)
    · obtain ⟨j, rfl⟩ := Nat.exists_eq_add_of_le h.1; exact all_at chk3_4 (by omega)
    · obtain ⟨j, rfl⟩ := Nat.exists_eq_add_of_le h.1; exact all_at chk3_5 (by omega)
    · obtain ⟨j, rfl⟩ := Nat.exists_eq_add_of_le h.1; exact all_at chk3_6 (by omega)
    · obtain ⟨j, rfl⟩ := Nat.exists_eq_add_of_le h.1; exact all_at chk3_7 (by omega)
theorem sumE_some (t p : Nat) (hp : 1 ≤ p) (n : Nat) (h : sumE t p n = []) : ∀ i, i < n → t.testBit i = false := by
  induction n with
  | zero => intro i h; omega
  | succ n ih =>
    simp only [sumE] at h
    cases hb : t.testBit n
    · rw [hb] at h
      intro i hi
      rcases Nat.lt_or_eq_of_le (Nat.le_of_lt_succ hi) with h2 | h2
      · exact ih (by simpa using h) i h2
      · rw [h2]; exact hb
    · exfalso
      rw [hb, if_pos rfl] at h
      have hpl := prodE_length n p ([] : List S45)
      split at h
      · rw [h] at hpl; simp at hpl; omega
      · simp at h
theorem exprZ_good {s p : Int} {l : List S45} (h : exprZ s p = (l, true)) : ∃ t q : Nat, s = (t : Int) ∧ p = (q : Int) ∧ q ≤ 3 ∧ t < 2 ^ 2 ^ q ∧ t ≤ 255 ∧ goodE q t l = true := by
  unfold exprZ at h
  by_cases c : (inR p 0 3 && (okB s && decide (s < 2 ^ 2 ^ p.toNat))) = true
  · rw [if_pos c] at h
    simp only [Bool.and_eq_true, decide_eq_true_iff] at c
    obtain ⟨c1, c2, c3⟩ := c
    have c1' := inR_iff.1 c1
    have c2' := inR_iff.1 c2
    obtain ⟨q, rfl⟩ := Int.eq_ofNat_of_zero_le c1'.1
    obtain ⟨t, rfl⟩ := Int.eq_ofNat_of_zero_le c2'.1
    rw [Int.toNat_natCast] at c3 h
    rw [Int.toNat_natCast] at h
    obtain ⟨_, _, _, f4, f5, f6⟩ := full_eq q (by omega)
    have hpn : ((2 ^ 2 ^ q : Nat) : Int) = (2 : Int) ^ 2 ^ q := by simp
    have ht : t < 2 ^ 2 ^ q := by omega
    refine ⟨t, q, rfl, rfl, by omega, ht, by omega, ?_⟩
    by_cases e0 : (t : Int) = 0
    · rw [if_pos e0] at h
      obtain rfl := (Prod.mk.inj h).1
      obtain rfl : t = 0 := by omega
      have : q = 0 ∨ q = 1 ∨ q = 2 ∨ q = 3 := by omega
      rcases this with rfl | rfl | rfl | rfl <;> decide +kernel
    · rw [if_neg e0] at h
      by_cases e1 : (t : Int) = 2 ^ 2 ^ q - 1
      · rw [if_pos e1] at h
        obtain rfl := (Prod.mk.inj h).1
        obtain rfl : t = 2 ^ 2 ^ q - 1 := by omega
        have : q = 0 ∨ q = 1 ∨ q = 2 ∨ q = 3 := by omega
        rcases this with rfl | rfl | rfl | rfl <;> decide +kernel
      · rw [if_neg e1] at h
        by_cases hl : (sumE t q (2 ^ q)).length > 31
        · rw [if_pos hl] at h; cases (Prod.mk.inj h).2
        · rw [if_neg hl] at h
          obtain rfl := (Prod.mk.inj h).1
          have q1 : 1 ≤ q := by
            rcases Nat.eq_zero_or_pos q with rfl | h
            · have h2 : (2 : Int) ^ 2 ^ 0 = 2 := by decide
              rw [h2] at c3 e1
              omega
            · exact h
          have hc := chkE_ok q t q1 (by omega) ht
          unfold chkE at hc
          simp only [Bool.or_eq_true, decide_eq_true_iff] at hc
          rcases hc with hc | hc | hc
          · omega
          · exfalso
            have := sumE_some t q q1 _ hc
            have e : t = 0 := by
              apply Nat.eq_of_testBit_eq
              intro i
              rw [Nat.zero_testBit]
              by_cases hi : i < 2 ^ q
              · exact this i hi
              · exact Nat.testBit_lt_two_pow (Nat.lt_of_lt_of_le ht (Nat.pow_le_pow_right (by omega) (by omega)))
            omega
          · exact hc
  · rw [if_neg c] at h
    cases (Prod.mk.inj h).2
theorem exprZ_bad {s p : Int} {l : List S45} (h : exprZ s p = (l, false)) : l = [] := by
  unfold exprZ at h
  split at h
  · split at h
    · cases (Prod.mk.inj h).2
    · split at h
      · cases (Prod.mk.inj h).2
      · split at h
        · exact (Prod.mk.inj h).1.symm
        · cases (Prod.mk.inj h).2
  · exact (Prod.mk.inj h).1.symm
theorem letGo_eq (t : Nat) (f : Nat → Bool) (d : Nat) : ∀ i, (∀ j, j < i + d → f j = t.testBit j) → i + d ≤ 30 → letGo f d i ((t % 2 ^ i : Nat) : Int) = ((t % 2 ^ (i + d) : Nat) : Int) := by
  induction d with
  | zero => intro i _ _; rfl
  | succ d ih =>
    intro i hf hi
    have hi' := ih (i + 1) (fun j hj => hf j (by omega)) (by omega)
    rw [show letGo f (d + 1) i ((t % 2 ^ i : Nat) : Int) = letGo f d (i + 1) (if f i then Go.bits .or .i64 ((t % 2 ^ i : Nat) : Int) (bitZ i) else ((t % 2 ^ i : Nat) : Int)) from rfl, hf i (by omega), show i + (d + 1) = i + 1 + d by omega, ← hi']
    congr 1
    have hlt : t % 2 ^ i < 2 ^ i := Nat.mod_lt _ (Nat.two_pow_pos i)
    have hpw := pow_le_30 (n := i) (by omega)
    have hms : t % 2 ^ (i + 1) = t % 2 ^ i + 2 ^ i * (t / 2 ^ i % 2) := Nat.mod_pow_succ
    have htb := Nat.testBit_eq_decide_div_mod_eq (x := t) (i := i)
    have hm2 : t / 2 ^ i % 2 < 2 := Nat.mod_lt _ (by omega)
    cases hb : t.testBit i
    · rw [hb] at htb
      have h0 : t / 2 ^ i % 2 = 0 := by have := of_decide_eq_false htb.symm; omega
      rw [if_neg (by simp), hms, h0, Nat.mul_zero, Nat.add_zero]
    · rw [hb] at htb
      have h1 : t / 2 ^ i % 2 = 1 := of_decide_eq_true htb.symm
      rw [if_pos rfl, or_bitZ _ _ (by omega) (by omega) (by omega) (by omega)]
      unfold putZ
      have := Nat.two_pow_add_eq_or_of_lt (b := t % 2 ^ i) (i := i) hlt 1
      rw [Nat.mul_one] at this
      rw [Int.toNat_natCast, Int.toNat_natCast, hms, h1, Nat.mul_one, Nat.add_comm, this, Nat.or_comm]
theorem spec_DrawExprOf_ok (b : List Int) (hl : b.length ≤ 1048576) (k : Nat) (hk : 5000 < k) : ∃ s p, spec_DrawExprOf.f k b = some (s, p) := by
  obtain ⟨k, rfl⟩ : ∃ j, k = j + 2 := ⟨k - 2, by omega⟩
  unfold spec_DrawExprOf.f
  obtain ⟨h, e⟩ := l1New_ok b (k + 2) (by omega)
  obtain ⟨r1, i1, h1, e1, a1, b1, _, c1⟩ := l1Below_ok b 0 h 6 hl ⟨by omega, by omega⟩
  have b1' := b1 (by omega)
  obtain ⟨r2, i2, h2, e2, a2, b2, _, c2⟩ := l1Below_ok b i1 h1 256 hl c1
  have J1 : ∀ (x5 x6 i h : Int), CurOk b i → ∃ s p, spec_DrawExprOf.j1 (k + 1) x5 x6 b i h = some (s, p) := by
    intro x5 x6 i h hi
    simp only [spec_DrawExprOf.j1]
    obtain ⟨r, i3, h3, e3, c3⟩ := l1Once_ok b i h 15 hl hi
    rw [e3, Option.bind_some]
    by_cases hr : r = true
    · rw [if_pos hr]
      obtain ⟨r4, i4, h4, e4, c4⟩ := l1PickInt_ok b i3 h3 [(-1), 255, 256, 0, 2147483648] hl c3 (by simp)
      rw [e4, Option.bind_some]
      exact ⟨_, _, rfl⟩
    · rw [if_neg hr]
      exact ⟨_, _, rfl⟩
  rw [e, Option.bind_some, e1, Option.bind_some, e2, Option.bind_some, spec_l1In_eq, Option.bind_some]
  rw [wrap64_id (n := r1 - 1) (by omega) (by omega)]
  simp only [spec_DrawExprOf.j0]
  by_cases hr : inR (r1 - 1) 0 2 = true
  · have := inR_iff.1 hr
    rw [if_pos hr]
    obtain ⟨r3, i3, h3, e3, c3⟩ := l1Once_ok b i2 h2 4 hl c2
    rw [e3, Option.bind_some]
    cases r3
    · rw [Bool.not_false, if_pos rfl, if_pos (by omega)]
      exact J1 _ _ _ _ c3
    · rw [Bool.not_true, if_neg Bool.false_ne_true]
      exact J1 _ _ _ _ c3
  · rw [if_neg hr, if_neg Bool.false_ne_true]
    exact J1 _ _ _ _ c2
theorem lawExprOf_l0 (t q : Nat) (l : List S45) (hq : q ≤ 3) (ht : t < 2 ^ 2 ^ q) (ht2 : t ≤ 255) (hg : goodE q t l = true) (d : Nat) : ∀ (k x : Nat), x + d = 2 ^ q → d + 5000 < k → laws_FnExprOf.l0 k (t : Int) (q : Int) l (x : Int) = some true := by
  have h8 : 2 ^ q ≤ 8 := (full_eq q hq).2.2.2.2.1
  have hsh : shl .i64 1 (q : Int) = ((2 ^ q : Nat) : Int) := by rw [shl_one q (by omega), bitZ_nat]
  unfold goodE at hg
  rw [Bool.and_eq_true] at hg
  obtain ⟨hT, hv⟩ := hg
  have hlen := (tree_nodes hT).1
  have hv' : ∀ i : Nat, i < 2 ^ q → (vals (i : Int) l).getD (l.length - 1) false = t.testBit i := fun i hi => by simpa using all_at hv hi
  induction d with
  | zero =>
    intro k x hx hk
    obtain ⟨k, rfl⟩ := succ_of (show 0 < k by omega)
    simp only [laws_FnExprOf.l0]
    have hL : lettersZ l (q : Int) = (t : Int) := by
      unfold lettersZ
      rw [hT, Bool.true_and, if_pos (inR_iff.2 (by omega)), Int.toNat_natCast]
      have := letGo_eq t (fun i => (vals (i : Int) l).getD (l.length - 1) false) (2 ^ q) 0 (fun j hj => hv' j (by omega)) (by omega)
      rw [Nat.zero_add, Nat.mod_eq_of_lt ht, Nat.pow_zero, Nat.mod_one] at this
      exact this
    rw [if_pos (by omega), hsh, if_neg (by omega), impl_ExprLetters_eq l _ (by omega) k (by omega), Option.bind_some, if_pos hL, impl_ExprOk_eq l (by omega) k (by omega), Option.bind_some, hT]
  | succ d ih =>
    intro k x hx hk
    obtain ⟨k, rfl⟩ := succ_of (show 0 < k by omega)
    simp only [laws_FnExprOf.l0]
    have hh : holdsB l (x : Int) = t.testBit x := by
      unfold holdsB
      rw [hT, Bool.true_and, inR_iff.2 (by omega), Bool.true_and, hv' x (by omega)]
    rw [if_pos (by omega), hsh, if_pos (by omega), impl_ExprHolds_eq l _ (by omega) k (by omega), Option.bind_some, spec_SetHas_eq, Option.bind_some, hh, hasZ_nat (by omega), show okB (t : Int) = true from inR_iff.2 (by omega), Bool.true_and, bne_self_eq_false, if_neg Bool.false_ne_true, wrap64_succ (by omega)]
    exact ih k (x + 1) (by omega) (by omega)
end hFnExprOf
open hFnExprOf
theorem FnExprOf : laws_FnExprOf.Pure := by
  intro b hb wb
  obtain ⟨K, hK⟩ : ∃ K, K = 20000 := ⟨_, rfl⟩
  refine ⟨K, ?_⟩
  unfold laws_FnExprOf.f
  rw [big_eq, Option.bind_some]
  by_cases h0 : 1048576 < b.length
  · rw [if_pos (decide_eq_true h0)]
  · obtain ⟨s, p, e⟩ := spec_DrawExprOf_ok b (by omega) K (by omega)
    rw [if_neg (by simp; omega), e, Option.bind_some, impl_ExprOf_eq s p K (by omega), Option.bind_some, spec_ExprOf_eq s p K (by omega), Option.bind_some, bne_self_eq_false, if_neg Bool.false_ne_true]
    cases hz : exprZ s p with
    | mk l ok =>
      cases ok
      · rw [if_neg Bool.false_ne_true, exprZ_bad hz]; rfl
      · rw [if_pos rfl]
        obtain ⟨t, q, rfl, rfl, h1, h2, h3, h4⟩ := exprZ_good hz
        have h8 : 2 ^ q ≤ 8 := (full_eq q h1).2.2.2.2.1
        exact lawExprOf_l0 t q l h1 h2 h3 h4 (2 ^ q) K 0 (by omega) (by omega)
end Go.Proofs.Ytjnieoogddmmcaa.Pure
