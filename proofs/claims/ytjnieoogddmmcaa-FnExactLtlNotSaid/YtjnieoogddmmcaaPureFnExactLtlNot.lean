/- What the printed functions of FnExactLtlNot come to, one lemma a function, and from these the law: for all arguments (within the bounds that the printed statement names) it answers true. -/
import Derived.Test.YtjnieoogddmmcaaMFnExactLtlNotx6
import Derived.Test.YtjnieoogddmmcaaBase
import Derived.Test.YtjnieoogddmmcaaBaseL
import Derived.Test.YtjnieoogddmmcaaBaseS
import Derived.Test.YtjnieoogddmmcaaBaseW
namespace Go.Proofs.Ytjnieoogddmmcaa.Pure
open Go.RowKit Go.Proofs.Ytjnieoogddmmcaa.MFnExactLtlNot Go.Proofs.YtjnieoogddmmcaaW.PrintWords Go.Proofs.YtjnieoogddmmcaaW.PrintLast Go.Proofs.Ytjnieoogddmmcaa.Base

namespace hFnExactLtlNot
theorem spec_l1In_eq (a b c : Int) : spec_l1In.f a b c = some (inR a b c) := by
  unfold spec_l1In.f inR
  by_cases h : a ≥ b
  · rw [if_pos h]; simp [show b ≤ a from h]
  · rw [if_neg h]; simp; omega
theorem impl_inRange_eq (a b c : Int) : impl_inRange.f a b c = some (inR a b c) := by
  unfold impl_inRange.f inR
  by_cases h : a ≥ b
  · rw [if_pos h]; simp [show b ≤ a from h]
  · rw [if_neg h]; simp; omega
deriving instance DecidableEq for S45
theorem rdD_at {l : List S45} {i : Nat} (h : i < l.length) : rd_T45 l (i : Int) = l[i] := by
  simp [rd_T45, List.getD_eq_getElem?_getD, List.getElem?_eq_getElem h]
theorem eqNode_eq (a b : S45) : laws_eqNode.f a.f0 a.f1 a.f2 b.f0 b.f1 b.f2 = some (decide (a = b)) := by
  unfold laws_eqNode.f
  obtain ⟨a0, a1, a2⟩ := a
  obtain ⟨b0, b1, b2⟩ := b
  by_cases h0 : a0 = b0 <;> by_cases h1 : a1 = b1 <;> by_cases h2 : a2 = b2 <;> simp [h0, h1, h2]
theorem eqNodeS_l0 (a b : List S45) (hab : a.length = b.length) (hl : a.length ≤ 1099511627776) (d : Nat) : ∀ (k i : Nat), i + d = a.length → d < k → laws_eqNodeS.l0 k a b (i : Int) = some (decide (a.drop i = b.drop i)) := by
  induction d with
  | zero =>
    intro k i hi hk
    obtain ⟨k, rfl⟩ := succ_of hk
    simp only [laws_eqNodeS.l0]
    rw [if_neg (by omega), List.drop_eq_nil_of_le (by omega), List.drop_eq_nil_of_le (by omega)]
    simp
  | succ d ih =>
    intro k i hi hk
    obtain ⟨k, rfl⟩ := succ_of hk
    simp only [laws_eqNodeS.l0]
    rw [if_pos (by omega), if_pos (by omega), if_pos (by omega), rdD_at (by omega), rdD_at (by omega), wrap64_succ (by omega), eqNode_eq]
    rw [drop_cons (l := a) (i := i) (by omega), drop_cons (l := b) (i := i) (by omega)]
    simp only [Option.bind_some]
    by_cases h : a[i] = b[i]
    · rw [decide_eq_true h, if_pos rfl, ih k (i + 1) (by omega) (by omega), h]
      congr 1
      exact decide_eq_decide.2 ⟨fun e => by rw [e], fun e => (List.cons.inj e).2⟩
    · rw [decide_eq_false h, if_neg (by simp)]
      congr 1
      exact (decide_eq_false (fun e => h (List.cons.inj e).1)).symm
theorem eqNodeS_eq (a b : List S45) (hl : a.length ≤ 1099511627776) (k : Nat) (hk : a.length < k) : laws_eqNodeS.f k a b = some (decide (a = b)) := by
  unfold laws_eqNodeS.f
  by_cases h : a.length = b.length
  · rw [if_pos (by omega)]
    exact eqNodeS_l0 a b h hl a.length k 0 (by omega) hk
  · rw [if_neg (by omega)]
    have : a ≠ b := fun e => h (by rw [e])
    simp [this]
theorem szNodeS_eq (l : List S49) (a : Int) (h0 : 0 ≤ a) (h1 : a ≤ 1048576) (hl : l.length ≤ 9223372036854775807) : laws_szNodeS.f l a = some (if a < l.length then -1 else a - l.length) := by
  unfold laws_szNodeS.f
  rw [wrap64_id (by omega) (by omega)]
  by_cases h : a < (l.length : Int)
  · rw [if_pos (by omega), if_pos h]
  · rw [if_neg (by omega), if_neg h]
def convD (e : S49) : S45 := ⟨e.f0, e.f1, e.f2⟩
theorem rdDP_at {l : List S49} {i : Nat} (h : i < l.length) : rd_T49 l (i : Int) = l[i] := by
  simp [rd_T49, List.getD_eq_getElem?_getD, List.getElem?_eq_getElem h]
theorem toNodeS_l0 (l : List S49) (hl : l.length ≤ 1099511627776) (d : Nat) : ∀ (k i : Nat) (rest : List S45), i + d = l.length → rest.length = d → d < k → laws_toNodeS.l0 k l ((l.map convD).take i ++ rest) (i : Int) = some (l.map convD) := by
  induction d with
  | zero =>
    intro k i rest hi hr hk
    obtain ⟨k, rfl⟩ := succ_of hk
    simp only [laws_toNodeS.l0]
    rw [if_neg (by omega), List.eq_nil_of_length_eq_zero hr, List.append_nil, List.take_of_length_le (by rw [List.length_map]; omega)]
  | succ d ih =>
    intro k i rest hi hr hk
    obtain ⟨k, rfl⟩ := succ_of hk
    simp only [laws_toNodeS.l0]
    have hll : ((l.map convD).take i ++ rest).length = l.length := by rw [List.length_append, List.length_take, List.length_map]; omega
    have hm : (l.map convD).length = l.length := List.length_map _
    rw [if_pos (by omega), if_pos (by omega), rdDP_at (by omega), wrap64_succ (by omega)]
    simp only [laws_toNode.f, Option.bind_some]
    rw [if_pos (by omega)]
    have e : (⟨l[i].f0, l[i].f1, l[i].f2⟩ : S45) = (l.map convD)[i] := by rw [List.getElem_map]; rfl
    rw [show ((i : Int)).toNat = i from rfl, e, take_set_drop (by omega) (by omega)]
    exact ih k (i + 1) rest.tail (by omega) (by rw [List.length_tail]; omega) (by omega)
theorem toNodeS_eq (l : List S49) (hl : l.length ≤ 1099511627776) (k : Nat) (hk : l.length < k) : laws_toNodeS.f k l = some (l.map convD) := by
  unfold laws_toNodeS.f
  rw [if_pos (by omega), if_pos (by simp; omega)]
  exact toNodeS_l0 l hl l.length k 0 _ (by omega) (by simp) hk
/-- One node more of a list of trees: where its own tree begins; nothing where it is no tree. P: how many parts a node has. -/
def begStep (P : S45 → Int) (b : List Int) (n : S45) : Option (List Int) :=
  if P n = 0 then some (b ++ [(b.length : Int)])
  else if P n = 1 then (if b.length = 0 then none else if n.f1 = (b.length : Int) - 1 ∧ n.f2 = 0 then some (b ++ [b.getD (b.length - 1) 0]) else none)
  else if P n = 2 then (if b.length = 0 then none else if n.f2 = (b.length : Int) - 1 ∧ n.f1 = b.getD (b.length - 1) 0 - 1 ∧ 0 ≤ n.f1 then some (b ++ [b.getD n.f1.toNat 0]) else none)
  else none
def begs (P : S45 → Int) : List Int → List S45 → Option (List Int)
  | b, [] => some b
  | b, n :: l => (begStep P b n).bind fun b' => begs P b' l
def BegOk (b : List Int) : Prop := ∀ j, j < b.length → 0 ≤ b.getD j 0 ∧ b.getD j 0 ≤ j
theorem BegOk_nil : BegOk [] := fun j h => by simp at h
theorem getD_snoc (b : List Int) (x : Int) (j : Nat) : (b ++ [x]).getD j 0 = if j < b.length then b.getD j 0 else if j = b.length then x else 0 := by
  simp only [List.getD_eq_getElem?_getD, List.getElem?_append]
  by_cases h : j < b.length
  · rw [if_pos h, if_pos h]
  · rw [if_neg h, if_neg h]
    by_cases h2 : j = b.length
    · rw [if_pos h2, h2]; simp
    · rw [if_neg h2]
      rw [List.getElem?_eq_none (by simp; omega)]; rfl
theorem BegOk_snoc {b : List Int} {x : Int} (h : BegOk b) (h0 : 0 ≤ x) (h1 : x ≤ b.length) : BegOk (b ++ [x]) := by
  intro j hj
  rw [List.length_append, List.length_singleton] at hj
  rw [getD_snoc]
  by_cases h2 : j < b.length
  · rw [if_pos h2]; exact h j h2
  · rw [if_neg h2, if_pos (by omega)]; omega
/-- A list is a tree of nodes. -/
def treeB (P : S45 → Int) (l : List S45) : Bool := inR l.length 1 31 && (match begs P [] l with | none => false | some b => b.getD (l.length - 1) 0 == 0)
def endB (n : Nat) : Option (List Int) → List Int × Bool
  | none => ([], false)
  | some b => (b, b.getD (n - 1) 0 == 0)
def leafZ (n : S45) (m : Int) : Int := if n.f2 = 0 then (if inR n.f1 0 m then 0 else -1) else -1
theorem impl_leaf_eq (n : S45) (m : Int) : impl_leaf.f n.f0 n.f1 n.f2 m = some (leafZ n m) := by
  unfold impl_leaf.f leafZ
  rw [impl_inRange_eq]
  by_cases h : n.f2 = 0
  · rw [if_pos h, if_pos h]
    simp only [Option.bind_some]
    split <;> rfl
  · rw [if_neg h, if_neg h]
def partsE (n : S45) : Int := if n.f0 = 1 then leafZ n 0 else if n.f0 = 2 then leafZ n 0 else if n.f0 = 3 then leafZ n 2 else if n.f0 = 4 then 1 else if n.f0 = 5 then 2 else if n.f0 = 6 then 2 else -1
theorem impl_exprParts_eq (n : S45) (k : Nat) (hk : 2 < k) : impl_exprParts.f k n.f0 n.f1 n.f2 = some (partsE n) := by
  unfold impl_exprParts.f partsE
  obtain ⟨k, rfl⟩ := succ_of hk
  simp only [impl_exprParts.j0, impl_leaf_eq, Option.bind_some]
  by_cases h1 : n.f0 = 1
  · rw [if_pos h1, if_pos h1, h1]; rfl
  · rw [if_neg h1, if_neg h1]
    by_cases h2 : n.f0 = 2
    · rw [if_pos h2, h2]; rfl
    · rw [if_neg h2, if_neg (by simpa using h2)]
      split <;> (try split) <;> (try split) <;> (try split) <;> rfl
def partsL (n : S45) : Int := if n.f0 = 7 then 1 else if n.f0 = 10 then 1 else if n.f0 = 11 then 1 else if n.f0 = 8 then 2 else if n.f0 = 9 then 2 else partsE n
theorem impl_ltlParts_eq (n : S45) (k : Nat) (hk : 4 < k) : impl_ltlParts.f k n.f0 n.f1 n.f2 = some (partsL n) := by
  unfold impl_ltlParts.f partsL
  obtain ⟨k, rfl⟩ := succ_of hk
  simp only [impl_ltlParts.j0]
  rw [impl_exprParts_eq n k (by omega)]
  simp only [Option.bind_some]
  by_cases h1 : n.f0 = 7
  · rw [if_pos h1, if_pos h1, h1]; rfl
  · rw [if_neg h1, if_neg h1]
    by_cases h2 : n.f0 = 10
    · rw [if_pos h2, if_pos h2, h2]; rfl
    · rw [if_neg h2, if_neg h2]
      by_cases h3 : n.f0 = 11
      · rw [h3]; rfl
      · rw [if_neg (by simpa using h3), if_neg h3]
        split <;> (try split) <;> rfl
theorem impl_begins_l0 (l : List S45) (h1 : 1 ≤ l.length) (hl : l.length ≤ 1000) (d : Nat) : ∀ (k : Nat) (b rest : List Int), rest.length = d → b.length + d = l.length → BegOk b → d + 10 < k →
    impl_begins.l0 k l (b ++ rest) l (l.length : Int) (b.length : Int) = some (endB l.length (begs partsL b (l.drop b.length))) := by
  induction d with
  | zero =>
    intro k b rest hr hb hB hk
    obtain rfl := List.eq_nil_of_length_eq_zero hr
    obtain ⟨k, rfl⟩ := succ_of hk
    simp only [impl_begins.l0, List.append_nil]
    rw [if_neg (by omega), wrap64_id (n := (l.length : Int) - 1) (by omega) (by omega), if_pos (by omega), if_pos (by omega), List.drop_eq_nil_of_le (by omega), show (l.length : Int) - 1 = ((l.length - 1 : Nat) : Int) by omega, rd_nat]
    rfl
  | succ d ih =>
    intro k b rest hr hb hB hk
    obtain ⟨k, rfl⟩ := succ_of hk
    obtain ⟨r, rest2, rfl⟩ : ∃ (r : Int) (t : List Int), rest = r :: t := by
      match rest, hr with
      | r :: t, _ => exact ⟨r, t, rfl⟩
    have hr' : rest2.length = d := by simpa using hr
    have hlen : (b ++ r :: rest2).length = l.length := by simp; omega
    have hset : ∀ v : Int, (b ++ r :: rest2).set b.length v = (b ++ [v]) ++ rest2 := by intro v; simp
    have hset2 : ∀ u v : Int, ((b ++ [u]) ++ rest2).set b.length v = (b ++ [v]) ++ rest2 := by intro u v; simp
    have hget : ∀ (u : Int) (j : Nat), j < b.length → ((b ++ [u]) ++ rest2).getD j 0 = b.getD j 0 := by
      intro u j hj
      rw [List.append_assoc, List.getD_eq_getElem?_getD, List.getD_eq_getElem?_getD, List.getElem?_append_left hj]
    have hrec : ∀ v : Int, 0 ≤ v → v ≤ b.length → impl_begins.l0 k l ((b ++ [v]) ++ rest2) l (l.length : Int) ((b.length + 1 : Nat) : Int) = some (endB l.length (begs partsL (b ++ [v]) (l.drop (b.length + 1)))) := by
      intro v v0 v1
      have := ih k (b ++ [v]) rest2 hr' (by simp; omega) (BegOk_snoc hB v0 v1) (by omega)
      simpa using this
    simp only [impl_begins.l0]
    rw [hlen, if_pos (by omega), if_pos (by omega), if_pos (by omega), if_pos (by omega), Int.toNat_natCast, hset, rdD_at (by omega), impl_ltlParts_eq _ k (by omega), drop_cons (l := l) (i := b.length) (by omega), wrap64_succ (by omega)]
    simp only [Option.bind_some]
    generalize l[b.length] = n
    rw [show begs partsL b (n :: l.drop (b.length + 1)) = (begStep partsL b n).bind fun b' => begs partsL b' (l.drop (b.length + 1)) from rfl]
    unfold begStep
    generalize partsL n = p
    by_cases p0 : p = 0
    · rw [if_pos p0, if_pos p0, hrec _ (by omega) (by omega)]; rfl
    · rw [if_neg p0, if_neg p0]
      by_cases p1 : p = 1
      · rw [if_pos p1, if_pos p1]
        by_cases i0 : b.length = 0
        · rw [if_pos (show (b.length : Int) = 0 by omega), if_pos i0]; rfl
        · have e : (b.length : Int) - 1 = ((b.length - 1 : Nat) : Int) := by omega
          have hj := hB (b.length - 1) (by omega)
          rw [if_neg (show ¬ (b.length : Int) = 0 by omega), if_neg i0, e, wrap64_id (n := ((b.length - 1 : Nat) : Int)) (by omega) (by omega)]
          by_cases a1 : n.f1 = ((b.length - 1 : Nat) : Int)
          · by_cases a2 : n.f2 = 0
            · rw [if_pos a1, if_pos a2, if_pos (show n.f1 = ((b.length - 1 : Nat) : Int) ∧ n.f2 = 0 from ⟨a1, a2⟩), a1, if_pos (by omega), if_pos (by omega), rd_nat, hget _ _ (by omega), hset2, hrec _ hj.1 (by omega)]; rfl
            · rw [if_pos a1, if_neg a2, if_neg (fun h => a2 h.2)]; rfl
          · rw [if_neg a1, if_neg (fun h => a1 h.1)]; rfl
      · rw [if_neg p1, if_neg p1]
        by_cases p2 : p = 2
        · rw [if_pos p2, if_pos p2]
          by_cases i0 : b.length = 0
          · rw [if_pos (show (b.length : Int) = 0 by omega), if_pos i0]; rfl
          · have e : (b.length : Int) - 1 = ((b.length - 1 : Nat) : Int) := by omega
            have hj := hB (b.length - 1) (by omega)
            rw [if_neg (show ¬ (b.length : Int) = 0 by omega), if_neg i0, e, wrap64_id (n := ((b.length - 1 : Nat) : Int)) (by omega) (by omega)]
            by_cases a1 : n.f2 = ((b.length - 1 : Nat) : Int)
            · rw [if_pos a1, if_pos (show (0 : Int) ≤ ((b.length - 1 : Nat) : Int) by omega), if_pos (show ((b.length - 1 : Nat) : Int) < (l.length : Int) by omega), rd_nat, hget _ _ (by omega), wrap64_id (n := b.getD (b.length - 1) 0 - 1) (by omega) (by omega)]
              by_cases a2 : n.f1 = b.getD (b.length - 1) 0 - 1
              · rw [if_pos a2]
                by_cases a3 : n.f1 < 0
                · rw [if_pos a3, if_neg (fun h => by omega)]; rfl
                · obtain ⟨m, hm⟩ := Int.eq_ofNat_of_zero_le (show 0 ≤ n.f1 by omega)
                  have hm2 := hB m (by omega)
                  rw [if_neg a3, if_pos (by omega), if_pos (by omega), if_pos (show n.f2 = ((b.length - 1 : Nat) : Int) ∧ n.f1 = b.getD (b.length - 1) 0 - 1 ∧ 0 ≤ n.f1 from ⟨a1, a2, by omega⟩), hm, rd_nat, hget _ _ (by omega), hset2, hrec _ hm2.1 (by omega), Int.toNat_natCast]; rfl
              · rw [if_neg a2, if_neg (fun h => a2 h.2.1)]; rfl
            · rw [if_neg a1, if_neg (fun h => a1 h.1)]; rfl
        · rw [if_neg p2, if_neg p2]; rfl
theorem impl_begins_eq (l : List S45) (hl : l.length ≤ 1048576) (k : Nat) (hk : 100 < k) : impl_begins.f k l = some (if inR l.length 1 31 then endB l.length (begs partsL [] l) else ([], false)) := by
  unfold impl_begins.f
  rw [impl_inRange_eq]
  simp only [Option.bind_some]
  by_cases h : inR (l.length : Int) 1 31 = true
  · have g := inR_iff.1 h
    rw [if_pos h, if_pos h, if_pos (by omega), if_pos (by simp; omega)]
    have := impl_begins_l0 l (by omega) (by omega) l.length k [] (List.replicate l.length 0) (by simp) (by simp) BegOk_nil (by omega)
    simpa using this
  · rw [if_neg h, if_neg h]
theorem impl_isTree_eq (l : List S45) (hl : l.length ≤ 1048576) (k : Nat) (hk : 100 < k) : impl_isTree.f k l = some (treeB partsL l) := by
  unfold impl_isTree.f treeB
  rw [impl_begins_eq l hl k hk]
  simp only [Option.bind_some]
  by_cases h : inR (l.length : Int) 1 31 = true
  · rw [if_pos h, h, Bool.true_and]
    cases begs partsL [] l <;> rfl
  · rw [if_neg h]
    simp at h
    rw [h]; rfl
theorem impl_LtlOk_eq (l : List S45) (hl : l.length ≤ 1048576) (k : Nat) (hk : 100 < k) : impl_LtlOk.f k l = some (treeB partsL l) := by
  unfold impl_LtlOk.f
  rw [impl_isTree_eq l hl k hk]; rfl
def leafS (n : S45) : Bool := if n.f0 = 3 then inR n.f1 0 2 else (n.f1 == 0)
theorem spec_l2Leaf_eq (n : S45) : spec_l2Leaf.f n.f0 n.f1 n.f2 = some (leafS n) := by
  unfold spec_l2Leaf.f leafS
  rw [spec_l1In_eq]
  by_cases h : n.f0 = 3
  · rw [if_pos h, if_pos h]; rfl
  · rw [if_neg h, if_neg h]
theorem begStep_ok {P : S45 → Int} {b b' : List Int} {n : S45} (h : BegOk b) (e : begStep P b n = some b') : BegOk b' ∧ b'.length = b.length + 1 := by
  unfold begStep at e
  split at e
  · cases e; exact ⟨BegOk_snoc h (by omega) (by omega), by simp⟩
  · split at e
    · split at e
      · cases e
      · split at e
        · cases e
          have := h (b.length - 1) (by omega)
          exact ⟨BegOk_snoc h this.1 (by omega), by simp⟩
        · cases e
    · split at e
      · split at e
        · cases e
        · split at e
          · rename_i h0 h1
            cases e
            have h2 := h (b.length - 1) (by omega)
            have h3 := h n.f1.toNat (by omega)
            exact ⟨BegOk_snoc h h3.1 (by omega), by simp⟩
          · cases e
      · cases e
theorem begs_ok {P : S45 → Int} (l : List S45) : ∀ {b b' : List Int}, BegOk b → begs P b l = some b' → BegOk b' ∧ b'.length = b.length + l.length := by
  induction l with
  | nil => intro b b' h e; cases e; exact ⟨h, rfl⟩
  | cons n l ih =>
    intro b b' h e
    rw [show begs P b (n :: l) = (begStep P b n).bind fun b' => begs P b' l from rfl] at e
    obtain ⟨c, hc, he⟩ := Option.bind_eq_some_iff.1 e
    obtain ⟨h1, h2⟩ := begStep_ok h hc
    obtain ⟨h3, h4⟩ := ih h1 he
    exact ⟨h3, by rw [h4, h2, List.length_cons]; omega⟩
theorem begs_bad {P : S45 → Int} (l : List S45) : ∀ {b : List Int} {n : S45}, n ∈ l → P n = -1 → begs P b l = none := by
  induction l with
  | nil => intro b n h; simp at h
  | cons m l ih =>
    intro b n h hn
    rw [show begs P b (m :: l) = (begStep P b m).bind fun b' => begs P b' l from rfl]
    rcases List.mem_cons.1 h with rfl | h
    · unfold begStep
      rw [hn]; rfl
    · cases begStep P b m with
      | none => rfl
      | some c => exact ih h hn
/-- The trees' sizes, out of where they begin. -/
def szs (b : List Int) : List Int := (List.range b.length).map fun (j : Nat) => (j : Int) + 1 - b.getD j 0
theorem szs_length (b : List Int) : (szs b).length = b.length := by simp [szs]
theorem szs_get (b : List Int) (j : Nat) (h : j < b.length) : (szs b).getD j 0 = (j : Int) + 1 - b.getD j 0 := by
  unfold szs
  rw [List.getD_eq_getElem?_getD, List.getElem?_map, List.getElem?_range h]
  rfl
theorem szs_snoc (b : List Int) (x : Int) : szs (b ++ [x]) = szs b ++ [(b.length : Int) + 1 - x] := by
  unfold szs
  rw [List.length_append, List.length_singleton, List.range_succ, List.map_append]
  congr 1
  · apply List.map_congr_left
    intro j hj
    rw [List.mem_range] at hj
    rw [getD_snoc, if_pos hj]
  · simp only [List.map_cons, List.map_nil, getD_snoc, Nat.lt_irrefl, if_false, if_true]
def sizesB : Option (List Int) → List Int
  | none => []
  | some b => szs b
theorem spec_l2Sizes_l0 (q P : S45 → Int) (l : List S45) (hl : l.length ≤ 1000) (hP : ∀ n ∈ l, (q n = 0 ∨ q n = 1 ∨ q n = 2) ∧ P n = if q n = 0 then (if n.f2 = 0 then 0 else -1) else q n) (d : Nat) : ∀ (k : Nat) (b : List Int), b.length + d = l.length → BegOk b → 2 * d + 10 < k →
    spec_l2Sizes.l0 k l (l.map q) (szs b) (b.length : Int) = some (sizesB (begs P b (l.drop b.length))) := by
  induction d with
  | zero =>
    intro k b hb hB hk
    obtain ⟨k, rfl⟩ := succ_of hk
    simp only [spec_l2Sizes.l0]
    rw [if_neg (by omega), List.drop_eq_nil_of_le (by omega)]
    rfl
  | succ d ih =>
    intro k b hb hB hk
    obtain ⟨k, rfl⟩ := succ_of hk
    have hm : (l.map q).length = l.length := List.length_map _
    have hsl := szs_length b
    have hq : rd (l.map q) (b.length : Int) = q l[b.length] := by rw [rd_at (by omega), List.getElem_map]
    have hrec : ∀ (j : Nat) (v : Int), 2 * d + 10 < j → 0 ≤ v → v ≤ b.length → spec_l2Sizes.l0 j l (l.map q) (szs b ++ [(b.length : Int) + 1 - v]) ((b.length + 1 : Nat) : Int) = some (sizesB (begs P (b ++ [v]) (l.drop (b.length + 1)))) := by
      intro j v hj v0 v1
      have := ih j (b ++ [v]) (by simp; omega) (BegOk_snoc hB v0 v1) hj
      rw [szs_snoc] at this
      simpa using this
    obtain ⟨hq1, hPn⟩ := hP _ (List.getElem_mem (show b.length < l.length by omega))
    simp only [spec_l2Sizes.l0]
    rw [if_pos (by omega), if_pos (by omega), if_pos (by omega), hq, rdD_at (by omega), drop_cons (l := l) (i := b.length) (by omega), wrap64_succ (by omega)]
    generalize l[b.length] = n at hq1 hPn ⊢
    rw [show begs P b (n :: l.drop (b.length + 1)) = (begStep P b n).bind fun b' => begs P b' (l.drop (b.length + 1)) from rfl]
    unfold begStep
    rcases hq1 with h0 | h0 | h0
    · rw [h0, if_pos rfl] at hPn
      rw [h0, if_neg (by omega), if_neg (by omega)]
      by_cases h2 : n.f2 = 0
      · rw [if_pos h2] at hPn
        have := hrec k (b.length : Int) (by omega) (by omega) (by omega)
        rw [show (b.length : Int) + 1 - b.length = 1 by omega] at this
        rw [if_pos h2, if_pos (by omega), hPn, if_pos rfl, this]; rfl
      · rw [if_neg h2] at hPn
        rw [if_neg h2, hPn]; rfl
    · rw [h0, if_neg (by omega)] at hPn
      rw [h0, if_pos rfl, hPn, if_neg (show ¬ (1 : Int) = 0 by omega), if_pos rfl]
      by_cases i0 : b.length = 0
      · rw [if_pos (by omega), if_pos i0]; rfl
      · have e : (b.length : Int) - 1 = ((b.length - 1 : Nat) : Int) := by omega
        have hj := hB (b.length - 1) (by omega)
        rw [if_neg (by omega), if_neg i0, e, wrap64_id (n := ((b.length - 1 : Nat) : Int)) (by omega) (by omega)]
        by_cases a1 : n.f1 = ((b.length - 1 : Nat) : Int)
        · by_cases a2 : n.f2 = 0
          · have := hrec k (b.getD (b.length - 1) 0) (by omega) hj.1 (by omega)
            rw [if_pos a1, if_pos a2, if_pos (show n.f1 = ((b.length - 1 : Nat) : Int) ∧ n.f2 = 0 from ⟨a1, a2⟩), if_pos (by omega), if_pos (by omega), if_pos (by omega), rd_nat, szs_get b _ (by omega), wrap64_id (by omega) (by omega), show (1 : Int) + (((b.length - 1 : Nat) : Int) + 1 - b.getD (b.length - 1) 0) = (b.length : Int) + 1 - b.getD (b.length - 1) 0 by omega, this]; rfl
          · rw [if_pos a1, if_neg a2, if_neg (fun h => a2 h.2)]; rfl
        · rw [if_neg a1, if_neg (fun h => a1 h.1)]; rfl
    · obtain ⟨k, rfl⟩ := succ_of (show 0 < k by omega)
      simp only [spec_l2Sizes.j1]
      rw [wrap64_succ (i := b.length) (by omega)]
      rw [h0, if_neg (by omega)] at hPn
      rw [h0, if_neg (by omega), if_pos rfl, hPn, if_neg (show ¬ (2 : Int) = 0 by omega), if_neg (show ¬ (2 : Int) = 1 by omega), if_pos rfl]
      by_cases i0 : b.length = 0
      · rw [if_pos (by omega), if_pos trivial, if_pos i0]; rfl
      · have e : (b.length : Int) - 1 = ((b.length - 1 : Nat) : Int) := by omega
        have hj := hB (b.length - 1) (by omega)
        rw [if_neg i0, e, wrap64_id (n := ((b.length - 1 : Nat) : Int)) (by omega) (by omega), rd_nat, szs_get b _ (by omega)]
        by_cases i1 : b.length = 1
        · rw [if_pos (by omega), if_pos trivial, if_neg]
          · rfl
          · rintro ⟨_, a2, a3⟩
            have : b.getD (b.length - 1) 0 ≤ 0 := by have := hj.2; omega
            omega
        · rw [if_neg (by omega)]
          by_cases a1 : n.f2 = ((b.length - 1 : Nat) : Int)
          · rw [a1, bne_self_eq_false, if_neg (by simp), if_pos (by omega), if_pos (by omega), show ((b.length - 1 : Nat) : Int) - (((b.length - 1 : Nat) : Int) + 1 - b.getD (b.length - 1) 0) = b.getD (b.length - 1) 0 - 1 by omega, wrap64_id (n := b.getD (b.length - 1) 0 - 1) (by omega) (by omega)]
            by_cases a3 : b.getD (b.length - 1) 0 - 1 < 0
            · rw [if_pos a3, if_neg (fun h => by omega)]; rfl
            · rw [if_neg a3]
              by_cases a2 : n.f1 = b.getD (b.length - 1) 0 - 1
              · obtain ⟨m, hm'⟩ := Int.eq_ofNat_of_zero_le (show 0 ≤ b.getD (b.length - 1) 0 - 1 by omega)
                have hm2 := hB m (by omega)
                have := hrec k (b.getD m 0) (by omega) hm2.1 (by omega)
                rw [if_pos a2, if_pos (by omega), if_pos (by omega), if_pos (by omega), if_pos (show ((b.length - 1 : Nat) : Int) = ((b.length - 1 : Nat) : Int) ∧ n.f1 = b.getD (b.length - 1) 0 - 1 ∧ 0 ≤ n.f1 from ⟨rfl, a2, by omega⟩), a2, hm', rd_nat, szs_get b _ (by omega), wrap64_id (n := 1 + (((b.length - 1 : Nat) : Int) + 1 - b.getD (b.length - 1) 0)) (by omega) (by omega), wrap64_id (by omega) (by omega), Int.toNat_natCast, show 1 + (((b.length - 1 : Nat) : Int) + 1 - b.getD (b.length - 1) 0) + ((m : Int) + 1 - b.getD m 0) = (b.length : Int) + 1 - b.getD m 0 by omega, this]; rfl
              · rw [if_neg a2, if_neg (fun h => a2 h.2.1)]; rfl
          · rw [if_pos (by simpa using a1), if_neg (fun h => a1 h.1)]; rfl
theorem spec_l2Sizes_eq (q P : S45 → Int) (l : List S45) (hl : l.length ≤ 1000) (hP : ∀ n ∈ l, (q n = 0 ∨ q n = 1 ∨ q n = 2) ∧ P n = if q n = 0 then (if n.f2 = 0 then 0 else -1) else q n) (k : Nat) (hk : 2 * l.length + 10 < k) : spec_l2Sizes.f k l (l.map q) = some (sizesB (begs P [] l)) := by
  unfold spec_l2Sizes.f
  exact spec_l2Sizes_l0 q P l hl hP l.length k [] (by simp) BegOk_nil hk
def kindL (x : Int) : Int := if x = 1 then 0 else if x = 2 then 0 else if x = 3 then 0 else if x = 4 then 1 else if x = 7 then 1 else if x = 10 then 1 else if x = 11 then 1 else if x = 5 then 2 else if x = 6 then 2 else if x = 8 then 2 else if x = 9 then 2 else -1
theorem spec_l8Parts_eq (x : Int) (k : Nat) (hk : 6 < k) : spec_l8Parts.f k x = some (kindL x) := by
  obtain ⟨k, rfl⟩ : ∃ m, k = m + 1 + 1 := ⟨k - 2, by omega⟩
  unfold spec_l8Parts.f kindL
  have key : x = 1 ∨ x = 2 ∨ x = 3 ∨ x = 4 ∨ x = 5 ∨ x = 6 ∨ x = 7 ∨ x = 8 ∨ x = 9 ∨ x = 10 ∨ x = 11 ∨ (x ≠ 1 ∧ x ≠ 2 ∧ x ≠ 3 ∧ x ≠ 4 ∧ x ≠ 5 ∧ x ≠ 6 ∧ x ≠ 7 ∧ x ≠ 8 ∧ x ≠ 9 ∧ x ≠ 10 ∧ x ≠ 11) := by omega
  rcases key with rfl | rfl | rfl | rfl | rfl | rfl | rfl | rfl | rfl | rfl | rfl | ⟨n1, n2, n3, n4, n5, n6, n7, n8, n9, n10, n11⟩
  all_goals first | rfl | simp [spec_l8Parts.j0, spec_l8Parts.j1, *]
def goodL (n : S45) : Bool := decide (0 ≤ kindL n.f0) && (kindL n.f0 != 0 || leafS n)
theorem goodL_of {n : S45} (h : goodL n = true) : (kindL n.f0 = 0 ∨ kindL n.f0 = 1 ∨ kindL n.f0 = 2) ∧ partsL n = if kindL n.f0 = 0 then (if n.f2 = 0 then 0 else -1) else kindL n.f0 := by
  obtain ⟨x, a, c⟩ := n
  unfold goodL leafS at h
  unfold partsL partsE leafZ
  simp only at h ⊢
  have key : x = 1 ∨ x = 2 ∨ x = 3 ∨ x = 4 ∨ x = 5 ∨ x = 6 ∨ x = 7 ∨ x = 8 ∨ x = 9 ∨ x = 10 ∨ x = 11 ∨ (x ≠ 1 ∧ x ≠ 2 ∧ x ≠ 3 ∧ x ≠ 4 ∧ x ≠ 5 ∧ x ≠ 6 ∧ x ≠ 7 ∧ x ≠ 8 ∧ x ≠ 9 ∧ x ≠ 10 ∧ x ≠ 11) := by omega
  rcases key with rfl | rfl | rfl | rfl | rfl | rfl | rfl | rfl | rfl | rfl | rfl | ⟨n1, n2, n3, n4, n5, n6, n7, n8, n9, n10, n11⟩
  · simp [kindL] at h ⊢; subst h; simp [inR]
  · simp [kindL] at h ⊢; subst h; simp [inR]
  · simp [kindL] at h ⊢; rw [h]; simp
  · simp [kindL]
  · simp [kindL]
  · simp [kindL]
  · simp [kindL]
  · simp [kindL]
  · simp [kindL]
  · simp [kindL]
  · simp [kindL]
  · simp [kindL, n1, n2, n3, n4, n5, n6, n7, n8, n9, n10, n11] at h
theorem goodL_not {n : S45} (h : goodL n = false) : partsL n = -1 := by
  obtain ⟨x, a, c⟩ := n
  unfold goodL leafS at h
  unfold partsL partsE leafZ
  simp only at h ⊢
  have key : x = 1 ∨ x = 2 ∨ x = 3 ∨ x = 4 ∨ x = 5 ∨ x = 6 ∨ x = 7 ∨ x = 8 ∨ x = 9 ∨ x = 10 ∨ x = 11 ∨ (x ≠ 1 ∧ x ≠ 2 ∧ x ≠ 3 ∧ x ≠ 4 ∧ x ≠ 5 ∧ x ≠ 6 ∧ x ≠ 7 ∧ x ≠ 8 ∧ x ≠ 9 ∧ x ≠ 10 ∧ x ≠ 11) := by omega
  rcases key with rfl | rfl | rfl | rfl | rfl | rfl | rfl | rfl | rfl | rfl | rfl | ⟨n1, n2, n3, n4, n5, n6, n7, n8, n9, n10, n11⟩
  · simp [kindL] at h ⊢
    rw [show inR a 0 0 = false from inR_false.2 (by omega)]; simp
  · simp [kindL] at h ⊢
    rw [show inR a 0 0 = false from inR_false.2 (by omega)]; simp
  · simp [kindL] at h ⊢
    rw [h]; simp
  · simp [kindL] at h
  · simp [kindL] at h
  · simp [kindL] at h
  · simp [kindL] at h
  · simp [kindL] at h
  · simp [kindL] at h
  · simp [kindL] at h
  · simp [kindL] at h
  · simp [n1, n2, n3, n4, n5, n6, n7, n8, n9, n10, n11]
theorem spec_LtlOk_l0 (l : List S45) (h1 : 1 ≤ l.length) (hl : l.length ≤ 1000) (d : Nat) : ∀ (k i : Nat), i + d = l.length → (∀ n ∈ l.take i, goodL n = true) → d + 2 * l.length + 20 < k →
    spec_LtlOk.l0 k l ((l.take i).map fun n => kindL n.f0) (i : Int) = some (match begs partsL [] l with | none => false | some b => b.getD (l.length - 1) 0 == 0) := by
  induction d with
  | zero =>
    intro k i hi hg hk
    obtain ⟨k, rfl⟩ := succ_of hk
    rw [List.take_of_length_le (by omega)] at hg ⊢
    simp only [spec_LtlOk.l0]
    rw [if_neg (by omega), spec_l2Sizes_eq (fun n => kindL n.f0) partsL l hl (fun n hn => goodL_of (hg n hn)) k (by omega)]
    simp only [Option.bind_some]
    cases hb : begs partsL [] l with
    | none =>
      rw [if_neg (by simp only [sizesB, List.length_nil]; omega)]
    | some b =>
      obtain ⟨hB, hbl⟩ := begs_ok l BegOk_nil hb
      have hsl := szs_length b
      simp only [List.length_nil, Nat.zero_add] at hbl
      rw [show sizesB (some b) = szs b from rfl, if_pos (by omega), wrap64_id (n := (l.length : Int) - 1) (by omega) (by omega), if_pos (by omega), if_pos (by omega), show (l.length : Int) - 1 = ((l.length - 1 : Nat) : Int) by omega, rd_nat, szs_get b _ (by omega)]
      congr 1
      rw [Bool.eq_iff_iff]
      simp only [beq_iff_eq]
      omega
  | succ d ih =>
    intro k i hi hg hk
    obtain ⟨k, rfl⟩ := succ_of hk
    simp only [spec_LtlOk.l0]
    rw [if_pos (by omega), if_pos (by omega), rdD_at (by omega), spec_l8Parts_eq _ k (by omega), spec_l2Leaf_eq, wrap64_succ (by omega)]
    simp only [Option.bind_some]
    have hmem := List.getElem_mem (show i < l.length by omega)
    have hlen : ((l.take i).map fun n => kindL n.f0).length < 17592186044416 := by rw [List.length_map, List.length_take]; omega
    have hsn : ((l.take i).map fun n => kindL n.f0) ++ [kindL l[i].f0] = (l.take (i + 1)).map fun n => kindL n.f0 := by rw [List.take_succ_eq_append_getElem (by omega), List.map_append]; rfl
    rw [if_pos hlen, hsn]
    by_cases hgi : goodL l[i] = true
    · have hrec := ih k (i + 1) (by omega) (fun n hn => by
        rw [List.take_succ_eq_append_getElem (by omega)] at hn
        rcases List.mem_append.1 hn with hn | hn
        · exact hg n hn
        · rw [List.mem_singleton] at hn; rw [hn]; exact hgi) (by omega)
      rw [hrec]
      have hgo := (goodL_of hgi).1
      unfold goodL at hgi
      rw [if_neg (by omega)]
      by_cases h0 : kindL l[i].f0 = 0
      · rw [if_pos h0]
        rw [h0] at hgi
        simp at hgi
        rw [if_pos hgi]
      · rw [if_neg h0]
    · simp only [Bool.not_eq_true] at hgi
      rw [begs_bad l hmem (goodL_not hgi)]
      unfold goodL at hgi
      by_cases hn : kindL l[i].f0 < 0
      · rw [if_pos hn]
      · rw [if_neg hn]
        rw [decide_eq_true (show 0 ≤ kindL l[i].f0 by omega), Bool.true_and, Bool.or_eq_false_iff] at hgi
        obtain ⟨g1, g2⟩ := hgi
        simp only [bne_eq_false_iff_eq] at g1
        rw [if_pos g1, if_neg (by rw [g2]; simp)]
theorem spec_LtlOk_eq (l : List S45) (hl : l.length ≤ 1048576) (k : Nat) (hk : 3000 < k) : spec_LtlOk.f k l = some (treeB partsL l) := by
  unfold spec_LtlOk.f treeB
  rw [spec_l1In_eq]
  simp only [Option.bind_some]
  by_cases h : inR (l.length : Int) 1 31 = true
  · have g := inR_iff.1 h
    have := spec_LtlOk_l0 l (by omega) (by omega) l.length k 0 (by omega) (by simp) (by omega)
    rw [if_pos h, h, Bool.true_and]
    exact this
  · rw [if_neg h]
    simp at h
    rw [h]; rfl
theorem rdD_set {l : List S45} {i : Nat} (h : i < l.length) (v : S45) : rd_T45 (l.set i v) (i : Int) = v := by
  rw [rdD_at (by rw [List.length_set]; exact h), List.getElem_set_self]
/-- n marked nodes, from a on. -/
def seqD : Int → Nat → List S45
  | _, 0 => []
  | a, n + 1 => ⟨a, a + 1, a + 2⟩ :: seqD (a + 3) n
theorem seqD_length (a : Int) (n : Nat) : (seqD a n).length = n := by
  induction n generalizing a with
  | zero => rfl
  | succ n ih => simp [seqD, ih]
theorem seqD_at (a : Int) (n i : Nat) (h : i < n) : (seqD a n)[i]'(by rw [seqD_length]; exact h) = ⟨a + 3 * i, a + 3 * i + 1, a + 3 * i + 2⟩ := by
  induction n generalizing a i with
  | zero => omega
  | succ n ih =>
    cases i with
    | zero => simp [seqD]
    | succ i =>
      simp only [seqD, List.getElem_cons_succ]
      rw [ih (a + 3) i (by omega)]
      have e : a + 3 + 3 * (i : Int) = a + 3 * ((i + 1 : Nat) : Int) := by omega
      rw [e]
theorem markNodeS_l0 (d : Nat) : ∀ (k i : Nat) (x : List S45) (a : Int), i + d = x.length → d < k → 0 ≤ a → a + 3 * d ≤ 4611686018427387904 → x.length ≤ 1099511627776 →
    laws_markNodeS.l0 k x a (i : Int) = some (a + 3 * d, x.take i ++ seqD a d) := by
  induction d with
  | zero =>
    intro k i x a hi hk h0 h1 h2
    obtain ⟨k, rfl⟩ := succ_of hk
    simp only [laws_markNodeS.l0]
    rw [if_neg (by omega), List.take_of_length_le (by omega)]
    simp [seqD]
  | succ d ih =>
    intro k i x a hi hk h0 h1 h2
    obtain ⟨k, rfl⟩ := succ_of hk
    simp only [laws_markNodeS.l0]
    rw [if_pos (by omega), if_pos (by omega)]
    simp only [Option.bind_some]
    rw [wrap64_succ (by omega), wrap64_id (n := a + 1) (by omega) (by omega), wrap64_id (n := a + 1 + 1) (by omega) (by omega), wrap64_id (n := a + 1 + 1 + 1) (by omega) (by omega)]
    rw [show ((i : Int)).toNat = i from rfl]
    simp only [rdD_set (l := x) (i := i) (by omega), List.set_set]
    rw [ih k (i + 1) _ (a + 1 + 1 + 1) (by rw [List.length_set]; omega) (by omega) (by omega) (by omega) (by rw [List.length_set]; omega)]
    rw [take_set_self (by omega)]
    simp only [seqD, List.append_assoc, List.singleton_append]
    rw [show a + 1 + 1 + 1 = a + 3 by omega, show a + 1 + 1 = a + 2 by omega]
    congr 2
    omega
theorem markNodeS_eq (x : List S45) (a : Int) (h0 : 0 ≤ a) (h1 : a ≤ 1099511627776) (h2 : x.length ≤ 1099511627776) (k : Nat) (hk : x.length < k) : laws_markNodeS.f k x a = some (a + 3 * x.length, seqD a x.length) := by
  unfold laws_markNodeS.f
  have := markNodeS_l0 x.length k 0 x a (by omega) hk h0 (by omega) h2
  simpa using this
theorem heldNodeS_l0 (n : Nat) (b : Int) (hn : n ≤ 1099511627776) (hb0 : 0 ≤ b) (hb : b ≤ 1099511627776) (d : Nat) : ∀ (k i : Nat), i + d = n → d < k → laws_heldNodeS.l0 k (seqD b n) (b + 3 * i) (i : Int) = some (b + 3 * n) := by
  induction d with
  | zero =>
    intro k i hi hk
    obtain ⟨k, rfl⟩ := succ_of hk
    simp only [laws_heldNodeS.l0]
    rw [if_neg (by rw [seqD_length]; omega)]
    congr 1; omega
  | succ d ih =>
    intro k i hi hk
    obtain ⟨k, rfl⟩ := succ_of hk
    simp only [laws_heldNodeS.l0]
    rw [if_pos (by rw [seqD_length]; omega), if_pos (by omega), rdD_at (by rw [seqD_length]; omega), seqD_at b n i (by omega)]
    have a1 : wrap64 (b + 3 * (i : Int) + 1) = b + 3 * (i : Int) + 1 := wrap64_id (by omega) (by omega)
    have a2 : wrap64 (b + 3 * (i : Int) + 1 + 1) = b + 3 * (i : Int) + 2 := by rw [wrap64_id (by omega) (by omega)]; omega
    have a4 : wrap64 (b + 3 * (i : Int) + 2 + 1) = b + 3 * ((i + 1 : Nat) : Int) := by rw [wrap64_id (by omega) (by omega)]; omega
    rw [if_pos rfl, a1, if_pos rfl, a2, if_pos rfl, a4, wrap64_succ (by omega)]
    exact ih k (i + 1) (by omega) (by omega)
theorem heldNodeS_eq (n : Nat) (b : Int) (hn : n ≤ 1099511627776) (hb0 : 0 ≤ b) (hb : b ≤ 1099511627776) (k : Nat) (hk : n < k) : laws_heldNodeS.f k (seqD b n) b = some (b + 3 * n) := by
  unfold laws_heldNodeS.f
  have := heldNodeS_l0 n b hn hb0 hb n k 0 (by omega) hk
  simpa using this
/-- A formula's opposite. -/
def notZ (l : List S45) : List S45 × Bool := if treeB partsL l then (if l.length = 31 then ([], false) else (l ++ [⟨4, (l.length : Int) - 1, 0⟩], true)) else ([], false)
theorem notZ_length (l : List S45) : (notZ l).1.length ≤ l.length + 1 := by
  unfold notZ
  split
  · split <;> simp
  · simp
theorem spec_LtlNot_eq (l : List S45) (hl : l.length ≤ 1048576) (k : Nat) (hk : 3000 < k) : spec_LtlNot.f k l = some (notZ l) := by
  unfold spec_LtlNot.f notZ
  rw [spec_LtlOk_eq l hl k hk, Option.bind_some]
  by_cases h : treeB partsL l = true
  · rw [if_pos h, if_pos h]
    by_cases h2 : l.length = 31
    · rw [if_pos (by omega), if_pos h2]
    · rw [if_neg (by omega), if_neg h2, Option.bind_some, if_pos (by simp; omega), Option.bind_some, if_pos (by simp; omega), wrap64_id (by omega) (by omega)]
      rfl
  · rw [if_neg h, if_neg h]
theorem impl_LtlNot_eq (l : List S45) (hl : l.length ≤ 1048576) (k : Nat) (hk : 100 < k) : impl_LtlNot.f k l = some (notZ l) := by
  unfold impl_LtlNot.f notZ
  rw [impl_LtlOk_eq l hl k hk, Option.bind_some]
  by_cases h : treeB partsL l = true
  · have hl2 : l.length ≤ 31 := by
      have h' := h
      unfold treeB at h'
      rw [Bool.and_eq_true] at h'
      have := inR_iff.1 h'.1
      omega
    rw [if_pos h, if_pos h, if_pos (by omega)]
    by_cases h2 : l.length = 31
    · rw [if_neg (by omega), if_pos h2]
    · rw [if_pos (by omega), if_neg h2]
  · rw [if_neg h, if_neg h]
end hFnExactLtlNot
open hFnExactLtlNot
theorem FnExactLtlNot : laws_FnExactLtlNot.Pure := by
  intro l hl hw
  obtain ⟨M, hM⟩ : ∃ M, M = 1048576 := ⟨_, rfl⟩
  obtain ⟨k, hk⟩ : ∃ k, k = 2 * M + 5000 := ⟨_, rfl⟩
  refine ⟨k + 3, ?_⟩
  unfold laws_FnExactLtlNot.f
  rw [szNodeS_eq l 1048576 (by omega) (by omega) hl, Option.bind_some]
  by_cases h : (1048576 : Int) < l.length
  · rw [if_pos h, if_pos (by omega)]
  · have hm : (l.map convD).length = l.length := List.length_map _
    have hL := notZ_length (l.map convD)
    have e1 : ∀ j : Nat, laws_toNodeS.f (k + j) l = some (l.map convD) := fun j => toNodeS_eq l (by omega) _ (by omega)
    have hA : ∀ j : Nat, spec_LtlNot.f (k + j) (l.map convD) = some (notZ (l.map convD)) := fun j => spec_LtlNot_eq _ (by omega) _ (by omega)
    have hB : ∀ j : Nat, impl_LtlNot.f (k + j) (l.map convD) = some (notZ (l.map convD)) := fun j => impl_LtlNot_eq _ (by omega) _ (by omega)
    generalize notZ (l.map convD) = T at hA hB hL
    obtain ⟨u, ok⟩ := T
    simp only at hL
    have e2 : ∀ j : Nat, laws_eqNodeS.f (k + j) u u = some true := fun j => by rw [eqNodeS_eq u u (by omega) _ (by omega)]; simp
    have e3 : ∀ j : Nat, laws_eqNodeS.f (k + j) (l.map convD) (l.map convD) = some true := fun j => by rw [eqNodeS_eq _ _ (by omega) _ (by omega)]; simp
    obtain ⟨z, q4, n1, e4⟩ : ∃ (z : Int) (q4 : List S45), ¬ z < 0 ∧ ∀ j : Nat, laws_markNodeS.f (k + j) (l.map convD) 1 = some (z, q4) := ⟨_, _, by omega, fun j => markNodeS_eq _ 1 (by omega) (by omega) (by omega) _ (by omega)⟩
    obtain ⟨y, p4, n2, e5, e6⟩ : ∃ (y : Int) (p4 : List S45), ¬ y < 0 ∧ (∀ j : Nat, laws_markNodeS.f (k + j) u 1 = some (y, p4)) ∧ ∀ j : Nat, laws_heldNodeS.f (k + j) p4 1 = some y := ⟨1 + 3 * (u.length : Int), _, by omega, fun j => markNodeS_eq u 1 (by omega) (by omega) (by omega) _ (by omega), fun j => heldNodeS_eq u.length 1 (by omega) (by omega) (by omega) _ (by omega)⟩
    have e60 : laws_heldNodeS.f k p4 1 = some y := e6 0
    clear hk hL hm
    rw [if_neg h, if_neg (by omega), e1, Option.bind_some, hA, Option.bind_some, Option.bind_some, hB, Option.bind_some, e2, Option.bind_some, if_pos rfl, bne_self_eq_false]
    rw [laws_FnExactLtlNot.j0, if_neg (by simp), e1, Option.bind_some, e3, Option.bind_some, if_pos rfl, e4, Option.bind_some, if_neg n1, e2, Option.bind_some, if_pos rfl, bne_self_eq_false]
    rw [laws_FnExactLtlNot.j1, if_neg (by simp), e5, Option.bind_some, e6, Option.bind_some, if_neg n2, if_pos rfl, e1, Option.bind_some, hB, Option.bind_some, e2, Option.bind_some, if_pos rfl, bne_self_eq_false]
    rw [laws_FnExactLtlNot.j2, if_neg (by simp), e60, Option.bind_some, if_neg n2, if_pos rfl]
end Go.Proofs.Ytjnieoogddmmcaa.Pure
