/- What the printed functions of FnExactExprPrint come to, one lemma a function, and from these the law: for all arguments (within the bounds that the printed statement names) it answers true. -/
import Derived.Test.YtjnieoogddmmcaaMFnExactExprPrintx5
import Derived.Test.YtjnieoogddmmcaaBase
import Derived.Test.YtjnieoogddmmcaaBaseL
import Derived.Test.YtjnieoogddmmcaaBaseS
import Derived.Test.YtjnieoogddmmcaaBaseW
namespace Go.Proofs.Ytjnieoogddmmcaa.Pure
open Go.RowKit Go.Proofs.Ytjnieoogddmmcaa.MFnExactExprPrint Go.Proofs.YtjnieoogddmmcaaW.PrintWords Go.Proofs.YtjnieoogddmmcaaW.PrintLast Go.Proofs.Ytjnieoogddmmcaa.Base

namespace hFnExactExprPrint
theorem spec_l1In_eq (a b c : Int) : spec_l1In.f a b c = some (inR a b c) := by
  unfold spec_l1In.f inR
  by_cases h : a ≥ b
  · rw [if_pos h]; simp [show b ≤ a from h]
  · rw [if_neg h]; simp; omega
theorem impl_inRange_eq (a b c : Int) : impl_inRange.f a b c = some (inR a b c) := by
  unfold impl_inRange.f inR
  by_cases h : a ≥ b
  · rw [if_pos h]; simp [show b ≤ a from h]
  · rw [if_neg h]; simp; omega
theorem rdD_at {l : List S45} {i : Nat} (h : i < l.length) : rd_T45 l (i : Int) = l[i] := by
  simp [rd_T45, List.getD_eq_getElem?_getD, List.getElem?_eq_getElem h]
deriving instance DecidableEq for S45
theorem eqNode_eq (a b : S45) : laws_eqNode.f a.f0 a.f1 a.f2 b.f0 b.f1 b.f2 = some (decide (a = b)) := by
  unfold laws_eqNode.f
  obtain ⟨a0, a1, a2⟩ := a
  obtain ⟨b0, b1, b2⟩ := b
  by_cases h0 : a0 = b0 <;> by_cases h1 : a1 = b1 <;> by_cases h2 : a2 = b2 <;> simp [h0, h1, h2]
theorem eqNodeS_l0 (a b : List S45) (hab : a.length = b.length) (hl : a.length ≤ 1099511627776) (d : Nat) : ∀ (k i : Nat), i + d = a.length → d < k → laws_eqNodeS.l0 k a b (i : Int) = some (decide (a.drop i = b.drop i)) := by
  induction d with
  | zero =>
    intro k i hi hk
    obtain ⟨k, rfl⟩ := succ_of hk
    simp only [laws_eqNodeS.l0]
    rw [if_neg (by omega), List.drop_eq_nil_of_le (by omega), List.drop_eq_nil_of_le (by omega)]
    simp
  | succ d ih =>
    intro k i hi hk
    obtain ⟨k, rfl⟩ := succ_of hk
    simp only [laws_eqNodeS.l0]
    rw [if_pos (by omega), if_pos (by omega), if_pos (by omega), rdD_at (by omega), rdD_at (by omega), wrap64_succ (by omega), eqNode_eq]
    rw [drop_cons (l := a) (i := i) (by omega), drop_cons (l := b) (i := i) (by omega)]
    simp only [Option.bind_some]
    by_cases h : a[i] = b[i]
    · rw [decide_eq_true h, if_pos rfl, ih k (i + 1) (by omega) (by omega), h]
      congr 1
      exact decide_eq_decide.2 ⟨fun e => by rw [e], fun e => (List.cons.inj e).2⟩
    · rw [decide_eq_false h, if_neg (by simp)]
      congr 1
      exact (decide_eq_false (fun e => h (List.cons.inj e).1)).symm
theorem eqNodeS_eq (a b : List S45) (hl : a.length ≤ 1099511627776) (k : Nat) (hk : a.length < k) : laws_eqNodeS.f k a b = some (decide (a = b)) := by
  unfold laws_eqNodeS.f
  by_cases h : a.length = b.length
  · rw [if_pos (by omega)]
    exact eqNodeS_l0 a b h hl a.length k 0 (by omega) hk
  · rw [if_neg (by omega)]
    have : a ≠ b := fun e => h (by rw [e])
    simp [this]
theorem szNodeS_eq (l : List S49) (a : Int) (h0 : 0 ≤ a) (h1 : a ≤ 1048576) (hl : l.length ≤ 9223372036854775807) : laws_szNodeS.f l a = some (if a < l.length then -1 else a - l.length) := by
  unfold laws_szNodeS.f
  rw [wrap64_id (by omega) (by omega)]
  by_cases h : a < (l.length : Int)
  · rw [if_pos (by omega), if_pos h]
  · rw [if_neg (by omega), if_neg h]
def convD (e : S49) : S45 := ⟨e.f0, e.f1, e.f2⟩
theorem rdDP_at {l : List S49} {i : Nat} (h : i < l.length) : rd_T49 l (i : Int) = l[i] := by
  simp [rd_T49, List.getD_eq_getElem?_getD, List.getElem?_eq_getElem h]
theorem toNodeS_l0 (l : List S49) (hl : l.length ≤ 1099511627776) (d : Nat) : ∀ (k i : Nat) (rest : List S45), i + d = l.length → rest.length = d → d < k → laws_toNodeS.l0 k l ((l.map convD).take i ++ rest) (i : Int) = some (l.map convD) := by
  induction d with
  | zero =>
    intro k i rest hi hr hk
    obtain ⟨k, rfl⟩ := succ_of hk
    simp only [laws_toNodeS.l0]
    rw [if_neg (by omega), List.eq_nil_of_length_eq_zero hr, List.append_nil, List.take_of_length_le (by rw [List.length_map]; omega)]
  | succ d ih =>
    intro k i rest hi hr hk
    obtain ⟨k, rfl⟩ := succ_of hk
    simp only [laws_toNodeS.l0]
    have hll : ((l.map convD).take i ++ rest).length = l.length := by rw [List.length_append, List.length_take, List.length_map]; omega
    have hm : (l.map convD).length = l.length := List.length_map _
    rw [if_pos (by omega), if_pos (by omega), rdDP_at (by omega), wrap64_succ (by omega)]
    simp only [laws_toNode.f, Option.bind_some]
    rw [if_pos (by omega)]
    have e : (⟨l[i].f0, l[i].f1, l[i].f2⟩ : S45) = (l.map convD)[i] := by rw [List.getElem_map]; rfl
    rw [show ((i : Int)).toNat = i from rfl, e, take_set_drop (by omega) (by omega)]
    exact ih k (i + 1) rest.tail (by omega) (by rw [List.length_tail]; omega) (by omega)
theorem toNodeS_eq (l : List S49) (hl : l.length ≤ 1099511627776) (k : Nat) (hk : l.length < k) : laws_toNodeS.f k l = some (l.map convD) := by
  unfold laws_toNodeS.f
  rw [if_pos (by omega), if_pos (by simp; omega)]
  exact toNodeS_l0 l hl l.length k 0 _ (by omega) (by simp) hk
/-- One node more of a list of trees: where its own tree begins; nothing where it is no tree. P: how many parts a node has. -/
def begStep (P : S45 → Int) (b : List Int) (n : S45) : Option (List Int) :=
  if P n = 0 then some (b ++ [(b.length : Int)])
  else if P n = 1 then (if b.length = 0 then none else if n.f1 = (b.length : Int) - 1 ∧ n.f2 = 0 then some (b ++ [b.getD (b.length - 1) 0]) else none)
  else if P n = 2 then (if b.length = 0 then none else if n.f2 = (b.length : Int) - 1 ∧ n.f1 = b.getD (b.length - 1) 0 - 1 ∧ 0 ≤ n.f1 then some (b ++ [b.getD n.f1.toNat 0]) else none)
  else none
def begs (P : S45 → Int) : List Int → List S45 → Option (List Int)
  | b, [] => some b
  | b, n :: l => (begStep P b n).bind fun b' => begs P b' l
def BegOk (b : List Int) : Prop := ∀ j, j < b.length → 0 ≤ b.getD j 0 ∧ b.getD j 0 ≤ j
theorem BegOk_nil : BegOk [] := fun j h => by simp at h
theorem getD_snoc (b : List Int) (x : Int) (j : Nat) : (b ++ [x]).getD j 0 = if j < b.length then b.getD j 0 else if j = b.length then x else 0 := by
  simp only [List.getD_eq_getElem?_getD, List.getElem?_append]
  by_cases h : j < b.length
  · rw [if_pos h, if_pos h]
  · rw [if_neg h, if_neg h]
    by_cases h2 : j = b.length
    · rw [if_pos h2, h2]; simp
    · rw [if_neg h2]
      rw [List.getElem?_eq_none (by simp; omega)]; rfl
theorem BegOk_snoc {b : List Int} {x : Int} (h : BegOk b) (h0 : 0 ≤ x) (h1 : x ≤ b.length) : BegOk (b ++ [x]) := by
  intro j hj
  rw [List.length_append, List.length_singleton] at hj
  rw [getD_snoc]
  by_cases h2 : j < b.length
  · rw [if_pos h2]; exact h j h2
  · rw [if_neg h2, if_pos (by omega)]; omega
/-- A list is a tree of nodes. -/
def treeB (P : S45 → Int) (l : List S45) : Bool := inR l.length 1 31 && (match begs P [] l with | none => false | some b => b.getD (l.length - 1) 0 == 0)
def endB (n : Nat) : Option (List Int) → List Int × Bool
  | none => ([], false)
  | some b => (b, b.getD (n - 1) 0 == 0)
theorem begStep_ok {P : S45 → Int} {b b' : List Int} {n : S45} (h : BegOk b) (e : begStep P b n = some b') : BegOk b' ∧ b'.length = b.length + 1 := by
  unfold begStep at e
  split at e
  · cases e; exact ⟨BegOk_snoc h (by omega) (by omega), by simp⟩
  · split at e
    · split at e
      · cases e
      · split at e
        · cases e
          have := h (b.length - 1) (by omega)
          exact ⟨BegOk_snoc h this.1 (by omega), by simp⟩
        · cases e
    · split at e
      · split at e
        · cases e
        · split at e
          · rename_i h0 h1
            cases e
            have h2 := h (b.length - 1) (by omega)
            have h3 := h n.f1.toNat (by omega)
            exact ⟨BegOk_snoc h h3.1 (by omega), by simp⟩
          · cases e
      · cases e
def leafZ (n : S45) (m : Int) : Int := if n.f2 = 0 then (if inR n.f1 0 m then 0 else -1) else -1
theorem impl_leaf_eq (n : S45) (m : Int) : impl_leaf.f n.f0 n.f1 n.f2 m = some (leafZ n m) := by
  unfold impl_leaf.f leafZ
  rw [impl_inRange_eq]
  by_cases h : n.f2 = 0
  · rw [if_pos h, if_pos h]
    simp only [Option.bind_some]
    split <;> rfl
  · rw [if_neg h, if_neg h]
def partsE (n : S45) : Int := if n.f0 = 1 then leafZ n 0 else if n.f0 = 2 then leafZ n 0 else if n.f0 = 3 then leafZ n 2 else if n.f0 = 4 then 1 else if n.f0 = 5 then 2 else if n.f0 = 6 then 2 else -1
theorem impl_exprParts_eq (n : S45) (k : Nat) (hk : 2 < k) : impl_exprParts.f k n.f0 n.f1 n.f2 = some (partsE n) := by
  unfold impl_exprParts.f partsE
  obtain ⟨k, rfl⟩ := succ_of hk
  simp only [impl_exprParts.j0, impl_leaf_eq, Option.bind_some]
  by_cases h1 : n.f0 = 1
  · rw [if_pos h1, if_pos h1, h1]; rfl
  · rw [if_neg h1, if_neg h1]
    by_cases h2 : n.f0 = 2
    · rw [if_pos h2, h2]; rfl
    · rw [if_neg h2, if_neg (by simpa using h2)]
      split <;> (try split) <;> (try split) <;> (try split) <;> rfl
theorem impl_begins_l0 (l : List S45) (h1 : 1 ≤ l.length) (hl : l.length ≤ 1000) (d : Nat) : ∀ (k : Nat) (b rest : List Int), rest.length = d → b.length + d = l.length → BegOk b → d + 10 < k →
    impl_begins.l0 k l (b ++ rest) l (l.length : Int) (b.length : Int) = some (endB l.length (begs partsE b (l.drop b.length))) := by
  induction d with
  | zero =>
    intro k b rest hr hb hB hk
    obtain rfl := List.eq_nil_of_length_eq_zero hr
    obtain ⟨k, rfl⟩ := succ_of hk
    simp only [impl_begins.l0, List.append_nil]
    rw [if_neg (by omega), wrap64_id (n := (l.length : Int) - 1) (by omega) (by omega), if_pos (by omega), if_pos (by omega), List.drop_eq_nil_of_le (by omega), show (l.length : Int) - 1 = ((l.length - 1 : Nat) : Int) by omega, rd_nat]
    rfl
  | succ d ih =>
    intro k b rest hr hb hB hk
    obtain ⟨k, rfl⟩ := succ_of hk
    obtain ⟨r, rest2, rfl⟩ : ∃ (r : Int) (t : List Int), rest = r :: t := by
      match rest, hr with
      | r :: t, _ => exact ⟨r, t, rfl⟩
    have hr' : rest2.length = d := by simpa using hr
    have hlen : (b ++ r :: rest2).length = l.length := by simp; omega
    have hset : ∀ v : Int, (b ++ r :: rest2).set b.length v = (b ++ [v]) ++ rest2 := by intro v; simp
    have hset2 : ∀ u v : Int, ((b ++ [u]) ++ rest2).set b.length v = (b ++ [v]) ++ rest2 := by intro u v; simp
    have hget : ∀ (u : Int) (j : Nat), j < b.length → ((b ++ [u]) ++ rest2).getD j 0 = b.getD j 0 := by
      intro u j hj
      rw [List.append_assoc, List.getD_eq_getElem?_getD, List.getD_eq_getElem?_getD, List.getElem?_append_left hj]
    have hrec : ∀ v : Int, 0 ≤ v → v ≤ b.length → impl_begins.l0 k l ((b ++ [v]) ++ rest2) l (l.length : Int) ((b.length + 1 : Nat) : Int) = some (endB l.length (begs partsE (b ++ [v]) (l.drop (b.length + 1)))) := by
      intro v v0 v1
      have := ih k (b ++ [v]) rest2 hr' (by simp; omega) (BegOk_snoc hB v0 v1) (by omega)
      simpa using this
    simp only [impl_begins.l0]
    rw [hlen, if_pos (by omega), if_pos (by omega), if_pos (by omega), if_pos (by omega), Int.toNat_natCast, hset, rdD_at (by omega), impl_exprParts_eq _ k (by omega), drop_cons (l := l) (i := b.length) (by omega), wrap64_succ (by omega)]
    simp only [Option.bind_some]
    generalize l[b.length] = n
    rw [show begs partsE b (n :: l.drop (b.length + 1)) = (begStep partsE b n).bind fun b' => begs partsE b' (l.drop (b.length + 1)) from rfl]
    unfold begStep
    generalize partsE n = p
    by_cases p0 : p = 0
    · rw [if_pos p0, if_pos p0, hrec _ (by omega) (by omega)]; rfl
    · rw [if_neg p0, if_neg p0]
      by_cases p1 : p = 1
      · rw [if_pos p1, if_pos p1]
        by_cases i0 : b.length = 0
        · rw [if_pos (show (b.length : Int) = 0 by omega), if_pos i0]; rfl
        · have e : (b.length : Int) - 1 = ((b.length - 1 : Nat) : Int) := by omega
          have hj := hB (b.length - 1) (by omega)
          rw [if_neg (show ¬ (b.length : Int) = 0 by omega), if_neg i0, e, wrap64_id (n := ((b.length - 1 : Nat) : Int)) (by omega) (by omega)]
          by_cases a1 : n.f1 = ((b.length - 1 : Nat) : Int)
          · by_cases a2 : n.f2 = 0
            · rw [if_pos a1, if_pos a2, if_pos (show n.f1 = ((b.length - 1 : Nat) : Int) ∧ n.f2 = 0 from ⟨a1, a2⟩), a1, if_pos (by omega), if_pos (by omega), rd_nat, hget _ _ (by omega), hset2, hrec _ hj.1 (by omega)]; rfl
            · rw [if_pos a1, if_neg a2, if_neg (fun h => a2 h.2)]; rfl
          · rw [if_neg a1, if_neg (fun h => a1 h.1)]; rfl
      · rw [if_neg p1, if_neg p1]
        by_cases p2 : p = 2
        · rw [if_pos p2, if_pos p2]
          by_cases i0 : b.length = 0
          · rw [if_pos (show (b.length : Int) = 0 by omega), if_pos i0]; rfl
          · have e : (b.length : Int) - 1 = ((b.length - 1 : Nat) : Int) := by omega
            have hj := hB (b.length - 1) (by omega)
            rw [if_neg (show ¬ (b.length : Int) = 0 by omega), if_neg i0, e, wrap64_id (n := ((b.length - 1 : Nat) : Int)) (by omega) (by omega)]
            by_cases a1 : n.f2 = ((b.length - 1 : Nat) : Int)
            · rw [if_pos a1, if_pos (show (0 : Int) ≤ ((b.length - 1 : Nat) : Int) by omega), if_pos (show ((b.length - 1 : Nat) : Int) < (l.length : Int) by omega), rd_nat, hget _ _ (by omega), wrap64_id (n := b.getD (b.length - 1) 0 - 1) (by omega) (by omega)]
              by_cases a2 : n.f1 = b.getD (b.length - 1) 0 - 1
              · rw [if_pos a2]
                by_cases a3 : n.f1 < 0
                · rw [if_pos a3, if_neg (fun h => by omega)]; rfl
                · obtain ⟨m, hm⟩ := Int.eq_ofNat_of_zero_le (show 0 ≤ n.f1 by omega)
                  have hm2 := hB m (by omega)
                  rw [if_neg a3, if_pos (by omega), if_pos (by omega), if_pos (show n.f2 = ((b.length - 1 : Nat) : Int) ∧ n.f1 = b.getD (b.length - 1) 0 - 1 ∧ 0 ≤ n.f1 from ⟨a1, a2, by omega⟩), hm, rd_nat, hget _ _ (by omega), hset2, hrec _ hm2.1 (by omega), Int.toNat_natCast]; rfl
              · rw [if_neg a2, if_neg (fun h => a2 h.2.1)]; rfl
            · rw [if_neg a1, if_neg (fun h => a1 h.1)]; rfl
        · rw [if_neg p2, if_neg p2]; rfl
theorem impl_begins_eq (l : List S45) (hl : l.length ≤ 1048576) (k : Nat) (hk : 100 < k) : impl_begins.f k l = some (if inR l.length 1 31 then endB l.length (begs partsE [] l) else ([], false)) := by
  unfold impl_begins.f
  rw [impl_inRange_eq]
  simp only [Option.bind_some]
  by_cases h : inR (l.length : Int) 1 31 = true
  · have g := inR_iff.1 h
    rw [if_pos h, if_pos h, if_pos (by omega), if_pos (by simp; omega)]
    have := impl_begins_l0 l (by omega) (by omega) l.length k [] (List.replicate l.length 0) (by simp) (by simp) BegOk_nil (by omega)
    simpa using this
  · rw [if_neg h, if_neg h]
theorem impl_isTree_eq (l : List S45) (hl : l.length ≤ 1048576) (k : Nat) (hk : 100 < k) : impl_isTree.f k l = some (treeB partsE l) := by
  unfold impl_isTree.f treeB
  rw [impl_begins_eq l hl k hk]
  simp only [Option.bind_some]
  by_cases h : inR (l.length : Int) 1 31 = true
  · rw [if_pos h, h, Bool.true_and]
    cases begs partsE [] l <;> rfl
  · rw [if_neg h]
    simp at h
    rw [h]; rfl
theorem impl_ExprOk_eq (l : List S45) (hl : l.length ≤ 1048576) (k : Nat) (hk : 100 < k) : impl_ExprOk.f k l = some (treeB partsE l) := by
  unfold impl_ExprOk.f
  rw [impl_isTree_eq l hl k hk]; rfl
def leafS (n : S45) : Bool := if n.f0 = 3 then inR n.f1 0 2 else (n.f1 == 0)
theorem spec_l2Leaf_eq (n : S45) : spec_l2Leaf.f n.f0 n.f1 n.f2 = some (leafS n) := by
  unfold spec_l2Leaf.f leafS
  rw [spec_l1In_eq]
  by_cases h : n.f0 = 3
  · rw [if_pos h, if_pos h]; rfl
  · rw [if_neg h, if_neg h]
theorem begs_ok {P : S45 → Int} (l : List S45) : ∀ {b b' : List Int}, BegOk b → begs P b l = some b' → BegOk b' ∧ b'.length = b.length + l.length := by
  induction l with
  | nil => intro b b' h e; cases e; exact ⟨h, rfl⟩
  | cons n l ih =>
    intro b b' h e
    rw [show begs P b (n :: l) = (begStep P b n).bind fun b' => begs P b' l from rfl] at e
    obtain ⟨c, hc, he⟩ := Option.bind_eq_some_iff.1 e
    obtain ⟨h1, h2⟩ := begStep_ok h hc
    obtain ⟨h3, h4⟩ := ih h1 he
    exact ⟨h3, by rw [h4, h2, List.length_cons]; omega⟩
theorem begs_bad {P : S45 → Int} (l : List S45) : ∀ {b : List Int} {n : S45}, n ∈ l → P n = -1 → begs P b l = none := by
  induction l with
  | nil => intro b n h; simp at h
  | cons m l ih =>
    intro b n h hn
    rw [show begs P b (m :: l) = (begStep P b m).bind fun b' => begs P b' l from rfl]
    rcases List.mem_cons.1 h with rfl | h
    · unfold begStep
      rw [hn]; rfl
    · cases begStep P b m with
      | none => rfl
      | some c => exact ih h hn
/-- The trees' sizes, out of where they begin. -/
def szs (b : List Int) : List Int := (List.range b.length).map fun (j : Nat) => (j : Int) + 1 - b.getD j 0
theorem szs_length (b : List Int) : (szs b).length = b.length := by simp [szs]
theorem szs_get (b : List Int) (j : Nat) (h : j < b.length) : (szs b).getD j 0 = (j : Int) + 1 - b.getD j 0 := by
  unfold szs
  rw [List.getD_eq_getElem?_getD, List.getElem?_map, List.getElem?_range h]
  rfl
theorem szs_snoc (b : List Int) (x : Int) : szs (b ++ [x]) = szs b ++ [(b.length : Int) + 1 - x] := by
  unfold szs
  rw [List.length_append, List.length_singleton, List.range_succ, List.map_append]
  congr 1
  · apply List.map_congr_left
    intro j hj
    rw [List.mem_range] at hj
    rw [getD_snoc, if_pos hj]
  · simp only [List.map_cons, List.map_nil, getD_snoc, Nat.lt_irrefl, if_false, if_true]
def sizesB : Option (List Int) → List Int
  | none => []
  | some b => szs b
theorem spec_l2Sizes_l0 (q P : S45 → Int) (l : List S45) (hl : l.length ≤ 1000) (hP : ∀ n ∈ l, (q n = 0 ∨ q n = 1 ∨ q n = 2) ∧ P n = if q n = 0 then (if n.f2 = 0 then 0 else -1) else q n) (d : Nat) : ∀ (k : Nat) (b : List Int), b.length + d = l.length → BegOk b → 2 * d + 10 < k →
    spec_l2Sizes.l0 k l (l.map q) (szs b) (b.length : Int) = some (sizesB (begs P b (l.drop b.length))) := by
  induction d with
  | zero =>
    intro k b hb hB hk
    obtain ⟨k, rfl⟩ := succ_of hk
    simp only [spec_l2Sizes.l0]
    rw [if_neg (by omega), List.drop_eq_nil_of_le (by omega)]
    rfl
  | succ d ih =>
    intro k b hb hB hk
    obtain ⟨k, rfl⟩ := succ_of hk
    have hm : (l.map q).length = l.length := List.length_map _
    have hsl := szs_length b
    have hq : rd (l.map q) (b.length : Int) = q l[b.length] := by rw [rd_at (by omega), List.getElem_map]
    have hrec : ∀ (j : Nat) (v : Int), 2 * d + 10 < j → 0 ≤ v → v ≤ b.length → spec_l2Sizes.l0 j l (l.map q) (szs b ++ [(b.length : Int) + 1 - v]) ((b.length + 1 : Nat) : Int) = some (sizesB (begs P (b ++ [v]) (l.drop (b.length + 1)))) := by
      intro j v hj v0 v1
      have := ih j (b ++ [v]) (by simp; omega) (BegOk_snoc hB v0 v1) hj
      rw [szs_snoc] at this
      simpa using this
    obtain ⟨hq1, hPn⟩ := hP _ (List.getElem_mem (show b.length < l.length by omega))
    simp only [spec_l2Sizes.l0]
    rw [if_pos (by omega), if_pos (by omega), if_pos (by omega), hq, rdD_at (by omega), drop_cons (l := l) (i := b.length) (by omega), wrap64_succ (by omega)]
    generalize l[b.length] = n at hq1 hPn ⊢
    rw [show begs P b (n :: l.drop (b.length + 1)) = (begStep P b n).bind fun b' => begs P b' (l.drop (b.length + 1)) from rfl]
    unfold begStep
    rcases hq1 with h0 | h0 | h0
    · rw [h0, if_pos rfl] at hPn
      rw [h0, if_neg (by omega), if_neg (by omega)]
      by_cases h2 : n.f2 = 0
      · rw [if_pos h2] at hPn
        have := hrec k (b.length : Int) (by omega) (by omega) (by omega)
        rw [show (b.length : Int) + 1 - b.length = 1 by omega] at this
        rw [if_pos h2, if_pos (by omega), hPn, if_pos rfl, this]; rfl
      · rw [if_neg h2] at hPn
        rw [if_neg h2, hPn]; rfl
    · rw [h0, if_neg (by omega)] at hPn
      rw [h0, if_pos rfl, hPn, if_neg (show ¬ (1 : Int) = 0 by omega), if_pos rfl]
      by_cases i0 : b.length = 0
      · rw [if_pos (by omega), if_pos i0]; rfl
      · have e : (b.length : Int) - 1 = ((b.length - 1 : Nat) : Int) := by omega
        have hj := hB (b.length - 1) (by omega)
        rw [if_neg (by omega), if_neg i0, e, wrap64_id (n := ((b.length - 1 : Nat) : Int)) (by omega) (by omega)]
        by_cases a1 : n.f1 = ((b.length - 1 : Nat) : Int)
        · by_cases a2 : n.f2 = 0
          · have := hrec k (b.getD (b.length - 1) 0) (by omega) hj.1 (by omega)
            rw [if_pos a1, if_pos a2, if_pos (show n.f1 = ((b.length - 1 : Nat) : Int) ∧ n.f2 = 0 from ⟨a1, a2⟩), if_pos (by omega), if_pos (by omega), if_pos (by omega), rd_nat, szs_get b _ (by omega), wrap64_id (by omega) (by omega), show (1 : Int) + (((b.length - 1 : Nat) : Int) + 1 - b.getD (b.length - 1) 0) = (b.length : Int) + 1 - b.getD (b.length - 1) 0 by omega, this]; rfl
          · rw [if_pos a1, if_neg a2, if_neg (fun h => a2 h.2)]; rfl
        · rw [if_neg a1, if_neg (fun h => a1 h.1)]; rfl
    · obtain ⟨k, rfl⟩ := succ_of (show 0 < k by omega)
      simp only [spec_l2Sizes.j1]
      rw [wrap64_succ (i := b.length) (by omega)]
      rw [h0, if_neg (by omega)] at hPn
      rw [h0, if_neg (by omega), if_pos rfl, hPn, if_neg (show ¬ (2 : Int) = 0 by omega), if_neg (show ¬ (2 : Int) = 1 by omega), if_pos rfl]
      by_cases i0 : b.length = 0
      · rw [if_pos (by omega), if_pos trivial, if_pos i0]; rfl
      · have e : (b.length : Int) - 1 = ((b.length - 1 : Nat) : Int) := by omega
        have hj := hB (b.length - 1) (by omega)
        rw [if_neg i0, e, wrap64_id (n := ((b.length - 1 : Nat) : Int)) (by omega) (by omega), rd_nat, szs_get b _ (by omega)]
        by_cases i1 : b.length = 1
        · rw [if_pos (by omega), if_pos trivial, if_neg]
          · rfl
          · rintro ⟨_, a2, a3⟩
            have : b.getD (b.length - 1) 0 ≤ 0 := by have := hj.2; omega
            omega
        · rw [if_neg (by omega)]
          by_cases a1 : n.f2 = ((b.length - 1 : Nat) : Int)
          · rw [a1, bne_self_eq_false, if_neg (by simp), if_pos (by omega), if_pos (by omega), show ((b.length - 1 : Nat) : Int) - (((b.length - 1 : Nat) : Int) + 1 - b.getD (b.length - 1) 0) = b.getD (b.length - 1) 0 - 1 by omega, wrap64_id (n := b.getD (b.length - 1) 0 - 1) (by omega) (by omega)]
            by_cases a3 : b.getD (b.length - 1) 0 - 1 < 0
            · rw [if_pos a3, if_neg (fun h => by omega)]; rfl
            · rw [if_neg a3]
              by_cases a2 : n.f1 = b.getD (b.length - 1) 0 - 1
              · obtain ⟨m, hm'⟩ := Int.eq_ofNat_of_zero_le (show 0 ≤ b.getD (b.length - 1) 0 - 1 by omega)
                have hm2 := hB m (by omega)
                have := hrec k (b.getD m 0) (by omega) hm2.1 (by omega)
                rw [if_pos a2, if_pos (by omega), if_pos (by omega), if_pos (by omega), if_pos (show ((b.length - 1 : Nat) : Int) = ((b.length - 1 : Nat) : Int) ∧ n.f1 = b.getD (b.length - 1) 0 - 1 ∧ 0 ≤ n.f1 from ⟨rfl, a2, by omega⟩), a2, hm', rd_nat, szs_get b _ (by omega), wrap64_id (n := 1 + (((b.length - 1 : Nat) : Int) + 1 - b.getD (b.length - 1) 0)) (by omega) (by omega), wrap64_id (by omega) (by omega), Int.toNat_natCast, show 1 + (((b.length - 1 : Nat) : Int) + 1 - b.getD (b.length - 1) 0) + ((m : Int) + 1 - b.getD m 0) = (b.length : Int) + 1 - b.getD m 0 by omega, this]; rfl
              · rw [if_neg a2, if_neg (fun h => a2 h.2.1)]; rfl
          · rw [if_pos (by simpa using a1), if_neg (fun h => a1 h.1)]; rfl
theorem spec_l2Sizes_eq (q P : S45 → Int) (l : List S45) (hl : l.length ≤ 1000) (hP : ∀ n ∈ l, (q n = 0 ∨ q n = 1 ∨ q n = 2) ∧ P n = if q n = 0 then (if n.f2 = 0 then 0 else -1) else q n) (k : Nat) (hk : 2 * l.length + 10 < k) : spec_l2Sizes.f k l (l.map q) = some (sizesB (begs P [] l)) := by
  unfold spec_l2Sizes.f
  exact spec_l2Sizes_l0 q P l hl hP l.length k [] (by simp) BegOk_nil hk
def kindE (x : Int) : Int := if x = 1 then 0 else if x = 2 then 0 else if x = 3 then 0 else if x = 4 then 1 else if x = 5 then 2 else if x = 6 then 2 else -1
theorem spec_l2Parts_eq (x : Int) (k : Nat) (hk : 4 < k) : spec_l2Parts.f k x = some (kindE x) := by
  unfold spec_l2Parts.f kindE
  obtain ⟨k, rfl⟩ := succ_of hk
  simp only [spec_l2Parts.j0]
  by_cases h1 : x = 1
  · rw [if_pos h1, if_pos h1, h1]; rfl
  · rw [if_neg h1, if_neg h1]
    by_cases h2 : x = 2
    · rw [if_pos h2, if_pos h2, h2]; rfl
    · rw [if_neg h2, if_neg h2]
      by_cases h3 : x = 3
      · rw [h3]; rfl
      · rw [if_neg (by simpa using h3), if_neg h3]
        split <;> (try split) <;> (try split) <;> rfl
def goodE (n : S45) : Bool := decide (0 ≤ kindE n.f0) && (kindE n.f0 != 0 || leafS n)
theorem goodE_of {n : S45} (h : goodE n = true) : (kindE n.f0 = 0 ∨ kindE n.f0 = 1 ∨ kindE n.f0 = 2) ∧ partsE n = if kindE n.f0 = 0 then (if n.f2 = 0 then 0 else -1) else kindE n.f0 := by
  obtain ⟨x, a, c⟩ := n
  unfold goodE leafS at h
  unfold partsE leafZ
  simp only at h ⊢
  have key : x = 1 ∨ x = 2 ∨ x = 3 ∨ x = 4 ∨ x = 5 ∨ x = 6 ∨ (x ≠ 1 ∧ x ≠ 2 ∧ x ≠ 3 ∧ x ≠ 4 ∧ x ≠ 5 ∧ x ≠ 6) := by omega
  rcases key with rfl | rfl | rfl | rfl | rfl | rfl | ⟨n1, n2, n3, n4, n5, n6⟩
  · simp [kindE] at h ⊢; subst h; simp [inR]
  · simp [kindE] at h ⊢; subst h; simp [inR]
  · simp [kindE] at h ⊢; rw [h]; simp
  · simp [kindE]
  · simp [kindE]
  · simp [kindE]
  · simp [kindE, n1, n2, n3, n4, n5, n6] at h
theorem goodE_not {n : S45} (h : goodE n = false) : partsE n = -1 := by
  obtain ⟨x, a, c⟩ := n
  unfold goodE leafS at h
  unfold partsE leafZ
  simp only at h ⊢
  have key : x = 1 ∨ x = 2 ∨ x = 3 ∨ x = 4 ∨ x = 5 ∨ x = 6 ∨ (x ≠ 1 ∧ x ≠ 2 ∧ x ≠ 3 ∧ x ≠ 4 ∧ x ≠ 5 ∧ x ≠ 6) := by omega
  rcases key with rfl | rfl | rfl | rfl | rfl | rfl | ⟨n1, n2, n3, n4, n5, n6⟩
  · simp [kindE] at h ⊢
    rw [show inR a 0 0 = false from inR_false.2 (by omega)]; simp
  · simp [kindE] at h ⊢
    rw [show inR a 0 0 = false from inR_false.2 (by omega)]; simp
  · simp [kindE] at h ⊢
    rw [h]; simp
  · simp [kindE] at h
  · simp [kindE] at h
  · simp [kindE] at h
  · simp [n1, n2, n3, n4, n5, n6]
theorem spec_ExprOk_l0 (l : List S45) (h1 : 1 ≤ l.length) (hl : l.length ≤ 1000) (d : Nat) : ∀ (k i : Nat), i + d = l.length → (∀ n ∈ l.take i, goodE n = true) → d + 2 * l.length + 20 < k →
    spec_ExprOk.l0 k l ((l.take i).map fun n => kindE n.f0) (i : Int) = some (match begs partsE [] l with | none => false | some b => b.getD (l.length - 1) 0 == 0) := by
  induction d with
  | zero =>
    intro k i hi hg hk
    obtain ⟨k, rfl⟩ := succ_of hk
    rw [List.take_of_length_le (by omega)] at hg ⊢
    simp only [spec_ExprOk.l0]
    rw [if_neg (by omega), spec_l2Sizes_eq (fun n => kindE n.f0) partsE l hl (fun n hn => goodE_of (hg n hn)) k (by omega)]
    simp only [Option.bind_some]
    cases hb : begs partsE [] l with
    | none =>
      rw [if_neg (by simp only [sizesB, List.length_nil]; omega)]
    | some b =>
      obtain ⟨hB, hbl⟩ := begs_ok l BegOk_nil hb
      have hsl := szs_length b
      simp only [List.length_nil, Nat.zero_add] at hbl
      rw [show sizesB (some b) = szs b from rfl, if_pos (by omega), wrap64_id (n := (l.length : Int) - 1) (by omega) (by omega), if_pos (by omega), if_pos (by omega), show (l.length : Int) - 1 = ((l.length - 1 : Nat) : Int) by omega, rd_nat, szs_get b _ (by omega)]
      congr 1
      rw [Bool.eq_iff_iff]
      simp only [beq_iff_eq]
      omega
  | succ d ih =>
    intro k i hi hg hk
    obtain ⟨k, rfl⟩ := succ_of hk
    simp only [spec_ExprOk.l0]
    rw [if_pos (by omega), if_pos (by omega), rdD_at (by omega), spec_l2Parts_eq _ k (by omega), spec_l2Leaf_eq, wrap64_succ (by omega)]
    simp only [Option.bind_some]
    have hmem := List.getElem_mem (show i < l.length by omega)
    have hlen : ((l.take i).map fun n => kindE n.f0).length < 17592186044416 := by rw [List.length_map, List.length_take]; omega
    have hsn : ((l.take i).map fun n => kindE n.f0) ++ [kindE l[i].f0] = (l.take (i + 1)).map fun n => kindE n.f0 := by rw [List.take_succ_eq_append_getElem (by omega), List.map_append]; rfl
    rw [if_pos hlen, hsn]
    by_cases hgi : goodE l[i] = true
    · have hrec := ih k (i + 1) (by omega) (fun n hn => by
        rw [List.take_succ_eq_append_getElem (by omega)] at hn
        rcases List.mem_append.1 hn with hn | hn
        · exact hg n hn
        · rw [List.mem_singleton] at hn; rw [hn]; exact hgi) (by omega)
      rw [hrec]
      have hgo := (goodE_of hgi).1
      unfold goodE at hgi
      rw [if_neg (by omega)]
      by_cases h0 : kindE l[i].f0 = 0
      · rw [if_pos h0]
        rw [h0] at hgi
        simp at hgi
        rw [if_pos hgi]
      · rw [if_neg h0]
    · simp only [Bool.not_eq_true] at hgi
      rw [begs_bad l hmem (goodE_not hgi)]
      unfold goodE at hgi
      by_cases hn : kindE l[i].f0 < 0
      · rw [if_pos hn]
      · rw [if_neg hn]
        rw [decide_eq_true (show 0 ≤ kindE l[i].f0 by omega), Bool.true_and, Bool.or_eq_false_iff] at hgi
        obtain ⟨g1, g2⟩ := hgi
        simp only [bne_eq_false_iff_eq] at g1
        rw [if_pos g1, if_neg (by rw [g2]; simp)]
theorem spec_ExprOk_eq (l : List S45) (hl : l.length ≤ 1048576) (k : Nat) (hk : 3000 < k) : spec_ExprOk.f k l = some (treeB partsE l) := by
  unfold spec_ExprOk.f treeB
  rw [spec_l1In_eq]
  simp only [Option.bind_some]
  by_cases h : inR (l.length : Int) 1 31 = true
  · have g := inR_iff.1 h
    have := spec_ExprOk_l0 l (by omega) (by omega) l.length k 0 (by omega) (by simp) (by omega)
    rw [if_pos h, h, Bool.true_and]
    exact this
  · rw [if_neg h]
    simp at h
    rw [h]; rfl
/-- A node that stands at a right place: its parts stand ahead of it. -/
def NodeAt (j : Nat) (n : S45) : Prop := n.f0 = 1 ∨ n.f0 = 2 ∨ (n.f0 = 3 ∧ 0 ≤ n.f1 ∧ n.f1 ≤ 2) ∨ (n.f0 = 4 ∧ 0 ≤ n.f1 ∧ n.f1 < j) ∨ (n.f0 = 5 ∧ 0 ≤ n.f1 ∧ n.f1 < j ∧ 0 ≤ n.f2 ∧ n.f2 < j) ∨ (n.f0 = 6 ∧ 0 ≤ n.f1 ∧ n.f1 < j ∧ 0 ≤ n.f2 ∧ n.f2 < j)
theorem nodeAt_of {b b' : List Int} {n : S45} (hB : BegOk b) (h : begStep partsE b n = some b') : NodeAt b.length n := by
  obtain ⟨x, a, c⟩ := n
  unfold begStep at h
  unfold NodeAt
  simp only at h ⊢
  have key : x = 1 ∨ x = 2 ∨ x = 3 ∨ x = 4 ∨ x = 5 ∨ x = 6 ∨ (x ≠ 1 ∧ x ≠ 2 ∧ x ≠ 3 ∧ x ≠ 4 ∧ x ≠ 5 ∧ x ≠ 6) := by omega
  rcases key with rfl | rfl | rfl | rfl | rfl | rfl | ⟨n1, n2, n3, n4, n5, n6⟩
  · exact Or.inl rfl
  · exact Or.inr (Or.inl rfl)
  · refine Or.inr (Or.inr (Or.inl ⟨rfl, ?_⟩))
    by_cases hr : inR a 0 2 = true
    · exact inR_iff.1 hr
    · exfalso
      have e : partsE ⟨3, a, c⟩ = -1 := by
        unfold partsE leafZ
        simp only [Bool.not_eq_true] at hr
        simp [hr]
      rw [e] at h
      simp at h
  · refine Or.inr (Or.inr (Or.inr (Or.inl ⟨rfl, ?_⟩)))
    rw [show partsE ⟨4, a, c⟩ = 1 from rfl, if_neg (by omega), if_pos rfl] at h
    by_cases h0 : b.length = 0
    · rw [if_pos h0] at h; cases h
    · rw [if_neg h0] at h
      by_cases h1 : a = (b.length : Int) - 1 ∧ c = 0
      · omega
      · rw [if_neg h1] at h; cases h
  · refine Or.inr (Or.inr (Or.inr (Or.inr (Or.inl ⟨rfl, ?_⟩))))
    rw [show partsE ⟨5, a, c⟩ = 2 from rfl, if_neg (by omega), if_neg (by omega), if_pos rfl] at h
    by_cases h0 : b.length = 0
    · rw [if_pos h0] at h; cases h
    · rw [if_neg h0] at h
      have := hB (b.length - 1) (by omega)
      by_cases h1 : c = (b.length : Int) - 1 ∧ a = b.getD (b.length - 1) 0 - 1 ∧ 0 ≤ a
      · omega
      · rw [if_neg h1] at h; cases h
  · refine Or.inr (Or.inr (Or.inr (Or.inr (Or.inr ⟨rfl, ?_⟩))))
    rw [show partsE ⟨6, a, c⟩ = 2 from rfl, if_neg (by omega), if_neg (by omega), if_pos rfl] at h
    by_cases h0 : b.length = 0
    · rw [if_pos h0] at h; cases h
    · rw [if_neg h0] at h
      have := hB (b.length - 1) (by omega)
      by_cases h1 : c = (b.length : Int) - 1 ∧ a = b.getD (b.length - 1) 0 - 1 ∧ 0 ≤ a
      · omega
      · rw [if_neg h1] at h; cases h
  · exfalso
    have e : partsE ⟨x, a, c⟩ = -1 := by
      unfold partsE
      simp [n1, n2, n3, n4, n5, n6]
    rw [e] at h
    simp at h
theorem begs_nodes (l : List S45) : ∀ {b b' : List Int}, BegOk b → begs partsE b l = some b' → ∀ j (h : j < l.length), NodeAt (b.length + j) l[j] := by
  induction l with
  | nil => intro b b' _ _ j h; simp at h
  | cons n l ih =>
    intro b b' hB e j h
    rw [show begs partsE b (n :: l) = (begStep partsE b n).bind fun b' => begs partsE b' l from rfl] at e
    obtain ⟨c, hc, he⟩ := Option.bind_eq_some_iff.1 e
    obtain ⟨h1, h2⟩ := begStep_ok hB hc
    cases j with
    | zero => exact nodeAt_of hB hc
    | succ j =>
      have := ih h1 he j (by simpa using h)
      rw [h2] at this
      simpa [Nat.add_assoc, Nat.add_comm 1 j] using this
theorem tree_nodes {l : List S45} (h : treeB partsE l = true) : (1 ≤ l.length ∧ l.length ≤ 31) ∧ ∀ j (h : j < l.length), NodeAt j l[j] := by
  unfold treeB at h
  rw [Bool.and_eq_true] at h
  obtain ⟨h1, h2⟩ := h
  have g := inR_iff.1 h1
  refine ⟨by omega, ?_⟩
  cases hb : begs partsE [] l with
  | none => rw [hb] at h2; cases h2
  | some b =>
    intro j hj
    have := begs_nodes l BegOk_nil hb j hj
    simpa using this
def e0 : ByteArray := ⟨#[]⟩
/-- A node's text, by the texts of the nodes ahead of it. -/
def plainT (n : S45) (v : List ByteArray) : ByteArray :=
  if n.f0 = 1 then ⟨#[116]⟩ else if n.f0 = 2 then ⟨#[102]⟩ else if n.f0 = 3 then strOfNums [(wrap64 (48 + n.f1)) % 256] else if n.f0 = 4 then (⟨#[33]⟩ : ByteArray) ++ v.getD n.f1.toNat e0
  else if n.f0 = 5 then ((((⟨#[40]⟩ : ByteArray) ++ v.getD n.f1.toNat e0) ++ (⟨#[38]⟩ : ByteArray)) ++ v.getD n.f2.toNat e0) ++ (⟨#[41]⟩ : ByteArray)
  else ((((⟨#[40]⟩ : ByteArray) ++ v.getD n.f1.toNat e0) ++ (⟨#[124]⟩ : ByteArray)) ++ v.getD n.f2.toNat e0) ++ (⟨#[41]⟩ : ByteArray)
def textsT : List ByteArray → List S45 → List ByteArray
  | v, [] => v
  | v, n :: l => textsT (v ++ [plainT n v]) l
theorem plainT1 {n : S45} (v : List ByteArray) (h0 : n.f0 = 1) : plainT n v = ⟨#[116]⟩ := by unfold plainT; rw [if_pos h0]
theorem plainT2 {n : S45} (v : List ByteArray) (h0 : n.f0 = 2) : plainT n v = ⟨#[102]⟩ := by unfold plainT; rw [if_neg (by omega), if_pos h0]
theorem plainT3 {n : S45} (v : List ByteArray) (h0 : n.f0 = 3) : plainT n v = strOfNums [(wrap64 (48 + n.f1)) % 256] := by unfold plainT; rw [if_neg (by omega), if_neg (by omega), if_pos h0]
theorem plainT4 {n : S45} (v : List ByteArray) (h0 : n.f0 = 4) : plainT n v = (⟨#[33]⟩ : ByteArray) ++ v.getD n.f1.toNat e0 := by unfold plainT; rw [if_neg (by omega), if_neg (by omega), if_neg (by omega), if_pos h0]
theorem plainT5 {n : S45} (v : List ByteArray) (h0 : n.f0 = 5) : plainT n v = ((((⟨#[40]⟩ : ByteArray) ++ v.getD n.f1.toNat e0) ++ (⟨#[38]⟩ : ByteArray)) ++ v.getD n.f2.toNat e0) ++ (⟨#[41]⟩ : ByteArray) := by unfold plainT; rw [if_neg (by omega), if_neg (by omega), if_neg (by omega), if_neg (by omega), if_pos h0]
theorem plainT6 {n : S45} (v : List ByteArray) (h0 : n.f0 = 6) : plainT n v = ((((⟨#[40]⟩ : ByteArray) ++ v.getD n.f1.toNat e0) ++ (⟨#[124]⟩ : ByteArray)) ++ v.getD n.f2.toNat e0) ++ (⟨#[41]⟩ : ByteArray) := by unfold plainT; rw [if_neg (by omega), if_neg (by omega), if_neg (by omega), if_neg (by omega), if_neg (by omega)]
theorem plainT_congr {j : Nat} {n : S45} {u v : List ByteArray} (hn : NodeAt j n) (h : ∀ i, i < j → u.getD i e0 = v.getD i e0) : plainT n u = plainT n v := by
  rcases hn with h0 | h0 | ⟨h0, _⟩ | ⟨h0, h1, h2⟩ | ⟨h0, h1, h2, h3, h4⟩ | ⟨h0, h1, h2, h3, h4⟩
  · rw [plainT1 _ h0, plainT1 _ h0]
  · rw [plainT2 _ h0, plainT2 _ h0]
  · rw [plainT3 _ h0, plainT3 _ h0]
  · rw [plainT4 _ h0, plainT4 _ h0, h n.f1.toNat (by omega)]
  · rw [plainT5 _ h0, plainT5 _ h0, h n.f1.toNat (by omega), h n.f2.toNat (by omega)]
  · rw [plainT6 _ h0, plainT6 _ h0, h n.f1.toNat (by omega), h n.f2.toNat (by omega)]
theorem textsT_length (l : List S45) : ∀ v, (textsT v l).length = v.length + l.length := by
  induction l with
  | nil => intro v; rfl
  | cons n l ih =>
    intro v
    rw [show textsT v (n :: l) = textsT (v ++ [plainT n v]) l from rfl, ih]
    simp; omega
theorem textsT_get_lt (l : List S45) : ∀ v i, i < v.length → (textsT v l).getD i e0 = v.getD i e0 := by
  induction l with
  | nil => intro v i _; rfl
  | cons n l ih =>
    intro v i hi
    rw [show textsT v (n :: l) = textsT (v ++ [plainT n v]) l from rfl, ih _ i (by simp; omega)]
    simp [List.getD_eq_getElem?_getD, List.getElem?_append_left hi]
theorem textsT_get (l : List S45) : ∀ v, (∀ j (h : j < l.length), NodeAt (v.length + j) l[j]) → ∀ j (h : j < l.length), (textsT v l).getD (v.length + j) e0 = plainT l[j] (textsT v l) := by
  induction l with
  | nil => intro v _ j h; simp at h
  | cons n l ih =>
    intro v hn j h
    rw [show textsT v (n :: l) = textsT (v ++ [plainT n v]) l from rfl]
    cases j with
    | zero =>
      have hn0 := hn 0 h
      rw [Nat.add_zero] at hn0 ⊢
      rw [textsT_get_lt l _ v.length (by simp)]
      rw [List.getElem_cons_zero] at hn0 ⊢
      rw [plainT_congr (u := textsT (v ++ [plainT n v]) l) (v := v) hn0 (fun i hi => by
        rw [textsT_get_lt l _ i (by simp; omega)]
        simp [List.getD_eq_getElem?_getD, List.getElem?_append_left hi])]
      simp [List.getD_eq_getElem?_getD]
    | succ j =>
      have := ih (v ++ [plainT n v]) (fun i hi => by
        have := hn (i + 1) (by simpa using hi)
        simpa [Nat.add_assoc, Nat.add_comm 1 i] using this) j (by simpa using h)
      simpa [Nat.add_assoc, Nat.add_comm 1 j] using this
/-- The texts of the nodes. -/
def texts (l : List S45) : List ByteArray := textsT [] l
theorem texts_length (l : List S45) : (texts l).length = l.length := by
  unfold texts; rw [textsT_length]; simp
theorem texts_get {l : List S45} (hn : ∀ j (h : j < l.length), NodeAt j l[j]) (j : Nat) (h : j < l.length) : (texts l).getD j e0 = plainT l[j] (texts l) := by
  have := textsT_get l [] (fun j h => by simpa using hn j h) j h
  unfold texts
  simpa using this
theorem size1 (x : UInt8) : (⟨#[x]⟩ : ByteArray).size = 1 := rfl
theorem size_digit (x : Int) : (strOfNums [x]).size = 1 := rfl
theorem texts_size {l : List S45} (hn : ∀ j (h : j < l.length), NodeAt j l[j]) : ∀ (m j : Nat), j < m → j < l.length → ((texts l).getD j e0).size + 3 ≤ 4 * 2 ^ j := by
  intro m
  induction m with
  | zero => intro j h; omega
  | succ m ih =>
    intro j hj hjl
    have hnj := hn j hjl
    rw [texts_get hn j hjl]
    generalize l[j] = n at hnj ⊢
    have key : ∀ i : Nat, i < j → ((texts l).getD i e0).size + 3 ≤ 2 * 2 ^ j := fun i hi => by
      have h1 := ih i (by omega) (by omega)
      have h2 : 2 ^ (i + 1) ≤ 2 ^ j := Nat.pow_le_pow_right (by omega) (by omega)
      rw [Nat.pow_succ] at h2
      omega
    have hp := Nat.two_pow_pos j
    rcases hnj with h0 | h0 | ⟨h0, _⟩ | ⟨h0, h1, h2⟩ | ⟨h0, h1, h2, h3, h4⟩ | ⟨h0, h1, h2, h3, h4⟩
    · rw [plainT1 _ h0, size1]; omega
    · rw [plainT2 _ h0, size1]; omega
    · rw [plainT3 _ h0, size_digit]; omega
    · rw [plainT4 _ h0, ByteArray.size_append, size1]
      have := key n.f1.toNat (by omega)
      omega
    · rw [plainT5 _ h0]
      simp only [ByteArray.size_append, size1]
      have := key n.f1.toNat (by omega)
      have := key n.f2.toNat (by omega)
      omega
    · rw [plainT6 _ h0]
      simp only [ByteArray.size_append, size1]
      have := key n.f1.toNat (by omega)
      have := key n.f2.toNat (by omega)
      omega
theorem texts_small {l : List S45} (hn : ∀ j (h : j < l.length), NodeAt j l[j]) (hl : l.length ≤ 31) (j : Nat) (h : j < l.length) : ((texts l).getD j e0).size ≤ 8589934592 := by
  have h1 := texts_size hn (j + 1) j (by omega) h
  have h2 := pow_le_31 (n := j) (by omega)
  omega
theorem getD_small {l : List S45} (hn : ∀ j (h : j < l.length), NodeAt j l[j]) (hl : l.length ≤ 31) (v : List ByteArray) (i j : Nat) (h : j < l.length) (hv : ∀ i, i < j → v.getD i e0 = (texts l).getD i e0) (hi : i < j) : (v.getD i e0).size ≤ 8589934592 := by
  rw [hv i hi]
  exact texts_small hn hl i (by omega)
/-- A tree's nodes: how many parts each has. -/
theorem begs_parts (P : S45 → Int) (l : List S45) : ∀ {b b' : List Int}, begs P b l = some b' → ∀ j (h : j < l.length), P l[j] = 0 ∨ P l[j] = 1 ∨ P l[j] = 2 := by
  induction l with
  | nil => intro b b' _ j h; simp at h
  | cons n l ih =>
    intro b b' e j h
    rw [show begs P b (n :: l) = (begStep P b n).bind fun b' => begs P b' l from rfl] at e
    obtain ⟨c, hc, he⟩ := Option.bind_eq_some_iff.1 e
    cases j with
    | zero =>
      rw [List.getElem_cons_zero]
      unfold begStep at hc
      by_cases p0 : P n = 0
      · exact Or.inl p0
      · by_cases p1 : P n = 1
        · exact Or.inr (Or.inl p1)
        · by_cases p2 : P n = 2
          · exact Or.inr (Or.inr p2)
          · rw [if_neg p0, if_neg p1, if_neg p2] at hc; cases hc
    | succ j =>
      have := ih he j (by simpa using h)
      simpa using this
theorem tree_parts {l : List S45} (h : treeB partsE l = true) (j : Nat) (hj : j < l.length) : partsE l[j] = (if l[j].f0 = 4 then 1 else if l[j].f0 = 5 then 2 else if l[j].f0 = 6 then 2 else 0) := by
  unfold treeB at h
  rw [Bool.and_eq_true] at h
  obtain ⟨h1, h2⟩ := h
  cases hb : begs partsE [] l with
  | none => rw [hb] at h2; cases h2
  | some b =>
    have := begs_parts partsE l hb j hj
    generalize l[j] = n at this ⊢
    have hlz : ∀ m : Int, leafZ n m = 0 ∨ leafZ n m = -1 := by
      intro m
      unfold leafZ
      split
      · split
        · exact Or.inl rfl
        · exact Or.inr rfl
      · exact Or.inr rfl
    have a0 := hlz 0
    have a2 := hlz 2
    by_cases n4 : n.f0 = 4
    · unfold partsE; simp [n4]
    · by_cases n5 : n.f0 = 5
      · unfold partsE; simp [n5]
      · by_cases n6 : n.f0 = 6
        · unfold partsE; simp [n6]
        · rw [if_neg n4, if_neg n5, if_neg n6]
          unfold partsE at this ⊢
          rw [if_neg n4, if_neg n5, if_neg n6] at this ⊢
          have a3 : ∀ x : Int, (x = 0 ∨ x = -1) → (x = 0 ∨ x = 1 ∨ x = 2) → x = 0 := fun x h1 h2 => by omega
          split at this
          · rename_i g; rw [if_pos g]; exact a3 _ a0 this
          · rename_i g; rw [if_neg g]
            split at this
            · rename_i g; rw [if_pos g]; exact a3 _ a0 this
            · rename_i g; rw [if_neg g]
              split at this
              · rename_i g; rw [if_pos g]; exact a3 _ a2 this
              · omega
theorem rdBA (v : List ByteArray) (m : Nat) : rdOf ByteArray.empty v (m : Int) = v.getD m e0 := rfl
theorem take_getB {v rest : List ByteArray} {i j : Nat} (hj : j ≤ v.length) (hi : i < j) : (v.take j ++ rest).getD i e0 = v.getD i e0 := by
  rw [List.getD_eq_getElem?_getD, List.getD_eq_getElem?_getD, List.getElem?_append_left (by rw [List.length_take]; omega), List.getElem?_take_of_lt hi]
theorem impl_printed_l0 (l : List S45) (hl1 : 1 ≤ l.length) (hl : l.length ≤ 31) (hT : treeB partsE l = true) (hn : ∀ j (h : j < l.length), NodeAt j l[j]) (d : Nat) : ∀ (k i : Nat) (rest : List ByteArray), i + d = l.length → rest.length = d → d + 10 < k →
    impl_printed.l0 k l ((texts l).take i ++ rest) l (l.length : Int) (i : Int) = some ((texts l).getD (l.length - 1) e0) := by
  have hv := texts_length l
  induction d with
  | zero =>
    intro k i rest hi hr hk
    obtain ⟨k, rfl⟩ := succ_of (show 0 < k by omega)
    obtain rfl := List.eq_nil_of_length_eq_zero hr
    simp only [impl_printed.l0]
    rw [List.append_nil, List.take_of_length_le (by omega), if_neg (by omega), wrap64_id (n := (l.length : Int) - 1) (by omega) (by omega), if_pos (by omega), if_pos (by omega), show (l.length : Int) - 1 = ((l.length - 1 : Nat) : Int) by omega, rdBA]
  | succ d ih =>
    intro k i rest hi hr hk
    obtain ⟨k, rfl⟩ := succ_of (show 0 < k by omega)
    have hlen : ((texts l).take i ++ rest).length = l.length := by rw [List.length_append, List.length_take]; omega
    have hil : i < l.length := by omega
    have hpa := tree_parts hT i hil
    have hni := hn i hil
    have hgt := texts_get hn i hil
    have hcg : ∀ a, a < i → ((texts l).take i ++ rest).getD a e0 = (texts l).getD a e0 := fun a ha => take_getB (by omega) ha
    have hcongr := plainT_congr (u := (texts l).take i ++ rest) (v := texts l) hni hcg
    have hsm : ∀ a, a < i → (((texts l).take i ++ rest).getD a e0).size ≤ 8589934592 := fun a ha => getD_small hn hl _ a i hil hcg ha
    have hstep : impl_printed.l0 k l (((texts l).take i ++ rest).set i (plainT l[i] ((texts l).take i ++ rest))) l (l.length : Int) ((i + 1 : Nat) : Int) = some ((texts l).getD (l.length - 1) e0) := by
      have e : (texts l).getD i e0 = (texts l)[i]'(by omega) := by simp [List.getD_eq_getElem?_getD, List.getElem?_eq_getElem (show i < (texts l).length by omega)]
      rw [hcongr, ← hgt, e, take_set_drop (by omega) (by omega)]
      exact ih k (i + 1) rest.tail (by omega) (by rw [List.length_tail]; omega) (by omega)
    have hin : impl_inRange.f l[i].f0 1 11 = some true := by
      rw [impl_inRange_eq, inR_iff.2 (by rcases hni with h0 | h0 | ⟨h0, _⟩ | ⟨h0, _⟩ | ⟨h0, _⟩ | ⟨h0, _⟩ <;> omega)]
    simp only [impl_printed.l0]
    rw [if_pos (by omega), if_pos (by omega), if_pos (by omega), rdD_at hil, impl_exprParts_eq _ k (by omega), wrap64_succ (by omega)]
    unfold impl_signOf.f
    rw [hin, Option.bind_some, if_pos rfl, Option.bind_some, Option.bind_some, hlen, Int.toNat_natCast]
    clear hin hgt hcg hcongr ih
    generalize (texts l).take i ++ rest = u at hlen hsm hstep ⊢
    generalize l[i] = n at hni hstep hpa ⊢
    rcases hni with h0 | h0 | ⟨h0, h1, h2⟩ | ⟨h0, h1, h2⟩ | ⟨h0, h1, h2, h3, h4⟩ | ⟨h0, h1, h2, h3, h4⟩
    · rw [plainT1 _ h0] at hstep
      rw [h0] at hpa
      rw [h0, show partsE n = 0 by rw [hpa]; rfl, if_pos rfl, if_pos (by omega), Option.bind_some, if_neg (by omega)]
      exact hstep
    · rw [plainT2 _ h0] at hstep
      rw [h0] at hpa
      rw [h0, show partsE n = 0 by rw [hpa]; rfl, if_pos rfl, if_pos (by omega), Option.bind_some, if_neg (by omega)]
      exact hstep
    · rw [plainT3 _ h0] at hstep
      unfold impl_digit.f
      rw [h0] at hpa
      rw [h0, show partsE n = 0 by rw [hpa]; rfl, if_pos rfl, if_pos (by omega), Option.bind_some, if_pos rfl, Option.bind_some, List.set_set]
      exact hstep
    · obtain ⟨m, hm⟩ := Int.eq_ofNat_of_zero_le h1
      have hs := hsm m (by omega)
      rw [plainT4 _ h0, hm, Int.toNat_natCast] at hstep
      rw [h0] at hpa
      rw [h0, show partsE n = 1 by rw [hpa]; rfl, if_neg (by omega), if_pos rfl, if_pos h1, if_pos (by omega), hm, rdBA]
      rw [show ([⟨#[116]⟩, ⟨#[102]⟩, ⟨#[]⟩, ⟨#[33]⟩, ⟨#[38]⟩, ⟨#[124]⟩, ⟨#[88]⟩, ⟨#[85]⟩, ⟨#[82]⟩, ⟨#[70]⟩, ⟨#[71]⟩] : List ByteArray).getD ((4 : Int) - 1).toNat ⟨#[]⟩ = ⟨#[33]⟩ from rfl, size1, if_pos (by omega), if_pos (by omega)]
      exact hstep
    · obtain ⟨m, hm⟩ := Int.eq_ofNat_of_zero_le h1
      obtain ⟨p, hp⟩ := Int.eq_ofNat_of_zero_le h3
      have hs := hsm m (by omega)
      have hs2 := hsm p (by omega)
      rw [plainT5 _ h0, hm, hp, Int.toNat_natCast, Int.toNat_natCast] at hstep
      rw [h0] at hpa
      rw [h0, show partsE n = 2 by rw [hpa]; rfl, if_neg (by omega), if_neg (by omega), if_pos h1, if_pos (by omega), hm, hp, rdBA, rdBA]
      rw [show ([⟨#[116]⟩, ⟨#[102]⟩, ⟨#[]⟩, ⟨#[33]⟩, ⟨#[38]⟩, ⟨#[124]⟩, ⟨#[88]⟩, ⟨#[85]⟩, ⟨#[82]⟩, ⟨#[70]⟩, ⟨#[71]⟩] : List ByteArray).getD ((5 : Int) - 1).toNat ⟨#[]⟩ = ⟨#[38]⟩ from rfl]
      simp only [ByteArray.size_append, size1]
      rw [if_pos (by omega), if_pos (by omega), if_pos (by omega), if_pos (by omega), if_pos (by omega), if_pos (by omega), if_pos (by omega)]
      exact hstep
    · obtain ⟨m, hm⟩ := Int.eq_ofNat_of_zero_le h1
      obtain ⟨p, hp⟩ := Int.eq_ofNat_of_zero_le h3
      have hs := hsm m (by omega)
      have hs2 := hsm p (by omega)
      rw [plainT6 _ h0, hm, hp, Int.toNat_natCast, Int.toNat_natCast] at hstep
      rw [h0] at hpa
      rw [h0, show partsE n = 2 by rw [hpa]; rfl, if_neg (by omega), if_neg (by omega), if_pos h1, if_pos (by omega), hm, hp, rdBA, rdBA]
      rw [show ([⟨#[116]⟩, ⟨#[102]⟩, ⟨#[]⟩, ⟨#[33]⟩, ⟨#[38]⟩, ⟨#[124]⟩, ⟨#[88]⟩, ⟨#[85]⟩, ⟨#[82]⟩, ⟨#[70]⟩, ⟨#[71]⟩] : List ByteArray).getD ((6 : Int) - 1).toNat ⟨#[]⟩ = ⟨#[124]⟩ from rfl]
      simp only [ByteArray.size_append, size1]
      rw [if_pos (by omega), if_pos (by omega), if_pos (by omega), if_pos (by omega), if_pos (by omega), if_pos (by omega), if_pos (by omega)]
      exact hstep
/-- The text of an expression. -/
def printZ (l : List S45) : ByteArray := if treeB partsE l then (texts l).getD (l.length - 1) e0 else ⟨#[]⟩
theorem impl_ExprPrint_eq (l : List S45) (hl : l.length ≤ 1048576) (k : Nat) (hk : 100 < k) : impl_ExprPrint.f k l = some (printZ l) := by
  unfold impl_ExprPrint.f printZ
  rw [impl_ExprOk_eq l hl k (by omega), Option.bind_some]
  by_cases h : treeB partsE l = true
  · obtain ⟨hl2, hn⟩ := tree_nodes h
    rw [if_pos h, if_pos h]
    unfold impl_printed.f
    rw [if_pos (by omega), if_pos (by omega)]
    have := impl_printed_l0 l (by omega) (by omega) h hn l.length k 0 (List.replicate l.length ⟨#[]⟩) (by omega) (by simp) (by omega)
    rw [List.take_zero, List.nil_append] at this
    rw [Int.toNat_natCast, show impl_printed.l0 k l (List.replicate l.length (⟨#[]⟩ : ByteArray)) l (l.length : Int) 0 = some ((texts l).getD (l.length - 1) e0) from this, Option.bind_some]
  · rw [if_neg h, if_neg h]
theorem spec_l2Print_eq (l : List S45) (hl : l.length ≤ 31) (hn : ∀ j (h : j < l.length), NodeAt j l[j]) : ∀ (k j : Nat), j < k → j < l.length → spec_l2Print.f k l (j : Int) = some ((texts l).getD j e0) := by
  intro k
  induction k with
  | zero => intro j h; omega
  | succ k ih =>
    intro j hj hjl
    have hsm : ∀ a, a < j → ((texts l).getD a e0).size ≤ 8589934592 := fun a ha => texts_small hn hl a (by omega)
    rw [texts_get hn j hjl]
    have hnj := hn j hjl
    simp only [spec_l2Print.f]
    rw [if_pos (by omega), if_pos (by omega), rdD_at hjl]
    generalize l[j] = n at hnj ⊢
    rcases hnj with h0 | h0 | ⟨h0, h1, h2⟩ | ⟨h0, h1, h2⟩ | ⟨h0, h1, h2, h3, h4⟩ | ⟨h0, h1, h2, h3, h4⟩
    · rw [plainT1 _ h0, if_pos h0]
    · rw [plainT2 _ h0, if_neg (by omega), if_pos h0]
    · rw [plainT3 _ h0, if_neg (by omega), if_neg (by omega), if_pos h0]; rfl
    · obtain ⟨m, hm⟩ := Int.eq_ofNat_of_zero_le h1
      have hs := hsm m (by omega)
      rw [plainT4 _ h0, if_neg (by omega), if_neg (by omega), if_neg (by omega), if_pos h0, hm, ih m (by omega) (by omega), Option.bind_some, Int.toNat_natCast, if_pos (by omega)]
    · obtain ⟨m, hm⟩ := Int.eq_ofNat_of_zero_le h1
      obtain ⟨p, hp⟩ := Int.eq_ofNat_of_zero_le h3
      have hs := hsm m (by omega)
      have hs2 := hsm p (by omega)
      rw [plainT5 _ h0, if_neg (by omega), if_neg (by omega), if_neg (by omega), if_neg (by omega), if_pos h0, hm, hp, ih m (by omega) (by omega), ih p (by omega) (by omega), Option.bind_some, Option.bind_some, Int.toNat_natCast, Int.toNat_natCast]
      simp only [ByteArray.size_append, size1]
      rw [if_pos (by omega), if_pos (by omega), if_pos (by omega), if_pos (by omega)]
    · obtain ⟨m, hm⟩ := Int.eq_ofNat_of_zero_le h1
      obtain ⟨p, hp⟩ := Int.eq_ofNat_of_zero_le h3
      have hs := hsm m (by omega)
      have hs2 := hsm p (by omega)
      rw [plainT6 _ h0, if_neg (by omega), if_neg (by omega), if_neg (by omega), if_neg (by omega), if_neg (by omega), hm, hp, ih m (by omega) (by omega), ih p (by omega) (by omega), Option.bind_some, Option.bind_some, Int.toNat_natCast, Int.toNat_natCast]
      simp only [ByteArray.size_append, size1]
      rw [if_pos (by omega), if_pos (by omega), if_pos (by omega), if_pos (by omega)]
theorem spec_ExprPrint_eq (l : List S45) (hl : l.length ≤ 1048576) (k : Nat) (hk : 3000 < k) : spec_ExprPrint.f k l = some (printZ l) := by
  unfold spec_ExprPrint.f printZ
  rw [spec_ExprOk_eq l hl k hk, Option.bind_some]
  by_cases h : treeB partsE l = true
  · obtain ⟨hl2, hn⟩ := tree_nodes h
    rw [if_pos h, if_pos h, wrap64_id (n := (l.length : Int) - 1) (by omega) (by omega), show (l.length : Int) - 1 = ((l.length - 1 : Nat) : Int) by omega, spec_l2Print_eq l (by omega) hn k _ (by omega) (by omega), Option.bind_some]
  · rw [if_neg h, if_neg h]
end hFnExactExprPrint
open hFnExactExprPrint
theorem FnExactExprPrint : laws_FnExactExprPrint.Pure := by
  intro l hl hw
  obtain ⟨K, hK⟩ : ∃ K, K = 2000000 := ⟨_, rfl⟩
  refine ⟨K, ?_⟩
  unfold laws_FnExactExprPrint.f
  rw [szNodeS_eq l 1048576 (by omega) (by omega) hl, Option.bind_some]
  by_cases h : (1048576 : Int) < l.length
  · rw [if_pos h, if_pos (by omega)]
  · have hm : (l.map convD).length = l.length := List.length_map _
    rw [if_neg h, if_neg (by omega), toNodeS_eq l (by omega) K (by omega), Option.bind_some, spec_ExprPrint_eq _ (by omega) K (by omega), Option.bind_some, Option.bind_some, impl_ExprPrint_eq _ (by omega) K (by omega), Option.bind_some, if_pos rfl, Option.bind_some, eqNodeS_eq _ _ (by omega) K (by omega), decide_eq_true rfl, Option.bind_some, if_pos rfl]
end Go.Proofs.Ytjnieoogddmmcaa.Pure
