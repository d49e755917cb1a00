/- Tables: no key twice; the place of a key. Plain lists; nothing of the program is in sight. -/
import Derived.Test.YtgnjacjinhadaaaBaseL
namespace Go.Proofs.Ytgnjacjinhadaaa.Base
open Go Go.RowKit Go.Proofs.YtgnjacjinhadaaaW.PrintWords

/-- The place of the first a, counted from i on; -1 where there is none. -/
def idxFrom (a : Int) : List Int → Int → Int
  | [], _ => -1
  | x :: l, i => if x = a then i else idxFrom a l (i + 1)
/-- A right table. -/
def okT (l : List Int) : Bool := decide (l.length ≤ 1000) && decide l.Nodup
/-- A table, a key added. -/
def addT (l : List Int) (a : Int) : List Int × Int × Bool :=
  if okT l then (if 0 ≤ idxFrom a l 0 then (l, idxFrom a l 0, false) else if l.length = 1000 then ([], -1, false) else (l ++ [a], (l.length : Int), true)) else ([], -1, false)
theorem nodup_snoc {α : Type} {l : List α} {x : α} (h : l.Nodup) (hx : x ∉ l) : (l ++ [x]).Nodup := by
  rw [List.nodup_append]
  exact ⟨h, by simp, fun a ha b hb => by rw [List.mem_singleton] at hb; subst hb; intro e; subst e; exact hx ha⟩
theorem not_nodup_snoc {α : Type} {l : List α} {x : α} (hx : x ∈ l) : ¬ (l ++ [x]).Nodup := by
  rw [List.nodup_append]
  exact fun h => h.2.2 x hx x (List.mem_singleton_self x) rfl
theorem okT_of {l : List Int} (h : okT l = true) : l.length ≤ 1000 ∧ l.Nodup := by simpa [okT] using h
theorem addT_length (l : List Int) (a : Int) : (addT l a).1.length ≤ 1001 := by
  unfold addT
  by_cases h : okT l = true
  · have := (okT_of h).1
    rw [if_pos h]
    split
    · simp only; omega
    · split
      · simp
      · simp; omega
  · rw [if_neg h]; simp
theorem idx_range (a : Int) (l : List Int) : ∀ i : Int, 0 ≤ i → -1 ≤ idxFrom a l i ∧ (0 ≤ idxFrom a l i → i ≤ idxFrom a l i ∧ idxFrom a l i < i + l.length) := by
  induction l with
  | nil => intro i h; simp [idxFrom]
  | cons x l ih =>
    intro i h
    unfold idxFrom
    split
    · simp only [List.length_cons]; omega
    · have := ih (i + 1) (by omega)
      simp only [List.length_cons]
      omega
theorem addT_mem {l : List Int} {a x : Int} (h : x ∈ (addT l a).1) : x ∈ l ∨ x = a := by
  unfold addT at h
  split at h
  · split at h
    · exact .inl h
    · split at h
      · cases h
      · rcases List.mem_append.1 h with h | h
        · exact .inl h
        · exact .inr (List.mem_singleton.1 h)
  · cases h
theorem addT_neg {l : List Int} {a : Int} (h : (addT l a).2.1 < 0) : (addT l a).1 = [] := by
  unfold addT at h ⊢
  split
  · rename_i h1
    rw [if_pos h1] at h
    split
    · rename_i h2
      rw [if_pos h2] at h
      simp only at h
      omega
    · rename_i h2
      rw [if_neg h2] at h
      split
      · rfl
      · rename_i h3
        rw [if_neg h3] at h
        simp only at h
        omega
  · rfl
theorem idx_not_mem {a : Int} {l : List Int} (i : Int) (h : a ∉ l) : idxFrom a l i = -1 := by
  induction l generalizing i with
  | nil => rfl
  | cons x l ih =>
    unfold idxFrom
    rw [if_neg (fun e => h (by rw [e]; exact List.mem_cons_self))]
    exact ih _ (fun e => h (List.mem_cons_of_mem _ e))
theorem idx_mem {a : Int} {l : List Int} (i : Int) (hi : 0 ≤ i) (h : a ∈ l) : 0 ≤ idxFrom a l i := by
  induction l generalizing i with
  | nil => cases h
  | cons x l ih =>
    unfold idxFrom
    by_cases e : x = a
    · rw [if_pos e]; exact hi
    · rw [if_neg e]
      exact ih _ (by omega) ((List.mem_cons.1 h).resolve_left (fun e' => e e'.symm))
theorem idx_snoc {a : Int} {l : List Int} (i : Int) (h : a ∉ l) : idxFrom a (l ++ [a]) i = i + l.length := by
  induction l generalizing i with
  | nil => simp [idxFrom]
  | cons x l ih =>
    rw [List.cons_append]
    unfold idxFrom
    rw [if_neg (fun e => h (by rw [e]; exact List.mem_cons_self)), ih _ (fun e => h (List.mem_cons_of_mem _ e))]
    simp only [List.length_cons]
    omega
theorem idx_get {l : List Int} (hn : l.Nodup) (i : Nat) (h : i < l.length) (j : Int) : idxFrom l[i] l j = j + i := by
  induction l generalizing i j with
  | nil => simp at h
  | cons x l ih =>
    rw [List.nodup_cons] at hn
    unfold idxFrom
    cases i with
    | zero => simp
    | succ i =>
      simp only [List.getElem_cons_succ]
      rw [if_neg (fun e => hn.1 (by rw [e]; exact List.getElem_mem _)), ih hn.2 i (by simpa using h)]
      omega
/-- What a table is behind a key's adding that went well. -/
theorem addT_cases {l : List Int} {a : Int} (h : 0 ≤ (addT l a).2.1) : okT l = true ∧ ((a ∈ l ∧ addT l a = (l, idxFrom a l 0, false)) ∨ (a ∉ l ∧ okT (l ++ [a]) = true ∧ addT l a = (l ++ [a], (l.length : Int), true))) := by
  unfold addT at h ⊢
  by_cases h1 : okT l = true
  · rw [if_pos h1] at h ⊢
    refine ⟨h1, ?_⟩
    have ho := okT_of h1
    by_cases hm : a ∈ l
    · rw [if_pos (idx_mem 0 (by omega) hm)]
      exact .inl ⟨hm, rfl⟩
    · have hi := idx_not_mem 0 hm
      rw [if_neg (by omega)] at h ⊢
      by_cases h3 : l.length = 1000
      · rw [if_pos h3] at h; simp at h
      · rw [if_neg h3]
        refine .inr ⟨hm, ?_, rfl⟩
        simp only [okT, Bool.and_eq_true, decide_eq_true_eq, List.length_append, List.length_singleton]
        exact ⟨by omega, nodup_snoc ho.2 hm⟩
  · rw [if_neg h1] at h; simp at h
theorem addT_twice {l : List Int} {a : Int} (h : 0 ≤ (addT l a).2.1) : addT (addT l a).1 a = ((addT l a).1, (addT l a).2.1, false) := by
  rcases addT_cases h with ⟨ho, ⟨hm, e⟩ | ⟨hm, ho2, e⟩⟩
  · rw [e]
    exact e
  · rw [e]
    simp only
    have hi := idx_snoc 0 hm
    unfold addT
    rw [if_pos ho2, if_pos (by omega), hi]
    simp
theorem addT_find {l : List Int} {a : Int} (h : 0 ≤ (addT l a).2.1) : okT (addT l a).1 = true ∧ idxFrom a (addT l a).1 0 = (addT l a).2.1 ∧ ∀ i (hi : i < l.length), idxFrom l[i] (addT l a).1 0 = (i : Int) := by
  rcases addT_cases h with ⟨ho, ⟨hm, e⟩ | ⟨hm, ho2, e⟩⟩
  · rw [e]
    exact ⟨ho, rfl, fun i hi => by rw [idx_get (okT_of ho).2 i hi]; omega⟩
  · rw [e]
    refine ⟨ho2, by rw [idx_snoc 0 hm]; simp, fun i hi => ?_⟩
    have := idx_get (okT_of ho2).2 i (by simp; omega) 0
    rw [List.getElem_append_left hi] at this
    rw [this]; omega
end Go.Proofs.Ytgnjacjinhadaaa.Base
