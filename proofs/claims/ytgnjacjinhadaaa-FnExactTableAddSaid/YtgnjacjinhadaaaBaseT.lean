/- Tables: no key twice; the place of a key. Plain lists; nothing of the program is in sight. -/
import Derived.Test.YtgnjacjinhadaaaBaseL
namespace Go.Proofs.Ytgnjacjinhadaaa.Base
open Go Go.RowKit Go.Proofs.YtgnjacjinhadaaaW.PrintWords

/-- The place of the first a, counted from i on; -1 where there is none. -/
def idxFrom (a : Int) : List Int → Int → Int
  | [], _ => -1
  | x :: l, i => if x = a then i else idxFrom a l (i + 1)
/-- A right table. -/
def okT (l : List Int) : Bool := decide (l.length ≤ 1000) && decide l.Nodup
/-- A table, a key added. -/
def addT (l : List Int) (a : Int) : List Int × Int × Bool :=
  if okT l then (if 0 ≤ idxFrom a l 0 then (l, idxFrom a l 0, false) else if l.length = 1000 then ([], -1, false) else (l ++ [a], (l.length : Int), true)) else ([], -1, false)
theorem nodup_snoc {α : Type} {l : List α} {x : α} (h : l.Nodup) (hx : x ∉ l) : (l ++ [x]).Nodup := by
  rw [List.nodup_append]
  exact ⟨h, by simp, fun a ha b hb => by rw [List.mem_singleton] at hb; subst hb; intro e; subst e; exact hx ha⟩
theorem not_nodup_snoc {α : Type} {l : List α} {x : α} (hx : x ∈ l) : ¬ (l ++ [x]).Nodup := by
  rw [List.nodup_append]
  exact fun h => h.2.2 x hx x (List.mem_singleton_self x) rfl
theorem okT_of {l : List Int} (h : okT l = true) : l.length ≤ 1000 ∧ l.Nodup := by simpa [okT] using h
theorem addT_length (l : List Int) (a : Int) : (addT l a).1.length ≤ 1001 := by
  unfold addT
  by_cases h : okT l = true
  · have := (okT_of h).1
    rw [if_pos h]
    split
    · simp only; omega
    · split
      · simp
      · simp; omega
  · rw [if_neg h]; simp
theorem idx_range (a : Int) (l : List Int) : ∀ i : Int, 0 ≤ i → -1 ≤ idxFrom a l i ∧ (0 ≤ idxFrom a l i → i ≤ idxFrom a l i ∧ idxFrom a l i < i + l.length) := by
  induction l with
  | nil => intro i h; simp [idxFrom]
  | cons x l ih =>
    intro i h
    unfold idxFrom
    split
    · simp only [List.length_cons]; omega
    · have := ih (i + 1) (by omega)
      simp only [List.length_cons]
      omega
end Go.Proofs.Ytgnjacjinhadaaa.Base
