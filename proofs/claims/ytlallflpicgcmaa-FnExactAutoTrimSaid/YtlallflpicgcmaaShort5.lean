/- Two last stores of a region that may come up in either order. Plain theorems. -/
import Derived.Test.YtlallflpicgcmaaShort3
namespace Go.Proofs.Ytlallflpicgcmaa.Short5
open Go Go.RowKit Go.Proofs.YtlallflpicgcmaaW.PrintWords Go.Proofs.YtlallflpicgcmaaW.PrintLast Go.Proofs.YtlallflpicgcmaaW.PrintMore

theorem setCell_comm (w : World) (b i j : Nat) (v u : Value) (h : i ≠ j := by decide) : (w.setCell ⟨b, i, none⟩ v).setCell ⟨b, j, none⟩ u = (w.setCell ⟨b, j, none⟩ u).setCell ⟨b, i, none⟩ v := by
  unfold World.setCell
  simp only
  congr 1
  apply Array.ext_getElem?
  intro k
  simp only [Array.getElem?_modify]
  by_cases hk : b = k
  · subst hk
    simp only [if_true, Option.map_map]
    cases w.heap[b]? with
    | none => rfl
    | some o => cases o <;> simp [Array.setIfInBounds_comm _ _ h]
  · simp [hk]
theorem last2_ {P : Program} {ops : Array Oper} {Q : Exit → Act → World → Prop} {md : Region.Mode} {S : World → Prop} {ds : List Nat} {i j : Nat} {Ni Nj : Option Tmp} {oi oj : Oper} {fuel : Nat} {l : Array Bool} {a : Act} {w : World} (li lj : Array Bool) (hi : ops[i]? = some oi) (hj : ops[j]? = some oj) (hNi : oi.dst = Ni) (hNj : oj.dst = Nj)
    (hc : (Region.ready md ops l == [i, j] && l.setIfInBounds i true == li && l.setIfInBounds j true == lj) = true) (hdi : i ∈ ds) (hdj : j ∈ ds)
    (h1 : ∀ K : Act → World → Prop, Shut (∀ a' w', wpAnyLast P md ops Q S ds fuel li a' w' → K a' w') → if Region.wanted oi (yielded ops a.tmps) = true then Oper.wp P oi a w K Q else K (a.put Ni undef) w)
    (h2 : ∀ K : Act → World → Prop, Shut (∀ a' w', wpAnyLast P md ops Q S ds fuel lj a' w' → K a' w') → if Region.wanted oj (yielded ops a.tmps) = true then Oper.wp P oj a w K Q else K (a.put Nj undef) w) :
    wpAnyLast P md ops Q S ds (fuel + 1) l a w := by
  subst hNi
  subst hNj
  simp only [Bool.and_eq_true, beq_iff_eq] at hc
  obtain ⟨⟨h3, h4⟩, h5⟩ := hc
  subst h4
  subst h5
  exact wpAnyLast_ready h3 (by simp) (AllReadyL.cons_last hi hdi (fun K hK => h1 K hK) (AllReadyL.cons_last hj hdj (fun K hK => h2 K hK) AllReadyL.nil))
/-- A load and a store of ds that may come up in either order, the load's cell not the store's: both orders leave the same act and world. -/
theorem ls2_ {P : Program} {ops : Array Oper} {Q : Exit → Act → World → Prop} {md : Region.Mode} {S : World → Prop} {ds : List Nat} {i j : Nat} {Ni : Option Tmp} {oi oj : Oper} {fuel : Nat} {l : Array Bool} {a : Act} {w w1 : World} {v : Value} (li lj l' : Array Bool) (hi : ops[i]? = some oi) (hj : ops[j]? = some oj) (hNi : oi.dst = Ni) (hNj : oj.dst = none)
    (hc0 : (Region.ready md ops l == [i, j] && l.setIfInBounds i true == li && l.setIfInBounds j true == lj) = true) (hc1 : (Region.ready md ops li == [j] && li.setIfInBounds j true == l') = true) (hc2 : (Region.ready md ops lj == [i] && lj.setIfInBounds i true == l') = true) (hdj : j ∈ ds)
    (hwi : Region.wanted oi (yielded ops a.tmps) = true) (hwj : Region.wanted oj (yielded ops a.tmps) = true) (hwj' : Region.wanted oj (yielded ops (a.put Ni v).tmps) = true)
    (e1 : (execOp a.eval oi).run P w = .ok (.value v) w) (e2 : (execOp (a.put Ni v).eval oj).run P w = .ok .skip w1) (e3 : (execOp a.eval oj).run P w = .ok .skip w1) (e4 : (execOp a.eval oi).run P w1 = .ok (.value v) w1)
    (h : wpAnyLast P md ops Q S ds fuel l' (a.put Ni v) w1) : wpAnyLast P md ops Q S ds (fuel + 1 + 1) l a w := by
  simp only [Bool.and_eq_true, beq_iff_eq] at hc0 hc1 hc2
  obtain ⟨⟨r0, rfl⟩, rfl⟩ := hc0
  obtain ⟨r1, rfl⟩ := hc1
  obtain ⟨r2, h3⟩ := hc2
  subst hNi
  refine wpAnyLast_ready r0 (by simp) (fun k hk => ?_)
  rcases List.mem_cons.1 hk with rfl | hk
  · refine wpOp_step hi (fun K' hK => value_ hwi rfl e1 (hK _ _ ⟨fun _ hS => hS, ?_⟩))
    refine wpAnyLast_all r1 (by simp) (fun k2 hk2 => ?_)
    obtain rfl := List.mem_singleton.1 hk2
    refine wpOp_step hj (fun K2 hK2 => ?_)
    rw [hNj]
    exact skip_ hwj' hNj e2 (hK2 _ _ ⟨fun hn => absurd hdj hn, h⟩)
  · obtain rfl := List.mem_singleton.1 hk
    refine wpOp_step hj (fun K' hK => ?_)
    rw [hNj]
    refine skip_ hwj hNj e3 (hK _ _ ⟨fun hn => absurd hdj hn, ?_⟩)
    refine wpAnyLast_all r2 (by simp) (fun k2 hk2 => ?_)
    obtain rfl := List.mem_singleton.1 hk2
    refine wpOp_step hi (fun K2 hK2 => value_ hwi rfl e4 (hK2 _ _ ⟨fun _ hS => hS, ?_⟩))
    rw [h3]
    exact h
end Go.Proofs.Ytlallflpicgcmaa.Short5
