-- Written by a program of this session, out of Lean's print of the translation. Not trusted: Lean checks it.
import Derived.Test.YtigmokdcanebeaaMFnExactAutoMakex0
import Derived.Test.YtigmokdcanebeaaMFnExactAutoMakex2
import Derived.Test.YtigmokdcanebeaaMFnExactAutoMakex3
namespace Go.Proofs.Ytigmokdcanebeaa.MFnExactAutoMake
open Go.RowKit Go.Proofs.YtigmokdcanebeaaW.PrintWords Go.Proofs.YtigmokdcanebeaaW.PrintLast Go.Proofs.YtigmokdcanebeaaW.PrintMore
attribute [local go_sem] max2_int min2_int max_two min_two max_three min_three max_four min_four   -- for this text's walks alone
set_option linter.unusedVariables false
set_option linter.unusedSimpArgs false

section
open Go.Proofs.Ytigmokdcanebeaa.Short2.T
abbrev spec_AutoOk.bl0 : Array Bool := #[f, f, f, f, f, f, f, f, f, f, f, f, f, f, f, f, f, f, f, f, f, f, f, f, f, f]
abbrev spec_AutoOk.bl1 : Array Bool := #[t, f, f, f, f, f, f, f, f, f, f, f, f, f, f, f, f, f, f, f, f, f, f, f, f, f]
abbrev spec_AutoOk.bl2 : Array Bool := #[t, t, f, f, f, f, f, f, f, f, f, f, f, f, f, f, f, f, f, f, f, f, f, f, f, f]
abbrev spec_AutoOk.bl3 : Array Bool := #[t, t, t, f, f, f, f, f, f, f, f, f, f, f, f, f, f, f, f, f, f, f, f, f, f, f]
abbrev spec_AutoOk.bl4 : Array Bool := #[t, t, t, t, f, f, f, f, f, f, f, f, f, f, f, f, f, f, f, f, f, f, f, f, f, f]
abbrev spec_AutoOk.bl5 : Array Bool := #[t, t, t, t, t, f, f, f, f, f, f, f, f, f, f, f, f, f, f, f, f, f, f, f, f, f]
abbrev spec_AutoOk.bl6 : Array Bool := #[t, t, t, t, t, t, f, f, f, f, f, f, f, f, f, f, f, f, f, f, f, f, f, f, f, f]
abbrev spec_AutoOk.bl7 : Array Bool := #[t, t, t, t, t, t, t, f, f, f, f, f, f, f, f, f, f, f, f, f, f, f, f, f, f, f]
abbrev spec_AutoOk.bl8 : Array Bool := #[t, t, t, t, t, t, t, t, f, f, f, f, f, f, f, f, f, f, f, f, f, f, f, f, f, f]
abbrev spec_AutoOk.bl9 : Array Bool := #[t, t, t, t, t, t, t, t, t, f, f, f, f, f, f, f, f, f, f, f, f, f, f, f, f, f]
abbrev spec_AutoOk.bl10 : Array Bool := #[t, t, t, t, t, t, t, t, t, t, f, f, f, f, f, f, f, f, f, f, f, f, f, f, f, f]
abbrev spec_AutoOk.bl11 : Array Bool := #[t, t, t, t, t, t, t, t, t, t, t, f, f, f, f, f, f, f, f, f, f, f, f, f, f, f]
abbrev spec_AutoOk.bl12 : Array Bool := #[t, t, t, t, t, t, t, t, t, t, t, t, f, f, f, f, f, f, f, f, f, f, f, f, f, f]
abbrev spec_AutoOk.bl13 : Array Bool := #[t, t, t, t, t, t, t, t, t, t, t, t, f, t, f, f, f, f, f, f, f, f, f, f, f, f]
abbrev spec_AutoOk.bl14 : Array Bool := #[t, t, t, t, t, t, t, t, t, t, t, t, t, t, f, f, f, f, f, f, f, f, f, f, f, f]
abbrev spec_AutoOk.bl15 : Array Bool := #[t, t, t, t, t, t, t, t, t, t, t, t, t, t, t, f, f, f, f, f, f, f, f, f, f, f]
abbrev spec_AutoOk.bl16 : Array Bool := #[t, t, t, t, t, t, t, t, t, t, t, t, t, t, t, t, f, f, f, f, f, f, f, f, f, f]
abbrev spec_AutoOk.bl17 : Array Bool := #[t, t, t, t, t, t, t, t, t, t, t, t, t, t, t, t, t, f, f, f, f, f, f, f, f, f]
abbrev spec_AutoOk.bl18 : Array Bool := #[t, t, t, t, t, t, t, t, t, t, t, t, t, t, t, t, t, t, f, f, f, f, f, f, f, f]
abbrev spec_AutoOk.bl19 : Array Bool := #[t, t, t, t, t, t, t, t, t, t, t, t, t, t, t, t, t, t, t, f, f, f, f, f, f, f]
abbrev spec_AutoOk.bl20 : Array Bool := #[t, t, t, t, t, t, t, t, t, t, t, t, t, t, t, t, t, t, t, t, f, f, f, f, f, f]
abbrev spec_AutoOk.bl21 : Array Bool := #[t, t, t, t, t, t, t, t, t, t, t, t, t, t, t, t, t, t, t, t, t, f, f, f, f, f]
abbrev spec_AutoOk.bl22 : Array Bool := #[t, t, t, t, t, t, t, t, t, t, t, t, t, t, t, t, t, t, t, t, t, t, f, f, f, f]
abbrev spec_AutoOk.bl23 : Array Bool := #[t, t, t, t, t, t, t, t, t, t, t, t, t, t, t, t, t, t, t, t, t, t, t, f, f, f]
abbrev spec_AutoOk.bl24 : Array Bool := #[t, t, t, t, t, t, t, t, t, t, t, t, t, t, t, t, t, t, t, t, t, t, t, t, f, f]
abbrev spec_AutoOk.bl25 : Array Bool := #[t, t, t, t, t, t, t, t, t, t, t, t, t, t, t, t, t, t, t, t, t, t, t, t, t, f]
abbrev spec_AutoOk.bl26 : Array Bool := #[t, t, t, t, t, t, t, t, t, t, t, t, t, t, t, t, t, t, t, t, t, t, t, t, t, t]
abbrev spec_AutoOk.bl27 : Array Bool := #[t, t, t, t, t, t, t, t, t, t, t, t, t, f, f, f, f, f, f, f, f, f, f, f, f, f]
abbrev spec_AutoOk.bl28 : Array Bool := #[f, f, f, f, f, f, f, f, f, f, f, f, f, f, f, f, f, f, f, f, f, f, f, f, f, f, f, f, f, f, f, f, f, f, f, f, f, f]
abbrev spec_AutoOk.bl29 : Array Bool := #[t, f, f, f, f, f, f, f, f, f, f, f, f, f, f, f, f, f, f, f, f, f, f, f, f, f, f, f, f, f, f, f, f, f, f, f, f, f]
abbrev spec_AutoOk.bl30 : Array Bool := #[t, f, t, f, f, f, f, f, f, f, f, f, f, f, f, f, f, f, f, f, f, f, f, f, f, f, f, f, f, f, f, f, f, f, f, f, f, f]
abbrev spec_AutoOk.bl31 : Array Bool := #[t, t, t, f, f, f, f, f, f, f, f, f, f, f, f, f, f, f, f, f, f, f, f, f, f, f, f, f, f, f, f, f, f, f, f, f, f, f]
abbrev spec_AutoOk.bl32 : Array Bool := #[t, t, t, t, f, f, f, f, f, f, f, f, f, f, f, f, f, f, f, f, f, f, f, f, f, f, f, f, f, f, f, f, f, f, f, f, f, f]
abbrev spec_AutoOk.bl33 : Array Bool := #[t, t, t, t, t, f, f, f, f, f, f, f, f, f, f, f, f, f, f, f, f, f, f, f, f, f, f, f, f, f, f, f, f, f, f, f, f, f]
abbrev spec_AutoOk.bl34 : Array Bool := #[t, t, t, t, t, t, f, f, f, f, f, f, f, f, f, f, f, f, f, f, f, f, f, f, f, f, f, f, f, f, f, f, f, f, f, f, f, f]
abbrev spec_AutoOk.bl35 : Array Bool := #[t, t, t, t, t, t, t, f, f, f, f, f, f, f, f, f, f, f, f, f, f, f, f, f, f, f, f, f, f, f, f, f, f, f, f, f, f, f]
abbrev spec_AutoOk.bl36 : Array Bool := #[t, t, t, t, t, t, t, t, f, f, f, f, f, f, f, f, f, f, f, f, f, f, f, f, f, f, f, f, f, f, f, f, f, f, f, f, f, f]
abbrev spec_AutoOk.bl37 : Array Bool := #[t, t, t, t, t, t, t, t, f, t, f, f, f, f, f, f, f, f, f, f, f, f, f, f, f, f, f, f, f, f, f, f, f, f, f, f, f, f]
abbrev spec_AutoOk.bl38 : Array Bool := #[t, t, t, t, t, t, t, t, t, t, f, f, f, f, f, f, f, f, f, f, f, f, f, f, f, f, f, f, f, f, f, f, f, f, f, f, f, f]
abbrev spec_AutoOk.bl39 : Array Bool := #[t, t, t, t, t, t, t, t, t, t, t, f, f, f, f, f, f, f, f, f, f, f, f, f, f, f, f, f, f, f, f, f, f, f, f, f, f, f]
abbrev spec_AutoOk.bl40 : Array Bool := #[t, t, t, t, t, t, t, t, t, t, t, t, f, f, f, f, f, f, f, f, f, f, f, f, f, f, f, f, f, f, f, f, f, f, f, f, f, f]
abbrev spec_AutoOk.bl41 : Array Bool := #[t, t, t, t, t, t, t, t, t, t, t, t, t, f, f, f, f, f, f, f, f, f, f, f, f, f, f, f, f, f, f, f, f, f, f, f, f, f]
abbrev spec_AutoOk.bl42 : Array Bool := #[t, t, t, t, t, t, t, t, t, t, t, t, t, t, f, f, f, f, f, f, f, f, f, f, f, f, f, f, f, f, f, f, f, f, f, f, f, f]
abbrev spec_AutoOk.bl43 : Array Bool := #[t, t, t, t, t, t, t, t, t, t, t, t, t, t, t, f, f, f, f, f, f, f, f, f, f, f, f, f, f, f, f, f, f, f, f, f, f, f]
abbrev spec_AutoOk.bl44 : Array Bool := #[t, t, t, t, t, t, t, t, t, t, t, t, t, t, t, t, f, f, f, f, f, f, f, f, f, f, f, f, f, f, f, f, f, f, f, f, f, f]
abbrev spec_AutoOk.bl45 : Array Bool := #[t, t, t, t, t, t, t, t, t, t, t, t, t, t, t, t, f, t, f, f, f, f, f, f, f, f, f, f, f, f, f, f, f, f, f, f, f, f]
abbrev spec_AutoOk.bl46 : Array Bool := #[t, t, t, t, t, t, t, t, t, t, t, t, t, t, t, t, t, t, f, f, f, f, f, f, f, f, f, f, f, f, f, f, f, f, f, f, f, f]
abbrev spec_AutoOk.bl47 : Array Bool := #[t, t, t, t, t, t, t, t, t, t, t, t, t, t, t, t, t, t, t, f, f, f, f, f, f, f, f, f, f, f, f, f, f, f, f, f, f, f]
abbrev spec_AutoOk.bl48 : Array Bool := #[t, t, t, t, t, t, t, t, t, t, t, t, t, t, t, t, t, t, t, t, f, f, f, f, f, f, f, f, f, f, f, f, f, f, f, f, f, f]
abbrev spec_AutoOk.bl49 : Array Bool := #[t, t, t, t, t, t, t, t, t, t, t, t, t, t, t, t, t, t, t, t, t, f, f, f, f, f, f, f, f, f, f, f, f, f, f, f, f, f]
abbrev spec_AutoOk.bl50 : Array Bool := #[t, t, t, t, t, t, t, t, t, t, t, t, t, t, t, t, t, t, t, t, t, t, f, f, f, f, f, f, f, f, f, f, f, f, f, f, f, f]
abbrev spec_AutoOk.bl51 : Array Bool := #[t, t, t, t, t, t, t, t, t, t, t, t, t, t, t, t, t, t, t, t, t, t, t, f, f, f, f, f, f, f, f, f, f, f, f, f, f, f]
abbrev spec_AutoOk.bl52 : Array Bool := #[t, t, t, t, t, t, t, t, t, t, t, t, t, t, t, t, t, t, t, t, t, t, t, t, f, f, f, f, f, f, f, f, f, f, f, f, f, f]
abbrev spec_AutoOk.bl53 : Array Bool := #[t, t, t, t, t, t, t, t, t, t, t, t, t, t, t, t, t, t, t, t, t, t, t, t, t, f, f, f, f, f, f, f, f, f, f, f, f, f]
abbrev spec_AutoOk.bl54 : Array Bool := #[t, t, t, t, t, t, t, t, t, t, t, t, t, t, t, t, t, t, t, t, t, t, t, t, t, t, f, f, f, f, f, f, f, f, f, f, f, f]
abbrev spec_AutoOk.bl55 : Array Bool := #[t, t, t, t, t, t, t, t, t, t, t, t, t, t, t, t, t, t, t, t, t, t, t, t, t, t, t, f, f, f, f, f, f, f, f, f, f, f]
abbrev spec_AutoOk.bl56 : Array Bool := #[t, t, t, t, t, t, t, t, t, t, t, t, t, t, t, t, t, t, t, t, t, t, t, t, t, t, t, t, f, f, f, f, f, f, f, f, f, f]
abbrev spec_AutoOk.bl57 : Array Bool := #[t, t, t, t, t, t, t, t, t, t, t, t, t, t, t, t, t, t, t, t, t, t, t, t, t, t, t, t, f, t, f, f, f, f, f, f, f, f]
abbrev spec_AutoOk.bl58 : Array Bool := #[t, t, t, t, t, t, t, t, t, t, t, t, t, t, t, t, t, t, t, t, t, t, t, t, t, t, t, t, f, t, t, f, f, f, f, f, f, f]
abbrev spec_AutoOk.bl59 : Array Bool := #[t, t, t, t, t, t, t, t, t, t, t, t, t, t, t, t, t, t, t, t, t, t, t, t, t, t, t, t, t, t, t, f, f, f, f, f, f, f]
abbrev spec_AutoOk.bl60 : Array Bool := #[t, t, t, t, t, t, t, t, t, t, t, t, t, t, t, t, t, t, t, t, t, t, t, t, t, t, t, t, t, t, t, t, f, f, f, f, f, f]
abbrev spec_AutoOk.bl61 : Array Bool := #[t, t, t, t, t, t, t, t, t, t, t, t, t, t, t, t, t, t, t, t, t, t, t, t, t, t, t, t, t, t, t, t, t, f, f, f, f, f]
abbrev spec_AutoOk.bl62 : Array Bool := #[t, t, t, t, t, t, t, t, t, t, t, t, t, t, t, t, t, t, t, t, t, t, t, t, t, t, t, t, t, t, t, t, t, t, f, f, f, f]
abbrev spec_AutoOk.bl63 : Array Bool := #[t, t, t, t, t, t, t, t, t, t, t, t, t, t, t, t, t, t, t, t, t, t, t, t, t, t, t, t, t, t, t, t, t, t, t, f, f, f]
abbrev spec_AutoOk.bl64 : Array Bool := #[t, t, t, t, t, t, t, t, t, t, t, t, t, t, t, t, t, t, t, t, t, t, t, t, t, t, t, t, t, t, t, t, t, t, t, t, f, f]
abbrev spec_AutoOk.bl65 : Array Bool := #[t, t, t, t, t, t, t, t, t, t, t, t, t, t, t, t, t, t, t, t, t, t, t, t, t, t, t, t, t, t, t, t, t, t, t, t, t, f]
abbrev spec_AutoOk.bl66 : Array Bool := #[t, t, t, t, t, t, t, t, t, t, t, t, t, t, t, t, t, t, t, t, t, t, t, t, t, t, t, t, t, t, t, t, t, t, t, t, t, t]
abbrev spec_AutoOk.bl67 : Array Bool := #[t, t, t, t, t, t, t, t, t, t, t, t, t, t, t, t, t, t, t, t, t, t, t, t, t, t, t, t, t, f, f, f, f, f, f, f, f, f]
abbrev spec_AutoOk.bl68 : Array Bool := #[t, t, t, t, t, t, t, t, t, t, t, t, t, t, t, t, t, t, t, t, t, t, t, t, t, t, t, t, t, t, f, f, f, f, f, f, f, f]
abbrev spec_AutoOk.bl69 : Array Bool := #[t, t, t, t, t, t, t, t, t, t, t, t, t, t, t, t, t, f, f, f, f, f, f, f, f, f, f, f, f, f, f, f, f, f, f, f, f, f]
abbrev spec_AutoOk.bl70 : Array Bool := #[t, t, t, t, t, t, t, t, t, f, f, f, f, f, f, f, f, f, f, f, f, f, f, f, f, f, f, f, f, f, f, f, f, f, f, f, f, f]
end
/-! ### spec_AutoOk: function 26 -/
mutual
def spec_AutoOk.j0 : Nat → Bool → Int → Int → Int → List (S33) → Option (Bool)
 | 0, _, _, _, _, _ => none
 | k + 1, x30, x166000, x166001, x166002, x166003 => if x30 = true then (some false) else (spec_AutoOk.l0 k 0 x166000 x166001 x166002 x166003)
def spec_AutoOk.l0 : Nat → Int → Int → Int → Int → List (S33) → Option (Bool)
 | 0, _, _, _, _, _ => none
 | k + 1, x3, x166000, x166001, x166002, x166003 => if x3 < (x166003.length : Int) then (if 0 ≤ x3 then ((spec_l4State.f ((rd_T33 x166003 x3).f0) x166001).bind fun t171 => (if t171 = true then ((spec_l4State.f ((rd_T33 x166003 x3).f2) x166001).bind fun t172 => (if t172 = true then ((spec_l1In.f ((rd_T33 x166003 x3).f1) 0 (wrap64 (x166000 - 1))).bind fun t173 => (if t173 = true then (if x3 > 0 then (if 0 ≤ (wrap64 (x3 - 1)) then (if (wrap64 (x3 - 1)) < (x166003.length : Int) then ((spec_l4Less.f ((rd_T33 x166003 (wrap64 (x3 - 1))).f0) ((rd_T33 x166003 (wrap64 (x3 - 1))).f1) ((rd_T33 x166003 (wrap64 (x3 - 1))).f2) ((rd_T33 x166003 (wrap64 (x3 - 1))).f3) ((rd_T33 x166003 x3).f0) ((rd_T33 x166003 x3).f1) ((rd_T33 x166003 x3).f2) ((rd_T33 x166003 x3).f3)).bind fun t175 => (if t175 = true then (spec_AutoOk.l0 k (wrap64 (x3 + 1)) x166000 x166001 x166002 x166003) else (some false))) else (none)) else (none)) else (spec_AutoOk.l0 k (wrap64 (x3 + 1)) x166000 x166001 x166002 x166003)) else (some false))) else (some false))) else (some false))) else (none)) else (some true)
end
def spec_AutoOk.f (k : Nat) (a0_0 : Int) (a0_1 : Int) (a0_2 : Int) (l0_3 : List (S33)) : Option (Bool) := (spec_l1In.f a0_0 1 8).bind fun t166 => (if t166 = true then ((spec_l1In.f a0_1 0 31).bind fun t167 => (if t167 = true then (if 0 ≤ a0_1 then ((spec_SetIn.f a0_2 (wrap64 ((shl .i64 1 a0_1) - 1))).bind fun t168 => (if t168 = true then (spec_AutoOk.j0 k (decide ((l0_3.length : Int) > 2000)) a0_0 a0_1 a0_2 l0_3) else (spec_AutoOk.j0 k true a0_0 a0_1 a0_2 l0_3))) else (none)) else (spec_AutoOk.j0 k true a0_0 a0_1 a0_2 l0_3))) else (spec_AutoOk.j0 k true a0_0 a0_1 a0_2 l0_3))
theorem spec_AutoOk.mono_l : ∀ k, (∀ y0 y1 y2 y3 y4, LeO (spec_AutoOk.j0 k y0 y1 y2 y3 y4) (spec_AutoOk.j0 (k + 1) y0 y1 y2 y3 y4)) ∧ (∀ y0 y1 y2 y3 y4, LeO (spec_AutoOk.l0 k y0 y1 y2 y3 y4) (spec_AutoOk.l0 (k + 1) y0 y1 y2 y3 y4))
 | 0 => ⟨fun _ _ _ _ _ r h => by simp [spec_AutoOk.j0] at h, fun _ _ _ _ _ r h => by simp [spec_AutoOk.l0] at h⟩
 | k + 1 => by
  obtain ⟨ih0, ih1⟩ := spec_AutoOk.mono_l k
  refine ⟨?_, ?_⟩
  ·intro y0 y1 y2 y3 y4
   unfold spec_AutoOk.j0
   repeat' first
   | (with_reducible exact ih0 _ _ _ _ _)
   | (with_reducible exact ih1 _ _ _ _ _)
   | (with_reducible exact LeO.refl _)
   | (with_reducible exact LeO.none _)
   | (with_reducible refine LeO.ite ?_ ?_)
   | (with_reducible refine LeO.bind ?_ (fun _ => ?_))
   | exact ih0 _ _ _ _ _
   | exact ih1 _ _ _ _ _
   | exact LeO.none _
   | refine LeO.ite ?_ ?_
   | refine LeO.bind ?_ (fun _ => ?_)
  ·intro y0 y1 y2 y3 y4
   unfold spec_AutoOk.l0
   repeat' first
   | (with_reducible exact ih0 _ _ _ _ _)
   | (with_reducible exact ih1 _ _ _ _ _)
   | (with_reducible exact LeO.refl _)
   | (with_reducible exact LeO.none _)
   | (with_reducible refine LeO.ite ?_ ?_)
   | (with_reducible refine LeO.bind ?_ (fun _ => ?_))
   | exact ih0 _ _ _ _ _
   | exact ih1 _ _ _ _ _
   | exact LeO.none _
   | refine LeO.ite ?_ ?_
   | refine LeO.bind ?_ (fun _ => ?_)
theorem spec_AutoOk.mono : ∀ a0 a1 a2 a3 k, LeO (spec_AutoOk.f k a0 a1 a2 a3) (spec_AutoOk.f (k + 1) a0 a1 a2 a3) := by
 intro a0 a1 a2 a3 k
 obtain ⟨ih0, ih1⟩ := spec_AutoOk.mono_l k
 unfold spec_AutoOk.f
 repeat' first
   | (with_reducible exact ih0 _ _ _ _ _)
   | (with_reducible exact ih1 _ _ _ _ _)
   | (with_reducible exact LeO.refl _)
   | (with_reducible exact LeO.none _)
   | (with_reducible refine LeO.ite ?_ ?_)
   | (with_reducible refine LeO.bind ?_ (fun _ => ?_))
   | exact ih0 _ _ _ _ _
   | exact ih1 _ _ _ _ _
   | exact LeO.none _
   | refine LeO.ite ?_ ?_
   | refine LeO.bind ?_ (fun _ => ?_)
def spec_AutoOk.T1 : Bool × List (List Nat × List Nat) := (true, [([], []), ([0], [0]), ([1], [1]), ([2], [2]), ([3, 2], [3]), ([4], [4]), ([5, 4], [4, 5]), ([6, 4, 4], [4, 6]), ([7, 4], [4, 7]), ([4, 8], [4, 8]), ([9, 7], [9]), ([10], [10]), ([11, 10], [10, 11]), ([10], [10]), ([13, 10], [10, 13]), ([14, 10], [10, 14]), ([15, 10], [10, 15]), ([12, 16, 10, 10], [10, 12, 16]), ([17, 10], [10, 17]), ([10, 18], [10, 18]), ([19, 17], [19]), ([20], [20]), ([21, 20], [20, 21]), ([22, 20], [20, 22]), ([23, 20], [20, 23]), ([20, 24], [20, 24])])
def spec_AutoOk.B1 : List Nat := [0, 1, 3, 7, 15, 31, 63, 127, 255, 511, 1023, 2047, 4095, 2047, 10239, 26623, 59391, 131071, 262143, 524287, 1048575, 2097151, 4194303, 8388607, 16777215, 33554431]
theorem spec_AutoOk.tab1 : rtab .any (opsOf Try.f26 1) = spec_AutoOk.T1 := by kernel_rfl
theorem spec_AutoOk.bits1 : waitsOk spec_AutoOk.T1.2 spec_AutoOk.B1 = true := by kernel_rfl
def spec_AutoOk.T7 : Bool × List (List Nat × List Nat) := (true, [([], []), ([0], [0]), ([], []), ([2], [2]), ([1, 3], [1, 3]), ([4], [4]), ([5, 4], [5]), ([6], [6]), ([7, 6], [6, 7]), ([6], [6]), ([9, 6], [6, 9]), ([8, 10, 6, 6], [6, 8, 10]), ([11, 6], [6, 11]), ([6, 12], [6, 12]), ([13, 11], [13]), ([14], [14]), ([15, 14], [14, 15]), ([14], [14]), ([17, 14], [14, 17]), ([18, 14], [14, 18]), ([16, 19, 14, 14], [14, 16, 19]), ([20, 14], [14, 20]), ([14, 21], [14, 21]), ([22, 20], [22]), ([23], [23]), ([24, 23], [23, 24]), ([25, 23, 23], [23, 25]), ([26], [26]), ([27, 26], [26, 27]), ([26], [26]), ([29, 26], [26, 29]), ([28, 30, 26], [26, 28, 30]), ([31, 26], [26, 31]), ([26], [26]), ([32, 33, 26, 26], [26, 32, 33]), ([34, 26], [26, 34]), ([26, 35, 23], [23, 26, 35]), ([23, 36], [23, 36])])
def spec_AutoOk.B7 : List Nat := [0, 1, 0, 4, 15, 31, 63, 127, 255, 127, 639, 2047, 4095, 8191, 16383, 32767, 65535, 32767, 163839, 425983, 1048575, 2097151, 4194303, 8388607, 16777215, 33554431, 67108863, 134217727, 268435455, 134217727, 671088639, 2147483647, 4294967295, 134217727, 17179869183, 34359738367, 68719476735, 137438953471]
theorem spec_AutoOk.tab7 : rtab .any (opsOf Try.f26 7) = spec_AutoOk.T7 := by kernel_rfl
theorem spec_AutoOk.bits7 : waitsOk spec_AutoOk.T7.2 spec_AutoOk.B7 = true := by kernel_rfl
open Go.Proofs.Ytigmokdcanebeaa.Short2 in
set_option maxHeartbeats 8000000 in
set_option maxRecDepth 100000 in
theorem spec_AutoOk.calls (k : Nat) (a0_0 : Int) (a0_1 : Int) (a0_2 : Int) (A0_3 : Option Addr) (c0_3 : Nat) (l0_3 : List (S33)) (r : Bool) (w : World) (hr0_3 : Kd.C k33 w A0_3 l0_3.length l0_3) (hc0_3 : l0_3.length ≤ c0_3) (h : spec_AutoOk.f k a0_0 a0_1 a0_2 l0_3 = some r) :
  Calls Try.prog 26 #[.agg #[.int .i64 a0_0, .int .i64 a0_1, .int .i64 a0_2, .slice A0_3 l0_3.length c0_3]] w fun e w' => e = .returned (.bool r) ∧ Below w.heap.size w w' := by
 have hu28 := Try.underlying28; have hu33 := Try.underlying33; have HR0_3 := Aside0.mk hr0_3; have HC0_3 := Aside0.mk hc0_3; clear hr0_3 hc0_3; have HB := Aside0.mk (Below.refl w.heap.size w); have H : ((spec_l1In.f a0_0 1 8).bind fun t166 => (if t166 = true then ((spec_l1In.f a0_1 0 31).bind fun t167 => (if t167 = true then (if 0 ≤ a0_1 then ((spec_SetIn.f a0_2 (wrap64 ((shl .i64 1 a0_1) - 1))).bind fun t168 => (if t168 = true then (spec_AutoOk.j0 k (decide ((l0_3.length : Int) > 2000)) a0_0 a0_1 a0_2 l0_3) else (spec_AutoOk.j0 k true a0_0 a0_1 a0_2 l0_3))) else (none)) else (spec_AutoOk.j0 k true a0_0 a0_1 a0_2 l0_3))) else (spec_AutoOk.j0 k true a0_0 a0_1 a0_2 l0_3))) = some r := h; clear h; have HC2 := Aside0.mk H; clear H
 go_enter Try.func26, Try.ntmps26
 go_upto_region 1 with (first | ((with_reducible refine gate_dst (N := 1) rfl ?_); (try (refine gate_guard (by rfl) ?_; dsimp only)); refine box_event ?hg (N := 1) ?hd (cs := #[.int .i64 a0_0, .int .i64 a0_1, .int .i64 a0_2, .slice A0_3 l0_3.length c0_3]) (t := 28) ?hr ?_; (case hd => rfl); (case hg => rfl); (case hr => first | (go_simp; done) | (go_simp; rfl)); intro gb165 hg w3 hbox hb; have BK165 := Aside0.mk (hbox); have GW165 := xG HB hg; have GE165 := xG HB hg; replace HB := xS HB hb; clear hb hbox hg))
 (try simp only [Act.put, q3])
 go_cut [30] (fun v30 wc => ∃ (kq : Nat) (x30_1 : Bool), v30 = .bool x30_1 ∧ Aside0 (spec_AutoOk.j0 kq x30_1 a0_0 a0_1 a0_2 l0_3 = some r) ∧ Aside0 (kq ≤ k) ∧ Aside0 (wc.heap[gb165]? = some (.cells #[.int .i64 a0_0, .int .i64 a0_1, .int .i64 a0_2, (.slice A0_3 l0_3.length c0_3)] 28 (0, 0))) ∧ Aside0 (Below w.heap.size w wc))
 case first =>
  have H := HC2.out; clear HC2; replace H := Option.bind_eq_some_iff.mp H; obtain ⟨t166, A40, H⟩ := H; replace H : (if t166 = true then ((spec_l1In.f a0_1 0 31).bind fun t167 => (if t167 = true then (if 0 ≤ a0_1 then ((spec_SetIn.f a0_2 (wrap64 ((shl .i64 1 a0_1) - 1))).bind fun t168 => (if t168 = true then (spec_AutoOk.j0 k (decide ((l0_3.length : Int) > 2000)) a0_0 a0_1 a0_2 l0_3) else (spec_AutoOk.j0 k true a0_0 a0_1 a0_2 l0_3))) else (none)) else (spec_AutoOk.j0 k true a0_0 a0_1 a0_2 l0_3))) else (spec_AutoOk.j0 k true a0_0 a0_1 a0_2 l0_3)) = some r := H; have A4 := Aside0.mk A40; clear A40
  by_cases c5 : t166 = true
  ·subst c5
   have H1 : ((spec_l1In.f a0_1 0 31).bind fun t167 => (if t167 = true then (if 0 ≤ a0_1 then ((spec_SetIn.f a0_2 (wrap64 ((shl .i64 1 a0_1) - 1))).bind fun t168 => (if t168 = true then (spec_AutoOk.j0 k (decide ((l0_3.length : Int) > 2000)) a0_0 a0_1 a0_2 l0_3) else (spec_AutoOk.j0 k true a0_0 a0_1 a0_2 l0_3))) else (none)) else (spec_AutoOk.j0 k true a0_0 a0_1 a0_2 l0_3))) = some r := by rw [if_pos rfl] at H; exact H
   clear H; have H := H1; clear H1; replace H := Option.bind_eq_some_iff.mp H; obtain ⟨t167, A60, H⟩ := H; replace H : (if t167 = true then (if 0 ≤ a0_1 then ((spec_SetIn.f a0_2 (wrap64 ((shl .i64 1 a0_1) - 1))).bind fun t168 => (if t168 = true then (spec_AutoOk.j0 k (decide ((l0_3.length : Int) > 2000)) a0_0 a0_1 a0_2 l0_3) else (spec_AutoOk.j0 k true a0_0 a0_1 a0_2 l0_3))) else (none)) else (spec_AutoOk.j0 k true a0_0 a0_1 a0_2 l0_3)) = some r := H; have A6 := Aside0.mk A60; clear A60
   by_cases c7 : t167 = true
   ·subst c7
    have H1 : (if 0 ≤ a0_1 then ((spec_SetIn.f a0_2 (wrap64 ((shl .i64 1 a0_1) - 1))).bind fun t168 => (if t168 = true then (spec_AutoOk.j0 k (decide ((l0_3.length : Int) > 2000)) a0_0 a0_1 a0_2 l0_3) else (spec_AutoOk.j0 k true a0_0 a0_1 a0_2 l0_3))) else (none)) = some r := by rw [if_pos rfl] at H; exact H
    clear H; have H := H1; clear H1
    by_cases c8 : 0 ≤ a0_1
    ·rw [if_pos c8] at H; have c8b0 := eq_true c8; have c8b1 : decide (0 ≤ a0_1) = true := decide_eq_true c8; clear c8; obtain ⟨ji9, hji9⟩ : ∃ j_ : Int, (shl .i64 1 a0_1) = j_ := ⟨_, rfl⟩
     replace H : ((spec_SetIn.f a0_2 (wrap64 ((ji9) - 1))).bind fun t168 => (if t168 = true then (spec_AutoOk.j0 k (decide ((l0_3.length : Int) > 2000)) a0_0 a0_1 a0_2 l0_3) else (spec_AutoOk.j0 k true a0_0 a0_1 a0_2 l0_3))) = some r := by first | (rw [hji9] at H; exact H) | (simp only [hji9] at H ⊢; exact H)
     (try rw [hji9] at A4)
     (try rw [hji9] at A6)
     have hji9_ : (IntKind.i64.wrap (1 * 2 ^ min a0_1.toNat 64)) = ji9 := hji9; have hji9z : a0_1 ≤ 64 → (IntKind.i64.wrap (1 * 2 ^ a0_1.toNat)) = ji9 := shl_small hji9
     have hji9u : (IntKind.i64.wrap (2 ^ min a0_1.toNat 64)) = ji9 := by have h_ := hji9_; rw [Int.one_mul] at h_; exact h_
     have hji9v : a0_1 ≤ 64 → (IntKind.i64.wrap (2 ^ a0_1.toNat)) = ji9 := fun hle_ => by have h_ := hji9z hle_; rw [Int.one_mul] at h_; exact h_
     have hji9y : (wrap64 (1 * 2 ^ min a0_1.toNat 64)) = ji9 := (i64_w _).symm.trans hji9_; have hji9x : a0_1 ≤ 64 → (wrap64 (1 * 2 ^ a0_1.toNat)) = ji9 := fun h_ => (i64_w _).symm.trans (hji9z h_); replace H := Option.bind_eq_some_iff.mp H; obtain ⟨t168, A100, H⟩ := H; replace H : (if t168 = true then (spec_AutoOk.j0 k (decide ((l0_3.length : Int) > 2000)) a0_0 a0_1 a0_2 l0_3) else (spec_AutoOk.j0 k true a0_0 a0_1 a0_2 l0_3)) = some r := H; have A10 := Aside0.mk A100; clear A100
     by_cases c11 : t168 = true
     ·subst c11
      have H1 : (spec_AutoOk.j0 k (decide ((l0_3.length : Int) > 2000)) a0_0 a0_1 a0_2 l0_3) = some r := by rw [if_pos rfl] at H; exact H
      clear H; have H := H1; clear H1; have H' := Aside0.mk H; clear H
      try go_wp2
      replace BK165 := Aside0.mk (blk_drew BK165.out); replace HB := Aside0.mk (below_drew1 HB.out); refine start_ (n := 26) (S := fun w' => w'.cell? ⟨gb165, 0, none⟩ = some (.int .i64 a0_0) ∧ w'.cell? ⟨gb165, 1, none⟩ = some (.int .i64 a0_1) ∧ w'.cell? ⟨gb165, 2, none⟩ = some (.int .i64 a0_2) ∧ w'.cell? ⟨gb165, 3, none⟩ = some (.slice A0_3 l0_3.length c0_3)) (ds := []) bl0 (by kernel_rfl) rfl rfl ⟨b1 BK165 0, b1 BK165 1, b1 BK165 2, b1 BK165 3⟩ (fun hHeld => ?_); refine with_tabW spec_AutoOk.tab1 spec_AutoOk.bits1 (fun HT_ HW_ => ?_); generalize w3.drew = w12 at BK165 HB hHeld ⊢
      refine pu 0 (some 5) bl1 HT_ ?_ rfl rfl (.inl ⟨by rfl, ?_⟩) ?_ ?_ ?_; rotate_left; (intro w'; go_simp; with_reducible rfl); rotate_left; (simp only [Act.put, q5]; rfl)
      refine take_ (i := 1) (N := some 6) (v := ?_) (a' := ?_) bl2 rfl rfl (take_ofW HT_.out HW_.out (by kernel_rfl)) (fun _ _ _ h => h) (Or.inl ⟨by rfl, ?_⟩) hHeld ?_ ?_; rotate_left
      ·rintro w' ⟨s0, s1, s2, s3⟩; go_simp; with_reducible rfl
      rotate_left
      ·simp only [Act.put, q5]; rfl
      refine one_ (i := 2) (N := some 7) bl3 rfl rfl (one_of HT_.out (by kernel_rfl)) (by decide) (fun K hK => ?_); refine goes_ Try.func28 (by kernel_rfl) rfl #[.int .i64 a0_0, .int .i64 1, .int .i64 8] (by rfl) rfl rfl (by (try simp only [m3]); first | done | rfl | (simp only [d2]; rfl)) ?_
      with_reducible refine (spec_l1In.calls a0_0 1 8 true _ A4.out).mono ?_
      rintro e w' ⟨rfl, ⟨nd, rfl⟩⟩; refine ⟨_, rfl, ?_⟩; refine hK.out _ _ ⟨b1 BK165 0, b1 BK165 1, b1 BK165 2, b1 BK165 3⟩ (fun hHeld => ?_); clear hK K; refine norm_ (a' := ?_) ?_ ?_; rotate_left
      ·show Act.put _ (some 7) _ = _; simp only [Act.put, q5]; rfl
      refine pu 3 (some 8) bl4 HT_ ?_ rfl rfl (.inl ⟨by rfl, ?_⟩) ?_ ?_ ?_; rotate_left; (intro w'; go_simp; with_reducible rfl); rotate_left; (simp only [Act.put, q5]; rfl)
      refine pu 4 (some 9) bl5 HT_ ?_ rfl rfl (.inl ⟨by rfl, ?_⟩) ?_ ?_ ?_; rotate_left; (intro w'; go_simp; with_reducible rfl); rotate_left; (simp only [Act.put, q5]; rfl)
      refine pu 5 (some 10) bl6 HT_ ?_ rfl rfl (.inl ⟨by rfl, ?_⟩) ?_ ?_ ?_; rotate_left; (intro w'; go_simp; with_reducible rfl); rotate_left; (simp only [Act.put, q5]; rfl)
      refine take_ (i := 6) (N := some 11) (v := ?_) (a' := ?_) bl7 rfl rfl (take_ofW HT_.out HW_.out (by kernel_rfl)) (fun _ _ _ h => h) (Or.inl ⟨by rfl, ?_⟩) hHeld ?_ ?_; rotate_left
      ·rintro w' ⟨s0, s1, s2, s3⟩; go_simp; with_reducible rfl
      rotate_left
      ·simp only [Act.put, q5]; rfl
      refine one_ (i := 7) (N := some 12) bl8 rfl rfl (one_of HT_.out (by kernel_rfl)) (by decide) (fun K hK => ?_); refine goes_ Try.func28 (by kernel_rfl) rfl #[.int .i64 a0_1, .int .i64 0, .int .i64 31] (by rfl) rfl rfl (by (try simp only [m3]); first | done | rfl | (simp only [d2]; rfl)) ?_
      with_reducible refine (spec_l1In.calls a0_1 0 31 true _ A6.out).mono ?_
      rintro e w' ⟨rfl, ⟨nd, rfl⟩⟩; refine ⟨_, rfl, ?_⟩; refine hK.out _ _ ⟨b1 BK165 0, b1 BK165 1, b1 BK165 2, b1 BK165 3⟩ (fun hHeld => ?_); clear hK K; refine norm_ (a' := ?_) ?_ ?_; rotate_left
      ·show Act.put _ (some 12) _ = _; simp only [Act.put, q5]; rfl
      refine pu 8 (some 13) bl9 HT_ ?_ rfl rfl (.inl ⟨by rfl, ?_⟩) ?_ ?_ ?_; rotate_left; (intro w'; go_simp; with_reducible rfl); rotate_left; (simp only [Act.put, q5]; rfl)
      refine pu 9 (some 14) bl10 HT_ ?_ rfl rfl (.inl ⟨by rfl, ?_⟩) ?_ ?_ ?_; rotate_left; (intro w'; go_simp; with_reducible rfl); rotate_left; (simp only [Act.put, q5]; rfl)
      refine pu 10 (some 15) bl11 HT_ ?_ rfl rfl (.inl ⟨by rfl, ?_⟩) ?_ ?_ ?_; rotate_left; (intro w'; go_simp; with_reducible rfl); rotate_left; (simp only [Act.put, q5]; rfl)
      refine pu 11 (some 16) bl12 HT_ ?_ rfl rfl (.inl ⟨by rfl, ?_⟩) ?_ ?_ ?_; rotate_left; (intro w'; go_simp; with_reducible rfl); rotate_left; (simp only [Act.put, q5]; rfl)
      refine pu 13 (some 18) bl13 HT_ ?_ rfl rfl (.inl ⟨by rfl, ?_⟩) ?_ ?_ ?_; rotate_left; (intro w'; go_simp; with_reducible rfl); rotate_left; (simp only [Act.put, q5]; rfl)
      refine take_ (i := 12) (N := some 17) (v := ?_) (a' := ?_) bl14 rfl rfl (take_ofW HT_.out HW_.out (by kernel_rfl)) (fun _ _ _ h => h) (Or.inl ⟨by rfl, ?_⟩) hHeld ?_ ?_; rotate_left
      ·rintro w' ⟨s0, s1, s2, s3⟩; go_simp; with_reducible rfl
      rotate_left
      ·simp only [Act.put, q5]; rfl
      refine take_ (i := 14) (N := some 19) (v := ?_) (a' := ?_) bl15 rfl rfl (take_ofW HT_.out HW_.out (by kernel_rfl)) (fun _ _ _ h => h) (Or.inl ⟨by rfl, ?_⟩) hHeld ?_ ?_; rotate_left
      ·rintro w' ⟨s0, s1, s2, s3⟩; go_simp; with_reducible rfl
      rotate_left
      ·simp only [Act.put, q5]; rfl
      refine pu 15 (some 20) bl16 HT_ ?_ rfl rfl (.inl ⟨by rfl, ?_⟩) ?_ ?_ ?_; rotate_left; (intro w'; go_simp; with_reducible rfl); rotate_left; (simp only [Act.put, q5]; rfl)
      refine pu 16 (some 21) bl17 HT_ ?_ rfl rfl (.inl ⟨by rfl, ?_⟩) ?_ ?_ ?_; rotate_left; (intro w'; go_simp; with_reducible rfl); rotate_left; (simp only [Act.put, q5]; rfl)
      refine one_ (i := 17) (N := some 22) bl18 rfl rfl (one_of HT_.out (by kernel_rfl)) (by decide) (fun K hK => ?_); refine goes_ Try.func39 (by kernel_rfl) rfl #[.int .i64 a0_2, .int .i64 (wrap64 ((ji9) - 1))] (by rfl) rfl rfl (by (try simp only [m3]); first | done | (simp only [hji9]; rfl) | rfl | (simp only [d2]; rfl)) ?_
      with_reducible refine (spec_SetIn.calls a0_2 (wrap64 ((ji9) - 1)) true _ A10.out).mono ?_
      rintro e w' ⟨rfl, ⟨nd, rfl⟩⟩; refine ⟨_, rfl, ?_⟩; refine hK.out _ _ ⟨b1 BK165 0, b1 BK165 1, b1 BK165 2, b1 BK165 3⟩ (fun hHeld => ?_); clear hK K; refine norm_ (a' := ?_) ?_ ?_; rotate_left
      ·show Act.put _ (some 22) _ = _; simp only [Act.put, q5]; rfl
      refine pu 18 (some 23) bl19 HT_ ?_ rfl rfl (.inl ⟨by rfl, ?_⟩) ?_ ?_ ?_; rotate_left; (intro w'; go_simp; with_reducible rfl); rotate_left; (simp only [Act.put, q5]; rfl)
      refine pu 19 (some 24) bl20 HT_ ?_ rfl rfl (.inl ⟨by rfl, ?_⟩) ?_ ?_ ?_; rotate_left; (intro w'; go_simp; with_reducible rfl); rotate_left; (simp only [Act.put, q5]; rfl)
      refine pu 20 (some 25) bl21 HT_ ?_ rfl rfl (.inl ⟨by rfl, ?_⟩) ?_ ?_ ?_; rotate_left; (intro w'; go_simp; with_reducible rfl); rotate_left; (simp only [Act.put, q5]; rfl)
      refine pu 21 (some 26) bl22 HT_ ?_ rfl rfl (.inl ⟨by rfl, ?_⟩) ?_ ?_ ?_; rotate_left; (intro w'; go_simp; with_reducible rfl); rotate_left; (simp only [Act.put, q5]; rfl)
      refine take_ (i := 22) (N := some 27) (v := ?_) (a' := ?_) bl23 rfl rfl (take_ofW HT_.out HW_.out (by kernel_rfl)) (fun _ _ _ h => h) (Or.inl ⟨by rfl, ?_⟩) hHeld ?_ ?_; rotate_left
      ·rintro w' ⟨s0, s1, s2, s3⟩; go_simp; with_reducible rfl
      rotate_left
      ·simp only [Act.put, q5]; rfl
      refine pu 23 (some 28) bl24 HT_ ?_ rfl rfl (.inl ⟨by rfl, ?_⟩) ?_ ?_ ?_; rotate_left; (intro w'; go_simp; with_reducible rfl); rotate_left; (simp only [Act.put, q5]; rfl)
      refine pu 24 (some 29) bl25 HT_ ?_ rfl rfl (.inl ⟨by rfl, ?_⟩) ?_ ?_ ?_; rotate_left; (intro w'; go_simp; with_reducible rfl); rotate_left; (simp only [Act.put, q5]; rfl)
      refine pu 25 (some 30) bl26 HT_ ?_ rfl rfl (.inl ⟨by rfl, ?_⟩) ?_ ?_ ?_; rotate_left; (intro w'; go_simp; with_reducible rfl); rotate_left; (simp only [Act.put, q5]; rfl)
      refine done_ (done_of HT_.out (by kernel_rfl)) ?_
      try go_wp2
      (first | go_meet | ((try simp only [← hji9]); go_meet))
      case rel => exact ⟨_, (decide ((l0_3.length : Int) > 2000)), (by first | rfl | (simp; done) | (simp [*]; done) | (rw [Int.tmod_eq_emod_of_nonneg (Int.natCast_nonneg _)]; done)), (by first | exact H' | (have h_ := H'; (try simp only [← hji9] at h_); (try simp only [← hji9]); exact h_)), ⟨by first | omega | exact Nat.le_refl _⟩, ⟨zB BK165.out⟩, ⟨zS HB.out⟩⟩
     ·replace c11 := Bool.eq_false_iff.mpr c11; subst c11
      have H1 : (spec_AutoOk.j0 k true a0_0 a0_1 a0_2 l0_3) = some r := by rw [if_neg (show ¬ (false = true) by decide)] at H; exact H
      clear H; have H := H1; clear H1; have H' := Aside0.mk H; clear H
      try go_wp2
      replace BK165 := Aside0.mk (blk_drew BK165.out); replace HB := Aside0.mk (below_drew1 HB.out); refine start_ (n := 26) (S := fun w' => w'.cell? ⟨gb165, 0, none⟩ = some (.int .i64 a0_0) ∧ w'.cell? ⟨gb165, 1, none⟩ = some (.int .i64 a0_1) ∧ w'.cell? ⟨gb165, 2, none⟩ = some (.int .i64 a0_2) ∧ w'.cell? ⟨gb165, 3, none⟩ = some (.slice A0_3 l0_3.length c0_3)) (ds := []) bl0 (by kernel_rfl) rfl rfl ⟨b1 BK165 0, b1 BK165 1, b1 BK165 2, b1 BK165 3⟩ (fun hHeld => ?_); refine with_tabW spec_AutoOk.tab1 spec_AutoOk.bits1 (fun HT_ HW_ => ?_); generalize w3.drew = w13 at BK165 HB hHeld ⊢
      refine pu 0 (some 5) bl1 HT_ ?_ rfl rfl (.inl ⟨by rfl, ?_⟩) ?_ ?_ ?_; rotate_left; (intro w'; go_simp; with_reducible rfl); rotate_left; (simp only [Act.put, q5]; rfl)
      refine take_ (i := 1) (N := some 6) (v := ?_) (a' := ?_) bl2 rfl rfl (take_ofW HT_.out HW_.out (by kernel_rfl)) (fun _ _ _ h => h) (Or.inl ⟨by rfl, ?_⟩) hHeld ?_ ?_; rotate_left
      ·rintro w' ⟨s0, s1, s2, s3⟩; go_simp; with_reducible rfl
      rotate_left
      ·simp only [Act.put, q5]; rfl
      refine one_ (i := 2) (N := some 7) bl3 rfl rfl (one_of HT_.out (by kernel_rfl)) (by decide) (fun K hK => ?_); refine goes_ Try.func28 (by kernel_rfl) rfl #[.int .i64 a0_0, .int .i64 1, .int .i64 8] (by rfl) rfl rfl (by (try simp only [m3]); first | done | rfl | (simp only [d2]; rfl)) ?_
      with_reducible refine (spec_l1In.calls a0_0 1 8 true _ A4.out).mono ?_
      rintro e w' ⟨rfl, ⟨nd, rfl⟩⟩; refine ⟨_, rfl, ?_⟩; refine hK.out _ _ ⟨b1 BK165 0, b1 BK165 1, b1 BK165 2, b1 BK165 3⟩ (fun hHeld => ?_); clear hK K; refine norm_ (a' := ?_) ?_ ?_; rotate_left
      ·show Act.put _ (some 7) _ = _; simp only [Act.put, q5]; rfl
      refine pu 3 (some 8) bl4 HT_ ?_ rfl rfl (.inl ⟨by rfl, ?_⟩) ?_ ?_ ?_; rotate_left; (intro w'; go_simp; with_reducible rfl); rotate_left; (simp only [Act.put, q5]; rfl)
      refine pu 4 (some 9) bl5 HT_ ?_ rfl rfl (.inl ⟨by rfl, ?_⟩) ?_ ?_ ?_; rotate_left; (intro w'; go_simp; with_reducible rfl); rotate_left; (simp only [Act.put, q5]; rfl)
      refine pu 5 (some 10) bl6 HT_ ?_ rfl rfl (.inl ⟨by rfl, ?_⟩) ?_ ?_ ?_; rotate_left; (intro w'; go_simp; with_reducible rfl); rotate_left; (simp only [Act.put, q5]; rfl)
      refine take_ (i := 6) (N := some 11) (v := ?_) (a' := ?_) bl7 rfl rfl (take_ofW HT_.out HW_.out (by kernel_rfl)) (fun _ _ _ h => h) (Or.inl ⟨by rfl, ?_⟩) hHeld ?_ ?_; rotate_left
      ·rintro w' ⟨s0, s1, s2, s3⟩; go_simp; with_reducible rfl
      rotate_left
      ·simp only [Act.put, q5]; rfl
      refine one_ (i := 7) (N := some 12) bl8 rfl rfl (one_of HT_.out (by kernel_rfl)) (by decide) (fun K hK => ?_); refine goes_ Try.func28 (by kernel_rfl) rfl #[.int .i64 a0_1, .int .i64 0, .int .i64 31] (by rfl) rfl rfl (by (try simp only [m3]); first | done | rfl | (simp only [d2]; rfl)) ?_
      with_reducible refine (spec_l1In.calls a0_1 0 31 true _ A6.out).mono ?_
      rintro e w' ⟨rfl, ⟨nd, rfl⟩⟩; refine ⟨_, rfl, ?_⟩; refine hK.out _ _ ⟨b1 BK165 0, b1 BK165 1, b1 BK165 2, b1 BK165 3⟩ (fun hHeld => ?_); clear hK K; refine norm_ (a' := ?_) ?_ ?_; rotate_left
      ·show Act.put _ (some 12) _ = _; simp only [Act.put, q5]; rfl
      refine pu 8 (some 13) bl9 HT_ ?_ rfl rfl (.inl ⟨by rfl, ?_⟩) ?_ ?_ ?_; rotate_left; (intro w'; go_simp; with_reducible rfl); rotate_left; (simp only [Act.put, q5]; rfl)
      refine pu 9 (some 14) bl10 HT_ ?_ rfl rfl (.inl ⟨by rfl, ?_⟩) ?_ ?_ ?_; rotate_left; (intro w'; go_simp; with_reducible rfl); rotate_left; (simp only [Act.put, q5]; rfl)
      refine pu 10 (some 15) bl11 HT_ ?_ rfl rfl (.inl ⟨by rfl, ?_⟩) ?_ ?_ ?_; rotate_left; (intro w'; go_simp; with_reducible rfl); rotate_left; (simp only [Act.put, q5]; rfl)
      refine pu 11 (some 16) bl12 HT_ ?_ rfl rfl (.inl ⟨by rfl, ?_⟩) ?_ ?_ ?_; rotate_left; (intro w'; go_simp; with_reducible rfl); rotate_left; (simp only [Act.put, q5]; rfl)
      refine pu 13 (some 18) bl13 HT_ ?_ rfl rfl (.inl ⟨by rfl, ?_⟩) ?_ ?_ ?_; rotate_left; (intro w'; go_simp; with_reducible rfl); rotate_left; (simp only [Act.put, q5]; rfl)
      refine take_ (i := 12) (N := some 17) (v := ?_) (a' := ?_) bl14 rfl rfl (take_ofW HT_.out HW_.out (by kernel_rfl)) (fun _ _ _ h => h) (Or.inl ⟨by rfl, ?_⟩) hHeld ?_ ?_; rotate_left
      ·rintro w' ⟨s0, s1, s2, s3⟩; go_simp; with_reducible rfl
      rotate_left
      ·simp only [Act.put, q5]; rfl
      refine take_ (i := 14) (N := some 19) (v := ?_) (a' := ?_) bl15 rfl rfl (take_ofW HT_.out HW_.out (by kernel_rfl)) (fun _ _ _ h => h) (Or.inl ⟨by rfl, ?_⟩) hHeld ?_ ?_; rotate_left
      ·rintro w' ⟨s0, s1, s2, s3⟩; go_simp; with_reducible rfl
      rotate_left
      ·simp only [Act.put, q5]; rfl
      refine pu 15 (some 20) bl16 HT_ ?_ rfl rfl (.inl ⟨by rfl, ?_⟩) ?_ ?_ ?_; rotate_left; (intro w'; go_simp; with_reducible rfl); rotate_left; (simp only [Act.put, q5]; rfl)
      refine pu 16 (some 21) bl17 HT_ ?_ rfl rfl (.inl ⟨by rfl, ?_⟩) ?_ ?_ ?_; rotate_left; (intro w'; go_simp; with_reducible rfl); rotate_left; (simp only [Act.put, q5]; rfl)
      refine one_ (i := 17) (N := some 22) bl18 rfl rfl (one_of HT_.out (by kernel_rfl)) (by decide) (fun K hK => ?_); refine goes_ Try.func39 (by kernel_rfl) rfl #[.int .i64 a0_2, .int .i64 (wrap64 ((ji9) - 1))] (by rfl) rfl rfl (by (try simp only [m3]); first | done | (simp only [hji9]; rfl) | rfl | (simp only [d2]; rfl)) ?_
      with_reducible refine (spec_SetIn.calls a0_2 (wrap64 ((ji9) - 1)) false _ A10.out).mono ?_
      rintro e w' ⟨rfl, ⟨nd, rfl⟩⟩; refine ⟨_, rfl, ?_⟩; refine hK.out _ _ ⟨b1 BK165 0, b1 BK165 1, b1 BK165 2, b1 BK165 3⟩ (fun hHeld => ?_); clear hK K; refine norm_ (a' := ?_) ?_ ?_; rotate_left
      ·show Act.put _ (some 22) _ = _; simp only [Act.put, q5]; rfl
      refine pu 18 (some 23) bl19 HT_ ?_ rfl rfl (.inl ⟨by rfl, ?_⟩) ?_ ?_ ?_; rotate_left; (intro w'; go_simp; with_reducible rfl); rotate_left; (simp only [Act.put, q5]; rfl)
      refine pu 19 (some 24) bl20 HT_ ?_ rfl rfl (.inl ⟨by rfl, ?_⟩) ?_ ?_ ?_; rotate_left; (intro w'; go_simp; with_reducible rfl); rotate_left; (simp only [Act.put, q5]; rfl)
      refine pu 20 (some 25) bl21 HT_ ?_ rfl rfl (.inl ⟨by rfl, ?_⟩) ?_ ?_ ?_; rotate_left; (intro w'; go_simp; with_reducible rfl); rotate_left; (simp only [Act.put, q5]; rfl)
      refine pu 21 (some 26) bl22 HT_ undef rfl rfl (.inr ⟨by rfl, rfl⟩) ?_ ?_ ?_; rotate_left; (simp only [Act.put, q5]; rfl)
      refine pu 22 (some 27) bl23 HT_ undef rfl rfl (.inr ⟨by rfl, rfl⟩) ?_ ?_ ?_; rotate_left; (simp only [Act.put, q5]; rfl)
      refine pu 23 (some 28) bl24 HT_ undef rfl rfl (.inr ⟨by rfl, rfl⟩) ?_ ?_ ?_; rotate_left; (simp only [Act.put, q5]; rfl)
      refine pu 24 (some 29) bl25 HT_ undef rfl rfl (.inr ⟨by rfl, rfl⟩) ?_ ?_ ?_; rotate_left; (simp only [Act.put, q5]; rfl)
      refine pu 25 (some 30) bl26 HT_ ?_ rfl rfl (.inl ⟨by rfl, ?_⟩) ?_ ?_ ?_; rotate_left; (intro w'; go_simp; with_reducible rfl); rotate_left; (simp only [Act.put, q5]; rfl)
      refine done_ (done_of HT_.out (by kernel_rfl)) ?_
      try go_wp2
      (first | go_meet | ((try simp only [← hji9]); go_meet))
      case rel => exact ⟨_, (true), (by first | rfl | (simp; done) | (simp [*]; done) | (rw [Int.tmod_eq_emod_of_nonneg (Int.natCast_nonneg _)]; done)), (by first | exact H' | (have h_ := H'; (try simp only [← hji9] at h_); (try simp only [← hji9]); exact h_)), ⟨by first | omega | exact Nat.le_refl _⟩, ⟨zB BK165.out⟩, ⟨zS HB.out⟩⟩
    ·rw [if_neg c8] at H; exact absurd H (by simp)
   ·replace c7 := Bool.eq_false_iff.mpr c7; subst c7
    have H1 : (spec_AutoOk.j0 k true a0_0 a0_1 a0_2 l0_3) = some r := by rw [if_neg (show ¬ (false = true) by decide)] at H; exact H
    clear H; have H := H1; clear H1; have H' := Aside0.mk H; clear H
    try go_wp2
    replace BK165 := Aside0.mk (blk_drew BK165.out); replace HB := Aside0.mk (below_drew1 HB.out); refine start_ (n := 26) (S := fun w' => w'.cell? ⟨gb165, 0, none⟩ = some (.int .i64 a0_0) ∧ w'.cell? ⟨gb165, 1, none⟩ = some (.int .i64 a0_1) ∧ w'.cell? ⟨gb165, 2, none⟩ = some (.int .i64 a0_2) ∧ w'.cell? ⟨gb165, 3, none⟩ = some (.slice A0_3 l0_3.length c0_3)) (ds := []) bl0 (by kernel_rfl) rfl rfl ⟨b1 BK165 0, b1 BK165 1, b1 BK165 2, b1 BK165 3⟩ (fun hHeld => ?_); refine with_tabW spec_AutoOk.tab1 spec_AutoOk.bits1 (fun HT_ HW_ => ?_); generalize w3.drew = w14 at BK165 HB hHeld ⊢
    refine pu 0 (some 5) bl1 HT_ ?_ rfl rfl (.inl ⟨by rfl, ?_⟩) ?_ ?_ ?_; rotate_left; (intro w'; go_simp; with_reducible rfl); rotate_left; (simp only [Act.put, q5]; rfl)
    refine take_ (i := 1) (N := some 6) (v := ?_) (a' := ?_) bl2 rfl rfl (take_ofW HT_.out HW_.out (by kernel_rfl)) (fun _ _ _ h => h) (Or.inl ⟨by rfl, ?_⟩) hHeld ?_ ?_; rotate_left
    ·rintro w' ⟨s0, s1, s2, s3⟩; go_simp; with_reducible rfl
    rotate_left
    ·simp only [Act.put, q5]; rfl
    refine one_ (i := 2) (N := some 7) bl3 rfl rfl (one_of HT_.out (by kernel_rfl)) (by decide) (fun K hK => ?_); refine goes_ Try.func28 (by kernel_rfl) rfl #[.int .i64 a0_0, .int .i64 1, .int .i64 8] (by rfl) rfl rfl (by (try simp only [m3]); first | done | rfl | (simp only [d2]; rfl)) ?_
    with_reducible refine (spec_l1In.calls a0_0 1 8 true _ A4.out).mono ?_
    rintro e w' ⟨rfl, ⟨nd, rfl⟩⟩; refine ⟨_, rfl, ?_⟩; refine hK.out _ _ ⟨b1 BK165 0, b1 BK165 1, b1 BK165 2, b1 BK165 3⟩ (fun hHeld => ?_); clear hK K; refine norm_ (a' := ?_) ?_ ?_; rotate_left
    ·show Act.put _ (some 7) _ = _; simp only [Act.put, q5]; rfl
    refine pu 3 (some 8) bl4 HT_ ?_ rfl rfl (.inl ⟨by rfl, ?_⟩) ?_ ?_ ?_; rotate_left; (intro w'; go_simp; with_reducible rfl); rotate_left; (simp only [Act.put, q5]; rfl)
    refine pu 4 (some 9) bl5 HT_ ?_ rfl rfl (.inl ⟨by rfl, ?_⟩) ?_ ?_ ?_; rotate_left; (intro w'; go_simp; with_reducible rfl); rotate_left; (simp only [Act.put, q5]; rfl)
    refine pu 5 (some 10) bl6 HT_ ?_ rfl rfl (.inl ⟨by rfl, ?_⟩) ?_ ?_ ?_; rotate_left; (intro w'; go_simp; with_reducible rfl); rotate_left; (simp only [Act.put, q5]; rfl)
    refine take_ (i := 6) (N := some 11) (v := ?_) (a' := ?_) bl7 rfl rfl (take_ofW HT_.out HW_.out (by kernel_rfl)) (fun _ _ _ h => h) (Or.inl ⟨by rfl, ?_⟩) hHeld ?_ ?_; rotate_left
    ·rintro w' ⟨s0, s1, s2, s3⟩; go_simp; with_reducible rfl
    rotate_left
    ·simp only [Act.put, q5]; rfl
    refine one_ (i := 7) (N := some 12) bl8 rfl rfl (one_of HT_.out (by kernel_rfl)) (by decide) (fun K hK => ?_); refine goes_ Try.func28 (by kernel_rfl) rfl #[.int .i64 a0_1, .int .i64 0, .int .i64 31] (by rfl) rfl rfl (by (try simp only [m3]); first | done | rfl | (simp only [d2]; rfl)) ?_
    with_reducible refine (spec_l1In.calls a0_1 0 31 false _ A6.out).mono ?_
    rintro e w' ⟨rfl, ⟨nd, rfl⟩⟩; refine ⟨_, rfl, ?_⟩; refine hK.out _ _ ⟨b1 BK165 0, b1 BK165 1, b1 BK165 2, b1 BK165 3⟩ (fun hHeld => ?_); clear hK K; refine norm_ (a' := ?_) ?_ ?_; rotate_left
    ·show Act.put _ (some 12) _ = _; simp only [Act.put, q5]; rfl
    refine pu 8 (some 13) bl9 HT_ ?_ rfl rfl (.inl ⟨by rfl, ?_⟩) ?_ ?_ ?_; rotate_left; (intro w'; go_simp; with_reducible rfl); rotate_left; (simp only [Act.put, q5]; rfl)
    refine pu 9 (some 14) bl10 HT_ ?_ rfl rfl (.inl ⟨by rfl, ?_⟩) ?_ ?_ ?_; rotate_left; (intro w'; go_simp; with_reducible rfl); rotate_left; (simp only [Act.put, q5]; rfl)
    refine pu 10 (some 15) bl11 HT_ ?_ rfl rfl (.inl ⟨by rfl, ?_⟩) ?_ ?_ ?_; rotate_left; (intro w'; go_simp; with_reducible rfl); rotate_left; (simp only [Act.put, q5]; rfl)
    refine pu 11 (some 16) bl12 HT_ undef rfl rfl (.inr ⟨by rfl, rfl⟩) ?_ ?_ ?_; rotate_left; (simp only [Act.put, q5]; rfl)
    refine pu 12 (some 17) bl27 HT_ undef rfl rfl (.inr ⟨by rfl, rfl⟩) ?_ ?_ ?_; rotate_left; (simp only [Act.put, q5]; rfl)
    refine pu 13 (some 18) bl14 HT_ undef rfl rfl (.inr ⟨by rfl, rfl⟩) ?_ ?_ ?_; rotate_left; (simp only [Act.put, q5]; rfl)
    refine pu 14 (some 19) bl15 HT_ undef rfl rfl (.inr ⟨by rfl, rfl⟩) ?_ ?_ ?_; rotate_left; (simp only [Act.put, q5]; rfl)
    refine pu 15 (some 20) bl16 HT_ undef rfl rfl (.inr ⟨by rfl, rfl⟩) ?_ ?_ ?_; rotate_left; (simp only [Act.put, q5]; rfl)
    refine pu 16 (some 21) bl17 HT_ undef rfl rfl (.inr ⟨by rfl, rfl⟩) ?_ ?_ ?_; rotate_left; (simp only [Act.put, q5]; rfl)
    refine pu 17 (some 22) bl18 HT_ undef rfl rfl (.inr ⟨by rfl, rfl⟩) ?_ ?_ ?_; rotate_left; (simp only [Act.put, q5]; rfl)
    refine pu 18 (some 23) bl19 HT_ undef rfl rfl (.inr ⟨by rfl, rfl⟩) ?_ ?_ ?_; rotate_left; (simp only [Act.put, q5]; rfl)
    refine pu 19 (some 24) bl20 HT_ ?_ rfl rfl (.inl ⟨by rfl, ?_⟩) ?_ ?_ ?_; rotate_left; (intro w'; go_simp; with_reducible rfl); rotate_left; (simp only [Act.put, q5]; rfl)
    refine pu 20 (some 25) bl21 HT_ ?_ rfl rfl (.inl ⟨by rfl, ?_⟩) ?_ ?_ ?_; rotate_left; (intro w'; go_simp; with_reducible rfl); rotate_left; (simp only [Act.put, q5]; rfl)
    refine pu 21 (some 26) bl22 HT_ undef rfl rfl (.inr ⟨by rfl, rfl⟩) ?_ ?_ ?_; rotate_left; (simp only [Act.put, q5]; rfl)
    refine pu 22 (some 27) bl23 HT_ undef rfl rfl (.inr ⟨by rfl, rfl⟩) ?_ ?_ ?_; rotate_left; (simp only [Act.put, q5]; rfl)
    refine pu 23 (some 28) bl24 HT_ undef rfl rfl (.inr ⟨by rfl, rfl⟩) ?_ ?_ ?_; rotate_left; (simp only [Act.put, q5]; rfl)
    refine pu 24 (some 29) bl25 HT_ undef rfl rfl (.inr ⟨by rfl, rfl⟩) ?_ ?_ ?_; rotate_left; (simp only [Act.put, q5]; rfl)
    refine pu 25 (some 30) bl26 HT_ ?_ rfl rfl (.inl ⟨by rfl, ?_⟩) ?_ ?_ ?_; rotate_left; (intro w'; go_simp; with_reducible rfl); rotate_left; (simp only [Act.put, q5]; rfl)
    refine done_ (done_of HT_.out (by kernel_rfl)) ?_
    try go_wp2
    go_meet
    case rel => exact ⟨_, (true), (by first | rfl | (simp; done) | (simp [*]; done) | (rw [Int.tmod_eq_emod_of_nonneg (Int.natCast_nonneg _)]; done)), H', ⟨by first | omega | exact Nat.le_refl _⟩, ⟨zB BK165.out⟩, ⟨zS HB.out⟩⟩
  ·replace c5 := Bool.eq_false_iff.mpr c5; subst c5
   have H1 : (spec_AutoOk.j0 k true a0_0 a0_1 a0_2 l0_3) = some r := by rw [if_neg (show ¬ (false = true) by decide)] at H; exact H
   clear H; have H := H1; clear H1; have H' := Aside0.mk H; clear H
   try go_wp2
   replace BK165 := Aside0.mk (blk_drew BK165.out); replace HB := Aside0.mk (below_drew1 HB.out); refine start_ (n := 26) (S := fun w' => w'.cell? ⟨gb165, 0, none⟩ = some (.int .i64 a0_0) ∧ w'.cell? ⟨gb165, 1, none⟩ = some (.int .i64 a0_1) ∧ w'.cell? ⟨gb165, 2, none⟩ = some (.int .i64 a0_2) ∧ w'.cell? ⟨gb165, 3, none⟩ = some (.slice A0_3 l0_3.length c0_3)) (ds := []) bl0 (by kernel_rfl) rfl rfl ⟨b1 BK165 0, b1 BK165 1, b1 BK165 2, b1 BK165 3⟩ (fun hHeld => ?_); refine with_tabW spec_AutoOk.tab1 spec_AutoOk.bits1 (fun HT_ HW_ => ?_); generalize w3.drew = w15 at BK165 HB hHeld ⊢
   refine pu 0 (some 5) bl1 HT_ ?_ rfl rfl (.inl ⟨by rfl, ?_⟩) ?_ ?_ ?_; rotate_left; (intro w'; go_simp; with_reducible rfl); rotate_left; (simp only [Act.put, q5]; rfl)
   refine take_ (i := 1) (N := some 6) (v := ?_) (a' := ?_) bl2 rfl rfl (take_ofW HT_.out HW_.out (by kernel_rfl)) (fun _ _ _ h => h) (Or.inl ⟨by rfl, ?_⟩) hHeld ?_ ?_; rotate_left
   ·rintro w' ⟨s0, s1, s2, s3⟩; go_simp; with_reducible rfl
   rotate_left
   ·simp only [Act.put, q5]; rfl
   refine one_ (i := 2) (N := some 7) bl3 rfl rfl (one_of HT_.out (by kernel_rfl)) (by decide) (fun K hK => ?_); refine goes_ Try.func28 (by kernel_rfl) rfl #[.int .i64 a0_0, .int .i64 1, .int .i64 8] (by rfl) rfl rfl (by (try simp only [m3]); first | done | rfl | (simp only [d2]; rfl)) ?_
   with_reducible refine (spec_l1In.calls a0_0 1 8 false _ A4.out).mono ?_
   rintro e w' ⟨rfl, ⟨nd, rfl⟩⟩; refine ⟨_, rfl, ?_⟩; refine hK.out _ _ ⟨b1 BK165 0, b1 BK165 1, b1 BK165 2, b1 BK165 3⟩ (fun hHeld => ?_); clear hK K; refine norm_ (a' := ?_) ?_ ?_; rotate_left
   ·show Act.put _ (some 7) _ = _; simp only [Act.put, q5]; rfl
   refine pu 3 (some 8) bl4 HT_ ?_ rfl rfl (.inl ⟨by rfl, ?_⟩) ?_ ?_ ?_; rotate_left; (intro w'; go_simp; with_reducible rfl); rotate_left; (simp only [Act.put, q5]; rfl)
   refine pu 4 (some 9) bl5 HT_ ?_ rfl rfl (.inl ⟨by rfl, ?_⟩) ?_ ?_ ?_; rotate_left; (intro w'; go_simp; with_reducible rfl); rotate_left; (simp only [Act.put, q5]; rfl)
   refine pu 5 (some 10) bl6 HT_ undef rfl rfl (.inr ⟨by rfl, rfl⟩) ?_ ?_ ?_; rotate_left; (simp only [Act.put, q5]; rfl)
   refine pu 6 (some 11) bl7 HT_ undef rfl rfl (.inr ⟨by rfl, rfl⟩) ?_ ?_ ?_; rotate_left; (simp only [Act.put, q5]; rfl)
   refine pu 7 (some 12) bl8 HT_ undef rfl rfl (.inr ⟨by rfl, rfl⟩) ?_ ?_ ?_; rotate_left; (simp only [Act.put, q5]; rfl)
   refine pu 8 (some 13) bl9 HT_ undef rfl rfl (.inr ⟨by rfl, rfl⟩) ?_ ?_ ?_; rotate_left; (simp only [Act.put, q5]; rfl)
   refine pu 9 (some 14) bl10 HT_ ?_ rfl rfl (.inl ⟨by rfl, ?_⟩) ?_ ?_ ?_; rotate_left; (intro w'; go_simp; with_reducible rfl); rotate_left; (simp only [Act.put, q5]; rfl)
   refine pu 10 (some 15) bl11 HT_ ?_ rfl rfl (.inl ⟨by rfl, ?_⟩) ?_ ?_ ?_; rotate_left; (intro w'; go_simp; with_reducible rfl); rotate_left; (simp only [Act.put, q5]; rfl)
   refine pu 11 (some 16) bl12 HT_ undef rfl rfl (.inr ⟨by rfl, rfl⟩) ?_ ?_ ?_; rotate_left; (simp only [Act.put, q5]; rfl)
   refine pu 12 (some 17) bl27 HT_ undef rfl rfl (.inr ⟨by rfl, rfl⟩) ?_ ?_ ?_; rotate_left; (simp only [Act.put, q5]; rfl)
   refine pu 13 (some 18) bl14 HT_ undef rfl rfl (.inr ⟨by rfl, rfl⟩) ?_ ?_ ?_; rotate_left; (simp only [Act.put, q5]; rfl)
   refine pu 14 (some 19) bl15 HT_ undef rfl rfl (.inr ⟨by rfl, rfl⟩) ?_ ?_ ?_; rotate_left; (simp only [Act.put, q5]; rfl)
   refine pu 15 (some 20) bl16 HT_ undef rfl rfl (.inr ⟨by rfl, rfl⟩) ?_ ?_ ?_; rotate_left; (simp only [Act.put, q5]; rfl)
   refine pu 16 (some 21) bl17 HT_ undef rfl rfl (.inr ⟨by rfl, rfl⟩) ?_ ?_ ?_; rotate_left; (simp only [Act.put, q5]; rfl)
   refine pu 17 (some 22) bl18 HT_ undef rfl rfl (.inr ⟨by rfl, rfl⟩) ?_ ?_ ?_; rotate_left; (simp only [Act.put, q5]; rfl)
   refine pu 18 (some 23) bl19 HT_ undef rfl rfl (.inr ⟨by rfl, rfl⟩) ?_ ?_ ?_; rotate_left; (simp only [Act.put, q5]; rfl)
   refine pu 19 (some 24) bl20 HT_ ?_ rfl rfl (.inl ⟨by rfl, ?_⟩) ?_ ?_ ?_; rotate_left; (intro w'; go_simp; with_reducible rfl); rotate_left; (simp only [Act.put, q5]; rfl)
   refine pu 20 (some 25) bl21 HT_ ?_ rfl rfl (.inl ⟨by rfl, ?_⟩) ?_ ?_ ?_; rotate_left; (intro w'; go_simp; with_reducible rfl); rotate_left; (simp only [Act.put, q5]; rfl)
   refine pu 21 (some 26) bl22 HT_ undef rfl rfl (.inr ⟨by rfl, rfl⟩) ?_ ?_ ?_; rotate_left; (simp only [Act.put, q5]; rfl)
   refine pu 22 (some 27) bl23 HT_ undef rfl rfl (.inr ⟨by rfl, rfl⟩) ?_ ?_ ?_; rotate_left; (simp only [Act.put, q5]; rfl)
   refine pu 23 (some 28) bl24 HT_ undef rfl rfl (.inr ⟨by rfl, rfl⟩) ?_ ?_ ?_; rotate_left; (simp only [Act.put, q5]; rfl)
   refine pu 24 (some 29) bl25 HT_ undef rfl rfl (.inr ⟨by rfl, rfl⟩) ?_ ?_ ?_; rotate_left; (simp only [Act.put, q5]; rfl)
   refine pu 25 (some 30) bl26 HT_ ?_ rfl rfl (.inl ⟨by rfl, ?_⟩) ?_ ?_ ?_; rotate_left; (intro w'; go_simp; with_reducible rfl); rotate_left; (simp only [Act.put, q5]; rfl)
   refine done_ (done_of HT_.out (by kernel_rfl)) ?_
   try go_wp2
   go_meet
   case rel => exact ⟨_, (true), (by first | rfl | (simp; done) | (simp [*]; done) | (rw [Int.tmod_eq_emod_of_nonneg (Int.natCast_nonneg _)]; done)), H', ⟨by first | omega | exact Nat.le_refl _⟩, ⟨zB BK165.out⟩, ⟨zS HB.out⟩⟩
 case rest =>
  clear HC2
  try clear c1
  try clear c2
  try clear p2
  try clear c3
  try clear c5
  try clear p6
  try clear c7
  try clear c8
  try clear c11
  obtain ⟨kq, x30_1, rfl, HA, HJ1, BK165, HB⟩ := hcut
  cases kq with
  | zero => exact absurd HA.out (by simp [spec_AutoOk.j0])
  | succ kj1 =>
   have H := HA.out; clear HA; simp only [spec_AutoOk.j0] at H
   by_cases c16 : x30_1 = true
   ·subst c16
    have H1 : (some false) = some r := by rw [if_pos rfl] at H; exact H
    clear H; have H := H1; clear H1; obtain rfl := Option.some.inj H
    go_wp2
    go_ret; exact ⟨by first | rfl | (simp [errW_none, errW_some] <;> rfl) | (simp [*, errW_none, errW_some] <;> rfl), by repeat (first | (with_reducible first | exact HB.out | apply below_alloc | apply pw_below_drewN | apply below_drew1 | refine below_set ?_ GE165.out) | exact HB.out)⟩
   ·replace c16 := Bool.eq_false_iff.mpr c16; subst c16
    have H1 : (spec_AutoOk.l0 kj1 0 a0_0 a0_1 a0_2 l0_3) = some r := by rw [if_neg (show ¬ (false = true) by decide)] at H; exact H
    clear H; have H := H1; clear H1; have H' := Aside0.mk H; clear H
    go_wp2
    go_loopg [3] kj1 (fun kq v3 w' => ∃ (x3_2 : Int), v3 = .int .i64 x3_2 ∧ Aside0 (spec_AutoOk.l0 kq x3_2 a0_0 a0_1 a0_2 l0_3 = some r) ∧ Aside0 (kq ≤ kj1) ∧ Aside0 (w'.heap[gb165]? = some (.cells #[.int .i64 a0_0, .int .i64 a0_1, .int .i64 a0_2, (.slice A0_3 l0_3.length c0_3)] 28 (0, 0))) ∧ Aside0 (Below w.heap.size w w'))
    case atStart => exact ⟨(0), (by first | rfl | (simp; done) | (simp [*]; done) | (rw [Int.tmod_eq_emod_of_nonneg (Int.natCast_nonneg _)]; done)), H', ⟨Nat.le_refl _⟩, ⟨zB BK165.out⟩, ⟨zS HB.out⟩⟩
    case round =>
     clear H'
     try clear c1
     try clear c2
     try clear p2
     try clear c3
     try clear c5
     try clear p6
     try clear c7
     try clear c8
     try clear c11
     try clear c16
     try clear p2
     try clear p6
     obtain ⟨x3_2, rfl, HA, HK2, BK165, HB⟩ := hrel
     cases gk with
     | zero => exact absurd HA.out (by simp [spec_AutoOk.l0])
     | succ k2 =>
      have H := HA.out; clear HA; simp only [spec_AutoOk.l0] at H
      by_cases c17 : x3_2 < (l0_3.length : Int)
      ·rw [if_pos c17] at H; have c17b0 : decide (x3_2 < (l0_3.length : Int)) = true := decide_eq_true c17; clear c17
       by_cases c18 : 0 ≤ x3_2
       ·rw [if_pos c18] at H; have c18b0 : decide (0 ≤ x3_2) = true := decide_eq_true c18; clear c18; replace H := Option.bind_eq_some_iff.mp H; obtain ⟨t171, A190, H⟩ := H; replace H : (if t171 = true then ((spec_l4State.f ((rd_T33 l0_3 x3_2).f2) a0_1).bind fun t172 => (if t172 = true then ((spec_l1In.f ((rd_T33 l0_3 x3_2).f1) 0 (wrap64 (a0_0 - 1))).bind fun t173 => (if t173 = true then (if x3_2 > 0 then (if 0 ≤ (wrap64 (x3_2 - 1)) then (if (wrap64 (x3_2 - 1)) < (l0_3.length : Int) then ((spec_l4Less.f ((rd_T33 l0_3 (wrap64 (x3_2 - 1))).f0) ((rd_T33 l0_3 (wrap64 (x3_2 - 1))).f1) ((rd_T33 l0_3 (wrap64 (x3_2 - 1))).f2) ((rd_T33 l0_3 (wrap64 (x3_2 - 1))).f3) ((rd_T33 l0_3 x3_2).f0) ((rd_T33 l0_3 x3_2).f1) ((rd_T33 l0_3 x3_2).f2) ((rd_T33 l0_3 x3_2).f3)).bind fun t175 => (if t175 = true then (spec_AutoOk.l0 k2 (wrap64 (x3_2 + 1)) a0_0 a0_1 a0_2 l0_3) else (some false))) else (none)) else (none)) else (spec_AutoOk.l0 k2 (wrap64 (x3_2 + 1)) a0_0 a0_1 a0_2 l0_3)) else (some false))) else (some false))) else (some false)) = some r := H; have A19 := Aside0.mk A190; clear A190
        by_cases c20 : t171 = true
        ·subst c20
         have H1 : ((spec_l4State.f ((rd_T33 l0_3 x3_2).f2) a0_1).bind fun t172 => (if t172 = true then ((spec_l1In.f ((rd_T33 l0_3 x3_2).f1) 0 (wrap64 (a0_0 - 1))).bind fun t173 => (if t173 = true then (if x3_2 > 0 then (if 0 ≤ (wrap64 (x3_2 - 1)) then (if (wrap64 (x3_2 - 1)) < (l0_3.length : Int) then ((spec_l4Less.f ((rd_T33 l0_3 (wrap64 (x3_2 - 1))).f0) ((rd_T33 l0_3 (wrap64 (x3_2 - 1))).f1) ((rd_T33 l0_3 (wrap64 (x3_2 - 1))).f2) ((rd_T33 l0_3 (wrap64 (x3_2 - 1))).f3) ((rd_T33 l0_3 x3_2).f0) ((rd_T33 l0_3 x3_2).f1) ((rd_T33 l0_3 x3_2).f2) ((rd_T33 l0_3 x3_2).f3)).bind fun t175 => (if t175 = true then (spec_AutoOk.l0 k2 (wrap64 (x3_2 + 1)) a0_0 a0_1 a0_2 l0_3) else (some false))) else (none)) else (none)) else (spec_AutoOk.l0 k2 (wrap64 (x3_2 + 1)) a0_0 a0_1 a0_2 l0_3)) else (some false))) else (some false))) = some r := by rw [if_pos rfl] at H; exact H
         clear H; have H := H1; clear H1; replace H := Option.bind_eq_some_iff.mp H; obtain ⟨t172, A210, H⟩ := H; replace H : (if t172 = true then ((spec_l1In.f ((rd_T33 l0_3 x3_2).f1) 0 (wrap64 (a0_0 - 1))).bind fun t173 => (if t173 = true then (if x3_2 > 0 then (if 0 ≤ (wrap64 (x3_2 - 1)) then (if (wrap64 (x3_2 - 1)) < (l0_3.length : Int) then ((spec_l4Less.f ((rd_T33 l0_3 (wrap64 (x3_2 - 1))).f0) ((rd_T33 l0_3 (wrap64 (x3_2 - 1))).f1) ((rd_T33 l0_3 (wrap64 (x3_2 - 1))).f2) ((rd_T33 l0_3 (wrap64 (x3_2 - 1))).f3) ((rd_T33 l0_3 x3_2).f0) ((rd_T33 l0_3 x3_2).f1) ((rd_T33 l0_3 x3_2).f2) ((rd_T33 l0_3 x3_2).f3)).bind fun t175 => (if t175 = true then (spec_AutoOk.l0 k2 (wrap64 (x3_2 + 1)) a0_0 a0_1 a0_2 l0_3) else (some false))) else (none)) else (none)) else (spec_AutoOk.l0 k2 (wrap64 (x3_2 + 1)) a0_0 a0_1 a0_2 l0_3)) else (some false))) else (some false)) = some r := H; have A21 := Aside0.mk A210; clear A210
         by_cases c22 : t172 = true
         ·subst c22
          have H1 : ((spec_l1In.f ((rd_T33 l0_3 x3_2).f1) 0 (wrap64 (a0_0 - 1))).bind fun t173 => (if t173 = true then (if x3_2 > 0 then (if 0 ≤ (wrap64 (x3_2 - 1)) then (if (wrap64 (x3_2 - 1)) < (l0_3.length : Int) then ((spec_l4Less.f ((rd_T33 l0_3 (wrap64 (x3_2 - 1))).f0) ((rd_T33 l0_3 (wrap64 (x3_2 - 1))).f1) ((rd_T33 l0_3 (wrap64 (x3_2 - 1))).f2) ((rd_T33 l0_3 (wrap64 (x3_2 - 1))).f3) ((rd_T33 l0_3 x3_2).f0) ((rd_T33 l0_3 x3_2).f1) ((rd_T33 l0_3 x3_2).f2) ((rd_T33 l0_3 x3_2).f3)).bind fun t175 => (if t175 = true then (spec_AutoOk.l0 k2 (wrap64 (x3_2 + 1)) a0_0 a0_1 a0_2 l0_3) else (some false))) else (none)) else (none)) else (spec_AutoOk.l0 k2 (wrap64 (x3_2 + 1)) a0_0 a0_1 a0_2 l0_3)) else (some false))) = some r := by rw [if_pos rfl] at H; exact H
          clear H; have H := H1; clear H1; replace H := Option.bind_eq_some_iff.mp H; obtain ⟨t173, A230, H⟩ := H; replace H : (if t173 = true then (if x3_2 > 0 then (if 0 ≤ (wrap64 (x3_2 - 1)) then (if (wrap64 (x3_2 - 1)) < (l0_3.length : Int) then ((spec_l4Less.f ((rd_T33 l0_3 (wrap64 (x3_2 - 1))).f0) ((rd_T33 l0_3 (wrap64 (x3_2 - 1))).f1) ((rd_T33 l0_3 (wrap64 (x3_2 - 1))).f2) ((rd_T33 l0_3 (wrap64 (x3_2 - 1))).f3) ((rd_T33 l0_3 x3_2).f0) ((rd_T33 l0_3 x3_2).f1) ((rd_T33 l0_3 x3_2).f2) ((rd_T33 l0_3 x3_2).f3)).bind fun t175 => (if t175 = true then (spec_AutoOk.l0 k2 (wrap64 (x3_2 + 1)) a0_0 a0_1 a0_2 l0_3) else (some false))) else (none)) else (none)) else (spec_AutoOk.l0 k2 (wrap64 (x3_2 + 1)) a0_0 a0_1 a0_2 l0_3)) else (some false)) = some r := H; have A23 := Aside0.mk A230; clear A230
          by_cases c24 : t173 = true
          ·subst c24
           have H1 : (if x3_2 > 0 then (if 0 ≤ (wrap64 (x3_2 - 1)) then (if (wrap64 (x3_2 - 1)) < (l0_3.length : Int) then ((spec_l4Less.f ((rd_T33 l0_3 (wrap64 (x3_2 - 1))).f0) ((rd_T33 l0_3 (wrap64 (x3_2 - 1))).f1) ((rd_T33 l0_3 (wrap64 (x3_2 - 1))).f2) ((rd_T33 l0_3 (wrap64 (x3_2 - 1))).f3) ((rd_T33 l0_3 x3_2).f0) ((rd_T33 l0_3 x3_2).f1) ((rd_T33 l0_3 x3_2).f2) ((rd_T33 l0_3 x3_2).f3)).bind fun t175 => (if t175 = true then (spec_AutoOk.l0 k2 (wrap64 (x3_2 + 1)) a0_0 a0_1 a0_2 l0_3) else (some false))) else (none)) else (none)) else (spec_AutoOk.l0 k2 (wrap64 (x3_2 + 1)) a0_0 a0_1 a0_2 l0_3)) = some r := by rw [if_pos rfl] at H; exact H
           clear H; have H := H1; clear H1
           by_cases c25 : x3_2 > 0
           ·rw [if_pos c25] at H; have c25b0 : decide (0 < x3_2) = true := decide_eq_true c25; clear c25; obtain ⟨ji26, hji26⟩ : ∃ j_ : Int, (wrap64 (x3_2 - 1)) = j_ := ⟨_, rfl⟩
            replace H : (if 0 ≤ (ji26) then (if (ji26) < (l0_3.length : Int) then ((spec_l4Less.f ((rd_T33 l0_3 (ji26)).f0) ((rd_T33 l0_3 (ji26)).f1) ((rd_T33 l0_3 (ji26)).f2) ((rd_T33 l0_3 (ji26)).f3) ((rd_T33 l0_3 x3_2).f0) ((rd_T33 l0_3 x3_2).f1) ((rd_T33 l0_3 x3_2).f2) ((rd_T33 l0_3 x3_2).f3)).bind fun t175 => (if t175 = true then (spec_AutoOk.l0 k2 (wrap64 (x3_2 + 1)) a0_0 a0_1 a0_2 l0_3) else (some false))) else (none)) else (none)) = some r := by first | (rw [hji26] at H; exact H) | (simp only [hji26] at H ⊢; exact H)
            (try rw [hji26] at A19)
            (try rw [hji26] at A21)
            (try rw [hji26] at A23)
            have hji26w : (IntKind.i64.wrap (x3_2 - 1)) = ji26 := (i64_w _).trans hji26
            by_cases c27 : 0 ≤ (ji26)
            ·rw [if_pos c27] at H; have c27b0 : decide (0 ≤ (ji26)) = true := decide_eq_true c27; clear c27
             by_cases c28 : (ji26) < (l0_3.length : Int)
             ·rw [if_pos c28] at H; have c28b0 : decide ((ji26) < (l0_3.length : Int)) = true := decide_eq_true c28; clear c28; replace H := Option.bind_eq_some_iff.mp H; obtain ⟨t175, A290, H⟩ := H; replace H : (if t175 = true then (spec_AutoOk.l0 k2 (wrap64 (x3_2 + 1)) a0_0 a0_1 a0_2 l0_3) else (some false)) = some r := H; have A29 := Aside0.mk A290; clear A290
              by_cases c30 : t175 = true
              ·subst c30
               have H1 : (spec_AutoOk.l0 k2 (wrap64 (x3_2 + 1)) a0_0 a0_1 a0_2 l0_3) = some r := by rw [if_pos rfl] at H; exact H
               clear H; have H := H1; clear H1; have H' := Aside0.mk H; clear H; have hcz31_0 : wr.cell? ⟨gb165, 0, none⟩ = some (.int .i64 a0_0) := b1 BK165 0; have hcz31_1 : wr.cell? ⟨gb165, 1, none⟩ = some (.int .i64 a0_1) := b1 BK165 1; have hcz31_2 : wr.cell? ⟨gb165, 2, none⟩ = some (.int .i64 a0_2) := b1 BK165 2; have hcz31_3 : wr.cell? ⟨gb165, 3, none⟩ = some (.slice A0_3 l0_3.length c0_3) := b1 BK165 3; have hfz31_0 := blk_frozen BK165.out 0; have hfz31_1 := blk_frozen BK165.out 1; have hfz31_2 := blk_frozen BK165.out 2; have hfz31_3 := blk_frozen BK165.out 3; have p169 : 0 ≤ (x3_2 : Int) := of_decide_eq_true (by first | (with_reducible assumption) | assumption); have q169 : x3_2 < (l0_3.length : Int) := of_decide_eq_true (by first | (with_reducible assumption) | assumption); obtain ⟨ad169, e169, hx169_0, hx169_1, hx169_2, hx169_3⟩ := at_T33 HR0_3.out x3_2 p169 q169
               cases e169
               replace hx169_0 := (HB.out.cell (World.block_lt_of_cell? w _ hx169_0)).trans hx169_0; replace hx169_1 := (HB.out.cell (World.block_lt_of_cell? w _ hx169_1)).trans hx169_1; replace hx169_2 := (HB.out.cell (World.block_lt_of_cell? w _ hx169_2)).trans hx169_2; replace hx169_3 := (HB.out.cell (World.block_lt_of_cell? w _ hx169_3)).trans hx169_3; replace p169 := eq_true p169; replace q169 := eq_true q169
               try go_wp2_with (first | ((with_reducible refine gate_dst (N := 4) rfl ?_); (try (refine gate_guard (by rfl) ?_; dsimp only)); refine box_event ?hg (N := 4) ?hd (cs := #[.int .i64 0, .int .i64 0, .int .i64 0, .bool false]) (t := 33) ?hr ?_; (case hd => rfl); (case hg => rfl); (case hr => first | (go_simp; done) | (go_simp; rfl)); intro gb170 hg w32 hbox hb; have BK170 := Aside0.mk (hbox); have GW170 := xG HB hg; have GE170 := xG HB hg; replace HB := xS HB hb; have NB165_170 := xN BK165 hg; have NB170_165 := xM BK165 hg; replace BK165 := xB BK165 hb; clear hb hbox hg; have hnb33 := NB170_165.out; have hnc33 := NB165_170.out; have hcz34_0 : w32.cell? ⟨gb170, 0, none⟩ = some (.int .i64 0) := b1 BK170 0; have hcz34_1 : w32.cell? ⟨gb170, 1, none⟩ = some (.int .i64 0) := b1 BK170 1; have hcz34_2 : w32.cell? ⟨gb170, 2, none⟩ = some (.int .i64 0) := b1 BK170 2; have hcz34_3 : w32.cell? ⟨gb170, 3, none⟩ = some (.bool false) := b1 BK170 3; have hfz34_0 := blk_frozen BK170.out 0; have hfz34_1 := blk_frozen BK170.out 1; have hfz34_2 := blk_frozen BK170.out 2; have hfz34_3 := blk_frozen BK170.out 3))
               have n0_ : Aside0 (((((w32.setCell ⟨gb170, 0, none⟩ (.int .i64 ((rd_T33 l0_3 x3_2).f0))).setCell ⟨gb170, 1, none⟩ (.int .i64 ((rd_T33 l0_3 x3_2).f1))).setCell ⟨gb170, 2, none⟩ (.int .i64 ((rd_T33 l0_3 x3_2).f2))).setCell ⟨gb170, 3, none⟩ (.bool ((rd_T33 l0_3 x3_2).f3))).heap[gb165]? = some (.cells #[.int .i64 a0_0, .int .i64 a0_1, .int .i64 a0_2, .slice (some ad169) l0_3.length c0_3] 28 (0, 0))) := ⟨zB BK165.out⟩; have n1_ : Aside0 (((((w32.setCell ⟨gb170, 0, none⟩ (.int .i64 ((rd_T33 l0_3 x3_2).f0))).setCell ⟨gb170, 1, none⟩ (.int .i64 ((rd_T33 l0_3 x3_2).f1))).setCell ⟨gb170, 2, none⟩ (.int .i64 ((rd_T33 l0_3 x3_2).f2))).setCell ⟨gb170, 3, none⟩ (.bool ((rd_T33 l0_3 x3_2).f3))).heap[gb170]? = some (.cells #[.int .i64 ((rd_T33 l0_3 x3_2).f0), .int .i64 ((rd_T33 l0_3 x3_2).f1), .int .i64 ((rd_T33 l0_3 x3_2).f2), .bool ((rd_T33 l0_3 x3_2).f3)] 33 (0, 0))) := ⟨by (with_reducible repeat (first | refine blk_drewN ?_ _ | refine blk_drew ?_ | refine blk_alloc ?_ _)); refine blk_put (cs := #[.int .i64 ((rd_T33 l0_3 x3_2).f0), .int .i64 ((rd_T33 l0_3 x3_2).f1), .int .i64 ((rd_T33 l0_3 x3_2).f2), .bool false]) ?_ 3 _ rfl; (with_reducible repeat (first | refine blk_drewN ?_ _ | refine blk_drew ?_ | refine blk_alloc ?_ _)); refine blk_put (cs := #[.int .i64 ((rd_T33 l0_3 x3_2).f0), .int .i64 ((rd_T33 l0_3 x3_2).f1), .int .i64 0, .bool false]) ?_ 2 _ rfl; (with_reducible repeat (first | refine blk_drewN ?_ _ | refine blk_drew ?_ | refine blk_alloc ?_ _)); refine blk_put (cs := #[.int .i64 ((rd_T33 l0_3 x3_2).f0), .int .i64 0, .int .i64 0, .bool false]) ?_ 1 _ rfl; (with_reducible repeat (first | refine blk_drewN ?_ _ | refine blk_drew ?_ | refine blk_alloc ?_ _)); refine blk_put (cs := #[.int .i64 0, .int .i64 0, .int .i64 0, .bool false]) ?_ 0 _ rfl; (with_reducible repeat (first | refine blk_drewN ?_ _ | refine blk_drew ?_ | refine blk_alloc ?_ _)); exact BK170.out⟩; have n2_ : Aside0 (Below w.heap.size w ((((w32.setCell ⟨gb170, 0, none⟩ (.int .i64 ((rd_T33 l0_3 x3_2).f0))).setCell ⟨gb170, 1, none⟩ (.int .i64 ((rd_T33 l0_3 x3_2).f1))).setCell ⟨gb170, 2, none⟩ (.int .i64 ((rd_T33 l0_3 x3_2).f2))).setCell ⟨gb170, 3, none⟩ (.bool ((rd_T33 l0_3 x3_2).f3)))) := ⟨zS HB.out⟩
               (try clear BK165)
               (try clear BK170)
               (try clear HB)
               generalize ((((w32.setCell ⟨gb170, 0, none⟩ (.int .i64 ((rd_T33 l0_3 x3_2).f0))).setCell ⟨gb170, 1, none⟩ (.int .i64 ((rd_T33 l0_3 x3_2).f1))).setCell ⟨gb170, 2, none⟩ (.int .i64 ((rd_T33 l0_3 x3_2).f2))).setCell ⟨gb170, 3, none⟩ (.bool ((rd_T33 l0_3 x3_2).f3))) = w35 at n0_ n1_ n2_ ⊢; have BK165 := n0_; have BK170 := n1_; have HB := n2_; clear n0_ n1_ n2_; replace BK165 := Aside0.mk (blk_drew BK165.out); replace BK170 := Aside0.mk (blk_drew BK170.out); replace HB := Aside0.mk (below_drew1 HB.out); have p174 : 0 ≤ ((ji26) : Int) := of_decide_eq_true (by first | (with_reducible assumption) | assumption); have q174 : (ji26) < (l0_3.length : Int) := of_decide_eq_true (by first | (with_reducible assumption) | assumption); obtain ⟨ad174, e174, hx174_0, hx174_1, hx174_2, hx174_3⟩ := at_T33 HR0_3.out (ji26) p174 q174; have hw174_3 := hx174_3; have hw174_2 := hx174_2; have hw174_1 := hx174_1; have hw174_0 := hx174_0; obtain rfl : ad169 = ad174 := (by injection e174); replace hx174_0 := (HB.out.cell (World.block_lt_of_cell? w _ hx174_0)).trans hx174_0; replace hx174_1 := (HB.out.cell (World.block_lt_of_cell? w _ hx174_1)).trans hx174_1; replace hx174_2 := (HB.out.cell (World.block_lt_of_cell? w _ hx174_2)).trans hx174_2; replace hx174_3 := (HB.out.cell (World.block_lt_of_cell? w _ hx174_3)).trans hx174_3; replace p174 := eq_true p174; replace q174 := eq_true q174; refine start_ (n := 38) (S := fun w' => w'.cell? ⟨gb170, 0, none⟩ = some (.int .i64 ((rd_T33 l0_3 x3_2).f0)) ∧ w'.cell? ⟨gb170, 1, none⟩ = some (.int .i64 ((rd_T33 l0_3 x3_2).f1)) ∧ w'.cell? ⟨gb170, 2, none⟩ = some (.int .i64 ((rd_T33 l0_3 x3_2).f2)) ∧ w'.cell? ⟨gb170, 3, none⟩ = some (.bool ((rd_T33 l0_3 x3_2).f3)) ∧ w'.cell? ⟨gb165, 0, none⟩ = some (.int .i64 a0_0) ∧ w'.cell? ⟨gb165, 1, none⟩ = some (.int .i64 a0_1) ∧ w'.cell? ⟨gb165, 2, none⟩ = some (.int .i64 a0_2) ∧ w'.cell? ⟨gb165, 3, none⟩ = some (.slice (some ad169) l0_3.length c0_3) ∧ w'.cell? (ad169.add (((ji26)).toNat * 4)) = some (.int .i64 ((rd_T33 l0_3 (ji26)).f0)) ∧ w'.cell? ⟨(ad169.add (((ji26)).toNat * 4)).block, (ad169.add (((ji26)).toNat * 4)).off + 1, none⟩ = some (.int .i64 ((rd_T33 l0_3 (ji26)).f1)) ∧ w'.cell? ⟨(ad169.add (((ji26)).toNat * 4)).block, (ad169.add (((ji26)).toNat * 4)).off + 2, none⟩ = some (.int .i64 ((rd_T33 l0_3 (ji26)).f2)) ∧ w'.cell? ⟨(ad169.add (((ji26)).toNat * 4)).block, (ad169.add (((ji26)).toNat * 4)).off + 3, none⟩ = some (.bool ((rd_T33 l0_3 (ji26)).f3))) (ds := []) bl28 (by kernel_rfl) rfl rfl ⟨b1 BK170 0, b1 BK170 1, b1 BK170 2, b1 BK170 3, b1 BK165 0, b1 BK165 1, b1 BK165 2, b1 BK165 3, ((HB.out.cell (World.block_lt_of_cell? w _ hw174_0)).trans hw174_0), ((HB.out.cell (World.block_lt_of_cell? w _ hw174_1)).trans hw174_1), ((HB.out.cell (World.block_lt_of_cell? w _ hw174_2)).trans hw174_2), ((HB.out.cell (World.block_lt_of_cell? w _ hw174_3)).trans hw174_3)⟩ (fun hHeld => ?_); refine with_tabW spec_AutoOk.tab7 spec_AutoOk.bits7 (fun HT_ HW_ => ?_)
               generalize w35.drew = w36 at BK165 BK170 HB hx174_0 hx174_1 hx174_2 hx174_3 hHeld ⊢
               refine pu 0 (some 43) bl29 HT_ ?_ rfl rfl (.inl ⟨by rfl, ?_⟩) ?_ ?_ ?_; rotate_left; (intro w'; go_simp; with_reducible rfl); rotate_left; (simp only [Act.put, q5]; rfl)
               refine pu 2 (some 45) bl30 HT_ ?_ rfl rfl (.inl ⟨by rfl, ?_⟩) ?_ ?_ ?_; rotate_left; (intro w'; go_simp; with_reducible rfl); rotate_left; (simp only [Act.put, q5]; rfl)
               refine take_ (i := 1) (N := some 44) (v := ?_) (a' := ?_) bl31 rfl rfl (take_ofW HT_.out HW_.out (by kernel_rfl)) (fun _ _ _ h => h) (Or.inl ⟨by rfl, ?_⟩) hHeld ?_ ?_; rotate_left
               ·rintro w' ⟨s0, s1, s2, s3, s4, s5, s6, s7, s8, s9, s10, s11⟩; go_simp; with_reducible rfl
               rotate_left
               ·simp only [Act.put, q5]; rfl
               refine take_ (i := 3) (N := some 46) (v := ?_) (a' := ?_) bl32 rfl rfl (take_ofW HT_.out HW_.out (by kernel_rfl)) (fun _ _ _ h => h) (Or.inl ⟨by rfl, ?_⟩) hHeld ?_ ?_; rotate_left
               ·rintro w' ⟨s0, s1, s2, s3, s4, s5, s6, s7, s8, s9, s10, s11⟩; go_simp; with_reducible rfl
               rotate_left
               ·simp only [Act.put, q5]; rfl
               refine one_ (i := 4) (N := some 47) bl33 rfl rfl (one_of HT_.out (by kernel_rfl)) (by decide) (fun K hK => ?_); refine goes_ Try.func27 (by kernel_rfl) rfl #[.int .i64 ((rd_T33 l0_3 x3_2).f0), .int .i64 a0_1] (by rfl) rfl rfl (by (try simp only [m3]); first | done | rfl | (simp only [d2]; rfl)) ?_
               with_reducible refine (spec_l4State.calls ((rd_T33 l0_3 x3_2).f0) a0_1 true _ A19.out).mono ?_
               rintro e w' ⟨rfl, ⟨nd, rfl⟩⟩; refine ⟨_, rfl, ?_⟩; refine hK.out _ _ ⟨b1 BK170 0, b1 BK170 1, b1 BK170 2, b1 BK170 3, b1 BK165 0, b1 BK165 1, b1 BK165 2, b1 BK165 3, ((HB.out.cell (World.block_lt_of_cell? w _ hw174_0)).trans hw174_0), ((HB.out.cell (World.block_lt_of_cell? w _ hw174_1)).trans hw174_1), ((HB.out.cell (World.block_lt_of_cell? w _ hw174_2)).trans hw174_2), ((HB.out.cell (World.block_lt_of_cell? w _ hw174_3)).trans hw174_3)⟩ (fun hHeld => ?_); clear hK K; refine norm_ (a' := ?_) ?_ ?_; rotate_left
               ·show Act.put _ (some 47) _ = _; simp only [Act.put, q5]; rfl
               refine pu 5 (some 48) bl34 HT_ ?_ rfl rfl (.inl ⟨by rfl, ?_⟩) ?_ ?_ ?_; rotate_left; (intro w'; go_simp; with_reducible rfl); rotate_left; (simp only [Act.put, q5]; rfl)
               refine pu 6 (some 49) bl35 HT_ ?_ rfl rfl (.inl ⟨by rfl, ?_⟩) ?_ ?_ ?_; rotate_left; (intro w'; go_simp; with_reducible rfl); rotate_left; (simp only [Act.put, q5]; rfl)
               refine pu 7 (some 50) bl36 HT_ ?_ rfl rfl (.inl ⟨by rfl, ?_⟩) ?_ ?_ ?_; rotate_left; (intro w'; go_simp; with_reducible rfl); rotate_left; (simp only [Act.put, q5]; rfl)
               refine pu 9 (some 52) bl37 HT_ ?_ rfl rfl (.inl ⟨by rfl, ?_⟩) ?_ ?_ ?_; rotate_left; (intro w'; go_simp; with_reducible rfl); rotate_left; (simp only [Act.put, q5]; rfl)
               refine take_ (i := 8) (N := some 51) (v := ?_) (a' := ?_) bl38 rfl rfl (take_ofW HT_.out HW_.out (by kernel_rfl)) (fun _ _ _ h => h) (Or.inl ⟨by rfl, ?_⟩) hHeld ?_ ?_; rotate_left
               ·rintro w' ⟨s0, s1, s2, s3, s4, s5, s6, s7, s8, s9, s10, s11⟩; go_simp; with_reducible rfl
               rotate_left
               ·simp only [Act.put, q5]; rfl
               refine take_ (i := 10) (N := some 53) (v := ?_) (a' := ?_) bl39 rfl rfl (take_ofW HT_.out HW_.out (by kernel_rfl)) (fun _ _ _ h => h) (Or.inl ⟨by rfl, ?_⟩) hHeld ?_ ?_; rotate_left
               ·rintro w' ⟨s0, s1, s2, s3, s4, s5, s6, s7, s8, s9, s10, s11⟩; go_simp; with_reducible rfl
               rotate_left
               ·simp only [Act.put, q5]; rfl
               refine one_ (i := 11) (N := some 54) bl40 rfl rfl (one_of HT_.out (by kernel_rfl)) (by decide) (fun K hK => ?_); refine goes_ Try.func27 (by kernel_rfl) rfl #[.int .i64 ((rd_T33 l0_3 x3_2).f2), .int .i64 a0_1] (by rfl) rfl rfl (by (try simp only [m3]); first | done | rfl | (simp only [d2]; rfl)) ?_
               with_reducible refine (spec_l4State.calls ((rd_T33 l0_3 x3_2).f2) a0_1 true _ A21.out).mono ?_
               rintro e w' ⟨rfl, ⟨nd, rfl⟩⟩; refine ⟨_, rfl, ?_⟩; refine hK.out _ _ ⟨b1 BK170 0, b1 BK170 1, b1 BK170 2, b1 BK170 3, b1 BK165 0, b1 BK165 1, b1 BK165 2, b1 BK165 3, ((HB.out.cell (World.block_lt_of_cell? w _ hw174_0)).trans hw174_0), ((HB.out.cell (World.block_lt_of_cell? w _ hw174_1)).trans hw174_1), ((HB.out.cell (World.block_lt_of_cell? w _ hw174_2)).trans hw174_2), ((HB.out.cell (World.block_lt_of_cell? w _ hw174_3)).trans hw174_3)⟩ (fun hHeld => ?_); clear hK K; refine norm_ (a' := ?_) ?_ ?_; rotate_left
               ·show Act.put _ (some 54) _ = _; simp only [Act.put, q5]; rfl
               refine pu 12 (some 55) bl41 HT_ ?_ rfl rfl (.inl ⟨by rfl, ?_⟩) ?_ ?_ ?_; rotate_left; (intro w'; go_simp; with_reducible rfl); rotate_left; (simp only [Act.put, q5]; rfl)
               refine pu 13 (some 56) bl42 HT_ ?_ rfl rfl (.inl ⟨by rfl, ?_⟩) ?_ ?_ ?_; rotate_left; (intro w'; go_simp; with_reducible rfl); rotate_left; (simp only [Act.put, q5]; rfl)
               refine pu 14 (some 57) bl43 HT_ ?_ rfl rfl (.inl ⟨by rfl, ?_⟩) ?_ ?_ ?_; rotate_left; (intro w'; go_simp; with_reducible rfl); rotate_left; (simp only [Act.put, q5]; rfl)
               refine pu 15 (some 58) bl44 HT_ ?_ rfl rfl (.inl ⟨by rfl, ?_⟩) ?_ ?_ ?_; rotate_left; (intro w'; go_simp; with_reducible rfl); rotate_left; (simp only [Act.put, q5]; rfl)
               refine pu 17 (some 60) bl45 HT_ ?_ rfl rfl (.inl ⟨by rfl, ?_⟩) ?_ ?_ ?_; rotate_left; (intro w'; go_simp; with_reducible rfl); rotate_left; (simp only [Act.put, q5]; rfl)
               refine take_ (i := 16) (N := some 59) (v := ?_) (a' := ?_) bl46 rfl rfl (take_ofW HT_.out HW_.out (by kernel_rfl)) (fun _ _ _ h => h) (Or.inl ⟨by rfl, ?_⟩) hHeld ?_ ?_; rotate_left
               ·rintro w' ⟨s0, s1, s2, s3, s4, s5, s6, s7, s8, s9, s10, s11⟩; go_simp; with_reducible rfl
               rotate_left
               ·simp only [Act.put, q5]; rfl
               refine take_ (i := 18) (N := some 61) (v := ?_) (a' := ?_) bl47 rfl rfl (take_ofW HT_.out HW_.out (by kernel_rfl)) (fun _ _ _ h => h) (Or.inl ⟨by rfl, ?_⟩) hHeld ?_ ?_; rotate_left
               ·rintro w' ⟨s0, s1, s2, s3, s4, s5, s6, s7, s8, s9, s10, s11⟩; go_simp; with_reducible rfl
               rotate_left
               ·simp only [Act.put, q5]; rfl
               refine pu 19 (some 62) bl48 HT_ ?_ rfl rfl (.inl ⟨by rfl, ?_⟩) ?_ ?_ ?_; rotate_left; (intro w'; go_simp; with_reducible rfl); rotate_left; (simp only [Act.put, q5]; rfl)
               refine one_ (i := 20) (N := some 63) bl49 rfl rfl (one_of HT_.out (by kernel_rfl)) (by decide) (fun K hK => ?_); refine goes_ Try.func28 (by kernel_rfl) rfl #[.int .i64 ((rd_T33 l0_3 x3_2).f1), .int .i64 0, .int .i64 (wrap64 (a0_0 - 1))] (by rfl) rfl rfl (by (try simp only [m3]); first | done | rfl | (simp only [d2]; rfl)) ?_
               with_reducible refine (spec_l1In.calls ((rd_T33 l0_3 x3_2).f1) 0 (wrap64 (a0_0 - 1)) true _ A23.out).mono ?_
               rintro e w' ⟨rfl, ⟨nd, rfl⟩⟩; refine ⟨_, rfl, ?_⟩; refine hK.out _ _ ⟨b1 BK170 0, b1 BK170 1, b1 BK170 2, b1 BK170 3, b1 BK165 0, b1 BK165 1, b1 BK165 2, b1 BK165 3, ((HB.out.cell (World.block_lt_of_cell? w _ hw174_0)).trans hw174_0), ((HB.out.cell (World.block_lt_of_cell? w _ hw174_1)).trans hw174_1), ((HB.out.cell (World.block_lt_of_cell? w _ hw174_2)).trans hw174_2), ((HB.out.cell (World.block_lt_of_cell? w _ hw174_3)).trans hw174_3)⟩ (fun hHeld => ?_); clear hK K; refine norm_ (a' := ?_) ?_ ?_; rotate_left
               ·show Act.put _ (some 63) _ = _; simp only [Act.put, q5]; rfl
               refine pu 21 (some 64) bl50 HT_ ?_ rfl rfl (.inl ⟨by rfl, ?_⟩) ?_ ?_ ?_; rotate_left; (intro w'; go_simp; with_reducible rfl); rotate_left; (simp only [Act.put, q5]; rfl)
               refine pu 22 (some 65) bl51 HT_ ?_ rfl rfl (.inl ⟨by rfl, ?_⟩) ?_ ?_ ?_; rotate_left; (intro w'; go_simp; with_reducible rfl); rotate_left; (simp only [Act.put, q5]; rfl)
               refine pu 23 (some 66) bl52 HT_ ?_ rfl rfl (.inl ⟨by rfl, ?_⟩) ?_ ?_ ?_; rotate_left; (intro w'; go_simp; with_reducible rfl); rotate_left; (simp only [Act.put, q5]; rfl)
               refine pu 24 (some 67) bl53 HT_ ?_ rfl rfl (.inl ⟨by rfl, ?_⟩) ?_ ?_ ?_; rotate_left; (intro w'; go_simp; with_reducible rfl); rotate_left; (simp only [Act.put, q5]; rfl)
               refine pu 25 (some 68) bl54 HT_ ?_ rfl rfl (.inl ⟨by rfl, ?_⟩) ?_ ?_ ?_; rotate_left; (intro w'; go_simp; with_reducible rfl); rotate_left; (simp only [Act.put, q5]; rfl)
               refine pu 26 (some 69) bl55 HT_ ?_ rfl rfl (.inl ⟨by rfl, ?_⟩) ?_ ?_ ?_; rotate_left; (intro w'; go_simp; with_reducible rfl); rotate_left; (simp only [Act.put, q5]; rfl)
               refine pu 27 (some 70) bl56 HT_ ?_ rfl rfl (.inl ⟨by rfl, ?_⟩) ?_ ?_ ?_; rotate_left; (intro w'; go_simp; with_reducible rfl); rotate_left; (simp only [Act.put, q5]; rfl)
               refine pu 29 (some 72) bl57 HT_ ?_ rfl rfl (.inl ⟨by rfl, ?_⟩) ?_ ?_ ?_; rotate_left; (intro w'; go_simp; with_reducible rfl); rotate_left; (simp only [Act.put, q5]; rfl)
               refine pu 30 (some 73) bl58 HT_ ?_ rfl rfl (.inl ⟨by rfl, ?_⟩) ?_ ?_ ?_; rotate_left; (intro w'; go_simp; with_reducible rfl); rotate_left; (simp only [Act.put, q5]; rfl)
               refine take_ (i := 28) (N := some 71) (v := ?_) (a' := ?_) bl59 rfl rfl (take_ofW HT_.out HW_.out (by kernel_rfl)) (fun _ _ _ h => h) (Or.inl ⟨by rfl, ?_⟩) hHeld ?_ ?_; rotate_left
               ·rintro w' ⟨s0, s1, s2, s3, s4, s5, s6, s7, s8, s9, s10, s11⟩; go_simp; with_reducible rfl
               rotate_left
               ·simp only [Act.put, q5]; rfl
               refine pu 31 (some 74) bl60 HT_ ?_ rfl rfl (.inl ⟨by rfl, ?_⟩) ?_ ?_ ?_; rotate_left; (intro w'; go_simp; with_reducible rfl); rotate_left; (simp only [Act.put, q5]; rfl)
               refine take_ (i := 32) (N := some 75) (v := ?_) (a' := ?_) bl61 rfl rfl (take_ofW HT_.out HW_.out (by kernel_rfl)) (fun _ _ _ h => h) (Or.inl ⟨by rfl, ?_⟩) hHeld ?_ ?_; rotate_left
               ·rintro w' ⟨s0, s1, s2, s3, s4, s5, s6, s7, s8, s9, s10, s11⟩; go_simp; with_reducible rfl
               rotate_left
               ·simp only [Act.put, q5]; rfl
               refine take_ (i := 33) (N := some 76) (v := ?_) (a' := ?_) bl62 rfl rfl (take_ofW HT_.out HW_.out (by kernel_rfl)) (fun _ _ _ h => h) (Or.inl ⟨by rfl, ?_⟩) hHeld ?_ ?_; rotate_left
               ·rintro w' ⟨s0, s1, s2, s3, s4, s5, s6, s7, s8, s9, s10, s11⟩; go_simp; with_reducible rfl
               rotate_left
               ·simp only [Act.put, q5]; rfl
               refine one_ (i := 34) (N := some 77) bl63 rfl rfl (one_of HT_.out (by kernel_rfl)) (by decide) (fun K hK => ?_); refine goes_ Try.func40 (by kernel_rfl) rfl #[.agg #[.int .i64 ((rd_T33 l0_3 (ji26)).f0), .int .i64 ((rd_T33 l0_3 (ji26)).f1), .int .i64 ((rd_T33 l0_3 (ji26)).f2), .bool ((rd_T33 l0_3 (ji26)).f3)], .agg #[.int .i64 ((rd_T33 l0_3 x3_2).f0), .int .i64 ((rd_T33 l0_3 x3_2).f1), .int .i64 ((rd_T33 l0_3 x3_2).f2), .bool ((rd_T33 l0_3 x3_2).f3)]] (by rfl) rfl rfl (by (try simp only [m3]); first | done | (simp only [hji26]; rfl) | rfl | (simp only [d2]; rfl)) ?_
               with_reducible refine (spec_l4Less.calls ((rd_T33 l0_3 (ji26)).f0) ((rd_T33 l0_3 (ji26)).f1) ((rd_T33 l0_3 (ji26)).f2) ((rd_T33 l0_3 (ji26)).f3) ((rd_T33 l0_3 x3_2).f0) ((rd_T33 l0_3 x3_2).f1) ((rd_T33 l0_3 x3_2).f2) ((rd_T33 l0_3 x3_2).f3) true _ A29.out).mono ?_
               rintro e w37 ⟨rfl, hb⟩; refine ⟨_, rfl, ?_⟩; replace BK165 := xB BK165 hb; replace BK170 := xB BK170 hb; replace HB := xS HB hb
               (try clear hb)
               (try clear hb2)
               (try clear hk)
               (try clear hi)
               refine hK.out _ _ ⟨b1 BK170 0, b1 BK170 1, b1 BK170 2, b1 BK170 3, b1 BK165 0, b1 BK165 1, b1 BK165 2, b1 BK165 3, ((HB.out.cell (World.block_lt_of_cell? w _ hw174_0)).trans hw174_0), ((HB.out.cell (World.block_lt_of_cell? w _ hw174_1)).trans hw174_1), ((HB.out.cell (World.block_lt_of_cell? w _ hw174_2)).trans hw174_2), ((HB.out.cell (World.block_lt_of_cell? w _ hw174_3)).trans hw174_3)⟩ (fun hHeld => ?_); clear hK K; refine norm_ (a' := ?_) ?_ ?_; rotate_left
               ·show Act.put _ (some 77) _ = _; simp only [Act.put, q5]; rfl
               refine pu 35 (some 78) bl64 HT_ ?_ rfl rfl (.inl ⟨by rfl, ?_⟩) ?_ ?_ ?_; rotate_left; (intro w'; go_simp; with_reducible rfl); rotate_left; (simp only [Act.put, q5]; rfl)
               refine pu 36 (some 79) bl65 HT_ ?_ rfl rfl (.inl ⟨by rfl, ?_⟩) ?_ ?_ ?_; rotate_left; (intro w'; go_simp; with_reducible rfl); rotate_left; (simp only [Act.put, q5]; rfl)
               refine pu 37 (some 80) bl66 HT_ ?_ rfl rfl (.inl ⟨by rfl, ?_⟩) ?_ ?_ ?_; rotate_left; (intro w'; go_simp; with_reducible rfl); rotate_left; (simp only [Act.put, q5]; rfl)
               refine done_ (done_of HT_.out (by kernel_rfl)) ?_
               try go_wp2
               (first | go_roundg k2 | ((try simp only [← hji26]); go_roundg k2))
               case measure => have := HJ1.out; have := HK2.out; omega
               case rel => exact ⟨(wrap64 (x3_2 + 1)), (by first | rfl | (simp; done) | (simp [*]; done) | (rw [Int.tmod_eq_emod_of_nonneg (Int.natCast_nonneg _)]; done)), (by first | exact H' | (have h_ := H'; (try simp only [← hji26] at h_); (try simp only [← hji26]); exact h_)), ⟨by have := HJ1.out; have := HK2.out; omega⟩, ⟨zB BK165.out⟩, ⟨zS HB.out⟩⟩
              ·replace c30 := Bool.eq_false_iff.mpr c30; subst c30
               have H1 : (some false) = some r := by rw [if_neg (show ¬ (false = true) by decide)] at H; exact H
               clear H; have H := H1; clear H1; obtain rfl := Option.some.inj H; have hcz38_0 : wr.cell? ⟨gb165, 0, none⟩ = some (.int .i64 a0_0) := b1 BK165 0; have hcz38_1 : wr.cell? ⟨gb165, 1, none⟩ = some (.int .i64 a0_1) := b1 BK165 1; have hcz38_2 : wr.cell? ⟨gb165, 2, none⟩ = some (.int .i64 a0_2) := b1 BK165 2; have hcz38_3 : wr.cell? ⟨gb165, 3, none⟩ = some (.slice A0_3 l0_3.length c0_3) := b1 BK165 3; have hfz38_0 := blk_frozen BK165.out 0; have hfz38_1 := blk_frozen BK165.out 1; have hfz38_2 := blk_frozen BK165.out 2; have hfz38_3 := blk_frozen BK165.out 3; have p169 : 0 ≤ (x3_2 : Int) := of_decide_eq_true (by first | (with_reducible assumption) | assumption); have q169 : x3_2 < (l0_3.length : Int) := of_decide_eq_true (by first | (with_reducible assumption) | assumption); obtain ⟨ad169, e169, hx169_0, hx169_1, hx169_2, hx169_3⟩ := at_T33 HR0_3.out x3_2 p169 q169
               cases e169
               replace hx169_0 := (HB.out.cell (World.block_lt_of_cell? w _ hx169_0)).trans hx169_0; replace hx169_1 := (HB.out.cell (World.block_lt_of_cell? w _ hx169_1)).trans hx169_1; replace hx169_2 := (HB.out.cell (World.block_lt_of_cell? w _ hx169_2)).trans hx169_2; replace hx169_3 := (HB.out.cell (World.block_lt_of_cell? w _ hx169_3)).trans hx169_3; replace p169 := eq_true p169; replace q169 := eq_true q169
               try go_wp2_with (first | ((with_reducible refine gate_dst (N := 4) rfl ?_); (try (refine gate_guard (by rfl) ?_; dsimp only)); refine box_event ?hg (N := 4) ?hd (cs := #[.int .i64 0, .int .i64 0, .int .i64 0, .bool false]) (t := 33) ?hr ?_; (case hd => rfl); (case hg => rfl); (case hr => first | (go_simp; done) | (go_simp; rfl)); intro gb170 hg w39 hbox hb; have BK170 := Aside0.mk (hbox); have GW170 := xG HB hg; have GE170 := xG HB hg; replace HB := xS HB hb; have NB165_170 := xN BK165 hg; have NB170_165 := xM BK165 hg; replace BK165 := xB BK165 hb; clear hb hbox hg; have hnb40 := NB170_165.out; have hnc40 := NB165_170.out; have hcz41_0 : w39.cell? ⟨gb170, 0, none⟩ = some (.int .i64 0) := b1 BK170 0; have hcz41_1 : w39.cell? ⟨gb170, 1, none⟩ = some (.int .i64 0) := b1 BK170 1; have hcz41_2 : w39.cell? ⟨gb170, 2, none⟩ = some (.int .i64 0) := b1 BK170 2; have hcz41_3 : w39.cell? ⟨gb170, 3, none⟩ = some (.bool false) := b1 BK170 3; have hfz41_0 := blk_frozen BK170.out 0; have hfz41_1 := blk_frozen BK170.out 1; have hfz41_2 := blk_frozen BK170.out 2; have hfz41_3 := blk_frozen BK170.out 3))
               have n0_ : Aside0 (((((w39.setCell ⟨gb170, 0, none⟩ (.int .i64 ((rd_T33 l0_3 x3_2).f0))).setCell ⟨gb170, 1, none⟩ (.int .i64 ((rd_T33 l0_3 x3_2).f1))).setCell ⟨gb170, 2, none⟩ (.int .i64 ((rd_T33 l0_3 x3_2).f2))).setCell ⟨gb170, 3, none⟩ (.bool ((rd_T33 l0_3 x3_2).f3))).heap[gb165]? = some (.cells #[.int .i64 a0_0, .int .i64 a0_1, .int .i64 a0_2, .slice (some ad169) l0_3.length c0_3] 28 (0, 0))) := ⟨zB BK165.out⟩; have n1_ : Aside0 (((((w39.setCell ⟨gb170, 0, none⟩ (.int .i64 ((rd_T33 l0_3 x3_2).f0))).setCell ⟨gb170, 1, none⟩ (.int .i64 ((rd_T33 l0_3 x3_2).f1))).setCell ⟨gb170, 2, none⟩ (.int .i64 ((rd_T33 l0_3 x3_2).f2))).setCell ⟨gb170, 3, none⟩ (.bool ((rd_T33 l0_3 x3_2).f3))).heap[gb170]? = some (.cells #[.int .i64 ((rd_T33 l0_3 x3_2).f0), .int .i64 ((rd_T33 l0_3 x3_2).f1), .int .i64 ((rd_T33 l0_3 x3_2).f2), .bool ((rd_T33 l0_3 x3_2).f3)] 33 (0, 0))) := ⟨by (with_reducible repeat (first | refine blk_drewN ?_ _ | refine blk_drew ?_ | refine blk_alloc ?_ _)); refine blk_put (cs := #[.int .i64 ((rd_T33 l0_3 x3_2).f0), .int .i64 ((rd_T33 l0_3 x3_2).f1), .int .i64 ((rd_T33 l0_3 x3_2).f2), .bool false]) ?_ 3 _ rfl; (with_reducible repeat (first | refine blk_drewN ?_ _ | refine blk_drew ?_ | refine blk_alloc ?_ _)); refine blk_put (cs := #[.int .i64 ((rd_T33 l0_3 x3_2).f0), .int .i64 ((rd_T33 l0_3 x3_2).f1), .int .i64 0, .bool false]) ?_ 2 _ rfl; (with_reducible repeat (first | refine blk_drewN ?_ _ | refine blk_drew ?_ | refine blk_alloc ?_ _)); refine blk_put (cs := #[.int .i64 ((rd_T33 l0_3 x3_2).f0), .int .i64 0, .int .i64 0, .bool false]) ?_ 1 _ rfl; (with_reducible repeat (first | refine blk_drewN ?_ _ | refine blk_drew ?_ | refine blk_alloc ?_ _)); refine blk_put (cs := #[.int .i64 0, .int .i64 0, .int .i64 0, .bool false]) ?_ 0 _ rfl; (with_reducible repeat (first | refine blk_drewN ?_ _ | refine blk_drew ?_ | refine blk_alloc ?_ _)); exact BK170.out⟩; have n2_ : Aside0 (Below w.heap.size w ((((w39.setCell ⟨gb170, 0, none⟩ (.int .i64 ((rd_T33 l0_3 x3_2).f0))).setCell ⟨gb170, 1, none⟩ (.int .i64 ((rd_T33 l0_3 x3_2).f1))).setCell ⟨gb170, 2, none⟩ (.int .i64 ((rd_T33 l0_3 x3_2).f2))).setCell ⟨gb170, 3, none⟩ (.bool ((rd_T33 l0_3 x3_2).f3)))) := ⟨zS HB.out⟩
               (try clear BK165)
               (try clear BK170)
               (try clear HB)
               generalize ((((w39.setCell ⟨gb170, 0, none⟩ (.int .i64 ((rd_T33 l0_3 x3_2).f0))).setCell ⟨gb170, 1, none⟩ (.int .i64 ((rd_T33 l0_3 x3_2).f1))).setCell ⟨gb170, 2, none⟩ (.int .i64 ((rd_T33 l0_3 x3_2).f2))).setCell ⟨gb170, 3, none⟩ (.bool ((rd_T33 l0_3 x3_2).f3))) = w42 at n0_ n1_ n2_ ⊢; have BK165 := n0_; have BK170 := n1_; have HB := n2_; clear n0_ n1_ n2_; replace BK165 := Aside0.mk (blk_drew BK165.out); replace BK170 := Aside0.mk (blk_drew BK170.out); replace HB := Aside0.mk (below_drew1 HB.out); have p174 : 0 ≤ ((ji26) : Int) := of_decide_eq_true (by first | (with_reducible assumption) | assumption); have q174 : (ji26) < (l0_3.length : Int) := of_decide_eq_true (by first | (with_reducible assumption) | assumption); obtain ⟨ad174, e174, hx174_0, hx174_1, hx174_2, hx174_3⟩ := at_T33 HR0_3.out (ji26) p174 q174; have hw174_3 := hx174_3; have hw174_2 := hx174_2; have hw174_1 := hx174_1; have hw174_0 := hx174_0; obtain rfl : ad169 = ad174 := (by injection e174); replace hx174_0 := (HB.out.cell (World.block_lt_of_cell? w _ hx174_0)).trans hx174_0; replace hx174_1 := (HB.out.cell (World.block_lt_of_cell? w _ hx174_1)).trans hx174_1; replace hx174_2 := (HB.out.cell (World.block_lt_of_cell? w _ hx174_2)).trans hx174_2; replace hx174_3 := (HB.out.cell (World.block_lt_of_cell? w _ hx174_3)).trans hx174_3; replace p174 := eq_true p174; replace q174 := eq_true q174; refine start_ (n := 38) (S := fun w' => w'.cell? ⟨gb170, 0, none⟩ = some (.int .i64 ((rd_T33 l0_3 x3_2).f0)) ∧ w'.cell? ⟨gb170, 1, none⟩ = some (.int .i64 ((rd_T33 l0_3 x3_2).f1)) ∧ w'.cell? ⟨gb170, 2, none⟩ = some (.int .i64 ((rd_T33 l0_3 x3_2).f2)) ∧ w'.cell? ⟨gb170, 3, none⟩ = some (.bool ((rd_T33 l0_3 x3_2).f3)) ∧ w'.cell? ⟨gb165, 0, none⟩ = some (.int .i64 a0_0) ∧ w'.cell? ⟨gb165, 1, none⟩ = some (.int .i64 a0_1) ∧ w'.cell? ⟨gb165, 2, none⟩ = some (.int .i64 a0_2) ∧ w'.cell? ⟨gb165, 3, none⟩ = some (.slice (some ad169) l0_3.length c0_3) ∧ w'.cell? (ad169.add (((ji26)).toNat * 4)) = some (.int .i64 ((rd_T33 l0_3 (ji26)).f0)) ∧ w'.cell? ⟨(ad169.add (((ji26)).toNat * 4)).block, (ad169.add (((ji26)).toNat * 4)).off + 1, none⟩ = some (.int .i64 ((rd_T33 l0_3 (ji26)).f1)) ∧ w'.cell? ⟨(ad169.add (((ji26)).toNat * 4)).block, (ad169.add (((ji26)).toNat * 4)).off + 2, none⟩ = some (.int .i64 ((rd_T33 l0_3 (ji26)).f2)) ∧ w'.cell? ⟨(ad169.add (((ji26)).toNat * 4)).block, (ad169.add (((ji26)).toNat * 4)).off + 3, none⟩ = some (.bool ((rd_T33 l0_3 (ji26)).f3))) (ds := []) bl28 (by kernel_rfl) rfl rfl ⟨b1 BK170 0, b1 BK170 1, b1 BK170 2, b1 BK170 3, b1 BK165 0, b1 BK165 1, b1 BK165 2, b1 BK165 3, ((HB.out.cell (World.block_lt_of_cell? w _ hw174_0)).trans hw174_0), ((HB.out.cell (World.block_lt_of_cell? w _ hw174_1)).trans hw174_1), ((HB.out.cell (World.block_lt_of_cell? w _ hw174_2)).trans hw174_2), ((HB.out.cell (World.block_lt_of_cell? w _ hw174_3)).trans hw174_3)⟩ (fun hHeld => ?_); refine with_tabW spec_AutoOk.tab7 spec_AutoOk.bits7 (fun HT_ HW_ => ?_)
               generalize w42.drew = w43 at BK165 BK170 HB hx174_0 hx174_1 hx174_2 hx174_3 hHeld ⊢
               refine pu 0 (some 43) bl29 HT_ ?_ rfl rfl (.inl ⟨by rfl, ?_⟩) ?_ ?_ ?_; rotate_left; (intro w'; go_simp; with_reducible rfl); rotate_left; (simp only [Act.put, q5]; rfl)
               refine pu 2 (some 45) bl30 HT_ ?_ rfl rfl (.inl ⟨by rfl, ?_⟩) ?_ ?_ ?_; rotate_left; (intro w'; go_simp; with_reducible rfl); rotate_left; (simp only [Act.put, q5]; rfl)
               refine take_ (i := 1) (N := some 44) (v := ?_) (a' := ?_) bl31 rfl rfl (take_ofW HT_.out HW_.out (by kernel_rfl)) (fun _ _ _ h => h) (Or.inl ⟨by rfl, ?_⟩) hHeld ?_ ?_; rotate_left
               ·rintro w' ⟨s0, s1, s2, s3, s4, s5, s6, s7, s8, s9, s10, s11⟩; go_simp; with_reducible rfl
               rotate_left
               ·simp only [Act.put, q5]; rfl
               refine take_ (i := 3) (N := some 46) (v := ?_) (a' := ?_) bl32 rfl rfl (take_ofW HT_.out HW_.out (by kernel_rfl)) (fun _ _ _ h => h) (Or.inl ⟨by rfl, ?_⟩) hHeld ?_ ?_; rotate_left
               ·rintro w' ⟨s0, s1, s2, s3, s4, s5, s6, s7, s8, s9, s10, s11⟩; go_simp; with_reducible rfl
               rotate_left
               ·simp only [Act.put, q5]; rfl
               refine one_ (i := 4) (N := some 47) bl33 rfl rfl (one_of HT_.out (by kernel_rfl)) (by decide) (fun K hK => ?_); refine goes_ Try.func27 (by kernel_rfl) rfl #[.int .i64 ((rd_T33 l0_3 x3_2).f0), .int .i64 a0_1] (by rfl) rfl rfl (by (try simp only [m3]); first | done | rfl | (simp only [d2]; rfl)) ?_
               with_reducible refine (spec_l4State.calls ((rd_T33 l0_3 x3_2).f0) a0_1 true _ A19.out).mono ?_
               rintro e w' ⟨rfl, ⟨nd, rfl⟩⟩; refine ⟨_, rfl, ?_⟩; refine hK.out _ _ ⟨b1 BK170 0, b1 BK170 1, b1 BK170 2, b1 BK170 3, b1 BK165 0, b1 BK165 1, b1 BK165 2, b1 BK165 3, ((HB.out.cell (World.block_lt_of_cell? w _ hw174_0)).trans hw174_0), ((HB.out.cell (World.block_lt_of_cell? w _ hw174_1)).trans hw174_1), ((HB.out.cell (World.block_lt_of_cell? w _ hw174_2)).trans hw174_2), ((HB.out.cell (World.block_lt_of_cell? w _ hw174_3)).trans hw174_3)⟩ (fun hHeld => ?_); clear hK K; refine norm_ (a' := ?_) ?_ ?_; rotate_left
               ·show Act.put _ (some 47) _ = _; simp only [Act.put, q5]; rfl
               refine pu 5 (some 48) bl34 HT_ ?_ rfl rfl (.inl ⟨by rfl, ?_⟩) ?_ ?_ ?_; rotate_left; (intro w'; go_simp; with_reducible rfl); rotate_left; (simp only [Act.put, q5]; rfl)
               refine pu 6 (some 49) bl35 HT_ ?_ rfl rfl (.inl ⟨by rfl, ?_⟩) ?_ ?_ ?_; rotate_left; (intro w'; go_simp; with_reducible rfl); rotate_left; (simp only [Act.put, q5]; rfl)
               refine pu 7 (some 50) bl36 HT_ ?_ rfl rfl (.inl ⟨by rfl, ?_⟩) ?_ ?_ ?_; rotate_left; (intro w'; go_simp; with_reducible rfl); rotate_left; (simp only [Act.put, q5]; rfl)
               refine pu 9 (some 52) bl37 HT_ ?_ rfl rfl (.inl ⟨by rfl, ?_⟩) ?_ ?_ ?_; rotate_left; (intro w'; go_simp; with_reducible rfl); rotate_left; (simp only [Act.put, q5]; rfl)
               refine take_ (i := 8) (N := some 51) (v := ?_) (a' := ?_) bl38 rfl rfl (take_ofW HT_.out HW_.out (by kernel_rfl)) (fun _ _ _ h => h) (Or.inl ⟨by rfl, ?_⟩) hHeld ?_ ?_; rotate_left
               ·rintro w' ⟨s0, s1, s2, s3, s4, s5, s6, s7, s8, s9, s10, s11⟩; go_simp; with_reducible rfl
               rotate_left
               ·simp only [Act.put, q5]; rfl
               refine take_ (i := 10) (N := some 53) (v := ?_) (a' := ?_) bl39 rfl rfl (take_ofW HT_.out HW_.out (by kernel_rfl)) (fun _ _ _ h => h) (Or.inl ⟨by rfl, ?_⟩) hHeld ?_ ?_; rotate_left
               ·rintro w' ⟨s0, s1, s2, s3, s4, s5, s6, s7, s8, s9, s10, s11⟩; go_simp; with_reducible rfl
               rotate_left
               ·simp only [Act.put, q5]; rfl
               refine one_ (i := 11) (N := some 54) bl40 rfl rfl (one_of HT_.out (by kernel_rfl)) (by decide) (fun K hK => ?_); refine goes_ Try.func27 (by kernel_rfl) rfl #[.int .i64 ((rd_T33 l0_3 x3_2).f2), .int .i64 a0_1] (by rfl) rfl rfl (by (try simp only [m3]); first | done | rfl | (simp only [d2]; rfl)) ?_
               with_reducible refine (spec_l4State.calls ((rd_T33 l0_3 x3_2).f2) a0_1 true _ A21.out).mono ?_
               rintro e w' ⟨rfl, ⟨nd, rfl⟩⟩; refine ⟨_, rfl, ?_⟩; refine hK.out _ _ ⟨b1 BK170 0, b1 BK170 1, b1 BK170 2, b1 BK170 3, b1 BK165 0, b1 BK165 1, b1 BK165 2, b1 BK165 3, ((HB.out.cell (World.block_lt_of_cell? w _ hw174_0)).trans hw174_0), ((HB.out.cell (World.block_lt_of_cell? w _ hw174_1)).trans hw174_1), ((HB.out.cell (World.block_lt_of_cell? w _ hw174_2)).trans hw174_2), ((HB.out.cell (World.block_lt_of_cell? w _ hw174_3)).trans hw174_3)⟩ (fun hHeld => ?_); clear hK K; refine norm_ (a' := ?_) ?_ ?_; rotate_left
               ·show Act.put _ (some 54) _ = _; simp only [Act.put, q5]; rfl
               refine pu 12 (some 55) bl41 HT_ ?_ rfl rfl (.inl ⟨by rfl, ?_⟩) ?_ ?_ ?_; rotate_left; (intro w'; go_simp; with_reducible rfl); rotate_left; (simp only [Act.put, q5]; rfl)
               refine pu 13 (some 56) bl42 HT_ ?_ rfl rfl (.inl ⟨by rfl, ?_⟩) ?_ ?_ ?_; rotate_left; (intro w'; go_simp; with_reducible rfl); rotate_left; (simp only [Act.put, q5]; rfl)
               refine pu 14 (some 57) bl43 HT_ ?_ rfl rfl (.inl ⟨by rfl, ?_⟩) ?_ ?_ ?_; rotate_left; (intro w'; go_simp; with_reducible rfl); rotate_left; (simp only [Act.put, q5]; rfl)
               refine pu 15 (some 58) bl44 HT_ ?_ rfl rfl (.inl ⟨by rfl, ?_⟩) ?_ ?_ ?_; rotate_left; (intro w'; go_simp; with_reducible rfl); rotate_left; (simp only [Act.put, q5]; rfl)
               refine pu 17 (some 60) bl45 HT_ ?_ rfl rfl (.inl ⟨by rfl, ?_⟩) ?_ ?_ ?_; rotate_left; (intro w'; go_simp; with_reducible rfl); rotate_left; (simp only [Act.put, q5]; rfl)
               refine take_ (i := 16) (N := some 59) (v := ?_) (a' := ?_) bl46 rfl rfl (take_ofW HT_.out HW_.out (by kernel_rfl)) (fun _ _ _ h => h) (Or.inl ⟨by rfl, ?_⟩) hHeld ?_ ?_; rotate_left
               ·rintro w' ⟨s0, s1, s2, s3, s4, s5, s6, s7, s8, s9, s10, s11⟩; go_simp; with_reducible rfl
               rotate_left
               ·simp only [Act.put, q5]; rfl
               refine take_ (i := 18) (N := some 61) (v := ?_) (a' := ?_) bl47 rfl rfl (take_ofW HT_.out HW_.out (by kernel_rfl)) (fun _ _ _ h => h) (Or.inl ⟨by rfl, ?_⟩) hHeld ?_ ?_; rotate_left
               ·rintro w' ⟨s0, s1, s2, s3, s4, s5, s6, s7, s8, s9, s10, s11⟩; go_simp; with_reducible rfl
               rotate_left
               ·simp only [Act.put, q5]; rfl
               refine pu 19 (some 62) bl48 HT_ ?_ rfl rfl (.inl ⟨by rfl, ?_⟩) ?_ ?_ ?_; rotate_left; (intro w'; go_simp; with_reducible rfl); rotate_left; (simp only [Act.put, q5]; rfl)
               refine one_ (i := 20) (N := some 63) bl49 rfl rfl (one_of HT_.out (by kernel_rfl)) (by decide) (fun K hK => ?_); refine goes_ Try.func28 (by kernel_rfl) rfl #[.int .i64 ((rd_T33 l0_3 x3_2).f1), .int .i64 0, .int .i64 (wrap64 (a0_0 - 1))] (by rfl) rfl rfl (by (try simp only [m3]); first | done | rfl | (simp only [d2]; rfl)) ?_
               with_reducible refine (spec_l1In.calls ((rd_T33 l0_3 x3_2).f1) 0 (wrap64 (a0_0 - 1)) true _ A23.out).mono ?_
               rintro e w' ⟨rfl, ⟨nd, rfl⟩⟩; refine ⟨_, rfl, ?_⟩; refine hK.out _ _ ⟨b1 BK170 0, b1 BK170 1, b1 BK170 2, b1 BK170 3, b1 BK165 0, b1 BK165 1, b1 BK165 2, b1 BK165 3, ((HB.out.cell (World.block_lt_of_cell? w _ hw174_0)).trans hw174_0), ((HB.out.cell (World.block_lt_of_cell? w _ hw174_1)).trans hw174_1), ((HB.out.cell (World.block_lt_of_cell? w _ hw174_2)).trans hw174_2), ((HB.out.cell (World.block_lt_of_cell? w _ hw174_3)).trans hw174_3)⟩ (fun hHeld => ?_); clear hK K; refine norm_ (a' := ?_) ?_ ?_; rotate_left
               ·show Act.put _ (some 63) _ = _; simp only [Act.put, q5]; rfl
               refine pu 21 (some 64) bl50 HT_ ?_ rfl rfl (.inl ⟨by rfl, ?_⟩) ?_ ?_ ?_; rotate_left; (intro w'; go_simp; with_reducible rfl); rotate_left; (simp only [Act.put, q5]; rfl)
               refine pu 22 (some 65) bl51 HT_ ?_ rfl rfl (.inl ⟨by rfl, ?_⟩) ?_ ?_ ?_; rotate_left; (intro w'; go_simp; with_reducible rfl); rotate_left; (simp only [Act.put, q5]; rfl)
               refine pu 23 (some 66) bl52 HT_ ?_ rfl rfl (.inl ⟨by rfl, ?_⟩) ?_ ?_ ?_; rotate_left; (intro w'; go_simp; with_reducible rfl); rotate_left; (simp only [Act.put, q5]; rfl)
               refine pu 24 (some 67) bl53 HT_ ?_ rfl rfl (.inl ⟨by rfl, ?_⟩) ?_ ?_ ?_; rotate_left; (intro w'; go_simp; with_reducible rfl); rotate_left; (simp only [Act.put, q5]; rfl)
               refine pu 25 (some 68) bl54 HT_ ?_ rfl rfl (.inl ⟨by rfl, ?_⟩) ?_ ?_ ?_; rotate_left; (intro w'; go_simp; with_reducible rfl); rotate_left; (simp only [Act.put, q5]; rfl)
               refine pu 26 (some 69) bl55 HT_ ?_ rfl rfl (.inl ⟨by rfl, ?_⟩) ?_ ?_ ?_; rotate_left; (intro w'; go_simp; with_reducible rfl); rotate_left; (simp only [Act.put, q5]; rfl)
               refine pu 27 (some 70) bl56 HT_ ?_ rfl rfl (.inl ⟨by rfl, ?_⟩) ?_ ?_ ?_; rotate_left; (intro w'; go_simp; with_reducible rfl); rotate_left; (simp only [Act.put, q5]; rfl)
               refine pu 29 (some 72) bl57 HT_ ?_ rfl rfl (.inl ⟨by rfl, ?_⟩) ?_ ?_ ?_; rotate_left; (intro w'; go_simp; with_reducible rfl); rotate_left; (simp only [Act.put, q5]; rfl)
               refine pu 30 (some 73) bl58 HT_ ?_ rfl rfl (.inl ⟨by rfl, ?_⟩) ?_ ?_ ?_; rotate_left; (intro w'; go_simp; with_reducible rfl); rotate_left; (simp only [Act.put, q5]; rfl)
               refine take_ (i := 28) (N := some 71) (v := ?_) (a' := ?_) bl59 rfl rfl (take_ofW HT_.out HW_.out (by kernel_rfl)) (fun _ _ _ h => h) (Or.inl ⟨by rfl, ?_⟩) hHeld ?_ ?_; rotate_left
               ·rintro w' ⟨s0, s1, s2, s3, s4, s5, s6, s7, s8, s9, s10, s11⟩; go_simp; with_reducible rfl
               rotate_left
               ·simp only [Act.put, q5]; rfl
               refine pu 31 (some 74) bl60 HT_ ?_ rfl rfl (.inl ⟨by rfl, ?_⟩) ?_ ?_ ?_; rotate_left; (intro w'; go_simp; with_reducible rfl); rotate_left; (simp only [Act.put, q5]; rfl)
               refine take_ (i := 32) (N := some 75) (v := ?_) (a' := ?_) bl61 rfl rfl (take_ofW HT_.out HW_.out (by kernel_rfl)) (fun _ _ _ h => h) (Or.inl ⟨by rfl, ?_⟩) hHeld ?_ ?_; rotate_left
               ·rintro w' ⟨s0, s1, s2, s3, s4, s5, s6, s7, s8, s9, s10, s11⟩; go_simp; with_reducible rfl
               rotate_left
               ·simp only [Act.put, q5]; rfl
               refine take_ (i := 33) (N := some 76) (v := ?_) (a' := ?_) bl62 rfl rfl (take_ofW HT_.out HW_.out (by kernel_rfl)) (fun _ _ _ h => h) (Or.inl ⟨by rfl, ?_⟩) hHeld ?_ ?_; rotate_left
               ·rintro w' ⟨s0, s1, s2, s3, s4, s5, s6, s7, s8, s9, s10, s11⟩; go_simp; with_reducible rfl
               rotate_left
               ·simp only [Act.put, q5]; rfl
               refine one_ (i := 34) (N := some 77) bl63 rfl rfl (one_of HT_.out (by kernel_rfl)) (by decide) (fun K hK => ?_); refine goes_ Try.func40 (by kernel_rfl) rfl #[.agg #[.int .i64 ((rd_T33 l0_3 (ji26)).f0), .int .i64 ((rd_T33 l0_3 (ji26)).f1), .int .i64 ((rd_T33 l0_3 (ji26)).f2), .bool ((rd_T33 l0_3 (ji26)).f3)], .agg #[.int .i64 ((rd_T33 l0_3 x3_2).f0), .int .i64 ((rd_T33 l0_3 x3_2).f1), .int .i64 ((rd_T33 l0_3 x3_2).f2), .bool ((rd_T33 l0_3 x3_2).f3)]] (by rfl) rfl rfl (by (try simp only [m3]); first | done | (simp only [hji26]; rfl) | rfl | (simp only [d2]; rfl)) ?_
               with_reducible refine (spec_l4Less.calls ((rd_T33 l0_3 (ji26)).f0) ((rd_T33 l0_3 (ji26)).f1) ((rd_T33 l0_3 (ji26)).f2) ((rd_T33 l0_3 (ji26)).f3) ((rd_T33 l0_3 x3_2).f0) ((rd_T33 l0_3 x3_2).f1) ((rd_T33 l0_3 x3_2).f2) ((rd_T33 l0_3 x3_2).f3) false _ A29.out).mono ?_
               rintro e w44 ⟨rfl, hb⟩; refine ⟨_, rfl, ?_⟩; replace BK165 := xB BK165 hb; replace BK170 := xB BK170 hb; replace HB := xS HB hb
               (try clear hb)
               (try clear hb2)
               (try clear hk)
               (try clear hi)
               refine hK.out _ _ ⟨b1 BK170 0, b1 BK170 1, b1 BK170 2, b1 BK170 3, b1 BK165 0, b1 BK165 1, b1 BK165 2, b1 BK165 3, ((HB.out.cell (World.block_lt_of_cell? w _ hw174_0)).trans hw174_0), ((HB.out.cell (World.block_lt_of_cell? w _ hw174_1)).trans hw174_1), ((HB.out.cell (World.block_lt_of_cell? w _ hw174_2)).trans hw174_2), ((HB.out.cell (World.block_lt_of_cell? w _ hw174_3)).trans hw174_3)⟩ (fun hHeld => ?_); clear hK K; refine norm_ (a' := ?_) ?_ ?_; rotate_left
               ·show Act.put _ (some 77) _ = _; simp only [Act.put, q5]; rfl
               refine pu 35 (some 78) bl64 HT_ ?_ rfl rfl (.inl ⟨by rfl, ?_⟩) ?_ ?_ ?_; rotate_left; (intro w'; go_simp; with_reducible rfl); rotate_left; (simp only [Act.put, q5]; rfl)
               refine pu 36 (some 79) bl65 HT_ ?_ rfl rfl (.inl ⟨by rfl, ?_⟩) ?_ ?_ ?_; rotate_left; (intro w'; go_simp; with_reducible rfl); rotate_left; (simp only [Act.put, q5]; rfl)
               refine pu 37 (some 80) bl66 HT_ ?_ rfl rfl (.inl ⟨by rfl, ?_⟩) ?_ ?_ ?_; rotate_left; (intro w'; go_simp; with_reducible rfl); rotate_left; (simp only [Act.put, q5]; rfl)
               refine done_ (done_of HT_.out (by kernel_rfl)) ?_
               try go_wp2
               go_ret; exact ⟨by first | rfl | (simp [errW_none, errW_some] <;> rfl) | (simp only [← hji26]; first | rfl | (simp [errW_none, errW_some] <;> rfl)) | (simp [*, errW_none, errW_some] <;> rfl), by repeat (first | (with_reducible first | exact HB.out | apply below_alloc | apply pw_below_drewN | apply below_drew1 | refine below_set ?_ GE165.out | refine below_set ?_ GE170.out) | exact HB.out)⟩
             ·rw [if_neg c28] at H; exact absurd H (by simp)
            ·rw [if_neg c27] at H; exact absurd H (by simp)
           ·rw [if_neg c25] at H; have c25b0 : decide (0 < x3_2) = false := decide_eq_false c25; clear c25; have H' := Aside0.mk H; clear H; have hcz45_0 : wr.cell? ⟨gb165, 0, none⟩ = some (.int .i64 a0_0) := b1 BK165 0; have hcz45_1 : wr.cell? ⟨gb165, 1, none⟩ = some (.int .i64 a0_1) := b1 BK165 1; have hcz45_2 : wr.cell? ⟨gb165, 2, none⟩ = some (.int .i64 a0_2) := b1 BK165 2; have hcz45_3 : wr.cell? ⟨gb165, 3, none⟩ = some (.slice A0_3 l0_3.length c0_3) := b1 BK165 3; have hfz45_0 := blk_frozen BK165.out 0; have hfz45_1 := blk_frozen BK165.out 1; have hfz45_2 := blk_frozen BK165.out 2; have hfz45_3 := blk_frozen BK165.out 3; have p169 : 0 ≤ (x3_2 : Int) := of_decide_eq_true (by first | (with_reducible assumption) | assumption); have q169 : x3_2 < (l0_3.length : Int) := of_decide_eq_true (by first | (with_reducible assumption) | assumption); obtain ⟨ad169, e169, hx169_0, hx169_1, hx169_2, hx169_3⟩ := at_T33 HR0_3.out x3_2 p169 q169
            cases e169
            replace hx169_0 := (HB.out.cell (World.block_lt_of_cell? w _ hx169_0)).trans hx169_0; replace hx169_1 := (HB.out.cell (World.block_lt_of_cell? w _ hx169_1)).trans hx169_1; replace hx169_2 := (HB.out.cell (World.block_lt_of_cell? w _ hx169_2)).trans hx169_2; replace hx169_3 := (HB.out.cell (World.block_lt_of_cell? w _ hx169_3)).trans hx169_3; replace p169 := eq_true p169; replace q169 := eq_true q169
            try go_wp2_with (first | ((with_reducible refine gate_dst (N := 4) rfl ?_); (try (refine gate_guard (by rfl) ?_; dsimp only)); refine box_event ?hg (N := 4) ?hd (cs := #[.int .i64 0, .int .i64 0, .int .i64 0, .bool false]) (t := 33) ?hr ?_; (case hd => rfl); (case hg => rfl); (case hr => first | (go_simp; done) | (go_simp; rfl)); intro gb170 hg w46 hbox hb; have BK170 := Aside0.mk (hbox); have GW170 := xG HB hg; have GE170 := xG HB hg; replace HB := xS HB hb; have NB165_170 := xN BK165 hg; have NB170_165 := xM BK165 hg; replace BK165 := xB BK165 hb; clear hb hbox hg; have hnb47 := NB170_165.out; have hnc47 := NB165_170.out; have hcz48_0 : w46.cell? ⟨gb170, 0, none⟩ = some (.int .i64 0) := b1 BK170 0; have hcz48_1 : w46.cell? ⟨gb170, 1, none⟩ = some (.int .i64 0) := b1 BK170 1; have hcz48_2 : w46.cell? ⟨gb170, 2, none⟩ = some (.int .i64 0) := b1 BK170 2; have hcz48_3 : w46.cell? ⟨gb170, 3, none⟩ = some (.bool false) := b1 BK170 3; have hfz48_0 := blk_frozen BK170.out 0; have hfz48_1 := blk_frozen BK170.out 1; have hfz48_2 := blk_frozen BK170.out 2; have hfz48_3 := blk_frozen BK170.out 3))
            have n0_ : Aside0 (((((w46.setCell ⟨gb170, 0, none⟩ (.int .i64 ((rd_T33 l0_3 x3_2).f0))).setCell ⟨gb170, 1, none⟩ (.int .i64 ((rd_T33 l0_3 x3_2).f1))).setCell ⟨gb170, 2, none⟩ (.int .i64 ((rd_T33 l0_3 x3_2).f2))).setCell ⟨gb170, 3, none⟩ (.bool ((rd_T33 l0_3 x3_2).f3))).heap[gb165]? = some (.cells #[.int .i64 a0_0, .int .i64 a0_1, .int .i64 a0_2, .slice (some ad169) l0_3.length c0_3] 28 (0, 0))) := ⟨zB BK165.out⟩; have n1_ : Aside0 (((((w46.setCell ⟨gb170, 0, none⟩ (.int .i64 ((rd_T33 l0_3 x3_2).f0))).setCell ⟨gb170, 1, none⟩ (.int .i64 ((rd_T33 l0_3 x3_2).f1))).setCell ⟨gb170, 2, none⟩ (.int .i64 ((rd_T33 l0_3 x3_2).f2))).setCell ⟨gb170, 3, none⟩ (.bool ((rd_T33 l0_3 x3_2).f3))).heap[gb170]? = some (.cells #[.int .i64 ((rd_T33 l0_3 x3_2).f0), .int .i64 ((rd_T33 l0_3 x3_2).f1), .int .i64 ((rd_T33 l0_3 x3_2).f2), .bool ((rd_T33 l0_3 x3_2).f3)] 33 (0, 0))) := ⟨by (with_reducible repeat (first | refine blk_drewN ?_ _ | refine blk_drew ?_ | refine blk_alloc ?_ _)); refine blk_put (cs := #[.int .i64 ((rd_T33 l0_3 x3_2).f0), .int .i64 ((rd_T33 l0_3 x3_2).f1), .int .i64 ((rd_T33 l0_3 x3_2).f2), .bool false]) ?_ 3 _ rfl; (with_reducible repeat (first | refine blk_drewN ?_ _ | refine blk_drew ?_ | refine blk_alloc ?_ _)); refine blk_put (cs := #[.int .i64 ((rd_T33 l0_3 x3_2).f0), .int .i64 ((rd_T33 l0_3 x3_2).f1), .int .i64 0, .bool false]) ?_ 2 _ rfl; (with_reducible repeat (first | refine blk_drewN ?_ _ | refine blk_drew ?_ | refine blk_alloc ?_ _)); refine blk_put (cs := #[.int .i64 ((rd_T33 l0_3 x3_2).f0), .int .i64 0, .int .i64 0, .bool false]) ?_ 1 _ rfl; (with_reducible repeat (first | refine blk_drewN ?_ _ | refine blk_drew ?_ | refine blk_alloc ?_ _)); refine blk_put (cs := #[.int .i64 0, .int .i64 0, .int .i64 0, .bool false]) ?_ 0 _ rfl; (with_reducible repeat (first | refine blk_drewN ?_ _ | refine blk_drew ?_ | refine blk_alloc ?_ _)); exact BK170.out⟩; have n2_ : Aside0 (Below w.heap.size w ((((w46.setCell ⟨gb170, 0, none⟩ (.int .i64 ((rd_T33 l0_3 x3_2).f0))).setCell ⟨gb170, 1, none⟩ (.int .i64 ((rd_T33 l0_3 x3_2).f1))).setCell ⟨gb170, 2, none⟩ (.int .i64 ((rd_T33 l0_3 x3_2).f2))).setCell ⟨gb170, 3, none⟩ (.bool ((rd_T33 l0_3 x3_2).f3)))) := ⟨zS HB.out⟩
            (try clear BK165)
            (try clear BK170)
            (try clear HB)
            generalize ((((w46.setCell ⟨gb170, 0, none⟩ (.int .i64 ((rd_T33 l0_3 x3_2).f0))).setCell ⟨gb170, 1, none⟩ (.int .i64 ((rd_T33 l0_3 x3_2).f1))).setCell ⟨gb170, 2, none⟩ (.int .i64 ((rd_T33 l0_3 x3_2).f2))).setCell ⟨gb170, 3, none⟩ (.bool ((rd_T33 l0_3 x3_2).f3))) = w49 at n0_ n1_ n2_ ⊢; have BK165 := n0_; have BK170 := n1_; have HB := n2_; clear n0_ n1_ n2_; replace BK165 := Aside0.mk (blk_drew BK165.out); replace BK170 := Aside0.mk (blk_drew BK170.out); replace HB := Aside0.mk (below_drew1 HB.out); refine start_ (n := 38) (S := fun w' => w'.cell? ⟨gb170, 0, none⟩ = some (.int .i64 ((rd_T33 l0_3 x3_2).f0)) ∧ w'.cell? ⟨gb170, 1, none⟩ = some (.int .i64 ((rd_T33 l0_3 x3_2).f1)) ∧ w'.cell? ⟨gb170, 2, none⟩ = some (.int .i64 ((rd_T33 l0_3 x3_2).f2)) ∧ w'.cell? ⟨gb170, 3, none⟩ = some (.bool ((rd_T33 l0_3 x3_2).f3)) ∧ w'.cell? ⟨gb165, 0, none⟩ = some (.int .i64 a0_0) ∧ w'.cell? ⟨gb165, 1, none⟩ = some (.int .i64 a0_1) ∧ w'.cell? ⟨gb165, 2, none⟩ = some (.int .i64 a0_2) ∧ w'.cell? ⟨gb165, 3, none⟩ = some (.slice (some ad169) l0_3.length c0_3)) (ds := []) bl28 (by kernel_rfl) rfl rfl ⟨b1 BK170 0, b1 BK170 1, b1 BK170 2, b1 BK170 3, b1 BK165 0, b1 BK165 1, b1 BK165 2, b1 BK165 3⟩ (fun hHeld => ?_); refine with_tabW spec_AutoOk.tab7 spec_AutoOk.bits7 (fun HT_ HW_ => ?_); generalize w49.drew = w50 at BK165 BK170 HB hHeld ⊢
            refine pu 0 (some 43) bl29 HT_ ?_ rfl rfl (.inl ⟨by rfl, ?_⟩) ?_ ?_ ?_; rotate_left; (intro w'; go_simp; with_reducible rfl); rotate_left; (simp only [Act.put, q5]; rfl)
            refine pu 2 (some 45) bl30 HT_ ?_ rfl rfl (.inl ⟨by rfl, ?_⟩) ?_ ?_ ?_; rotate_left; (intro w'; go_simp; with_reducible rfl); rotate_left; (simp only [Act.put, q5]; rfl)
            refine take_ (i := 1) (N := some 44) (v := ?_) (a' := ?_) bl31 rfl rfl (take_ofW HT_.out HW_.out (by kernel_rfl)) (fun _ _ _ h => h) (Or.inl ⟨by rfl, ?_⟩) hHeld ?_ ?_; rotate_left
            ·rintro w' ⟨s0, s1, s2, s3, s4, s5, s6, s7⟩; go_simp; with_reducible rfl
            rotate_left
            ·simp only [Act.put, q5]; rfl
            refine take_ (i := 3) (N := some 46) (v := ?_) (a' := ?_) bl32 rfl rfl (take_ofW HT_.out HW_.out (by kernel_rfl)) (fun _ _ _ h => h) (Or.inl ⟨by rfl, ?_⟩) hHeld ?_ ?_; rotate_left
            ·rintro w' ⟨s0, s1, s2, s3, s4, s5, s6, s7⟩; go_simp; with_reducible rfl
            rotate_left
            ·simp only [Act.put, q5]; rfl
            refine one_ (i := 4) (N := some 47) bl33 rfl rfl (one_of HT_.out (by kernel_rfl)) (by decide) (fun K hK => ?_); refine goes_ Try.func27 (by kernel_rfl) rfl #[.int .i64 ((rd_T33 l0_3 x3_2).f0), .int .i64 a0_1] (by rfl) rfl rfl (by (try simp only [m3]); first | done | rfl | (simp only [d2]; rfl)) ?_
            with_reducible refine (spec_l4State.calls ((rd_T33 l0_3 x3_2).f0) a0_1 true _ A19.out).mono ?_
            rintro e w' ⟨rfl, ⟨nd, rfl⟩⟩; refine ⟨_, rfl, ?_⟩; refine hK.out _ _ ⟨b1 BK170 0, b1 BK170 1, b1 BK170 2, b1 BK170 3, b1 BK165 0, b1 BK165 1, b1 BK165 2, b1 BK165 3⟩ (fun hHeld => ?_); clear hK K; refine norm_ (a' := ?_) ?_ ?_; rotate_left
            ·show Act.put _ (some 47) _ = _; simp only [Act.put, q5]; rfl
            refine pu 5 (some 48) bl34 HT_ ?_ rfl rfl (.inl ⟨by rfl, ?_⟩) ?_ ?_ ?_; rotate_left; (intro w'; go_simp; with_reducible rfl); rotate_left; (simp only [Act.put, q5]; rfl)
            refine pu 6 (some 49) bl35 HT_ ?_ rfl rfl (.inl ⟨by rfl, ?_⟩) ?_ ?_ ?_; rotate_left; (intro w'; go_simp; with_reducible rfl); rotate_left; (simp only [Act.put, q5]; rfl)
            refine pu 7 (some 50) bl36 HT_ ?_ rfl rfl (.inl ⟨by rfl, ?_⟩) ?_ ?_ ?_; rotate_left; (intro w'; go_simp; with_reducible rfl); rotate_left; (simp only [Act.put, q5]; rfl)
            refine pu 9 (some 52) bl37 HT_ ?_ rfl rfl (.inl ⟨by rfl, ?_⟩) ?_ ?_ ?_; rotate_left; (intro w'; go_simp; with_reducible rfl); rotate_left; (simp only [Act.put, q5]; rfl)
            refine take_ (i := 8) (N := some 51) (v := ?_) (a' := ?_) bl38 rfl rfl (take_ofW HT_.out HW_.out (by kernel_rfl)) (fun _ _ _ h => h) (Or.inl ⟨by rfl, ?_⟩) hHeld ?_ ?_; rotate_left
            ·rintro w' ⟨s0, s1, s2, s3, s4, s5, s6, s7⟩; go_simp; with_reducible rfl
            rotate_left
            ·simp only [Act.put, q5]; rfl
            refine take_ (i := 10) (N := some 53) (v := ?_) (a' := ?_) bl39 rfl rfl (take_ofW HT_.out HW_.out (by kernel_rfl)) (fun _ _ _ h => h) (Or.inl ⟨by rfl, ?_⟩) hHeld ?_ ?_; rotate_left
            ·rintro w' ⟨s0, s1, s2, s3, s4, s5, s6, s7⟩; go_simp; with_reducible rfl
            rotate_left
            ·simp only [Act.put, q5]; rfl
            refine one_ (i := 11) (N := some 54) bl40 rfl rfl (one_of HT_.out (by kernel_rfl)) (by decide) (fun K hK => ?_); refine goes_ Try.func27 (by kernel_rfl) rfl #[.int .i64 ((rd_T33 l0_3 x3_2).f2), .int .i64 a0_1] (by rfl) rfl rfl (by (try simp only [m3]); first | done | rfl | (simp only [d2]; rfl)) ?_
            with_reducible refine (spec_l4State.calls ((rd_T33 l0_3 x3_2).f2) a0_1 true _ A21.out).mono ?_
            rintro e w' ⟨rfl, ⟨nd, rfl⟩⟩; refine ⟨_, rfl, ?_⟩; refine hK.out _ _ ⟨b1 BK170 0, b1 BK170 1, b1 BK170 2, b1 BK170 3, b1 BK165 0, b1 BK165 1, b1 BK165 2, b1 BK165 3⟩ (fun hHeld => ?_); clear hK K; refine norm_ (a' := ?_) ?_ ?_; rotate_left
            ·show Act.put _ (some 54) _ = _; simp only [Act.put, q5]; rfl
            refine pu 12 (some 55) bl41 HT_ ?_ rfl rfl (.inl ⟨by rfl, ?_⟩) ?_ ?_ ?_; rotate_left; (intro w'; go_simp; with_reducible rfl); rotate_left; (simp only [Act.put, q5]; rfl)
            refine pu 13 (some 56) bl42 HT_ ?_ rfl rfl (.inl ⟨by rfl, ?_⟩) ?_ ?_ ?_; rotate_left; (intro w'; go_simp; with_reducible rfl); rotate_left; (simp only [Act.put, q5]; rfl)
            refine pu 14 (some 57) bl43 HT_ ?_ rfl rfl (.inl ⟨by rfl, ?_⟩) ?_ ?_ ?_; rotate_left; (intro w'; go_simp; with_reducible rfl); rotate_left; (simp only [Act.put, q5]; rfl)
            refine pu 15 (some 58) bl44 HT_ ?_ rfl rfl (.inl ⟨by rfl, ?_⟩) ?_ ?_ ?_; rotate_left; (intro w'; go_simp; with_reducible rfl); rotate_left; (simp only [Act.put, q5]; rfl)
            refine pu 17 (some 60) bl45 HT_ ?_ rfl rfl (.inl ⟨by rfl, ?_⟩) ?_ ?_ ?_; rotate_left; (intro w'; go_simp; with_reducible rfl); rotate_left; (simp only [Act.put, q5]; rfl)
            refine take_ (i := 16) (N := some 59) (v := ?_) (a' := ?_) bl46 rfl rfl (take_ofW HT_.out HW_.out (by kernel_rfl)) (fun _ _ _ h => h) (Or.inl ⟨by rfl, ?_⟩) hHeld ?_ ?_; rotate_left
            ·rintro w' ⟨s0, s1, s2, s3, s4, s5, s6, s7⟩; go_simp; with_reducible rfl
            rotate_left
            ·simp only [Act.put, q5]; rfl
            refine take_ (i := 18) (N := some 61) (v := ?_) (a' := ?_) bl47 rfl rfl (take_ofW HT_.out HW_.out (by kernel_rfl)) (fun _ _ _ h => h) (Or.inl ⟨by rfl, ?_⟩) hHeld ?_ ?_; rotate_left
            ·rintro w' ⟨s0, s1, s2, s3, s4, s5, s6, s7⟩; go_simp; with_reducible rfl
            rotate_left
            ·simp only [Act.put, q5]; rfl
            refine pu 19 (some 62) bl48 HT_ ?_ rfl rfl (.inl ⟨by rfl, ?_⟩) ?_ ?_ ?_; rotate_left; (intro w'; go_simp; with_reducible rfl); rotate_left; (simp only [Act.put, q5]; rfl)
            refine one_ (i := 20) (N := some 63) bl49 rfl rfl (one_of HT_.out (by kernel_rfl)) (by decide) (fun K hK => ?_); refine goes_ Try.func28 (by kernel_rfl) rfl #[.int .i64 ((rd_T33 l0_3 x3_2).f1), .int .i64 0, .int .i64 (wrap64 (a0_0 - 1))] (by rfl) rfl rfl (by (try simp only [m3]); first | done | rfl | (simp only [d2]; rfl)) ?_
            with_reducible refine (spec_l1In.calls ((rd_T33 l0_3 x3_2).f1) 0 (wrap64 (a0_0 - 1)) true _ A23.out).mono ?_
            rintro e w' ⟨rfl, ⟨nd, rfl⟩⟩; refine ⟨_, rfl, ?_⟩; refine hK.out _ _ ⟨b1 BK170 0, b1 BK170 1, b1 BK170 2, b1 BK170 3, b1 BK165 0, b1 BK165 1, b1 BK165 2, b1 BK165 3⟩ (fun hHeld => ?_); clear hK K; refine norm_ (a' := ?_) ?_ ?_; rotate_left
            ·show Act.put _ (some 63) _ = _; simp only [Act.put, q5]; rfl
            refine pu 21 (some 64) bl50 HT_ ?_ rfl rfl (.inl ⟨by rfl, ?_⟩) ?_ ?_ ?_; rotate_left; (intro w'; go_simp; with_reducible rfl); rotate_left; (simp only [Act.put, q5]; rfl)
            refine pu 22 (some 65) bl51 HT_ ?_ rfl rfl (.inl ⟨by rfl, ?_⟩) ?_ ?_ ?_; rotate_left; (intro w'; go_simp; with_reducible rfl); rotate_left; (simp only [Act.put, q5]; rfl)
            refine pu 23 (some 66) bl52 HT_ ?_ rfl rfl (.inl ⟨by rfl, ?_⟩) ?_ ?_ ?_; rotate_left; (intro w'; go_simp; with_reducible rfl); rotate_left; (simp only [Act.put, q5]; rfl)
            refine pu 24 (some 67) bl53 HT_ ?_ rfl rfl (.inl ⟨by rfl, ?_⟩) ?_ ?_ ?_; rotate_left; (intro w'; go_simp; with_reducible rfl); rotate_left; (simp only [Act.put, q5]; rfl)
            refine pu 25 (some 68) bl54 HT_ ?_ rfl rfl (.inl ⟨by rfl, ?_⟩) ?_ ?_ ?_; rotate_left; (intro w'; go_simp; with_reducible rfl); rotate_left; (simp only [Act.put, q5]; rfl)
            refine pu 26 (some 69) bl55 HT_ ?_ rfl rfl (.inl ⟨by rfl, ?_⟩) ?_ ?_ ?_; rotate_left; (intro w'; go_simp; with_reducible rfl); rotate_left; (simp only [Act.put, q5]; rfl)
            refine pu 27 (some 70) bl56 HT_ undef rfl rfl (.inr ⟨by rfl, rfl⟩) ?_ ?_ ?_; rotate_left; (simp only [Act.put, q5]; rfl)
            refine pu 28 (some 71) bl67 HT_ undef rfl rfl (.inr ⟨by rfl, rfl⟩) ?_ ?_ ?_; rotate_left; (simp only [Act.put, q5]; rfl)
            refine pu 29 (some 72) bl68 HT_ undef rfl rfl (.inr ⟨by rfl, rfl⟩) ?_ ?_ ?_; rotate_left; (simp only [Act.put, q5]; rfl)
            refine pu 30 (some 73) bl59 HT_ undef rfl rfl (.inr ⟨by rfl, rfl⟩) ?_ ?_ ?_; rotate_left; (simp only [Act.put, q5]; rfl)
            refine pu 31 (some 74) bl60 HT_ undef rfl rfl (.inr ⟨by rfl, rfl⟩) ?_ ?_ ?_; rotate_left; (simp only [Act.put, q5]; rfl)
            refine pu 32 (some 75) bl61 HT_ undef rfl rfl (.inr ⟨by rfl, rfl⟩) ?_ ?_ ?_; rotate_left; (simp only [Act.put, q5]; rfl)
            refine pu 33 (some 76) bl62 HT_ undef rfl rfl (.inr ⟨by rfl, rfl⟩) ?_ ?_ ?_; rotate_left; (simp only [Act.put, q5]; rfl)
            refine pu 34 (some 77) bl63 HT_ undef rfl rfl (.inr ⟨by rfl, rfl⟩) ?_ ?_ ?_; rotate_left; (simp only [Act.put, q5]; rfl)
            refine pu 35 (some 78) bl64 HT_ undef rfl rfl (.inr ⟨by rfl, rfl⟩) ?_ ?_ ?_; rotate_left; (simp only [Act.put, q5]; rfl)
            refine pu 36 (some 79) bl65 HT_ ?_ rfl rfl (.inl ⟨by rfl, ?_⟩) ?_ ?_ ?_; rotate_left; (intro w'; go_simp; with_reducible rfl); rotate_left; (simp only [Act.put, q5]; rfl)
            refine pu 37 (some 80) bl66 HT_ ?_ rfl rfl (.inl ⟨by rfl, ?_⟩) ?_ ?_ ?_; rotate_left; (intro w'; go_simp; with_reducible rfl); rotate_left; (simp only [Act.put, q5]; rfl)
            refine done_ (done_of HT_.out (by kernel_rfl)) ?_
            try go_wp2
            go_roundg k2
            case measure => have := HJ1.out; have := HK2.out; omega
            case rel => exact ⟨(wrap64 (x3_2 + 1)), (by first | rfl | (simp; done) | (simp [*]; done) | (rw [Int.tmod_eq_emod_of_nonneg (Int.natCast_nonneg _)]; done)), H', ⟨by have := HJ1.out; have := HK2.out; omega⟩, ⟨zB BK165.out⟩, ⟨zS HB.out⟩⟩
          ·replace c24 := Bool.eq_false_iff.mpr c24; subst c24
           have H1 : (some false) = some r := by rw [if_neg (show ¬ (false = true) by decide)] at H; exact H
           clear H; have H := H1; clear H1; obtain rfl := Option.some.inj H; have hcz51_0 : wr.cell? ⟨gb165, 0, none⟩ = some (.int .i64 a0_0) := b1 BK165 0; have hcz51_1 : wr.cell? ⟨gb165, 1, none⟩ = some (.int .i64 a0_1) := b1 BK165 1; have hcz51_2 : wr.cell? ⟨gb165, 2, none⟩ = some (.int .i64 a0_2) := b1 BK165 2; have hcz51_3 : wr.cell? ⟨gb165, 3, none⟩ = some (.slice A0_3 l0_3.length c0_3) := b1 BK165 3; have hfz51_0 := blk_frozen BK165.out 0; have hfz51_1 := blk_frozen BK165.out 1; have hfz51_2 := blk_frozen BK165.out 2; have hfz51_3 := blk_frozen BK165.out 3; have p169 : 0 ≤ (x3_2 : Int) := of_decide_eq_true (by first | (with_reducible assumption) | assumption); have q169 : x3_2 < (l0_3.length : Int) := of_decide_eq_true (by first | (with_reducible assumption) | assumption); obtain ⟨ad169, e169, hx169_0, hx169_1, hx169_2, hx169_3⟩ := at_T33 HR0_3.out x3_2 p169 q169
           cases e169
           replace hx169_0 := (HB.out.cell (World.block_lt_of_cell? w _ hx169_0)).trans hx169_0; replace hx169_1 := (HB.out.cell (World.block_lt_of_cell? w _ hx169_1)).trans hx169_1; replace hx169_2 := (HB.out.cell (World.block_lt_of_cell? w _ hx169_2)).trans hx169_2; replace hx169_3 := (HB.out.cell (World.block_lt_of_cell? w _ hx169_3)).trans hx169_3; replace p169 := eq_true p169; replace q169 := eq_true q169
           try go_wp2_with (first | ((with_reducible refine gate_dst (N := 4) rfl ?_); (try (refine gate_guard (by rfl) ?_; dsimp only)); refine box_event ?hg (N := 4) ?hd (cs := #[.int .i64 0, .int .i64 0, .int .i64 0, .bool false]) (t := 33) ?hr ?_; (case hd => rfl); (case hg => rfl); (case hr => first | (go_simp; done) | (go_simp; rfl)); intro gb170 hg w52 hbox hb; have BK170 := Aside0.mk (hbox); have GW170 := xG HB hg; have GE170 := xG HB hg; replace HB := xS HB hb; have NB165_170 := xN BK165 hg; have NB170_165 := xM BK165 hg; replace BK165 := xB BK165 hb; clear hb hbox hg; have hnb53 := NB170_165.out; have hnc53 := NB165_170.out; have hcz54_0 : w52.cell? ⟨gb170, 0, none⟩ = some (.int .i64 0) := b1 BK170 0; have hcz54_1 : w52.cell? ⟨gb170, 1, none⟩ = some (.int .i64 0) := b1 BK170 1; have hcz54_2 : w52.cell? ⟨gb170, 2, none⟩ = some (.int .i64 0) := b1 BK170 2; have hcz54_3 : w52.cell? ⟨gb170, 3, none⟩ = some (.bool false) := b1 BK170 3; have hfz54_0 := blk_frozen BK170.out 0; have hfz54_1 := blk_frozen BK170.out 1; have hfz54_2 := blk_frozen BK170.out 2; have hfz54_3 := blk_frozen BK170.out 3))
           have n0_ : Aside0 (((((w52.setCell ⟨gb170, 0, none⟩ (.int .i64 ((rd_T33 l0_3 x3_2).f0))).setCell ⟨gb170, 1, none⟩ (.int .i64 ((rd_T33 l0_3 x3_2).f1))).setCell ⟨gb170, 2, none⟩ (.int .i64 ((rd_T33 l0_3 x3_2).f2))).setCell ⟨gb170, 3, none⟩ (.bool ((rd_T33 l0_3 x3_2).f3))).heap[gb165]? = some (.cells #[.int .i64 a0_0, .int .i64 a0_1, .int .i64 a0_2, .slice (some ad169) l0_3.length c0_3] 28 (0, 0))) := ⟨zB BK165.out⟩; have n1_ : Aside0 (((((w52.setCell ⟨gb170, 0, none⟩ (.int .i64 ((rd_T33 l0_3 x3_2).f0))).setCell ⟨gb170, 1, none⟩ (.int .i64 ((rd_T33 l0_3 x3_2).f1))).setCell ⟨gb170, 2, none⟩ (.int .i64 ((rd_T33 l0_3 x3_2).f2))).setCell ⟨gb170, 3, none⟩ (.bool ((rd_T33 l0_3 x3_2).f3))).heap[gb170]? = some (.cells #[.int .i64 ((rd_T33 l0_3 x3_2).f0), .int .i64 ((rd_T33 l0_3 x3_2).f1), .int .i64 ((rd_T33 l0_3 x3_2).f2), .bool ((rd_T33 l0_3 x3_2).f3)] 33 (0, 0))) := ⟨by (with_reducible repeat (first | refine blk_drewN ?_ _ | refine blk_drew ?_ | refine blk_alloc ?_ _)); refine blk_put (cs := #[.int .i64 ((rd_T33 l0_3 x3_2).f0), .int .i64 ((rd_T33 l0_3 x3_2).f1), .int .i64 ((rd_T33 l0_3 x3_2).f2), .bool false]) ?_ 3 _ rfl; (with_reducible repeat (first | refine blk_drewN ?_ _ | refine blk_drew ?_ | refine blk_alloc ?_ _)); refine blk_put (cs := #[.int .i64 ((rd_T33 l0_3 x3_2).f0), .int .i64 ((rd_T33 l0_3 x3_2).f1), .int .i64 0, .bool false]) ?_ 2 _ rfl; (with_reducible repeat (first | refine blk_drewN ?_ _ | refine blk_drew ?_ | refine blk_alloc ?_ _)); refine blk_put (cs := #[.int .i64 ((rd_T33 l0_3 x3_2).f0), .int .i64 0, .int .i64 0, .bool false]) ?_ 1 _ rfl; (with_reducible repeat (first | refine blk_drewN ?_ _ | refine blk_drew ?_ | refine blk_alloc ?_ _)); refine blk_put (cs := #[.int .i64 0, .int .i64 0, .int .i64 0, .bool false]) ?_ 0 _ rfl; (with_reducible repeat (first | refine blk_drewN ?_ _ | refine blk_drew ?_ | refine blk_alloc ?_ _)); exact BK170.out⟩; have n2_ : Aside0 (Below w.heap.size w ((((w52.setCell ⟨gb170, 0, none⟩ (.int .i64 ((rd_T33 l0_3 x3_2).f0))).setCell ⟨gb170, 1, none⟩ (.int .i64 ((rd_T33 l0_3 x3_2).f1))).setCell ⟨gb170, 2, none⟩ (.int .i64 ((rd_T33 l0_3 x3_2).f2))).setCell ⟨gb170, 3, none⟩ (.bool ((rd_T33 l0_3 x3_2).f3)))) := ⟨zS HB.out⟩
           (try clear BK165)
           (try clear BK170)
           (try clear HB)
           generalize ((((w52.setCell ⟨gb170, 0, none⟩ (.int .i64 ((rd_T33 l0_3 x3_2).f0))).setCell ⟨gb170, 1, none⟩ (.int .i64 ((rd_T33 l0_3 x3_2).f1))).setCell ⟨gb170, 2, none⟩ (.int .i64 ((rd_T33 l0_3 x3_2).f2))).setCell ⟨gb170, 3, none⟩ (.bool ((rd_T33 l0_3 x3_2).f3))) = w55 at n0_ n1_ n2_ ⊢; have BK165 := n0_; have BK170 := n1_; have HB := n2_; clear n0_ n1_ n2_; replace BK165 := Aside0.mk (blk_drew BK165.out); replace BK170 := Aside0.mk (blk_drew BK170.out); replace HB := Aside0.mk (below_drew1 HB.out); refine start_ (n := 38) (S := fun w' => w'.cell? ⟨gb170, 0, none⟩ = some (.int .i64 ((rd_T33 l0_3 x3_2).f0)) ∧ w'.cell? ⟨gb170, 1, none⟩ = some (.int .i64 ((rd_T33 l0_3 x3_2).f1)) ∧ w'.cell? ⟨gb170, 2, none⟩ = some (.int .i64 ((rd_T33 l0_3 x3_2).f2)) ∧ w'.cell? ⟨gb170, 3, none⟩ = some (.bool ((rd_T33 l0_3 x3_2).f3)) ∧ w'.cell? ⟨gb165, 0, none⟩ = some (.int .i64 a0_0) ∧ w'.cell? ⟨gb165, 1, none⟩ = some (.int .i64 a0_1) ∧ w'.cell? ⟨gb165, 2, none⟩ = some (.int .i64 a0_2) ∧ w'.cell? ⟨gb165, 3, none⟩ = some (.slice (some ad169) l0_3.length c0_3)) (ds := []) bl28 (by kernel_rfl) rfl rfl ⟨b1 BK170 0, b1 BK170 1, b1 BK170 2, b1 BK170 3, b1 BK165 0, b1 BK165 1, b1 BK165 2, b1 BK165 3⟩ (fun hHeld => ?_); refine with_tabW spec_AutoOk.tab7 spec_AutoOk.bits7 (fun HT_ HW_ => ?_); generalize w55.drew = w56 at BK165 BK170 HB hHeld ⊢
           refine pu 0 (some 43) bl29 HT_ ?_ rfl rfl (.inl ⟨by rfl, ?_⟩) ?_ ?_ ?_; rotate_left; (intro w'; go_simp; with_reducible rfl); rotate_left; (simp only [Act.put, q5]; rfl)
           refine pu 2 (some 45) bl30 HT_ ?_ rfl rfl (.inl ⟨by rfl, ?_⟩) ?_ ?_ ?_; rotate_left; (intro w'; go_simp; with_reducible rfl); rotate_left; (simp only [Act.put, q5]; rfl)
           refine take_ (i := 1) (N := some 44) (v := ?_) (a' := ?_) bl31 rfl rfl (take_ofW HT_.out HW_.out (by kernel_rfl)) (fun _ _ _ h => h) (Or.inl ⟨by rfl, ?_⟩) hHeld ?_ ?_; rotate_left
           ·rintro w' ⟨s0, s1, s2, s3, s4, s5, s6, s7⟩; go_simp; with_reducible rfl
           rotate_left
           ·simp only [Act.put, q5]; rfl
           refine take_ (i := 3) (N := some 46) (v := ?_) (a' := ?_) bl32 rfl rfl (take_ofW HT_.out HW_.out (by kernel_rfl)) (fun _ _ _ h => h) (Or.inl ⟨by rfl, ?_⟩) hHeld ?_ ?_; rotate_left
           ·rintro w' ⟨s0, s1, s2, s3, s4, s5, s6, s7⟩; go_simp; with_reducible rfl
           rotate_left
           ·simp only [Act.put, q5]; rfl
           refine one_ (i := 4) (N := some 47) bl33 rfl rfl (one_of HT_.out (by kernel_rfl)) (by decide) (fun K hK => ?_); refine goes_ Try.func27 (by kernel_rfl) rfl #[.int .i64 ((rd_T33 l0_3 x3_2).f0), .int .i64 a0_1] (by rfl) rfl rfl (by (try simp only [m3]); first | done | rfl | (simp only [d2]; rfl)) ?_
           with_reducible refine (spec_l4State.calls ((rd_T33 l0_3 x3_2).f0) a0_1 true _ A19.out).mono ?_
           rintro e w' ⟨rfl, ⟨nd, rfl⟩⟩; refine ⟨_, rfl, ?_⟩; refine hK.out _ _ ⟨b1 BK170 0, b1 BK170 1, b1 BK170 2, b1 BK170 3, b1 BK165 0, b1 BK165 1, b1 BK165 2, b1 BK165 3⟩ (fun hHeld => ?_); clear hK K; refine norm_ (a' := ?_) ?_ ?_; rotate_left
           ·show Act.put _ (some 47) _ = _; simp only [Act.put, q5]; rfl
           refine pu 5 (some 48) bl34 HT_ ?_ rfl rfl (.inl ⟨by rfl, ?_⟩) ?_ ?_ ?_; rotate_left; (intro w'; go_simp; with_reducible rfl); rotate_left; (simp only [Act.put, q5]; rfl)
           refine pu 6 (some 49) bl35 HT_ ?_ rfl rfl (.inl ⟨by rfl, ?_⟩) ?_ ?_ ?_; rotate_left; (intro w'; go_simp; with_reducible rfl); rotate_left; (simp only [Act.put, q5]; rfl)
           refine pu 7 (some 50) bl36 HT_ ?_ rfl rfl (.inl ⟨by rfl, ?_⟩) ?_ ?_ ?_; rotate_left; (intro w'; go_simp; with_reducible rfl); rotate_left; (simp only [Act.put, q5]; rfl)
           refine pu 9 (some 52) bl37 HT_ ?_ rfl rfl (.inl ⟨by rfl, ?_⟩) ?_ ?_ ?_; rotate_left; (intro w'; go_simp; with_reducible rfl); rotate_left; (simp only [Act.put, q5]; rfl)
           refine take_ (i := 8) (N := some 51) (v := ?_) (a' := ?_) bl38 rfl rfl (take_ofW HT_.out HW_.out (by kernel_rfl)) (fun _ _ _ h => h) (Or.inl ⟨by rfl, ?_⟩) hHeld ?_ ?_; rotate_left
           ·rintro w' ⟨s0, s1, s2, s3, s4, s5, s6, s7⟩; go_simp; with_reducible rfl
           rotate_left
           ·simp only [Act.put, q5]; rfl
           refine take_ (i := 10) (N := some 53) (v := ?_) (a' := ?_) bl39 rfl rfl (take_ofW HT_.out HW_.out (by kernel_rfl)) (fun _ _ _ h => h) (Or.inl ⟨by rfl, ?_⟩) hHeld ?_ ?_; rotate_left
           ·rintro w' ⟨s0, s1, s2, s3, s4, s5, s6, s7⟩; go_simp; with_reducible rfl
           rotate_left
           ·simp only [Act.put, q5]; rfl
           refine one_ (i := 11) (N := some 54) bl40 rfl rfl (one_of HT_.out (by kernel_rfl)) (by decide) (fun K hK => ?_); refine goes_ Try.func27 (by kernel_rfl) rfl #[.int .i64 ((rd_T33 l0_3 x3_2).f2), .int .i64 a0_1] (by rfl) rfl rfl (by (try simp only [m3]); first | done | rfl | (simp only [d2]; rfl)) ?_
           with_reducible refine (spec_l4State.calls ((rd_T33 l0_3 x3_2).f2) a0_1 true _ A21.out).mono ?_
           rintro e w' ⟨rfl, ⟨nd, rfl⟩⟩; refine ⟨_, rfl, ?_⟩; refine hK.out _ _ ⟨b1 BK170 0, b1 BK170 1, b1 BK170 2, b1 BK170 3, b1 BK165 0, b1 BK165 1, b1 BK165 2, b1 BK165 3⟩ (fun hHeld => ?_); clear hK K; refine norm_ (a' := ?_) ?_ ?_; rotate_left
           ·show Act.put _ (some 54) _ = _; simp only [Act.put, q5]; rfl
           refine pu 12 (some 55) bl41 HT_ ?_ rfl rfl (.inl ⟨by rfl, ?_⟩) ?_ ?_ ?_; rotate_left; (intro w'; go_simp; with_reducible rfl); rotate_left; (simp only [Act.put, q5]; rfl)
           refine pu 13 (some 56) bl42 HT_ ?_ rfl rfl (.inl ⟨by rfl, ?_⟩) ?_ ?_ ?_; rotate_left; (intro w'; go_simp; with_reducible rfl); rotate_left; (simp only [Act.put, q5]; rfl)
           refine pu 14 (some 57) bl43 HT_ ?_ rfl rfl (.inl ⟨by rfl, ?_⟩) ?_ ?_ ?_; rotate_left; (intro w'; go_simp; with_reducible rfl); rotate_left; (simp only [Act.put, q5]; rfl)
           refine pu 15 (some 58) bl44 HT_ ?_ rfl rfl (.inl ⟨by rfl, ?_⟩) ?_ ?_ ?_; rotate_left; (intro w'; go_simp; with_reducible rfl); rotate_left; (simp only [Act.put, q5]; rfl)
           refine pu 17 (some 60) bl45 HT_ ?_ rfl rfl (.inl ⟨by rfl, ?_⟩) ?_ ?_ ?_; rotate_left; (intro w'; go_simp; with_reducible rfl); rotate_left; (simp only [Act.put, q5]; rfl)
           refine take_ (i := 16) (N := some 59) (v := ?_) (a' := ?_) bl46 rfl rfl (take_ofW HT_.out HW_.out (by kernel_rfl)) (fun _ _ _ h => h) (Or.inl ⟨by rfl, ?_⟩) hHeld ?_ ?_; rotate_left
           ·rintro w' ⟨s0, s1, s2, s3, s4, s5, s6, s7⟩; go_simp; with_reducible rfl
           rotate_left
           ·simp only [Act.put, q5]; rfl
           refine take_ (i := 18) (N := some 61) (v := ?_) (a' := ?_) bl47 rfl rfl (take_ofW HT_.out HW_.out (by kernel_rfl)) (fun _ _ _ h => h) (Or.inl ⟨by rfl, ?_⟩) hHeld ?_ ?_; rotate_left
           ·rintro w' ⟨s0, s1, s2, s3, s4, s5, s6, s7⟩; go_simp; with_reducible rfl
           rotate_left
           ·simp only [Act.put, q5]; rfl
           refine pu 19 (some 62) bl48 HT_ ?_ rfl rfl (.inl ⟨by rfl, ?_⟩) ?_ ?_ ?_; rotate_left; (intro w'; go_simp; with_reducible rfl); rotate_left; (simp only [Act.put, q5]; rfl)
           refine one_ (i := 20) (N := some 63) bl49 rfl rfl (one_of HT_.out (by kernel_rfl)) (by decide) (fun K hK => ?_); refine goes_ Try.func28 (by kernel_rfl) rfl #[.int .i64 ((rd_T33 l0_3 x3_2).f1), .int .i64 0, .int .i64 (wrap64 (a0_0 - 1))] (by rfl) rfl rfl (by (try simp only [m3]); first | done | rfl | (simp only [d2]; rfl)) ?_
           with_reducible refine (spec_l1In.calls ((rd_T33 l0_3 x3_2).f1) 0 (wrap64 (a0_0 - 1)) false _ A23.out).mono ?_
           rintro e w' ⟨rfl, ⟨nd, rfl⟩⟩; refine ⟨_, rfl, ?_⟩; refine hK.out _ _ ⟨b1 BK170 0, b1 BK170 1, b1 BK170 2, b1 BK170 3, b1 BK165 0, b1 BK165 1, b1 BK165 2, b1 BK165 3⟩ (fun hHeld => ?_); clear hK K; refine norm_ (a' := ?_) ?_ ?_; rotate_left
           ·show Act.put _ (some 63) _ = _; simp only [Act.put, q5]; rfl
           refine pu 21 (some 64) bl50 HT_ ?_ rfl rfl (.inl ⟨by rfl, ?_⟩) ?_ ?_ ?_; rotate_left; (intro w'; go_simp; with_reducible rfl); rotate_left; (simp only [Act.put, q5]; rfl)
           refine pu 22 (some 65) bl51 HT_ ?_ rfl rfl (.inl ⟨by rfl, ?_⟩) ?_ ?_ ?_; rotate_left; (intro w'; go_simp; with_reducible rfl); rotate_left; (simp only [Act.put, q5]; rfl)
           refine pu 23 (some 66) bl52 HT_ ?_ rfl rfl (.inl ⟨by rfl, ?_⟩) ?_ ?_ ?_; rotate_left; (intro w'; go_simp; with_reducible rfl); rotate_left; (simp only [Act.put, q5]; rfl)
           refine pu 24 (some 67) bl53 HT_ undef rfl rfl (.inr ⟨by rfl, rfl⟩) ?_ ?_ ?_; rotate_left; (simp only [Act.put, q5]; rfl)
           refine pu 25 (some 68) bl54 HT_ undef rfl rfl (.inr ⟨by rfl, rfl⟩) ?_ ?_ ?_; rotate_left; (simp only [Act.put, q5]; rfl)
           refine pu 26 (some 69) bl55 HT_ undef rfl rfl (.inr ⟨by rfl, rfl⟩) ?_ ?_ ?_; rotate_left; (simp only [Act.put, q5]; rfl)
           refine pu 27 (some 70) bl56 HT_ undef rfl rfl (.inr ⟨by rfl, rfl⟩) ?_ ?_ ?_; rotate_left; (simp only [Act.put, q5]; rfl)
           refine pu 28 (some 71) bl67 HT_ undef rfl rfl (.inr ⟨by rfl, rfl⟩) ?_ ?_ ?_; rotate_left; (simp only [Act.put, q5]; rfl)
           refine pu 29 (some 72) bl68 HT_ undef rfl rfl (.inr ⟨by rfl, rfl⟩) ?_ ?_ ?_; rotate_left; (simp only [Act.put, q5]; rfl)
           refine pu 30 (some 73) bl59 HT_ undef rfl rfl (.inr ⟨by rfl, rfl⟩) ?_ ?_ ?_; rotate_left; (simp only [Act.put, q5]; rfl)
           refine pu 31 (some 74) bl60 HT_ undef rfl rfl (.inr ⟨by rfl, rfl⟩) ?_ ?_ ?_; rotate_left; (simp only [Act.put, q5]; rfl)
           refine pu 32 (some 75) bl61 HT_ undef rfl rfl (.inr ⟨by rfl, rfl⟩) ?_ ?_ ?_; rotate_left; (simp only [Act.put, q5]; rfl)
           refine pu 33 (some 76) bl62 HT_ undef rfl rfl (.inr ⟨by rfl, rfl⟩) ?_ ?_ ?_; rotate_left; (simp only [Act.put, q5]; rfl)
           refine pu 34 (some 77) bl63 HT_ undef rfl rfl (.inr ⟨by rfl, rfl⟩) ?_ ?_ ?_; rotate_left; (simp only [Act.put, q5]; rfl)
           refine pu 35 (some 78) bl64 HT_ undef rfl rfl (.inr ⟨by rfl, rfl⟩) ?_ ?_ ?_; rotate_left; (simp only [Act.put, q5]; rfl)
           refine pu 36 (some 79) bl65 HT_ undef rfl rfl (.inr ⟨by rfl, rfl⟩) ?_ ?_ ?_; rotate_left; (simp only [Act.put, q5]; rfl)
           refine pu 37 (some 80) bl66 HT_ ?_ rfl rfl (.inl ⟨by rfl, ?_⟩) ?_ ?_ ?_; rotate_left; (intro w'; go_simp; with_reducible rfl); rotate_left; (simp only [Act.put, q5]; rfl)
           refine done_ (done_of HT_.out (by kernel_rfl)) ?_
           try go_wp2
           go_ret; exact ⟨by first | rfl | (simp [errW_none, errW_some] <;> rfl) | (simp [*, errW_none, errW_some] <;> rfl), by repeat (first | (with_reducible first | exact HB.out | apply below_alloc | apply pw_below_drewN | apply below_drew1 | refine below_set ?_ GE165.out | refine below_set ?_ GE170.out) | exact HB.out)⟩
         ·replace c22 := Bool.eq_false_iff.mpr c22; subst c22
          have H1 : (some false) = some r := by rw [if_neg (show ¬ (false = true) by decide)] at H; exact H
          clear H; have H := H1; clear H1; obtain rfl := Option.some.inj H; have hcz57_0 : wr.cell? ⟨gb165, 0, none⟩ = some (.int .i64 a0_0) := b1 BK165 0; have hcz57_1 : wr.cell? ⟨gb165, 1, none⟩ = some (.int .i64 a0_1) := b1 BK165 1; have hcz57_2 : wr.cell? ⟨gb165, 2, none⟩ = some (.int .i64 a0_2) := b1 BK165 2; have hcz57_3 : wr.cell? ⟨gb165, 3, none⟩ = some (.slice A0_3 l0_3.length c0_3) := b1 BK165 3; have hfz57_0 := blk_frozen BK165.out 0; have hfz57_1 := blk_frozen BK165.out 1; have hfz57_2 := blk_frozen BK165.out 2; have hfz57_3 := blk_frozen BK165.out 3; have p169 : 0 ≤ (x3_2 : Int) := of_decide_eq_true (by first | (with_reducible assumption) | assumption); have q169 : x3_2 < (l0_3.length : Int) := of_decide_eq_true (by first | (with_reducible assumption) | assumption); obtain ⟨ad169, e169, hx169_0, hx169_1, hx169_2, hx169_3⟩ := at_T33 HR0_3.out x3_2 p169 q169
          cases e169
          replace hx169_0 := (HB.out.cell (World.block_lt_of_cell? w _ hx169_0)).trans hx169_0; replace hx169_1 := (HB.out.cell (World.block_lt_of_cell? w _ hx169_1)).trans hx169_1; replace hx169_2 := (HB.out.cell (World.block_lt_of_cell? w _ hx169_2)).trans hx169_2; replace hx169_3 := (HB.out.cell (World.block_lt_of_cell? w _ hx169_3)).trans hx169_3; replace p169 := eq_true p169; replace q169 := eq_true q169
          try go_wp2_with (first | ((with_reducible refine gate_dst (N := 4) rfl ?_); (try (refine gate_guard (by rfl) ?_; dsimp only)); refine box_event ?hg (N := 4) ?hd (cs := #[.int .i64 0, .int .i64 0, .int .i64 0, .bool false]) (t := 33) ?hr ?_; (case hd => rfl); (case hg => rfl); (case hr => first | (go_simp; done) | (go_simp; rfl)); intro gb170 hg w58 hbox hb; have BK170 := Aside0.mk (hbox); have GW170 := xG HB hg; have GE170 := xG HB hg; replace HB := xS HB hb; have NB165_170 := xN BK165 hg; have NB170_165 := xM BK165 hg; replace BK165 := xB BK165 hb; clear hb hbox hg; have hnb59 := NB170_165.out; have hnc59 := NB165_170.out; have hcz60_0 : w58.cell? ⟨gb170, 0, none⟩ = some (.int .i64 0) := b1 BK170 0; have hcz60_1 : w58.cell? ⟨gb170, 1, none⟩ = some (.int .i64 0) := b1 BK170 1; have hcz60_2 : w58.cell? ⟨gb170, 2, none⟩ = some (.int .i64 0) := b1 BK170 2; have hcz60_3 : w58.cell? ⟨gb170, 3, none⟩ = some (.bool false) := b1 BK170 3; have hfz60_0 := blk_frozen BK170.out 0; have hfz60_1 := blk_frozen BK170.out 1; have hfz60_2 := blk_frozen BK170.out 2; have hfz60_3 := blk_frozen BK170.out 3))
          have n0_ : Aside0 (((((w58.setCell ⟨gb170, 0, none⟩ (.int .i64 ((rd_T33 l0_3 x3_2).f0))).setCell ⟨gb170, 1, none⟩ (.int .i64 ((rd_T33 l0_3 x3_2).f1))).setCell ⟨gb170, 2, none⟩ (.int .i64 ((rd_T33 l0_3 x3_2).f2))).setCell ⟨gb170, 3, none⟩ (.bool ((rd_T33 l0_3 x3_2).f3))).heap[gb165]? = some (.cells #[.int .i64 a0_0, .int .i64 a0_1, .int .i64 a0_2, .slice (some ad169) l0_3.length c0_3] 28 (0, 0))) := ⟨zB BK165.out⟩; have n1_ : Aside0 (((((w58.setCell ⟨gb170, 0, none⟩ (.int .i64 ((rd_T33 l0_3 x3_2).f0))).setCell ⟨gb170, 1, none⟩ (.int .i64 ((rd_T33 l0_3 x3_2).f1))).setCell ⟨gb170, 2, none⟩ (.int .i64 ((rd_T33 l0_3 x3_2).f2))).setCell ⟨gb170, 3, none⟩ (.bool ((rd_T33 l0_3 x3_2).f3))).heap[gb170]? = some (.cells #[.int .i64 ((rd_T33 l0_3 x3_2).f0), .int .i64 ((rd_T33 l0_3 x3_2).f1), .int .i64 ((rd_T33 l0_3 x3_2).f2), .bool ((rd_T33 l0_3 x3_2).f3)] 33 (0, 0))) := ⟨by (with_reducible repeat (first | refine blk_drewN ?_ _ | refine blk_drew ?_ | refine blk_alloc ?_ _)); refine blk_put (cs := #[.int .i64 ((rd_T33 l0_3 x3_2).f0), .int .i64 ((rd_T33 l0_3 x3_2).f1), .int .i64 ((rd_T33 l0_3 x3_2).f2), .bool false]) ?_ 3 _ rfl; (with_reducible repeat (first | refine blk_drewN ?_ _ | refine blk_drew ?_ | refine blk_alloc ?_ _)); refine blk_put (cs := #[.int .i64 ((rd_T33 l0_3 x3_2).f0), .int .i64 ((rd_T33 l0_3 x3_2).f1), .int .i64 0, .bool false]) ?_ 2 _ rfl; (with_reducible repeat (first | refine blk_drewN ?_ _ | refine blk_drew ?_ | refine blk_alloc ?_ _)); refine blk_put (cs := #[.int .i64 ((rd_T33 l0_3 x3_2).f0), .int .i64 0, .int .i64 0, .bool false]) ?_ 1 _ rfl; (with_reducible repeat (first | refine blk_drewN ?_ _ | refine blk_drew ?_ | refine blk_alloc ?_ _)); refine blk_put (cs := #[.int .i64 0, .int .i64 0, .int .i64 0, .bool false]) ?_ 0 _ rfl; (with_reducible repeat (first | refine blk_drewN ?_ _ | refine blk_drew ?_ | refine blk_alloc ?_ _)); exact BK170.out⟩; have n2_ : Aside0 (Below w.heap.size w ((((w58.setCell ⟨gb170, 0, none⟩ (.int .i64 ((rd_T33 l0_3 x3_2).f0))).setCell ⟨gb170, 1, none⟩ (.int .i64 ((rd_T33 l0_3 x3_2).f1))).setCell ⟨gb170, 2, none⟩ (.int .i64 ((rd_T33 l0_3 x3_2).f2))).setCell ⟨gb170, 3, none⟩ (.bool ((rd_T33 l0_3 x3_2).f3)))) := ⟨zS HB.out⟩
          (try clear BK165)
          (try clear BK170)
          (try clear HB)
          generalize ((((w58.setCell ⟨gb170, 0, none⟩ (.int .i64 ((rd_T33 l0_3 x3_2).f0))).setCell ⟨gb170, 1, none⟩ (.int .i64 ((rd_T33 l0_3 x3_2).f1))).setCell ⟨gb170, 2, none⟩ (.int .i64 ((rd_T33 l0_3 x3_2).f2))).setCell ⟨gb170, 3, none⟩ (.bool ((rd_T33 l0_3 x3_2).f3))) = w61 at n0_ n1_ n2_ ⊢; have BK165 := n0_; have BK170 := n1_; have HB := n2_; clear n0_ n1_ n2_; replace BK165 := Aside0.mk (blk_drew BK165.out); replace BK170 := Aside0.mk (blk_drew BK170.out); replace HB := Aside0.mk (below_drew1 HB.out); refine start_ (n := 38) (S := fun w' => w'.cell? ⟨gb170, 0, none⟩ = some (.int .i64 ((rd_T33 l0_3 x3_2).f0)) ∧ w'.cell? ⟨gb170, 1, none⟩ = some (.int .i64 ((rd_T33 l0_3 x3_2).f1)) ∧ w'.cell? ⟨gb170, 2, none⟩ = some (.int .i64 ((rd_T33 l0_3 x3_2).f2)) ∧ w'.cell? ⟨gb170, 3, none⟩ = some (.bool ((rd_T33 l0_3 x3_2).f3)) ∧ w'.cell? ⟨gb165, 0, none⟩ = some (.int .i64 a0_0) ∧ w'.cell? ⟨gb165, 1, none⟩ = some (.int .i64 a0_1) ∧ w'.cell? ⟨gb165, 2, none⟩ = some (.int .i64 a0_2) ∧ w'.cell? ⟨gb165, 3, none⟩ = some (.slice (some ad169) l0_3.length c0_3)) (ds := []) bl28 (by kernel_rfl) rfl rfl ⟨b1 BK170 0, b1 BK170 1, b1 BK170 2, b1 BK170 3, b1 BK165 0, b1 BK165 1, b1 BK165 2, b1 BK165 3⟩ (fun hHeld => ?_); refine with_tabW spec_AutoOk.tab7 spec_AutoOk.bits7 (fun HT_ HW_ => ?_); generalize w61.drew = w62 at BK165 BK170 HB hHeld ⊢
          refine pu 0 (some 43) bl29 HT_ ?_ rfl rfl (.inl ⟨by rfl, ?_⟩) ?_ ?_ ?_; rotate_left; (intro w'; go_simp; with_reducible rfl); rotate_left; (simp only [Act.put, q5]; rfl)
          refine pu 2 (some 45) bl30 HT_ ?_ rfl rfl (.inl ⟨by rfl, ?_⟩) ?_ ?_ ?_; rotate_left; (intro w'; go_simp; with_reducible rfl); rotate_left; (simp only [Act.put, q5]; rfl)
          refine take_ (i := 1) (N := some 44) (v := ?_) (a' := ?_) bl31 rfl rfl (take_ofW HT_.out HW_.out (by kernel_rfl)) (fun _ _ _ h => h) (Or.inl ⟨by rfl, ?_⟩) hHeld ?_ ?_; rotate_left
          ·rintro w' ⟨s0, s1, s2, s3, s4, s5, s6, s7⟩; go_simp; with_reducible rfl
          rotate_left
          ·simp only [Act.put, q5]; rfl
          refine take_ (i := 3) (N := some 46) (v := ?_) (a' := ?_) bl32 rfl rfl (take_ofW HT_.out HW_.out (by kernel_rfl)) (fun _ _ _ h => h) (Or.inl ⟨by rfl, ?_⟩) hHeld ?_ ?_; rotate_left
          ·rintro w' ⟨s0, s1, s2, s3, s4, s5, s6, s7⟩; go_simp; with_reducible rfl
          rotate_left
          ·simp only [Act.put, q5]; rfl
          refine one_ (i := 4) (N := some 47) bl33 rfl rfl (one_of HT_.out (by kernel_rfl)) (by decide) (fun K hK => ?_); refine goes_ Try.func27 (by kernel_rfl) rfl #[.int .i64 ((rd_T33 l0_3 x3_2).f0), .int .i64 a0_1] (by rfl) rfl rfl (by (try simp only [m3]); first | done | rfl | (simp only [d2]; rfl)) ?_
          with_reducible refine (spec_l4State.calls ((rd_T33 l0_3 x3_2).f0) a0_1 true _ A19.out).mono ?_
          rintro e w' ⟨rfl, ⟨nd, rfl⟩⟩; refine ⟨_, rfl, ?_⟩; refine hK.out _ _ ⟨b1 BK170 0, b1 BK170 1, b1 BK170 2, b1 BK170 3, b1 BK165 0, b1 BK165 1, b1 BK165 2, b1 BK165 3⟩ (fun hHeld => ?_); clear hK K; refine norm_ (a' := ?_) ?_ ?_; rotate_left
          ·show Act.put _ (some 47) _ = _; simp only [Act.put, q5]; rfl
          refine pu 5 (some 48) bl34 HT_ ?_ rfl rfl (.inl ⟨by rfl, ?_⟩) ?_ ?_ ?_; rotate_left; (intro w'; go_simp; with_reducible rfl); rotate_left; (simp only [Act.put, q5]; rfl)
          refine pu 6 (some 49) bl35 HT_ ?_ rfl rfl (.inl ⟨by rfl, ?_⟩) ?_ ?_ ?_; rotate_left; (intro w'; go_simp; with_reducible rfl); rotate_left; (simp only [Act.put, q5]; rfl)
          refine pu 7 (some 50) bl36 HT_ ?_ rfl rfl (.inl ⟨by rfl, ?_⟩) ?_ ?_ ?_; rotate_left; (intro w'; go_simp; with_reducible rfl); rotate_left; (simp only [Act.put, q5]; rfl)
          refine pu 9 (some 52) bl37 HT_ ?_ rfl rfl (.inl ⟨by rfl, ?_⟩) ?_ ?_ ?_; rotate_left; (intro w'; go_simp; with_reducible rfl); rotate_left; (simp only [Act.put, q5]; rfl)
          refine take_ (i := 8) (N := some 51) (v := ?_) (a' := ?_) bl38 rfl rfl (take_ofW HT_.out HW_.out (by kernel_rfl)) (fun _ _ _ h => h) (Or.inl ⟨by rfl, ?_⟩) hHeld ?_ ?_; rotate_left
          ·rintro w' ⟨s0, s1, s2, s3, s4, s5, s6, s7⟩; go_simp; with_reducible rfl
          rotate_left
          ·simp only [Act.put, q5]; rfl
          refine take_ (i := 10) (N := some 53) (v := ?_) (a' := ?_) bl39 rfl rfl (take_ofW HT_.out HW_.out (by kernel_rfl)) (fun _ _ _ h => h) (Or.inl ⟨by rfl, ?_⟩) hHeld ?_ ?_; rotate_left
          ·rintro w' ⟨s0, s1, s2, s3, s4, s5, s6, s7⟩; go_simp; with_reducible rfl
          rotate_left
          ·simp only [Act.put, q5]; rfl
          refine one_ (i := 11) (N := some 54) bl40 rfl rfl (one_of HT_.out (by kernel_rfl)) (by decide) (fun K hK => ?_); refine goes_ Try.func27 (by kernel_rfl) rfl #[.int .i64 ((rd_T33 l0_3 x3_2).f2), .int .i64 a0_1] (by rfl) rfl rfl (by (try simp only [m3]); first | done | rfl | (simp only [d2]; rfl)) ?_
          with_reducible refine (spec_l4State.calls ((rd_T33 l0_3 x3_2).f2) a0_1 false _ A21.out).mono ?_
          rintro e w' ⟨rfl, ⟨nd, rfl⟩⟩; refine ⟨_, rfl, ?_⟩; refine hK.out _ _ ⟨b1 BK170 0, b1 BK170 1, b1 BK170 2, b1 BK170 3, b1 BK165 0, b1 BK165 1, b1 BK165 2, b1 BK165 3⟩ (fun hHeld => ?_); clear hK K; refine norm_ (a' := ?_) ?_ ?_; rotate_left
          ·show Act.put _ (some 54) _ = _; simp only [Act.put, q5]; rfl
          refine pu 12 (some 55) bl41 HT_ ?_ rfl rfl (.inl ⟨by rfl, ?_⟩) ?_ ?_ ?_; rotate_left; (intro w'; go_simp; with_reducible rfl); rotate_left; (simp only [Act.put, q5]; rfl)
          refine pu 13 (some 56) bl42 HT_ ?_ rfl rfl (.inl ⟨by rfl, ?_⟩) ?_ ?_ ?_; rotate_left; (intro w'; go_simp; with_reducible rfl); rotate_left; (simp only [Act.put, q5]; rfl)
          refine pu 14 (some 57) bl43 HT_ ?_ rfl rfl (.inl ⟨by rfl, ?_⟩) ?_ ?_ ?_; rotate_left; (intro w'; go_simp; with_reducible rfl); rotate_left; (simp only [Act.put, q5]; rfl)
          refine pu 15 (some 58) bl44 HT_ undef rfl rfl (.inr ⟨by rfl, rfl⟩) ?_ ?_ ?_; rotate_left; (simp only [Act.put, q5]; rfl)
          refine pu 16 (some 59) bl69 HT_ undef rfl rfl (.inr ⟨by rfl, rfl⟩) ?_ ?_ ?_; rotate_left; (simp only [Act.put, q5]; rfl)
          refine pu 17 (some 60) bl46 HT_ undef rfl rfl (.inr ⟨by rfl, rfl⟩) ?_ ?_ ?_; rotate_left; (simp only [Act.put, q5]; rfl)
          refine pu 18 (some 61) bl47 HT_ undef rfl rfl (.inr ⟨by rfl, rfl⟩) ?_ ?_ ?_; rotate_left; (simp only [Act.put, q5]; rfl)
          refine pu 19 (some 62) bl48 HT_ undef rfl rfl (.inr ⟨by rfl, rfl⟩) ?_ ?_ ?_; rotate_left; (simp only [Act.put, q5]; rfl)
          refine pu 20 (some 63) bl49 HT_ undef rfl rfl (.inr ⟨by rfl, rfl⟩) ?_ ?_ ?_; rotate_left; (simp only [Act.put, q5]; rfl)
          refine pu 21 (some 64) bl50 HT_ undef rfl rfl (.inr ⟨by rfl, rfl⟩) ?_ ?_ ?_; rotate_left; (simp only [Act.put, q5]; rfl)
          refine pu 22 (some 65) bl51 HT_ ?_ rfl rfl (.inl ⟨by rfl, ?_⟩) ?_ ?_ ?_; rotate_left; (intro w'; go_simp; with_reducible rfl); rotate_left; (simp only [Act.put, q5]; rfl)
          refine pu 23 (some 66) bl52 HT_ ?_ rfl rfl (.inl ⟨by rfl, ?_⟩) ?_ ?_ ?_; rotate_left; (intro w'; go_simp; with_reducible rfl); rotate_left; (simp only [Act.put, q5]; rfl)
          refine pu 24 (some 67) bl53 HT_ undef rfl rfl (.inr ⟨by rfl, rfl⟩) ?_ ?_ ?_; rotate_left; (simp only [Act.put, q5]; rfl)
          refine pu 25 (some 68) bl54 HT_ undef rfl rfl (.inr ⟨by rfl, rfl⟩) ?_ ?_ ?_; rotate_left; (simp only [Act.put, q5]; rfl)
          refine pu 26 (some 69) bl55 HT_ undef rfl rfl (.inr ⟨by rfl, rfl⟩) ?_ ?_ ?_; rotate_left; (simp only [Act.put, q5]; rfl)
          refine pu 27 (some 70) bl56 HT_ undef rfl rfl (.inr ⟨by rfl, rfl⟩) ?_ ?_ ?_; rotate_left; (simp only [Act.put, q5]; rfl)
          refine pu 28 (some 71) bl67 HT_ undef rfl rfl (.inr ⟨by rfl, rfl⟩) ?_ ?_ ?_; rotate_left; (simp only [Act.put, q5]; rfl)
          refine pu 29 (some 72) bl68 HT_ undef rfl rfl (.inr ⟨by rfl, rfl⟩) ?_ ?_ ?_; rotate_left; (simp only [Act.put, q5]; rfl)
          refine pu 30 (some 73) bl59 HT_ undef rfl rfl (.inr ⟨by rfl, rfl⟩) ?_ ?_ ?_; rotate_left; (simp only [Act.put, q5]; rfl)
          refine pu 31 (some 74) bl60 HT_ undef rfl rfl (.inr ⟨by rfl, rfl⟩) ?_ ?_ ?_; rotate_left; (simp only [Act.put, q5]; rfl)
          refine pu 32 (some 75) bl61 HT_ undef rfl rfl (.inr ⟨by rfl, rfl⟩) ?_ ?_ ?_; rotate_left; (simp only [Act.put, q5]; rfl)
          refine pu 33 (some 76) bl62 HT_ undef rfl rfl (.inr ⟨by rfl, rfl⟩) ?_ ?_ ?_; rotate_left; (simp only [Act.put, q5]; rfl)
          refine pu 34 (some 77) bl63 HT_ undef rfl rfl (.inr ⟨by rfl, rfl⟩) ?_ ?_ ?_; rotate_left; (simp only [Act.put, q5]; rfl)
          refine pu 35 (some 78) bl64 HT_ undef rfl rfl (.inr ⟨by rfl, rfl⟩) ?_ ?_ ?_; rotate_left; (simp only [Act.put, q5]; rfl)
          refine pu 36 (some 79) bl65 HT_ undef rfl rfl (.inr ⟨by rfl, rfl⟩) ?_ ?_ ?_; rotate_left; (simp only [Act.put, q5]; rfl)
          refine pu 37 (some 80) bl66 HT_ ?_ rfl rfl (.inl ⟨by rfl, ?_⟩) ?_ ?_ ?_; rotate_left; (intro w'; go_simp; with_reducible rfl); rotate_left; (simp only [Act.put, q5]; rfl)
          refine done_ (done_of HT_.out (by kernel_rfl)) ?_
          try go_wp2
          go_ret; exact ⟨by first | rfl | (simp [errW_none, errW_some] <;> rfl) | (simp [*, errW_none, errW_some] <;> rfl), by repeat (first | (with_reducible first | exact HB.out | apply below_alloc | apply pw_below_drewN | apply below_drew1 | refine below_set ?_ GE165.out | refine below_set ?_ GE170.out) | exact HB.out)⟩
        ·replace c20 := Bool.eq_false_iff.mpr c20; subst c20
         have H1 : (some false) = some r := by rw [if_neg (show ¬ (false = true) by decide)] at H; exact H
         clear H; have H := H1; clear H1; obtain rfl := Option.some.inj H; have hcz63_0 : wr.cell? ⟨gb165, 0, none⟩ = some (.int .i64 a0_0) := b1 BK165 0; have hcz63_1 : wr.cell? ⟨gb165, 1, none⟩ = some (.int .i64 a0_1) := b1 BK165 1; have hcz63_2 : wr.cell? ⟨gb165, 2, none⟩ = some (.int .i64 a0_2) := b1 BK165 2; have hcz63_3 : wr.cell? ⟨gb165, 3, none⟩ = some (.slice A0_3 l0_3.length c0_3) := b1 BK165 3; have hfz63_0 := blk_frozen BK165.out 0; have hfz63_1 := blk_frozen BK165.out 1; have hfz63_2 := blk_frozen BK165.out 2; have hfz63_3 := blk_frozen BK165.out 3; have p169 : 0 ≤ (x3_2 : Int) := of_decide_eq_true (by first | (with_reducible assumption) | assumption); have q169 : x3_2 < (l0_3.length : Int) := of_decide_eq_true (by first | (with_reducible assumption) | assumption); obtain ⟨ad169, e169, hx169_0, hx169_1, hx169_2, hx169_3⟩ := at_T33 HR0_3.out x3_2 p169 q169
         cases e169
         replace hx169_0 := (HB.out.cell (World.block_lt_of_cell? w _ hx169_0)).trans hx169_0; replace hx169_1 := (HB.out.cell (World.block_lt_of_cell? w _ hx169_1)).trans hx169_1; replace hx169_2 := (HB.out.cell (World.block_lt_of_cell? w _ hx169_2)).trans hx169_2; replace hx169_3 := (HB.out.cell (World.block_lt_of_cell? w _ hx169_3)).trans hx169_3; replace p169 := eq_true p169; replace q169 := eq_true q169
         try go_wp2_with (first | ((with_reducible refine gate_dst (N := 4) rfl ?_); (try (refine gate_guard (by rfl) ?_; dsimp only)); refine box_event ?hg (N := 4) ?hd (cs := #[.int .i64 0, .int .i64 0, .int .i64 0, .bool false]) (t := 33) ?hr ?_; (case hd => rfl); (case hg => rfl); (case hr => first | (go_simp; done) | (go_simp; rfl)); intro gb170 hg w64 hbox hb; have BK170 := Aside0.mk (hbox); have GW170 := xG HB hg; have GE170 := xG HB hg; replace HB := xS HB hb; have NB165_170 := xN BK165 hg; have NB170_165 := xM BK165 hg; replace BK165 := xB BK165 hb; clear hb hbox hg; have hnb65 := NB170_165.out; have hnc65 := NB165_170.out; have hcz66_0 : w64.cell? ⟨gb170, 0, none⟩ = some (.int .i64 0) := b1 BK170 0; have hcz66_1 : w64.cell? ⟨gb170, 1, none⟩ = some (.int .i64 0) := b1 BK170 1; have hcz66_2 : w64.cell? ⟨gb170, 2, none⟩ = some (.int .i64 0) := b1 BK170 2; have hcz66_3 : w64.cell? ⟨gb170, 3, none⟩ = some (.bool false) := b1 BK170 3; have hfz66_0 := blk_frozen BK170.out 0; have hfz66_1 := blk_frozen BK170.out 1; have hfz66_2 := blk_frozen BK170.out 2; have hfz66_3 := blk_frozen BK170.out 3))
         have n0_ : Aside0 (((((w64.setCell ⟨gb170, 0, none⟩ (.int .i64 ((rd_T33 l0_3 x3_2).f0))).setCell ⟨gb170, 1, none⟩ (.int .i64 ((rd_T33 l0_3 x3_2).f1))).setCell ⟨gb170, 2, none⟩ (.int .i64 ((rd_T33 l0_3 x3_2).f2))).setCell ⟨gb170, 3, none⟩ (.bool ((rd_T33 l0_3 x3_2).f3))).heap[gb165]? = some (.cells #[.int .i64 a0_0, .int .i64 a0_1, .int .i64 a0_2, .slice (some ad169) l0_3.length c0_3] 28 (0, 0))) := ⟨zB BK165.out⟩; have n1_ : Aside0 (((((w64.setCell ⟨gb170, 0, none⟩ (.int .i64 ((rd_T33 l0_3 x3_2).f0))).setCell ⟨gb170, 1, none⟩ (.int .i64 ((rd_T33 l0_3 x3_2).f1))).setCell ⟨gb170, 2, none⟩ (.int .i64 ((rd_T33 l0_3 x3_2).f2))).setCell ⟨gb170, 3, none⟩ (.bool ((rd_T33 l0_3 x3_2).f3))).heap[gb170]? = some (.cells #[.int .i64 ((rd_T33 l0_3 x3_2).f0), .int .i64 ((rd_T33 l0_3 x3_2).f1), .int .i64 ((rd_T33 l0_3 x3_2).f2), .bool ((rd_T33 l0_3 x3_2).f3)] 33 (0, 0))) := ⟨by (with_reducible repeat (first | refine blk_drewN ?_ _ | refine blk_drew ?_ | refine blk_alloc ?_ _)); refine blk_put (cs := #[.int .i64 ((rd_T33 l0_3 x3_2).f0), .int .i64 ((rd_T33 l0_3 x3_2).f1), .int .i64 ((rd_T33 l0_3 x3_2).f2), .bool false]) ?_ 3 _ rfl; (with_reducible repeat (first | refine blk_drewN ?_ _ | refine blk_drew ?_ | refine blk_alloc ?_ _)); refine blk_put (cs := #[.int .i64 ((rd_T33 l0_3 x3_2).f0), .int .i64 ((rd_T33 l0_3 x3_2).f1), .int .i64 0, .bool false]) ?_ 2 _ rfl; (with_reducible repeat (first | refine blk_drewN ?_ _ | refine blk_drew ?_ | refine blk_alloc ?_ _)); refine blk_put (cs := #[.int .i64 ((rd_T33 l0_3 x3_2).f0), .int .i64 0, .int .i64 0, .bool false]) ?_ 1 _ rfl; (with_reducible repeat (first | refine blk_drewN ?_ _ | refine blk_drew ?_ | refine blk_alloc ?_ _)); refine blk_put (cs := #[.int .i64 0, .int .i64 0, .int .i64 0, .bool false]) ?_ 0 _ rfl; (with_reducible repeat (first | refine blk_drewN ?_ _ | refine blk_drew ?_ | refine blk_alloc ?_ _)); exact BK170.out⟩; have n2_ : Aside0 (Below w.heap.size w ((((w64.setCell ⟨gb170, 0, none⟩ (.int .i64 ((rd_T33 l0_3 x3_2).f0))).setCell ⟨gb170, 1, none⟩ (.int .i64 ((rd_T33 l0_3 x3_2).f1))).setCell ⟨gb170, 2, none⟩ (.int .i64 ((rd_T33 l0_3 x3_2).f2))).setCell ⟨gb170, 3, none⟩ (.bool ((rd_T33 l0_3 x3_2).f3)))) := ⟨zS HB.out⟩
         (try clear BK165)
         (try clear BK170)
         (try clear HB)
         generalize ((((w64.setCell ⟨gb170, 0, none⟩ (.int .i64 ((rd_T33 l0_3 x3_2).f0))).setCell ⟨gb170, 1, none⟩ (.int .i64 ((rd_T33 l0_3 x3_2).f1))).setCell ⟨gb170, 2, none⟩ (.int .i64 ((rd_T33 l0_3 x3_2).f2))).setCell ⟨gb170, 3, none⟩ (.bool ((rd_T33 l0_3 x3_2).f3))) = w67 at n0_ n1_ n2_ ⊢; have BK165 := n0_; have BK170 := n1_; have HB := n2_; clear n0_ n1_ n2_; replace BK165 := Aside0.mk (blk_drew BK165.out); replace BK170 := Aside0.mk (blk_drew BK170.out); replace HB := Aside0.mk (below_drew1 HB.out); refine start_ (n := 38) (S := fun w' => w'.cell? ⟨gb170, 0, none⟩ = some (.int .i64 ((rd_T33 l0_3 x3_2).f0)) ∧ w'.cell? ⟨gb170, 1, none⟩ = some (.int .i64 ((rd_T33 l0_3 x3_2).f1)) ∧ w'.cell? ⟨gb170, 2, none⟩ = some (.int .i64 ((rd_T33 l0_3 x3_2).f2)) ∧ w'.cell? ⟨gb170, 3, none⟩ = some (.bool ((rd_T33 l0_3 x3_2).f3)) ∧ w'.cell? ⟨gb165, 0, none⟩ = some (.int .i64 a0_0) ∧ w'.cell? ⟨gb165, 1, none⟩ = some (.int .i64 a0_1) ∧ w'.cell? ⟨gb165, 2, none⟩ = some (.int .i64 a0_2) ∧ w'.cell? ⟨gb165, 3, none⟩ = some (.slice (some ad169) l0_3.length c0_3)) (ds := []) bl28 (by kernel_rfl) rfl rfl ⟨b1 BK170 0, b1 BK170 1, b1 BK170 2, b1 BK170 3, b1 BK165 0, b1 BK165 1, b1 BK165 2, b1 BK165 3⟩ (fun hHeld => ?_); refine with_tabW spec_AutoOk.tab7 spec_AutoOk.bits7 (fun HT_ HW_ => ?_); generalize w67.drew = w68 at BK165 BK170 HB hHeld ⊢
         refine pu 0 (some 43) bl29 HT_ ?_ rfl rfl (.inl ⟨by rfl, ?_⟩) ?_ ?_ ?_; rotate_left; (intro w'; go_simp; with_reducible rfl); rotate_left; (simp only [Act.put, q5]; rfl)
         refine pu 2 (some 45) bl30 HT_ ?_ rfl rfl (.inl ⟨by rfl, ?_⟩) ?_ ?_ ?_; rotate_left; (intro w'; go_simp; with_reducible rfl); rotate_left; (simp only [Act.put, q5]; rfl)
         refine take_ (i := 1) (N := some 44) (v := ?_) (a' := ?_) bl31 rfl rfl (take_ofW HT_.out HW_.out (by kernel_rfl)) (fun _ _ _ h => h) (Or.inl ⟨by rfl, ?_⟩) hHeld ?_ ?_; rotate_left
         ·rintro w' ⟨s0, s1, s2, s3, s4, s5, s6, s7⟩; go_simp; with_reducible rfl
         rotate_left
         ·simp only [Act.put, q5]; rfl
         refine take_ (i := 3) (N := some 46) (v := ?_) (a' := ?_) bl32 rfl rfl (take_ofW HT_.out HW_.out (by kernel_rfl)) (fun _ _ _ h => h) (Or.inl ⟨by rfl, ?_⟩) hHeld ?_ ?_; rotate_left
         ·rintro w' ⟨s0, s1, s2, s3, s4, s5, s6, s7⟩; go_simp; with_reducible rfl
         rotate_left
         ·simp only [Act.put, q5]; rfl
         refine one_ (i := 4) (N := some 47) bl33 rfl rfl (one_of HT_.out (by kernel_rfl)) (by decide) (fun K hK => ?_); refine goes_ Try.func27 (by kernel_rfl) rfl #[.int .i64 ((rd_T33 l0_3 x3_2).f0), .int .i64 a0_1] (by rfl) rfl rfl (by (try simp only [m3]); first | done | rfl | (simp only [d2]; rfl)) ?_
         with_reducible refine (spec_l4State.calls ((rd_T33 l0_3 x3_2).f0) a0_1 false _ A19.out).mono ?_
         rintro e w' ⟨rfl, ⟨nd, rfl⟩⟩; refine ⟨_, rfl, ?_⟩; refine hK.out _ _ ⟨b1 BK170 0, b1 BK170 1, b1 BK170 2, b1 BK170 3, b1 BK165 0, b1 BK165 1, b1 BK165 2, b1 BK165 3⟩ (fun hHeld => ?_); clear hK K; refine norm_ (a' := ?_) ?_ ?_; rotate_left
         ·show Act.put _ (some 47) _ = _; simp only [Act.put, q5]; rfl
         refine pu 5 (some 48) bl34 HT_ ?_ rfl rfl (.inl ⟨by rfl, ?_⟩) ?_ ?_ ?_; rotate_left; (intro w'; go_simp; with_reducible rfl); rotate_left; (simp only [Act.put, q5]; rfl)
         refine pu 6 (some 49) bl35 HT_ ?_ rfl rfl (.inl ⟨by rfl, ?_⟩) ?_ ?_ ?_; rotate_left; (intro w'; go_simp; with_reducible rfl); rotate_left; (simp only [Act.put, q5]; rfl)
         refine pu 7 (some 50) bl36 HT_ undef rfl rfl (.inr ⟨by rfl, rfl⟩) ?_ ?_ ?_; rotate_left; (simp only [Act.put, q5]; rfl)
         refine pu 8 (some 51) bl70 HT_ undef rfl rfl (.inr ⟨by rfl, rfl⟩) ?_ ?_ ?_; rotate_left; (simp only [Act.put, q5]; rfl)
         refine pu 9 (some 52) bl38 HT_ undef rfl rfl (.inr ⟨by rfl, rfl⟩) ?_ ?_ ?_; rotate_left; (simp only [Act.put, q5]; rfl)
         refine pu 10 (some 53) bl39 HT_ undef rfl rfl (.inr ⟨by rfl, rfl⟩) ?_ ?_ ?_; rotate_left; (simp only [Act.put, q5]; rfl)
         refine pu 11 (some 54) bl40 HT_ undef rfl rfl (.inr ⟨by rfl, rfl⟩) ?_ ?_ ?_; rotate_left; (simp only [Act.put, q5]; rfl)
         refine pu 12 (some 55) bl41 HT_ undef rfl rfl (.inr ⟨by rfl, rfl⟩) ?_ ?_ ?_; rotate_left; (simp only [Act.put, q5]; rfl)
         refine pu 13 (some 56) bl42 HT_ ?_ rfl rfl (.inl ⟨by rfl, ?_⟩) ?_ ?_ ?_; rotate_left; (intro w'; go_simp; with_reducible rfl); rotate_left; (simp only [Act.put, q5]; rfl)
         refine pu 14 (some 57) bl43 HT_ ?_ rfl rfl (.inl ⟨by rfl, ?_⟩) ?_ ?_ ?_; rotate_left; (intro w'; go_simp; with_reducible rfl); rotate_left; (simp only [Act.put, q5]; rfl)
         refine pu 15 (some 58) bl44 HT_ undef rfl rfl (.inr ⟨by rfl, rfl⟩) ?_ ?_ ?_; rotate_left; (simp only [Act.put, q5]; rfl)
         refine pu 16 (some 59) bl69 HT_ undef rfl rfl (.inr ⟨by rfl, rfl⟩) ?_ ?_ ?_; rotate_left; (simp only [Act.put, q5]; rfl)
         refine pu 17 (some 60) bl46 HT_ undef rfl rfl (.inr ⟨by rfl, rfl⟩) ?_ ?_ ?_; rotate_left; (simp only [Act.put, q5]; rfl)
         refine pu 18 (some 61) bl47 HT_ undef rfl rfl (.inr ⟨by rfl, rfl⟩) ?_ ?_ ?_; rotate_left; (simp only [Act.put, q5]; rfl)
         refine pu 19 (some 62) bl48 HT_ undef rfl rfl (.inr ⟨by rfl, rfl⟩) ?_ ?_ ?_; rotate_left; (simp only [Act.put, q5]; rfl)
         refine pu 20 (some 63) bl49 HT_ undef rfl rfl (.inr ⟨by rfl, rfl⟩) ?_ ?_ ?_; rotate_left; (simp only [Act.put, q5]; rfl)
         refine pu 21 (some 64) bl50 HT_ undef rfl rfl (.inr ⟨by rfl, rfl⟩) ?_ ?_ ?_; rotate_left; (simp only [Act.put, q5]; rfl)
         refine pu 22 (some 65) bl51 HT_ ?_ rfl rfl (.inl ⟨by rfl, ?_⟩) ?_ ?_ ?_; rotate_left; (intro w'; go_simp; with_reducible rfl); rotate_left; (simp only [Act.put, q5]; rfl)
         refine pu 23 (some 66) bl52 HT_ ?_ rfl rfl (.inl ⟨by rfl, ?_⟩) ?_ ?_ ?_; rotate_left; (intro w'; go_simp; with_reducible rfl); rotate_left; (simp only [Act.put, q5]; rfl)
         refine pu 24 (some 67) bl53 HT_ undef rfl rfl (.inr ⟨by rfl, rfl⟩) ?_ ?_ ?_; rotate_left; (simp only [Act.put, q5]; rfl)
         refine pu 25 (some 68) bl54 HT_ undef rfl rfl (.inr ⟨by rfl, rfl⟩) ?_ ?_ ?_; rotate_left; (simp only [Act.put, q5]; rfl)
         refine pu 26 (some 69) bl55 HT_ undef rfl rfl (.inr ⟨by rfl, rfl⟩) ?_ ?_ ?_; rotate_left; (simp only [Act.put, q5]; rfl)
         refine pu 27 (some 70) bl56 HT_ undef rfl rfl (.inr ⟨by rfl, rfl⟩) ?_ ?_ ?_; rotate_left; (simp only [Act.put, q5]; rfl)
         refine pu 28 (some 71) bl67 HT_ undef rfl rfl (.inr ⟨by rfl, rfl⟩) ?_ ?_ ?_; rotate_left; (simp only [Act.put, q5]; rfl)
         refine pu 29 (some 72) bl68 HT_ undef rfl rfl (.inr ⟨by rfl, rfl⟩) ?_ ?_ ?_; rotate_left; (simp only [Act.put, q5]; rfl)
         refine pu 30 (some 73) bl59 HT_ undef rfl rfl (.inr ⟨by rfl, rfl⟩) ?_ ?_ ?_; rotate_left; (simp only [Act.put, q5]; rfl)
         refine pu 31 (some 74) bl60 HT_ undef rfl rfl (.inr ⟨by rfl, rfl⟩) ?_ ?_ ?_; rotate_left; (simp only [Act.put, q5]; rfl)
         refine pu 32 (some 75) bl61 HT_ undef rfl rfl (.inr ⟨by rfl, rfl⟩) ?_ ?_ ?_; rotate_left; (simp only [Act.put, q5]; rfl)
         refine pu 33 (some 76) bl62 HT_ undef rfl rfl (.inr ⟨by rfl, rfl⟩) ?_ ?_ ?_; rotate_left; (simp only [Act.put, q5]; rfl)
         refine pu 34 (some 77) bl63 HT_ undef rfl rfl (.inr ⟨by rfl, rfl⟩) ?_ ?_ ?_; rotate_left; (simp only [Act.put, q5]; rfl)
         refine pu 35 (some 78) bl64 HT_ undef rfl rfl (.inr ⟨by rfl, rfl⟩) ?_ ?_ ?_; rotate_left; (simp only [Act.put, q5]; rfl)
         refine pu 36 (some 79) bl65 HT_ undef rfl rfl (.inr ⟨by rfl, rfl⟩) ?_ ?_ ?_; rotate_left; (simp only [Act.put, q5]; rfl)
         refine pu 37 (some 80) bl66 HT_ ?_ rfl rfl (.inl ⟨by rfl, ?_⟩) ?_ ?_ ?_; rotate_left; (intro w'; go_simp; with_reducible rfl); rotate_left; (simp only [Act.put, q5]; rfl)
         refine done_ (done_of HT_.out (by kernel_rfl)) ?_
         try go_wp2
         go_ret; exact ⟨by first | rfl | (simp [errW_none, errW_some] <;> rfl) | (simp [*, errW_none, errW_some] <;> rfl), by repeat (first | (with_reducible first | exact HB.out | apply below_alloc | apply pw_below_drewN | apply below_drew1 | refine below_set ?_ GE165.out | refine below_set ?_ GE170.out) | exact HB.out)⟩
       ·rw [if_neg c18] at H; exact absurd H (by simp)
      ·rw [if_neg c17] at H; have c17b0 : decide (x3_2 < (l0_3.length : Int)) = false := decide_eq_false c17; clear c17; obtain rfl := Option.some.inj H; have hcz69_0 : wr.cell? ⟨gb165, 0, none⟩ = some (.int .i64 a0_0) := b1 BK165 0; have hcz69_1 : wr.cell? ⟨gb165, 1, none⟩ = some (.int .i64 a0_1) := b1 BK165 1; have hcz69_2 : wr.cell? ⟨gb165, 2, none⟩ = some (.int .i64 a0_2) := b1 BK165 2; have hcz69_3 : wr.cell? ⟨gb165, 3, none⟩ = some (.slice A0_3 l0_3.length c0_3) := b1 BK165 3; have hfz69_0 := blk_frozen BK165.out 0; have hfz69_1 := blk_frozen BK165.out 1; have hfz69_2 := blk_frozen BK165.out 2; have hfz69_3 := blk_frozen BK165.out 3
       go_wp2
       go_ret; exact ⟨by first | rfl | (simp [errW_none, errW_some] <;> rfl) | (simp [*, errW_none, errW_some] <;> rfl), by repeat (first | (with_reducible first | exact HB.out | apply below_alloc | apply pw_below_drewN | apply below_drew1 | refine below_set ?_ GE165.out) | exact HB.out)⟩

end Go.Proofs.Ytigmokdcanebeaa.MFnExactAutoMake
