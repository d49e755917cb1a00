-- Written by a program of this session, out of Lean's print of the translation. Not trusted: Lean checks it.
import Derived.Test.YtnflbjdmbaaokaaMFnExactGenDegenx0
import Derived.Test.YtnflbjdmbaaokaaMFnExactGenDegenx1
namespace Go.Proofs.Ytnflbjdmbaaokaa.MFnExactGenDegen
open Go.RowKit Go.Proofs.YtnflbjdmbaaokaaW.PrintWords Go.Proofs.YtnflbjdmbaaokaaW.PrintLast Go.Proofs.YtnflbjdmbaaokaaW.PrintMore Go.Proofs.Ytnflbjdmbaaokaa.Short6
attribute [local go_sem] max2_int min2_int max_two min_two max_three min_three max_four min_four   -- for this text's walks alone
set_option linter.unusedVariables false
set_option linter.unusedSimpArgs false

section
open Go.Proofs.Ytnflbjdmbaaokaa.Short2.T
abbrev spec_AutoOk.bl0 : Array Bool := #[f, f, f, f, f, f, f, f, f, f, f, f, f, f, f, f, f, f, f, f, f, f, f, f, f, f]
abbrev spec_AutoOk.bl1 : Array Bool := #[t, f, f, f, f, f, f, f, f, f, f, f, f, f, f, f, f, f, f, f, f, f, f, f, f, f]
abbrev spec_AutoOk.bl2 : Array Bool := #[t, t, f, f, f, f, f, f, f, f, f, f, f, f, f, f, f, f, f, f, f, f, f, f, f, f]
abbrev spec_AutoOk.bl3 : Array Bool := #[t, t, t, f, f, f, f, f, f, f, f, f, f, f, f, f, f, f, f, f, f, f, f, f, f, f]
abbrev spec_AutoOk.bl4 : Array Bool := #[t, t, t, t, f, f, f, f, f, f, f, f, f, f, f, f, f, f, f, f, f, f, f, f, f, f]
abbrev spec_AutoOk.bl5 : Array Bool := #[t, t, t, t, t, f, f, f, f, f, f, f, f, f, f, f, f, f, f, f, f, f, f, f, f, f]
abbrev spec_AutoOk.bl6 : Array Bool := #[t, t, t, t, t, t, f, f, f, f, f, f, f, f, f, f, f, f, f, f, f, f, f, f, f, f]
abbrev spec_AutoOk.bl7 : Array Bool := #[t, t, t, t, t, t, t, f, f, f, f, f, f, f, f, f, f, f, f, f, f, f, f, f, f, f]
abbrev spec_AutoOk.bl8 : Array Bool := #[t, t, t, t, t, t, t, t, f, f, f, f, f, f, f, f, f, f, f, f, f, f, f, f, f, f]
abbrev spec_AutoOk.bl9 : Array Bool := #[t, t, t, t, t, t, t, t, t, f, f, f, f, f, f, f, f, f, f, f, f, f, f, f, f, f]
abbrev spec_AutoOk.bl10 : Array Bool := #[t, t, t, t, t, t, t, t, t, t, f, f, f, f, f, f, f, f, f, f, f, f, f, f, f, f]
abbrev spec_AutoOk.bl11 : Array Bool := #[t, t, t, t, t, t, t, t, t, t, t, f, f, f, f, f, f, f, f, f, f, f, f, f, f, f]
abbrev spec_AutoOk.bl12 : Array Bool := #[t, t, t, t, t, t, t, t, t, t, t, t, f, f, f, f, f, f, f, f, f, f, f, f, f, f]
abbrev spec_AutoOk.bl13 : Array Bool := #[t, t, t, t, t, t, t, t, t, t, t, t, f, t, f, f, f, f, f, f, f, f, f, f, f, f]
abbrev spec_AutoOk.bl14 : Array Bool := #[t, t, t, t, t, t, t, t, t, t, t, t, t, t, f, f, f, f, f, f, f, f, f, f, f, f]
abbrev spec_AutoOk.bl15 : Array Bool := #[t, t, t, t, t, t, t, t, t, t, t, t, t, t, t, f, f, f, f, f, f, f, f, f, f, f]
abbrev spec_AutoOk.bl16 : Array Bool := #[t, t, t, t, t, t, t, t, t, t, t, t, t, t, t, t, f, f, f, f, f, f, f, f, f, f]
abbrev spec_AutoOk.bl17 : Array Bool := #[t, t, t, t, t, t, t, t, t, t, t, t, t, t, t, t, t, f, f, f, f, f, f, f, f, f]
abbrev spec_AutoOk.bl18 : Array Bool := #[t, t, t, t, t, t, t, t, t, t, t, t, t, t, t, t, t, t, f, f, f, f, f, f, f, f]
abbrev spec_AutoOk.bl19 : Array Bool := #[t, t, t, t, t, t, t, t, t, t, t, t, t, t, t, t, t, t, t, f, f, f, f, f, f, f]
abbrev spec_AutoOk.bl20 : Array Bool := #[t, t, t, t, t, t, t, t, t, t, t, t, t, t, t, t, t, t, t, t, f, f, f, f, f, f]
abbrev spec_AutoOk.bl21 : Array Bool := #[t, t, t, t, t, t, t, t, t, t, t, t, t, t, t, t, t, t, t, t, t, f, f, f, f, f]
abbrev spec_AutoOk.bl22 : Array Bool := #[t, t, t, t, t, t, t, t, t, t, t, t, t, t, t, t, t, t, t, t, t, t, f, f, f, f]
abbrev spec_AutoOk.bl23 : Array Bool := #[t, t, t, t, t, t, t, t, t, t, t, t, t, t, t, t, t, t, t, t, t, t, t, f, f, f]
abbrev spec_AutoOk.bl24 : Array Bool := #[t, t, t, t, t, t, t, t, t, t, t, t, t, t, t, t, t, t, t, t, t, t, t, t, f, f]
abbrev spec_AutoOk.bl25 : Array Bool := #[t, t, t, t, t, t, t, t, t, t, t, t, t, t, t, t, t, t, t, t, t, t, t, t, t, f]
abbrev spec_AutoOk.bl26 : Array Bool := #[t, t, t, t, t, t, t, t, t, t, t, t, t, t, t, t, t, t, t, t, t, t, t, t, t, t]
abbrev spec_AutoOk.bl27 : Array Bool := #[t, t, t, t, t, t, t, t, t, t, t, t, t, f, f, f, f, f, f, f, f, f, f, f, f, f]
abbrev spec_AutoOk.bl28 : Array Bool := #[f, f, f, f, f, f, f, f, f, f, f, f, f, f, f, f, f, f, f, f, f, f, f, f, f, f, f, f, f, f, f, f, f, f, f, f, f, f]
abbrev spec_AutoOk.bl29 : Array Bool := #[t, f, f, f, f, f, f, f, f, f, f, f, f, f, f, f, f, f, f, f, f, f, f, f, f, f, f, f, f, f, f, f, f, f, f, f, f, f]
abbrev spec_AutoOk.bl30 : Array Bool := #[t, f, t, f, f, f, f, f, f, f, f, f, f, f, f, f, f, f, f, f, f, f, f, f, f, f, f, f, f, f, f, f, f, f, f, f, f, f]
abbrev spec_AutoOk.bl31 : Array Bool := #[t, t, t, f, f, f, f, f, f, f, f, f, f, f, f, f, f, f, f, f, f, f, f, f, f, f, f, f, f, f, f, f, f, f, f, f, f, f]
abbrev spec_AutoOk.bl32 : Array Bool := #[t, t, t, t, f, f, f, f, f, f, f, f, f, f, f, f, f, f, f, f, f, f, f, f, f, f, f, f, f, f, f, f, f, f, f, f, f, f]
abbrev spec_AutoOk.bl33 : Array Bool := #[t, t, t, t, t, f, f, f, f, f, f, f, f, f, f, f, f, f, f, f, f, f, f, f, f, f, f, f, f, f, f, f, f, f, f, f, f, f]
abbrev spec_AutoOk.bl34 : Array Bool := #[t, t, t, t, t, t, f, f, f, f, f, f, f, f, f, f, f, f, f, f, f, f, f, f, f, f, f, f, f, f, f, f, f, f, f, f, f, f]
abbrev spec_AutoOk.bl35 : Array Bool := #[t, t, t, t, t, t, t, f, f, f, f, f, f, f, f, f, f, f, f, f, f, f, f, f, f, f, f, f, f, f, f, f, f, f, f, f, f, f]
abbrev spec_AutoOk.bl36 : Array Bool := #[t, t, t, t, t, t, t, t, f, f, f, f, f, f, f, f, f, f, f, f, f, f, f, f, f, f, f, f, f, f, f, f, f, f, f, f, f, f]
abbrev spec_AutoOk.bl37 : Array Bool := #[t, t, t, t, t, t, t, t, f, t, f, f, f, f, f, f, f, f, f, f, f, f, f, f, f, f, f, f, f, f, f, f, f, f, f, f, f, f]
abbrev spec_AutoOk.bl38 : Array Bool := #[t, t, t, t, t, t, t, t, t, t, f, f, f, f, f, f, f, f, f, f, f, f, f, f, f, f, f, f, f, f, f, f, f, f, f, f, f, f]
abbrev spec_AutoOk.bl39 : Array Bool := #[t, t, t, t, t, t, t, t, t, t, t, f, f, f, f, f, f, f, f, f, f, f, f, f, f, f, f, f, f, f, f, f, f, f, f, f, f, f]
abbrev spec_AutoOk.bl40 : Array Bool := #[t, t, t, t, t, t, t, t, t, t, t, t, f, f, f, f, f, f, f, f, f, f, f, f, f, f, f, f, f, f, f, f, f, f, f, f, f, f]
abbrev spec_AutoOk.bl41 : Array Bool := #[t, t, t, t, t, t, t, t, t, t, t, t, t, f, f, f, f, f, f, f, f, f, f, f, f, f, f, f, f, f, f, f, f, f, f, f, f, f]
abbrev spec_AutoOk.bl42 : Array Bool := #[t, t, t, t, t, t, t, t, t, t, t, t, t, t, f, f, f, f, f, f, f, f, f, f, f, f, f, f, f, f, f, f, f, f, f, f, f, f]
abbrev spec_AutoOk.bl43 : Array Bool := #[t, t, t, t, t, t, t, t, t, t, t, t, t, t, t, f, f, f, f, f, f, f, f, f, f, f, f, f, f, f, f, f, f, f, f, f, f, f]
abbrev spec_AutoOk.bl44 : Array Bool := #[t, t, t, t, t, t, t, t, t, t, t, t, t, t, t, t, f, f, f, f, f, f, f, f, f, f, f, f, f, f, f, f, f, f, f, f, f, f]
abbrev spec_AutoOk.bl45 : Array Bool := #[t, t, t, t, t, t, t, t, t, t, t, t, t, t, t, t, f, t, f, f, f, f, f, f, f, f, f, f, f, f, f, f, f, f, f, f, f, f]
abbrev spec_AutoOk.bl46 : Array Bool := #[t, t, t, t, t, t, t, t, t, t, t, t, t, t, t, t, t, t, f, f, f, f, f, f, f, f, f, f, f, f, f, f, f, f, f, f, f, f]
abbrev spec_AutoOk.bl47 : Array Bool := #[t, t, t, t, t, t, t, t, t, t, t, t, t, t, t, t, t, t, t, f, f, f, f, f, f, f, f, f, f, f, f, f, f, f, f, f, f, f]
abbrev spec_AutoOk.bl48 : Array Bool := #[t, t, t, t, t, t, t, t, t, t, t, t, t, t, t, t, t, t, t, t, f, f, f, f, f, f, f, f, f, f, f, f, f, f, f, f, f, f]
abbrev spec_AutoOk.bl49 : Array Bool := #[t, t, t, t, t, t, t, t, t, t, t, t, t, t, t, t, t, t, t, t, t, f, f, f, f, f, f, f, f, f, f, f, f, f, f, f, f, f]
abbrev spec_AutoOk.bl50 : Array Bool := #[t, t, t, t, t, t, t, t, t, t, t, t, t, t, t, t, t, t, t, t, t, t, f, f, f, f, f, f, f, f, f, f, f, f, f, f, f, f]
abbrev spec_AutoOk.bl51 : Array Bool := #[t, t, t, t, t, t, t, t, t, t, t, t, t, t, t, t, t, t, t, t, t, t, t, f, f, f, f, f, f, f, f, f, f, f, f, f, f, f]
abbrev spec_AutoOk.bl52 : Array Bool := #[t, t, t, t, t, t, t, t, t, t, t, t, t, t, t, t, t, t, t, t, t, t, t, t, f, f, f, f, f, f, f, f, f, f, f, f, f, f]
abbrev spec_AutoOk.bl53 : Array Bool := #[t, t, t, t, t, t, t, t, t, t, t, t, t, t, t, t, t, t, t, t, t, t, t, t, t, f, f, f, f, f, f, f, f, f, f, f, f, f]
abbrev spec_AutoOk.bl54 : Array Bool := #[t, t, t, t, t, t, t, t, t, t, t, t, t, t, t, t, t, t, t, t, t, t, t, t, t, t, f, f, f, f, f, f, f, f, f, f, f, f]
abbrev spec_AutoOk.bl55 : Array Bool := #[t, t, t, t, t, t, t, t, t, t, t, t, t, t, t, t, t, t, t, t, t, t, t, t, t, t, t, f, f, f, f, f, f, f, f, f, f, f]
abbrev spec_AutoOk.bl56 : Array Bool := #[t, t, t, t, t, t, t, t, t, t, t, t, t, t, t, t, t, t, t, t, t, t, t, t, t, t, t, t, f, f, f, f, f, f, f, f, f, f]
abbrev spec_AutoOk.bl57 : Array Bool := #[t, t, t, t, t, t, t, t, t, t, t, t, t, t, t, t, t, t, t, t, t, t, t, t, t, t, t, t, f, t, f, f, f, f, f, f, f, f]
abbrev spec_AutoOk.bl58 : Array Bool := #[t, t, t, t, t, t, t, t, t, t, t, t, t, t, t, t, t, t, t, t, t, t, t, t, t, t, t, t, f, t, t, f, f, f, f, f, f, f]
abbrev spec_AutoOk.bl59 : Array Bool := #[t, t, t, t, t, t, t, t, t, t, t, t, t, t, t, t, t, t, t, t, t, t, t, t, t, t, t, t, t, t, t, f, f, f, f, f, f, f]
abbrev spec_AutoOk.bl60 : Array Bool := #[t, t, t, t, t, t, t, t, t, t, t, t, t, t, t, t, t, t, t, t, t, t, t, t, t, t, t, t, t, t, t, t, f, f, f, f, f, f]
abbrev spec_AutoOk.bl61 : Array Bool := #[t, t, t, t, t, t, t, t, t, t, t, t, t, t, t, t, t, t, t, t, t, t, t, t, t, t, t, t, t, t, t, t, t, f, f, f, f, f]
abbrev spec_AutoOk.bl62 : Array Bool := #[t, t, t, t, t, t, t, t, t, t, t, t, t, t, t, t, t, t, t, t, t, t, t, t, t, t, t, t, t, t, t, t, t, t, f, f, f, f]
abbrev spec_AutoOk.bl63 : Array Bool := #[t, t, t, t, t, t, t, t, t, t, t, t, t, t, t, t, t, t, t, t, t, t, t, t, t, t, t, t, t, t, t, t, t, t, t, f, f, f]
abbrev spec_AutoOk.bl64 : Array Bool := #[t, t, t, t, t, t, t, t, t, t, t, t, t, t, t, t, t, t, t, t, t, t, t, t, t, t, t, t, t, t, t, t, t, t, t, t, f, f]
abbrev spec_AutoOk.bl65 : Array Bool := #[t, t, t, t, t, t, t, t, t, t, t, t, t, t, t, t, t, t, t, t, t, t, t, t, t, t, t, t, t, t, t, t, t, t, t, t, t, f]
abbrev spec_AutoOk.bl66 : Array Bool := #[t, t, t, t, t, t, t, t, t, t, t, t, t, t, t, t, t, t, t, t, t, t, t, t, t, t, t, t, t, t, t, t, t, t, t, t, t, t]
abbrev spec_AutoOk.bl67 : Array Bool := #[t, t, t, t, t, t, t, t, t, t, t, t, t, t, t, t, t, t, t, t, t, t, t, t, t, t, t, t, t, f, f, f, f, f, f, f, f, f]
abbrev spec_AutoOk.bl68 : Array Bool := #[t, t, t, t, t, t, t, t, t, t, t, t, t, t, t, t, t, t, t, t, t, t, t, t, t, t, t, t, t, t, f, f, f, f, f, f, f, f]
abbrev spec_AutoOk.bl69 : Array Bool := #[t, t, t, t, t, t, t, t, t, t, t, t, t, t, t, t, t, f, f, f, f, f, f, f, f, f, f, f, f, f, f, f, f, f, f, f, f, f]
abbrev spec_AutoOk.bl70 : Array Bool := #[t, t, t, t, t, t, t, t, t, f, f, f, f, f, f, f, f, f, f, f, f, f, f, f, f, f, f, f, f, f, f, f, f, f, f, f, f, f]
end
/-! ### spec_AutoOk: function 35 -/
mutual
def spec_AutoOk.j0 : Nat → Bool → Int → Int → Int → List (S48) → Option (Bool)
 | 0, _, _, _, _, _ => none
 | k + 1, x30, x128000, x128001, x128002, x128003 => if x30 = true then (some false) else (spec_AutoOk.l0 k 0 x128000 x128001 x128002 x128003)
def spec_AutoOk.l0 : Nat → Int → Int → Int → Int → List (S48) → Option (Bool)
 | 0, _, _, _, _, _ => none
 | k + 1, x3, x128000, x128001, x128002, x128003 => if x3 < (x128003.length : Int) then (if 0 ≤ x3 then ((spec_l4State.f ((rd_T48 x128003 x3).f0) x128001).bind fun t133 => (if t133 = true then ((spec_l4State.f ((rd_T48 x128003 x3).f2) x128001).bind fun t134 => (if t134 = true then ((spec_l1In.f ((rd_T48 x128003 x3).f1) 0 (wrap64 (x128000 - 1))).bind fun t135 => (if t135 = true then (if x3 > 0 then (if 0 ≤ (wrap64 (x3 - 1)) then (if (wrap64 (x3 - 1)) < (x128003.length : Int) then ((spec_l4Less.f ((rd_T48 x128003 (wrap64 (x3 - 1))).f0) ((rd_T48 x128003 (wrap64 (x3 - 1))).f1) ((rd_T48 x128003 (wrap64 (x3 - 1))).f2) ((rd_T48 x128003 (wrap64 (x3 - 1))).f3) ((rd_T48 x128003 x3).f0) ((rd_T48 x128003 x3).f1) ((rd_T48 x128003 x3).f2) ((rd_T48 x128003 x3).f3)).bind fun t137 => (if t137 = true then (spec_AutoOk.l0 k (wrap64 (x3 + 1)) x128000 x128001 x128002 x128003) else (some false))) else (none)) else (none)) else (spec_AutoOk.l0 k (wrap64 (x3 + 1)) x128000 x128001 x128002 x128003)) else (some false))) else (some false))) else (some false))) else (none)) else (some true)
end
def spec_AutoOk.f (k : Nat) (a0_0 : Int) (a0_1 : Int) (a0_2 : Int) (l0_3 : List (S48)) : Option (Bool) := (spec_l1In.f a0_0 1 8).bind fun t128 => (if t128 = true then ((spec_l1In.f a0_1 0 31).bind fun t129 => (if t129 = true then (if 0 ≤ a0_1 then ((spec_SetIn.f a0_2 (wrap64 ((shl .i64 1 a0_1) - 1))).bind fun t130 => (if t130 = true then (spec_AutoOk.j0 k (decide ((l0_3.length : Int) > 2000)) a0_0 a0_1 a0_2 l0_3) else (spec_AutoOk.j0 k true a0_0 a0_1 a0_2 l0_3))) else (none)) else (spec_AutoOk.j0 k true a0_0 a0_1 a0_2 l0_3))) else (spec_AutoOk.j0 k true a0_0 a0_1 a0_2 l0_3))
theorem spec_AutoOk.mono_l : ∀ k, (∀ y0 y1 y2 y3 y4, LeO (spec_AutoOk.j0 k y0 y1 y2 y3 y4) (spec_AutoOk.j0 (k + 1) y0 y1 y2 y3 y4)) ∧ (∀ y0 y1 y2 y3 y4, LeO (spec_AutoOk.l0 k y0 y1 y2 y3 y4) (spec_AutoOk.l0 (k + 1) y0 y1 y2 y3 y4))
 | 0 => ⟨fun _ _ _ _ _ r h => by simp [spec_AutoOk.j0] at h, fun _ _ _ _ _ r h => by simp [spec_AutoOk.l0] at h⟩
 | k + 1 => by
  obtain ⟨ih0, ih1⟩ := spec_AutoOk.mono_l k
  refine ⟨?_, ?_⟩
  ·intro y0 y1 y2 y3 y4
   unfold spec_AutoOk.j0
   repeat' first
   | (with_reducible exact ih0 _ _ _ _ _)
   | (with_reducible exact ih1 _ _ _ _ _)
   | (with_reducible exact LeO.refl _)
   | (with_reducible exact LeO.none _)
   | (with_reducible refine LeO.ite ?_ ?_)
   | (with_reducible refine LeO.bind ?_ (fun _ => ?_))
   | exact ih0 _ _ _ _ _
   | exact ih1 _ _ _ _ _
   | exact LeO.none _
   | refine LeO.ite ?_ ?_
   | refine LeO.bind ?_ (fun _ => ?_)
  ·intro y0 y1 y2 y3 y4
   unfold spec_AutoOk.l0
   repeat' first
   | (with_reducible exact ih0 _ _ _ _ _)
   | (with_reducible exact ih1 _ _ _ _ _)
   | (with_reducible exact LeO.refl _)
   | (with_reducible exact LeO.none _)
   | (with_reducible refine LeO.ite ?_ ?_)
   | (with_reducible refine LeO.bind ?_ (fun _ => ?_))
   | exact ih0 _ _ _ _ _
   | exact ih1 _ _ _ _ _
   | exact LeO.none _
   | refine LeO.ite ?_ ?_
   | refine LeO.bind ?_ (fun _ => ?_)
theorem spec_AutoOk.mono : ∀ a0 a1 a2 a3 k, LeO (spec_AutoOk.f k a0 a1 a2 a3) (spec_AutoOk.f (k + 1) a0 a1 a2 a3) := by
 intro a0 a1 a2 a3 k
 obtain ⟨ih0, ih1⟩ := spec_AutoOk.mono_l k
 unfold spec_AutoOk.f
 repeat' first
   | (with_reducible exact ih0 _ _ _ _ _)
   | (with_reducible exact ih1 _ _ _ _ _)
   | (with_reducible exact LeO.refl _)
   | (with_reducible exact LeO.none _)
   | (with_reducible refine LeO.ite ?_ ?_)
   | (with_reducible refine LeO.bind ?_ (fun _ => ?_))
   | exact ih0 _ _ _ _ _
   | exact ih1 _ _ _ _ _
   | exact LeO.none _
   | refine LeO.ite ?_ ?_
   | refine LeO.bind ?_ (fun _ => ?_)
def spec_AutoOk.T1 : Bool × List (List Nat × List Nat) := (true, [([], []), ([0], [0]), ([1], [1]), ([2], [2]), ([3, 2], [3]), ([4], [4]), ([5, 4], [4, 5]), ([6, 4, 4], [4, 6]), ([7, 4], [4, 7]), ([4, 8], [4, 8]), ([9, 7], [9]), ([10], [10]), ([11, 10], [10, 11]), ([10], [10]), ([13, 10], [10, 13]), ([14, 10], [10, 14]), ([15, 10], [10, 15]), ([12, 16, 10, 10], [10, 12, 16]), ([17, 10], [10, 17]), ([10, 18], [10, 18]), ([19, 17], [19]), ([20], [20]), ([21, 20], [20, 21]), ([22, 20], [20, 22]), ([23, 20], [20, 23]), ([20, 24], [20, 24])])
def spec_AutoOk.B1 : List Nat := [0, 1, 3, 7, 15, 31, 63, 127, 255, 511, 1023, 2047, 4095, 2047, 10239, 26623, 59391, 131071, 262143, 524287, 1048575, 2097151, 4194303, 8388607, 16777215, 33554431]
theorem spec_AutoOk.tab1 : rtab .any (opsOf Try.f35 1) = spec_AutoOk.T1 := by kernel_rfl
theorem spec_AutoOk.bits1 : waitsOk spec_AutoOk.T1.2 spec_AutoOk.B1 = true := by kernel_rfl
def spec_AutoOk.T7 : Bool × List (List Nat × List Nat) := (true, [([], []), ([0], [0]), ([], []), ([2], [2]), ([1, 3], [1, 3]), ([4], [4]), ([5, 4], [5]), ([6], [6]), ([7, 6], [6, 7]), ([6], [6]), ([9, 6], [6, 9]), ([8, 10, 6, 6], [6, 8, 10]), ([11, 6], [6, 11]), ([6, 12], [6, 12]), ([13, 11], [13]), ([14], [14]), ([15, 14], [14, 15]), ([14], [14]), ([17, 14], [14, 17]), ([18, 14], [14, 18]), ([16, 19, 14, 14], [14, 16, 19]), ([20, 14], [14, 20]), ([14, 21], [14, 21]), ([22, 20], [22]), ([23], [23]), ([24, 23], [23, 24]), ([25, 23, 23], [23, 25]), ([26], [26]), ([27, 26], [26, 27]), ([26], [26]), ([29, 26], [26, 29]), ([28, 30, 26], [26, 28, 30]), ([31, 26], [26, 31]), ([26], [26]), ([32, 33, 26, 26], [26, 32, 33]), ([34, 26], [26, 34]), ([26, 35, 23], [23, 26, 35]), ([23, 36], [23, 36])])
def spec_AutoOk.B7 : List Nat := [0, 1, 0, 4, 15, 31, 63, 127, 255, 127, 639, 2047, 4095, 8191, 16383, 32767, 65535, 32767, 163839, 425983, 1048575, 2097151, 4194303, 8388607, 16777215, 33554431, 67108863, 134217727, 268435455, 134217727, 671088639, 2147483647, 4294967295, 134217727, 17179869183, 34359738367, 68719476735, 137438953471]
theorem spec_AutoOk.tab7 : rtab .any (opsOf Try.f35 7) = spec_AutoOk.T7 := by kernel_rfl
theorem spec_AutoOk.bits7 : waitsOk spec_AutoOk.T7.2 spec_AutoOk.B7 = true := by kernel_rfl
open Go.Proofs.Ytnflbjdmbaaokaa.Short2 in
set_option maxHeartbeats 8000000 in
set_option maxRecDepth 100000 in
theorem spec_AutoOk.calls (k : Nat) (a0_0 : Int) (a0_1 : Int) (a0_2 : Int) (A0_3 : Option Addr) (c0_3 : Nat) (l0_3 : List (S48)) (r : Bool) (w : World) (hr0_3 : Kd.C k48 w A0_3 l0_3.length l0_3) (hc0_3 : l0_3.length ≤ c0_3) (h : spec_AutoOk.f k a0_0 a0_1 a0_2 l0_3 = some r) :
  Calls Try.prog 35 #[.agg #[.int .i64 a0_0, .int .i64 a0_1, .int .i64 a0_2, .slice A0_3 l0_3.length c0_3]] w fun e w' => e = .returned (.bool r) ∧ Below w.heap.size w w' := by
 have hu28 := Try.underlying28; have hu48 := Try.underlying48; have HR0_3 := Aside0.mk hr0_3; have HC0_3 := Aside0.mk hc0_3; clear hr0_3 hc0_3; have HB := Aside0.mk (Below.refl w.heap.size w); have H : ((spec_l1In.f a0_0 1 8).bind fun aI => (if aI = true then ((spec_l1In.f a0_1 0 31).bind fun ax => (if ax = true then (if 0 ≤ a0_1 then ((spec_SetIn.f a0_2 (wrap64 ((shl .i64 1 a0_1) - 1))).bind fun au => (if au = true then (spec_AutoOk.j0 k (decide ((l0_3.length : Int) > 2000)) a0_0 a0_1 a0_2 l0_3) else (spec_AutoOk.j0 k true a0_0 a0_1 a0_2 l0_3))) else (none)) else (spec_AutoOk.j0 k true a0_0 a0_1 a0_2 l0_3))) else (spec_AutoOk.j0 k true a0_0 a0_1 a0_2 l0_3))) = some r := h; clear h; have HC2 := Aside0.mk H; clear H
 go_enter Try.func35, Try.ntmps35
 go_upto_region 1 with (first | ((with_reducible refine gate_dst (N := 1) rfl ?_); (try (refine gate_guard (by rfl) ?_; dsimp only)); refine bx_ 1 #[.int .i64 a0_0, .int .i64 a0_1, .int .i64 a0_2, .slice A0_3 l0_3.length c0_3] 28 ?_; intro ad hg w3 hbox hb; have aa := Aside0.mk (hbox); have dx := xG HB hg; have dy := xG HB hg; replace HB := xS HB hb; clear hb hbox hg))
 (try simp only [Act.put, q3])
 go_cut [30] (fun dp wc => ∃ (kq : Nat) (aC : Bool), dp = .bool aC ∧ Aside0 (spec_AutoOk.j0 kq aC a0_0 a0_1 a0_2 l0_3 = some r) ∧ Aside0 (kq ≤ k) ∧ Aside0 (wc.heap[ad]? = some (.cells #[.int .i64 a0_0, .int .i64 a0_1, .int .i64 a0_2, (.slice A0_3 l0_3.length c0_3)] 28 (0, 0))) ∧ Aside0 (Below w.heap.size w wc))
 case first =>
  have H := HC2.out; clear HC2; replace H := bI H; obtain ⟨aI, bg, H⟩ := H; replace H : (if aI = true then ((spec_l1In.f a0_1 0 31).bind fun ax => (if ax = true then (if 0 ≤ a0_1 then ((spec_SetIn.f a0_2 (wrap64 ((shl .i64 1 a0_1) - 1))).bind fun au => (if au = true then (spec_AutoOk.j0 k (decide ((l0_3.length : Int) > 2000)) a0_0 a0_1 a0_2 l0_3) else (spec_AutoOk.j0 k true a0_0 a0_1 a0_2 l0_3))) else (none)) else (spec_AutoOk.j0 k true a0_0 a0_1 a0_2 l0_3))) else (spec_AutoOk.j0 k true a0_0 a0_1 a0_2 l0_3)) = some r := H; have A4 := Aside0.mk bg; clear bg
  by_cases c5 : aI = true
  ·subst c5
   have H1 : ((spec_l1In.f a0_1 0 31).bind fun ax => (if ax = true then (if 0 ≤ a0_1 then ((spec_SetIn.f a0_2 (wrap64 ((shl .i64 1 a0_1) - 1))).bind fun au => (if au = true then (spec_AutoOk.j0 k (decide ((l0_3.length : Int) > 2000)) a0_0 a0_1 a0_2 l0_3) else (spec_AutoOk.j0 k true a0_0 a0_1 a0_2 l0_3))) else (none)) else (spec_AutoOk.j0 k true a0_0 a0_1 a0_2 l0_3))) = some r := by rw [if_pos rfl] at H; exact H
   clear H; have H := H1; clear H1; replace H := bI H; obtain ⟨ax, bh, H⟩ := H; replace H : (if ax = true then (if 0 ≤ a0_1 then ((spec_SetIn.f a0_2 (wrap64 ((shl .i64 1 a0_1) - 1))).bind fun au => (if au = true then (spec_AutoOk.j0 k (decide ((l0_3.length : Int) > 2000)) a0_0 a0_1 a0_2 l0_3) else (spec_AutoOk.j0 k true a0_0 a0_1 a0_2 l0_3))) else (none)) else (spec_AutoOk.j0 k true a0_0 a0_1 a0_2 l0_3)) = some r := H; have A6 := Aside0.mk bh; clear bh
   by_cases c7 : ax = true
   ·subst c7
    have H1 : (if 0 ≤ a0_1 then ((spec_SetIn.f a0_2 (wrap64 ((shl .i64 1 a0_1) - 1))).bind fun au => (if au = true then (spec_AutoOk.j0 k (decide ((l0_3.length : Int) > 2000)) a0_0 a0_1 a0_2 l0_3) else (spec_AutoOk.j0 k true a0_0 a0_1 a0_2 l0_3))) else (none)) = some r := by rw [if_pos rfl] at H; exact H
    clear H; have H := H1; clear H1
    by_cases c8 : 0 ≤ a0_1
    ·rw [if_pos c8] at H; have dO := eq_true c8; have dP : decide (0 ≤ a0_1) = true := decide_eq_true c8; clear c8; obtain ⟨ji9, hji9⟩ : ∃ j_ : Int, (shl .i64 1 a0_1) = j_ := ⟨_, rfl⟩
     replace H : ((spec_SetIn.f a0_2 (wrap64 ((ji9) - 1))).bind fun au => (if au = true then (spec_AutoOk.j0 k (decide ((l0_3.length : Int) > 2000)) a0_0 a0_1 a0_2 l0_3) else (spec_AutoOk.j0 k true a0_0 a0_1 a0_2 l0_3))) = some r := by first | (rw [hji9] at H; exact H) | (simp only [hji9] at H ⊢; exact H)
     (try rw [hji9] at A4)
     (try rw [hji9] at A6)
     have hji9_ : (IntKind.i64.wrap (1 * 2 ^ min a0_1.toNat 64)) = ji9 := hji9; have hji9z : a0_1 ≤ 64 → (IntKind.i64.wrap (1 * 2 ^ a0_1.toNat)) = ji9 := shl_small hji9
     have hji9u : (IntKind.i64.wrap (2 ^ min a0_1.toNat 64)) = ji9 := by have h_ := hji9_; rw [Int.one_mul] at h_; exact h_
     have hji9v : a0_1 ≤ 64 → (IntKind.i64.wrap (2 ^ a0_1.toNat)) = ji9 := fun hle_ => by have h_ := hji9z hle_; rw [Int.one_mul] at h_; exact h_
     have hji9y : (wrap64 (1 * 2 ^ min a0_1.toNat 64)) = ji9 := (i64_w _).symm.trans hji9_; have hji9x : a0_1 ≤ 64 → (wrap64 (1 * 2 ^ a0_1.toNat)) = ji9 := fun h_ => (i64_w _).symm.trans (hji9z h_); replace H := bI H; obtain ⟨au, aY, H⟩ := H; replace H : (if au = true then (spec_AutoOk.j0 k (decide ((l0_3.length : Int) > 2000)) a0_0 a0_1 a0_2 l0_3) else (spec_AutoOk.j0 k true a0_0 a0_1 a0_2 l0_3)) = some r := H; have bi := Aside0.mk aY; clear aY
     by_cases aE : au = true
     ·subst aE
      have H1 : (spec_AutoOk.j0 k (decide ((l0_3.length : Int) > 2000)) a0_0 a0_1 a0_2 l0_3) = some r := by rw [if_pos rfl] at H; exact H
      clear H; have H := H1; clear H1; have H' := Aside0.mk H; clear H
      try go_wp2
      replace aa := Aside0.mk (blk_drew aa.out); replace HB := Aside0.mk (below_drew1 HB.out); refine start_ (n := 26) (S := fun w' => w'.cell? ⟨ad, 0, none⟩ = some (.int .i64 a0_0) ∧ w'.cell? ⟨ad, 1, none⟩ = some (.int .i64 a0_1) ∧ w'.cell? ⟨ad, 2, none⟩ = some (.int .i64 a0_2) ∧ w'.cell? ⟨ad, 3, none⟩ = some (.slice A0_3 l0_3.length c0_3)) (ds := []) bl0 (by kernel_rfl) rfl rfl ⟨b1 aa 0, b1 aa 1, b1 aa 2, b1 aa 3⟩ (fun hHeld => ?_); refine with_tabW spec_AutoOk.tab1 spec_AutoOk.bits1 (fun HT_ HW_ => ?_); generalize w3.drew = dQ at aa HB hHeld ⊢
      refine pv_ 0 (some 5) bl1 HT_ ?_
      refine tk_ 1 (some 6) bl2 HT_ HW_ hHeld ?_
      refine on_ 2 (some 7) bl3 HT_ (fun K hK => ?_); refine gs_ Try.func31 #[.int .i64 a0_0, .int .i64 1, .int .i64 8] ?_
      with_reducible refine (spec_l1In.calls a0_0 1 8 true _ A4.out).mono ?_
      rintro e w' ⟨rfl, ⟨nd, rfl⟩⟩; refine ⟨_, rfl, ?_⟩; refine hK.out _ _ ⟨b1 aa 0, b1 aa 1, b1 aa 2, b1 aa 3⟩ (fun hHeld => ?_); clear hK K; refine nr_ (some 7) ?_
      refine pv_ 3 (some 8) bl4 HT_ ?_
      refine pv_ 4 (some 9) bl5 HT_ ?_
      refine pv_ 5 (some 10) bl6 HT_ ?_
      refine tk_ 6 (some 11) bl7 HT_ HW_ hHeld ?_
      refine on_ 7 (some 12) bl8 HT_ (fun K hK => ?_); refine gs_ Try.func31 #[.int .i64 a0_1, .int .i64 0, .int .i64 31] ?_
      with_reducible refine (spec_l1In.calls a0_1 0 31 true _ A6.out).mono ?_
      rintro e w' ⟨rfl, ⟨nd, rfl⟩⟩; refine ⟨_, rfl, ?_⟩; refine hK.out _ _ ⟨b1 aa 0, b1 aa 1, b1 aa 2, b1 aa 3⟩ (fun hHeld => ?_); clear hK K; refine nr_ (some 12) ?_
      refine pv_ 8 (some 13) bl9 HT_ ?_
      refine pv_ 9 (some 14) bl10 HT_ ?_
      refine pv_ 10 (some 15) bl11 HT_ ?_
      refine pv_ 11 (some 16) bl12 HT_ ?_
      refine pv_ 13 (some 18) bl13 HT_ ?_
      refine tk_ 12 (some 17) bl14 HT_ HW_ hHeld ?_
      refine tk_ 14 (some 19) bl15 HT_ HW_ hHeld ?_
      refine pv_ 15 (some 20) bl16 HT_ ?_
      refine pv_ 16 (some 21) bl17 HT_ ?_
      refine on_ 17 (some 22) bl18 HT_ (fun K hK => ?_); refine goes_ Try.func32 (by kernel_rfl) rfl #[.int .i64 a0_2, .int .i64 (wrap64 ((ji9) - 1))] (by rfl) rfl rfl (by (try simp only [m3]); first | done | (simp only [hji9]; rfl) | rfl | (simp only [d2]; rfl)) ?_
      with_reducible refine (spec_SetIn.calls a0_2 (wrap64 ((ji9) - 1)) true _ bi.out).mono ?_
      rintro e w' ⟨rfl, ⟨nd, rfl⟩⟩; refine ⟨_, rfl, ?_⟩; refine hK.out _ _ ⟨b1 aa 0, b1 aa 1, b1 aa 2, b1 aa 3⟩ (fun hHeld => ?_); clear hK K; refine nr_ (some 22) ?_
      refine pv_ 18 (some 23) bl19 HT_ ?_
      refine pv_ 19 (some 24) bl20 HT_ ?_
      refine pv_ 20 (some 25) bl21 HT_ ?_
      refine pv_ 21 (some 26) bl22 HT_ ?_
      refine tk_ 22 (some 27) bl23 HT_ HW_ hHeld ?_
      refine pv_ 23 (some 28) bl24 HT_ ?_
      refine pv_ 24 (some 29) bl25 HT_ ?_
      refine pv_ 25 (some 30) bl26 HT_ ?_
      refine done_ (done_of HT_.out (by kernel_rfl)) ?_
      try go_wp2
      (first | go_meet | ((try simp only [← hji9]); go_meet))
      case rel => exact ⟨_, (decide ((l0_3.length : Int) > 2000)), vv, (by first | exact H' | (have h_ := H'; (try simp only [← hji9] at h_); (try simp only [← hji9]); exact h_)), ⟨by first | omega | exact Nat.le_refl _⟩, ⟨zB aa.out⟩, ⟨zS HB.out⟩⟩
     ·replace aE := Bool.eq_false_iff.mpr aE; subst aE
      have H1 : (spec_AutoOk.j0 k true a0_0 a0_1 a0_2 l0_3) = some r := by rw [if_neg (show ¬ (false = true) by decide)] at H; exact H
      clear H; have H := H1; clear H1; have H' := Aside0.mk H; clear H
      try go_wp2
      replace aa := Aside0.mk (blk_drew aa.out); replace HB := Aside0.mk (below_drew1 HB.out); refine start_ (n := 26) (S := fun w' => w'.cell? ⟨ad, 0, none⟩ = some (.int .i64 a0_0) ∧ w'.cell? ⟨ad, 1, none⟩ = some (.int .i64 a0_1) ∧ w'.cell? ⟨ad, 2, none⟩ = some (.int .i64 a0_2) ∧ w'.cell? ⟨ad, 3, none⟩ = some (.slice A0_3 l0_3.length c0_3)) (ds := []) bl0 (by kernel_rfl) rfl rfl ⟨b1 aa 0, b1 aa 1, b1 aa 2, b1 aa 3⟩ (fun hHeld => ?_); refine with_tabW spec_AutoOk.tab1 spec_AutoOk.bits1 (fun HT_ HW_ => ?_); generalize w3.drew = dR at aa HB hHeld ⊢
      refine pv_ 0 (some 5) bl1 HT_ ?_
      refine tk_ 1 (some 6) bl2 HT_ HW_ hHeld ?_
      refine on_ 2 (some 7) bl3 HT_ (fun K hK => ?_); refine gs_ Try.func31 #[.int .i64 a0_0, .int .i64 1, .int .i64 8] ?_
      with_reducible refine (spec_l1In.calls a0_0 1 8 true _ A4.out).mono ?_
      rintro e w' ⟨rfl, ⟨nd, rfl⟩⟩; refine ⟨_, rfl, ?_⟩; refine hK.out _ _ ⟨b1 aa 0, b1 aa 1, b1 aa 2, b1 aa 3⟩ (fun hHeld => ?_); clear hK K; refine nr_ (some 7) ?_
      refine pv_ 3 (some 8) bl4 HT_ ?_
      refine pv_ 4 (some 9) bl5 HT_ ?_
      refine pv_ 5 (some 10) bl6 HT_ ?_
      refine tk_ 6 (some 11) bl7 HT_ HW_ hHeld ?_
      refine on_ 7 (some 12) bl8 HT_ (fun K hK => ?_); refine gs_ Try.func31 #[.int .i64 a0_1, .int .i64 0, .int .i64 31] ?_
      with_reducible refine (spec_l1In.calls a0_1 0 31 true _ A6.out).mono ?_
      rintro e w' ⟨rfl, ⟨nd, rfl⟩⟩; refine ⟨_, rfl, ?_⟩; refine hK.out _ _ ⟨b1 aa 0, b1 aa 1, b1 aa 2, b1 aa 3⟩ (fun hHeld => ?_); clear hK K; refine nr_ (some 12) ?_
      refine pv_ 8 (some 13) bl9 HT_ ?_
      refine pv_ 9 (some 14) bl10 HT_ ?_
      refine pv_ 10 (some 15) bl11 HT_ ?_
      refine pv_ 11 (some 16) bl12 HT_ ?_
      refine pv_ 13 (some 18) bl13 HT_ ?_
      refine tk_ 12 (some 17) bl14 HT_ HW_ hHeld ?_
      refine tk_ 14 (some 19) bl15 HT_ HW_ hHeld ?_
      refine pv_ 15 (some 20) bl16 HT_ ?_
      refine pv_ 16 (some 21) bl17 HT_ ?_
      refine on_ 17 (some 22) bl18 HT_ (fun K hK => ?_); refine goes_ Try.func32 (by kernel_rfl) rfl #[.int .i64 a0_2, .int .i64 (wrap64 ((ji9) - 1))] (by rfl) rfl rfl (by (try simp only [m3]); first | done | (simp only [hji9]; rfl) | rfl | (simp only [d2]; rfl)) ?_
      with_reducible refine (spec_SetIn.calls a0_2 (wrap64 ((ji9) - 1)) false _ bi.out).mono ?_
      rintro e w' ⟨rfl, ⟨nd, rfl⟩⟩; refine ⟨_, rfl, ?_⟩; refine hK.out _ _ ⟨b1 aa 0, b1 aa 1, b1 aa 2, b1 aa 3⟩ (fun hHeld => ?_); clear hK K; refine nr_ (some 22) ?_
      refine pv_ 18 (some 23) bl19 HT_ ?_
      refine pv_ 19 (some 24) bl20 HT_ ?_
      refine pv_ 20 (some 25) bl21 HT_ ?_
      refine pn_ 21 (some 26) bl22 HT_ ?_
      refine pn_ 22 (some 27) bl23 HT_ ?_
      refine pn_ 23 (some 28) bl24 HT_ ?_
      refine pn_ 24 (some 29) bl25 HT_ ?_
      refine pv_ 25 (some 30) bl26 HT_ ?_
      refine done_ (done_of HT_.out (by kernel_rfl)) ?_
      try go_wp2
      (first | go_meet | ((try simp only [← hji9]); go_meet))
      case rel => exact ⟨_, (true), vv, (by first | exact H' | (have h_ := H'; (try simp only [← hji9] at h_); (try simp only [← hji9]); exact h_)), ⟨by first | omega | exact Nat.le_refl _⟩, ⟨zB aa.out⟩, ⟨zS HB.out⟩⟩
    ·rw [if_neg c8] at H; exact absurd H (by simp)
   ·replace c7 := Bool.eq_false_iff.mpr c7; subst c7
    have H1 : (spec_AutoOk.j0 k true a0_0 a0_1 a0_2 l0_3) = some r := by rw [if_neg (show ¬ (false = true) by decide)] at H; exact H
    clear H; have H := H1; clear H1; have H' := Aside0.mk H; clear H
    try go_wp2
    replace aa := Aside0.mk (blk_drew aa.out); replace HB := Aside0.mk (below_drew1 HB.out); refine start_ (n := 26) (S := fun w' => w'.cell? ⟨ad, 0, none⟩ = some (.int .i64 a0_0) ∧ w'.cell? ⟨ad, 1, none⟩ = some (.int .i64 a0_1) ∧ w'.cell? ⟨ad, 2, none⟩ = some (.int .i64 a0_2) ∧ w'.cell? ⟨ad, 3, none⟩ = some (.slice A0_3 l0_3.length c0_3)) (ds := []) bl0 (by kernel_rfl) rfl rfl ⟨b1 aa 0, b1 aa 1, b1 aa 2, b1 aa 3⟩ (fun hHeld => ?_); refine with_tabW spec_AutoOk.tab1 spec_AutoOk.bits1 (fun HT_ HW_ => ?_); generalize w3.drew = dS at aa HB hHeld ⊢
    refine pv_ 0 (some 5) bl1 HT_ ?_
    refine tk_ 1 (some 6) bl2 HT_ HW_ hHeld ?_
    refine on_ 2 (some 7) bl3 HT_ (fun K hK => ?_); refine gs_ Try.func31 #[.int .i64 a0_0, .int .i64 1, .int .i64 8] ?_
    with_reducible refine (spec_l1In.calls a0_0 1 8 true _ A4.out).mono ?_
    rintro e w' ⟨rfl, ⟨nd, rfl⟩⟩; refine ⟨_, rfl, ?_⟩; refine hK.out _ _ ⟨b1 aa 0, b1 aa 1, b1 aa 2, b1 aa 3⟩ (fun hHeld => ?_); clear hK K; refine nr_ (some 7) ?_
    refine pv_ 3 (some 8) bl4 HT_ ?_
    refine pv_ 4 (some 9) bl5 HT_ ?_
    refine pv_ 5 (some 10) bl6 HT_ ?_
    refine tk_ 6 (some 11) bl7 HT_ HW_ hHeld ?_
    refine on_ 7 (some 12) bl8 HT_ (fun K hK => ?_); refine gs_ Try.func31 #[.int .i64 a0_1, .int .i64 0, .int .i64 31] ?_
    with_reducible refine (spec_l1In.calls a0_1 0 31 false _ A6.out).mono ?_
    rintro e w' ⟨rfl, ⟨nd, rfl⟩⟩; refine ⟨_, rfl, ?_⟩; refine hK.out _ _ ⟨b1 aa 0, b1 aa 1, b1 aa 2, b1 aa 3⟩ (fun hHeld => ?_); clear hK K; refine nr_ (some 12) ?_
    refine pv_ 8 (some 13) bl9 HT_ ?_
    refine pv_ 9 (some 14) bl10 HT_ ?_
    refine pv_ 10 (some 15) bl11 HT_ ?_
    refine pn_ 11 (some 16) bl12 HT_ ?_
    refine pn_ 12 (some 17) bl27 HT_ ?_
    refine pn_ 13 (some 18) bl14 HT_ ?_
    refine pn_ 14 (some 19) bl15 HT_ ?_
    refine pn_ 15 (some 20) bl16 HT_ ?_
    refine pn_ 16 (some 21) bl17 HT_ ?_
    refine pn_ 17 (some 22) bl18 HT_ ?_
    refine pn_ 18 (some 23) bl19 HT_ ?_
    refine pv_ 19 (some 24) bl20 HT_ ?_
    refine pv_ 20 (some 25) bl21 HT_ ?_
    refine pn_ 21 (some 26) bl22 HT_ ?_
    refine pn_ 22 (some 27) bl23 HT_ ?_
    refine pn_ 23 (some 28) bl24 HT_ ?_
    refine pn_ 24 (some 29) bl25 HT_ ?_
    refine pv_ 25 (some 30) bl26 HT_ ?_
    refine done_ (done_of HT_.out (by kernel_rfl)) ?_
    try go_wp2
    go_meet
    case rel => exact ⟨_, (true), vv, H', ⟨by first | omega | exact Nat.le_refl _⟩, ⟨zB aa.out⟩, ⟨zS HB.out⟩⟩
  ·replace c5 := Bool.eq_false_iff.mpr c5; subst c5
   have H1 : (spec_AutoOk.j0 k true a0_0 a0_1 a0_2 l0_3) = some r := by rw [if_neg (show ¬ (false = true) by decide)] at H; exact H
   clear H; have H := H1; clear H1; have H' := Aside0.mk H; clear H
   try go_wp2
   replace aa := Aside0.mk (blk_drew aa.out); replace HB := Aside0.mk (below_drew1 HB.out); refine start_ (n := 26) (S := fun w' => w'.cell? ⟨ad, 0, none⟩ = some (.int .i64 a0_0) ∧ w'.cell? ⟨ad, 1, none⟩ = some (.int .i64 a0_1) ∧ w'.cell? ⟨ad, 2, none⟩ = some (.int .i64 a0_2) ∧ w'.cell? ⟨ad, 3, none⟩ = some (.slice A0_3 l0_3.length c0_3)) (ds := []) bl0 (by kernel_rfl) rfl rfl ⟨b1 aa 0, b1 aa 1, b1 aa 2, b1 aa 3⟩ (fun hHeld => ?_); refine with_tabW spec_AutoOk.tab1 spec_AutoOk.bits1 (fun HT_ HW_ => ?_); generalize w3.drew = dT at aa HB hHeld ⊢
   refine pv_ 0 (some 5) bl1 HT_ ?_
   refine tk_ 1 (some 6) bl2 HT_ HW_ hHeld ?_
   refine on_ 2 (some 7) bl3 HT_ (fun K hK => ?_); refine gs_ Try.func31 #[.int .i64 a0_0, .int .i64 1, .int .i64 8] ?_
   with_reducible refine (spec_l1In.calls a0_0 1 8 false _ A4.out).mono ?_
   rintro e w' ⟨rfl, ⟨nd, rfl⟩⟩; refine ⟨_, rfl, ?_⟩; refine hK.out _ _ ⟨b1 aa 0, b1 aa 1, b1 aa 2, b1 aa 3⟩ (fun hHeld => ?_); clear hK K; refine nr_ (some 7) ?_
   refine pv_ 3 (some 8) bl4 HT_ ?_
   refine pv_ 4 (some 9) bl5 HT_ ?_
   refine pn_ 5 (some 10) bl6 HT_ ?_
   refine pn_ 6 (some 11) bl7 HT_ ?_
   refine pn_ 7 (some 12) bl8 HT_ ?_
   refine pn_ 8 (some 13) bl9 HT_ ?_
   refine pv_ 9 (some 14) bl10 HT_ ?_
   refine pv_ 10 (some 15) bl11 HT_ ?_
   refine pn_ 11 (some 16) bl12 HT_ ?_
   refine pn_ 12 (some 17) bl27 HT_ ?_
   refine pn_ 13 (some 18) bl14 HT_ ?_
   refine pn_ 14 (some 19) bl15 HT_ ?_
   refine pn_ 15 (some 20) bl16 HT_ ?_
   refine pn_ 16 (some 21) bl17 HT_ ?_
   refine pn_ 17 (some 22) bl18 HT_ ?_
   refine pn_ 18 (some 23) bl19 HT_ ?_
   refine pv_ 19 (some 24) bl20 HT_ ?_
   refine pv_ 20 (some 25) bl21 HT_ ?_
   refine pn_ 21 (some 26) bl22 HT_ ?_
   refine pn_ 22 (some 27) bl23 HT_ ?_
   refine pn_ 23 (some 28) bl24 HT_ ?_
   refine pn_ 24 (some 29) bl25 HT_ ?_
   refine pv_ 25 (some 30) bl26 HT_ ?_
   refine done_ (done_of HT_.out (by kernel_rfl)) ?_
   try go_wp2
   go_meet
   case rel => exact ⟨_, (true), vv, H', ⟨by first | omega | exact Nat.le_refl _⟩, ⟨zB aa.out⟩, ⟨zS HB.out⟩⟩
 case rest =>
  clear HC2
  try clear c1
  try clear p2
  try clear c3
  try clear c5
  try clear p6
  try clear c7
  try clear c8
  try clear aE
  obtain ⟨kq, aC, rfl, HA, HJ1, aa, HB⟩ := hcut
  cases kq with
  | zero => exact absurd HA.out (by simp [spec_AutoOk.j0])
  | succ kj1 =>
   have H := HA.out; clear HA; simp only [spec_AutoOk.j0] at H
   by_cases aJ : aC = true
   ·subst aJ
    have H1 : (some false) = some r := by rw [if_pos rfl] at H; exact H
    clear H; have H := H1; clear H1; obtain rfl := Option.some.inj H
    go_wp2
    go_ret; exact ⟨vw, zS HB.out⟩
   ·replace aJ := Bool.eq_false_iff.mpr aJ; subst aJ
    have H1 : (spec_AutoOk.l0 kj1 0 a0_0 a0_1 a0_2 l0_3) = some r := by rw [if_neg (show ¬ (false = true) by decide)] at H; exact H
    clear H; have H := H1; clear H1; have H' := Aside0.mk H; clear H
    go_wp2
    go_loopg [3] kj1 (fun kq v3 w' => ∃ (x3_2 : Int), v3 = .int .i64 x3_2 ∧ Aside0 (spec_AutoOk.l0 kq x3_2 a0_0 a0_1 a0_2 l0_3 = some r) ∧ Aside0 (kq ≤ kj1) ∧ Aside0 (w'.heap[ad]? = some (.cells #[.int .i64 a0_0, .int .i64 a0_1, .int .i64 a0_2, (.slice A0_3 l0_3.length c0_3)] 28 (0, 0))) ∧ Aside0 (Below w.heap.size w w'))
    case atStart => exact ⟨(0), vv, H', ⟨Nat.le_refl _⟩, ⟨zB aa.out⟩, ⟨zS HB.out⟩⟩
    case round =>
     clear H'
     try clear c1
     try clear p2
     try clear c3
     try clear c5
     try clear p6
     try clear c7
     try clear c8
     try clear aE
     try clear aJ
     try clear p2
     try clear p6
     obtain ⟨x3_2, rfl, HA, HK2, aa, HB⟩ := hrel
     cases gk with
     | zero => exact absurd HA.out (by simp [spec_AutoOk.l0])
     | succ k2 =>
      have H := HA.out; clear HA; simp only [spec_AutoOk.l0] at H
      by_cases aF : x3_2 < (l0_3.length : Int)
      ·rw [if_pos aF] at H; have be : decide (x3_2 < (l0_3.length : Int)) = true := decide_eq_true aF; clear aF
       by_cases aL : 0 ≤ x3_2
       ·rw [if_pos aL] at H; have dz : decide (0 ≤ x3_2) = true := decide_eq_true aL; clear aL; replace H := bI H; obtain ⟨aZ, ba, H⟩ := H; replace H : (if aZ = true then ((spec_l4State.f ((rd_T48 l0_3 x3_2).f2) a0_1).bind fun aB => (if aB = true then ((spec_l1In.f ((rd_T48 l0_3 x3_2).f1) 0 (wrap64 (a0_0 - 1))).bind fun aw => (if aw = true then (if x3_2 > 0 then (if 0 ≤ (wrap64 (x3_2 - 1)) then (if (wrap64 (x3_2 - 1)) < (l0_3.length : Int) then ((spec_l4Less.f ((rd_T48 l0_3 (wrap64 (x3_2 - 1))).f0) ((rd_T48 l0_3 (wrap64 (x3_2 - 1))).f1) ((rd_T48 l0_3 (wrap64 (x3_2 - 1))).f2) ((rd_T48 l0_3 (wrap64 (x3_2 - 1))).f3) ((rd_T48 l0_3 x3_2).f0) ((rd_T48 l0_3 x3_2).f1) ((rd_T48 l0_3 x3_2).f2) ((rd_T48 l0_3 x3_2).f3)).bind fun ar => (if ar = true then (spec_AutoOk.l0 k2 (wrap64 (x3_2 + 1)) a0_0 a0_1 a0_2 l0_3) else (some false))) else (none)) else (none)) else (spec_AutoOk.l0 k2 (wrap64 (x3_2 + 1)) a0_0 a0_1 a0_2 l0_3)) else (some false))) else (some false))) else (some false)) = some r := H; have aD := Aside0.mk ba; clear ba
        by_cases aM : aZ = true
        ·subst aM
         have H1 : ((spec_l4State.f ((rd_T48 l0_3 x3_2).f2) a0_1).bind fun aB => (if aB = true then ((spec_l1In.f ((rd_T48 l0_3 x3_2).f1) 0 (wrap64 (a0_0 - 1))).bind fun aw => (if aw = true then (if x3_2 > 0 then (if 0 ≤ (wrap64 (x3_2 - 1)) then (if (wrap64 (x3_2 - 1)) < (l0_3.length : Int) then ((spec_l4Less.f ((rd_T48 l0_3 (wrap64 (x3_2 - 1))).f0) ((rd_T48 l0_3 (wrap64 (x3_2 - 1))).f1) ((rd_T48 l0_3 (wrap64 (x3_2 - 1))).f2) ((rd_T48 l0_3 (wrap64 (x3_2 - 1))).f3) ((rd_T48 l0_3 x3_2).f0) ((rd_T48 l0_3 x3_2).f1) ((rd_T48 l0_3 x3_2).f2) ((rd_T48 l0_3 x3_2).f3)).bind fun ar => (if ar = true then (spec_AutoOk.l0 k2 (wrap64 (x3_2 + 1)) a0_0 a0_1 a0_2 l0_3) else (some false))) else (none)) else (none)) else (spec_AutoOk.l0 k2 (wrap64 (x3_2 + 1)) a0_0 a0_1 a0_2 l0_3)) else (some false))) else (some false))) = some r := by rw [if_pos rfl] at H; exact H
         clear H; have H := H1; clear H1; replace H := bI H; obtain ⟨aB, bb, H⟩ := H; replace H : (if aB = true then ((spec_l1In.f ((rd_T48 l0_3 x3_2).f1) 0 (wrap64 (a0_0 - 1))).bind fun aw => (if aw = true then (if x3_2 > 0 then (if 0 ≤ (wrap64 (x3_2 - 1)) then (if (wrap64 (x3_2 - 1)) < (l0_3.length : Int) then ((spec_l4Less.f ((rd_T48 l0_3 (wrap64 (x3_2 - 1))).f0) ((rd_T48 l0_3 (wrap64 (x3_2 - 1))).f1) ((rd_T48 l0_3 (wrap64 (x3_2 - 1))).f2) ((rd_T48 l0_3 (wrap64 (x3_2 - 1))).f3) ((rd_T48 l0_3 x3_2).f0) ((rd_T48 l0_3 x3_2).f1) ((rd_T48 l0_3 x3_2).f2) ((rd_T48 l0_3 x3_2).f3)).bind fun ar => (if ar = true then (spec_AutoOk.l0 k2 (wrap64 (x3_2 + 1)) a0_0 a0_1 a0_2 l0_3) else (some false))) else (none)) else (none)) else (spec_AutoOk.l0 k2 (wrap64 (x3_2 + 1)) a0_0 a0_1 a0_2 l0_3)) else (some false))) else (some false)) = some r := H; have aG := Aside0.mk bb; clear bb
         by_cases aN : aB = true
         ·subst aN
          have H1 : ((spec_l1In.f ((rd_T48 l0_3 x3_2).f1) 0 (wrap64 (a0_0 - 1))).bind fun aw => (if aw = true then (if x3_2 > 0 then (if 0 ≤ (wrap64 (x3_2 - 1)) then (if (wrap64 (x3_2 - 1)) < (l0_3.length : Int) then ((spec_l4Less.f ((rd_T48 l0_3 (wrap64 (x3_2 - 1))).f0) ((rd_T48 l0_3 (wrap64 (x3_2 - 1))).f1) ((rd_T48 l0_3 (wrap64 (x3_2 - 1))).f2) ((rd_T48 l0_3 (wrap64 (x3_2 - 1))).f3) ((rd_T48 l0_3 x3_2).f0) ((rd_T48 l0_3 x3_2).f1) ((rd_T48 l0_3 x3_2).f2) ((rd_T48 l0_3 x3_2).f3)).bind fun ar => (if ar = true then (spec_AutoOk.l0 k2 (wrap64 (x3_2 + 1)) a0_0 a0_1 a0_2 l0_3) else (some false))) else (none)) else (none)) else (spec_AutoOk.l0 k2 (wrap64 (x3_2 + 1)) a0_0 a0_1 a0_2 l0_3)) else (some false))) = some r := by rw [if_pos rfl] at H; exact H
          clear H; have H := H1; clear H1; replace H := bI H; obtain ⟨aw, bc, H⟩ := H; replace H : (if aw = true then (if x3_2 > 0 then (if 0 ≤ (wrap64 (x3_2 - 1)) then (if (wrap64 (x3_2 - 1)) < (l0_3.length : Int) then ((spec_l4Less.f ((rd_T48 l0_3 (wrap64 (x3_2 - 1))).f0) ((rd_T48 l0_3 (wrap64 (x3_2 - 1))).f1) ((rd_T48 l0_3 (wrap64 (x3_2 - 1))).f2) ((rd_T48 l0_3 (wrap64 (x3_2 - 1))).f3) ((rd_T48 l0_3 x3_2).f0) ((rd_T48 l0_3 x3_2).f1) ((rd_T48 l0_3 x3_2).f2) ((rd_T48 l0_3 x3_2).f3)).bind fun ar => (if ar = true then (spec_AutoOk.l0 k2 (wrap64 (x3_2 + 1)) a0_0 a0_1 a0_2 l0_3) else (some false))) else (none)) else (none)) else (spec_AutoOk.l0 k2 (wrap64 (x3_2 + 1)) a0_0 a0_1 a0_2 l0_3)) else (some false)) = some r := H; have aK := Aside0.mk bc; clear bc
          by_cases aO : aw = true
          ·subst aO
           have H1 : (if x3_2 > 0 then (if 0 ≤ (wrap64 (x3_2 - 1)) then (if (wrap64 (x3_2 - 1)) < (l0_3.length : Int) then ((spec_l4Less.f ((rd_T48 l0_3 (wrap64 (x3_2 - 1))).f0) ((rd_T48 l0_3 (wrap64 (x3_2 - 1))).f1) ((rd_T48 l0_3 (wrap64 (x3_2 - 1))).f2) ((rd_T48 l0_3 (wrap64 (x3_2 - 1))).f3) ((rd_T48 l0_3 x3_2).f0) ((rd_T48 l0_3 x3_2).f1) ((rd_T48 l0_3 x3_2).f2) ((rd_T48 l0_3 x3_2).f3)).bind fun ar => (if ar = true then (spec_AutoOk.l0 k2 (wrap64 (x3_2 + 1)) a0_0 a0_1 a0_2 l0_3) else (some false))) else (none)) else (none)) else (spec_AutoOk.l0 k2 (wrap64 (x3_2 + 1)) a0_0 a0_1 a0_2 l0_3)) = some r := by rw [if_pos rfl] at H; exact H
           clear H; have H := H1; clear H1
           by_cases aH : x3_2 > 0
           ·rw [if_pos aH] at H; have bf : decide (0 < x3_2) = true := decide_eq_true aH; clear aH; obtain ⟨ji26, hji26⟩ : ∃ j_ : Int, (wrap64 (x3_2 - 1)) = j_ := ⟨_, rfl⟩
            replace H : (if 0 ≤ (ji26) then (if (ji26) < (l0_3.length : Int) then ((spec_l4Less.f ((rd_T48 l0_3 (ji26)).f0) ((rd_T48 l0_3 (ji26)).f1) ((rd_T48 l0_3 (ji26)).f2) ((rd_T48 l0_3 (ji26)).f3) ((rd_T48 l0_3 x3_2).f0) ((rd_T48 l0_3 x3_2).f1) ((rd_T48 l0_3 x3_2).f2) ((rd_T48 l0_3 x3_2).f3)).bind fun ar => (if ar = true then (spec_AutoOk.l0 k2 (wrap64 (x3_2 + 1)) a0_0 a0_1 a0_2 l0_3) else (some false))) else (none)) else (none)) = some r := by first | (rw [hji26] at H; exact H) | (simp only [hji26] at H ⊢; exact H)
            (try rw [hji26] at aD)
            (try rw [hji26] at aG)
            (try rw [hji26] at aK)
            have hji26w : (IntKind.i64.wrap (x3_2 - 1)) = ji26 := (i64_w _).trans hji26
            by_cases aP : 0 ≤ (ji26)
            ·rw [if_pos aP] at H; have dA : decide (0 ≤ (ji26)) = true := decide_eq_true aP; clear aP
             by_cases aQ : (ji26) < (l0_3.length : Int)
             ·rw [if_pos aQ] at H; have dB : decide ((ji26) < (l0_3.length : Int)) = true := decide_eq_true aQ; clear aQ; replace H := bI H; obtain ⟨ar, bd, H⟩ := H; replace H : (if ar = true then (spec_AutoOk.l0 k2 (wrap64 (x3_2 + 1)) a0_0 a0_1 a0_2 l0_3) else (some false)) = some r := H; have bj := Aside0.mk bd; clear bd
              by_cases aR : ar = true
              ·subst aR
               have H1 : (spec_AutoOk.l0 k2 (wrap64 (x3_2 + 1)) a0_0 a0_1 a0_2 l0_3) = some r := by rw [if_pos rfl] at H; exact H
               clear H; have H := H1; clear H1; have H' := Aside0.mk H; clear H; obtain ⟨bk, bl, bm, bn, bo, bp, bq, br⟩ := cz4 aa; have aj : 0 ≤ (x3_2 : Int) := oD; have q131 : x3_2 < (l0_3.length : Int) := oD; obtain ⟨ad131, e131, ae, af, ag, ah⟩ := at_T48 HR0_3.out x3_2 aj q131
               cases e131
               replace ae := ct_ HB ae; replace af := ct_ HB af; replace ag := ct_ HB ag; replace ah := ct_ HB ah; replace aj := eq_true aj; replace q131 := eq_true q131
               try go_wp2_with (first | ((with_reducible refine gate_dst (N := 4) rfl ?_); (try (refine gate_guard (by rfl) ?_; dsimp only)); refine bx_ 4 #[.int .i64 0, .int .i64 0, .int .i64 0, .bool false] 48 ?_; intro ac hg aS hbox hb; have ab := Aside0.mk (hbox); have az := xG HB hg; have aA := xG HB hg; replace HB := xS HB hb; have av := xN aa hg; have ai := xM aa hg; replace aa := xB aa hb; clear hb hbox hg; obtain ⟨dC, dD⟩ := nn ai; obtain ⟨bs, bt, bu, bv, bw, bx, bz, bA⟩ := cz4 ab))
               have ak : Aside0 (((((aS.setCell ⟨ac, 0, none⟩ (.int .i64 ((rd_T48 l0_3 x3_2).f0))).setCell ⟨ac, 1, none⟩ (.int .i64 ((rd_T48 l0_3 x3_2).f1))).setCell ⟨ac, 2, none⟩ (.int .i64 ((rd_T48 l0_3 x3_2).f2))).setCell ⟨ac, 3, none⟩ (.bool ((rd_T48 l0_3 x3_2).f3))).heap[ad]? = some (.cells #[.int .i64 a0_0, .int .i64 a0_1, .int .i64 a0_2, .slice (some ad131) l0_3.length c0_3] 28 (0, 0))) := ⟨zB aa.out⟩; have al : Aside0 (((((aS.setCell ⟨ac, 0, none⟩ (.int .i64 ((rd_T48 l0_3 x3_2).f0))).setCell ⟨ac, 1, none⟩ (.int .i64 ((rd_T48 l0_3 x3_2).f1))).setCell ⟨ac, 2, none⟩ (.int .i64 ((rd_T48 l0_3 x3_2).f2))).setCell ⟨ac, 3, none⟩ (.bool ((rd_T48 l0_3 x3_2).f3))).heap[ac]? = some (.cells #[.int .i64 ((rd_T48 l0_3 x3_2).f0), .int .i64 ((rd_T48 l0_3 x3_2).f1), .int .i64 ((rd_T48 l0_3 x3_2).f2), .bool ((rd_T48 l0_3 x3_2).f3)] 48 (0, 0))) := ⟨by (with_reducible repeat (first | refine blk_drewN ?_ _ | refine blk_drew ?_ | refine blk_alloc ?_ _)); refine blk_put (cs := #[.int .i64 ((rd_T48 l0_3 x3_2).f0), .int .i64 ((rd_T48 l0_3 x3_2).f1), .int .i64 ((rd_T48 l0_3 x3_2).f2), .bool false]) ?_ 3 _ rfl; (with_reducible repeat (first | refine blk_drewN ?_ _ | refine blk_drew ?_ | refine blk_alloc ?_ _)); refine blk_put (cs := #[.int .i64 ((rd_T48 l0_3 x3_2).f0), .int .i64 ((rd_T48 l0_3 x3_2).f1), .int .i64 0, .bool false]) ?_ 2 _ rfl; (with_reducible repeat (first | refine blk_drewN ?_ _ | refine blk_drew ?_ | refine blk_alloc ?_ _)); refine blk_put (cs := #[.int .i64 ((rd_T48 l0_3 x3_2).f0), .int .i64 0, .int .i64 0, .bool false]) ?_ 1 _ rfl; (with_reducible repeat (first | refine blk_drewN ?_ _ | refine blk_drew ?_ | refine blk_alloc ?_ _)); refine blk_put (cs := #[.int .i64 0, .int .i64 0, .int .i64 0, .bool false]) ?_ 0 _ rfl; (with_reducible repeat (first | refine blk_drewN ?_ _ | refine blk_drew ?_ | refine blk_alloc ?_ _)); exact ab.out⟩; have am : Aside0 (Below w.heap.size w ((((aS.setCell ⟨ac, 0, none⟩ (.int .i64 ((rd_T48 l0_3 x3_2).f0))).setCell ⟨ac, 1, none⟩ (.int .i64 ((rd_T48 l0_3 x3_2).f1))).setCell ⟨ac, 2, none⟩ (.int .i64 ((rd_T48 l0_3 x3_2).f2))).setCell ⟨ac, 3, none⟩ (.bool ((rd_T48 l0_3 x3_2).f3)))) := ⟨zS HB.out⟩
               (try clear aa)
               (try clear ab)
               (try clear HB)
               generalize ((((aS.setCell ⟨ac, 0, none⟩ (.int .i64 ((rd_T48 l0_3 x3_2).f0))).setCell ⟨ac, 1, none⟩ (.int .i64 ((rd_T48 l0_3 x3_2).f1))).setCell ⟨ac, 2, none⟩ (.int .i64 ((rd_T48 l0_3 x3_2).f2))).setCell ⟨ac, 3, none⟩ (.bool ((rd_T48 l0_3 x3_2).f3))) = dq at ak al am ⊢; have aa := ak; have ab := al; have HB := am; clear ak al am; replace aa := Aside0.mk (blk_drew aa.out); replace ab := Aside0.mk (blk_drew ab.out); replace HB := Aside0.mk (below_drew1 HB.out); have ay : 0 ≤ ((ji26) : Int) := oD; have q136 : (ji26) < (l0_3.length : Int) := oD; obtain ⟨ad136, e136, an, ao, ap, aq⟩ := at_T48 HR0_3.out (ji26) ay q136; have hw136_3 := aq; have hw136_2 := ap; have hw136_1 := ao; have hw136_0 := an; obtain rfl : ad131 = ad136 := (by injection e136); replace an := ct_ HB an; replace ao := ct_ HB ao; replace ap := ct_ HB ap; replace aq := ct_ HB aq; replace ay := eq_true ay; replace q136 := eq_true q136; refine start_ (n := 38) (S := fun w' => w'.cell? ⟨ac, 0, none⟩ = some (.int .i64 ((rd_T48 l0_3 x3_2).f0)) ∧ w'.cell? ⟨ac, 1, none⟩ = some (.int .i64 ((rd_T48 l0_3 x3_2).f1)) ∧ w'.cell? ⟨ac, 2, none⟩ = some (.int .i64 ((rd_T48 l0_3 x3_2).f2)) ∧ w'.cell? ⟨ac, 3, none⟩ = some (.bool ((rd_T48 l0_3 x3_2).f3)) ∧ w'.cell? ⟨ad, 0, none⟩ = some (.int .i64 a0_0) ∧ w'.cell? ⟨ad, 1, none⟩ = some (.int .i64 a0_1) ∧ w'.cell? ⟨ad, 2, none⟩ = some (.int .i64 a0_2) ∧ w'.cell? ⟨ad, 3, none⟩ = some (.slice (some ad131) l0_3.length c0_3) ∧ w'.cell? (ad131.add (((ji26)).toNat * 4)) = some (.int .i64 ((rd_T48 l0_3 (ji26)).f0)) ∧ w'.cell? ⟨(ad131.add (((ji26)).toNat * 4)).block, (ad131.add (((ji26)).toNat * 4)).off + 1, none⟩ = some (.int .i64 ((rd_T48 l0_3 (ji26)).f1)) ∧ w'.cell? ⟨(ad131.add (((ji26)).toNat * 4)).block, (ad131.add (((ji26)).toNat * 4)).off + 2, none⟩ = some (.int .i64 ((rd_T48 l0_3 (ji26)).f2)) ∧ w'.cell? ⟨(ad131.add (((ji26)).toNat * 4)).block, (ad131.add (((ji26)).toNat * 4)).off + 3, none⟩ = some (.bool ((rd_T48 l0_3 (ji26)).f3))) (ds := []) bl28 (by kernel_rfl) rfl rfl ⟨b1 ab 0, b1 ab 1, b1 ab 2, b1 ab 3, b1 aa 0, b1 aa 1, b1 aa 2, b1 aa 3, (ct_ HB hw136_0), (ct_ HB hw136_1), (ct_ HB hw136_2), (ct_ HB hw136_3)⟩ (fun hHeld => ?_); refine with_tabW spec_AutoOk.tab7 spec_AutoOk.bits7 (fun HT_ HW_ => ?_)
               generalize dq.drew = dU at aa ab HB an ao ap aq hHeld ⊢
               refine pv_ 0 (some 43) bl29 HT_ ?_
               refine pv_ 2 (some 45) bl30 HT_ ?_
               refine tk_ 1 (some 44) bl31 HT_ HW_ hHeld ?_
               refine tk_ 3 (some 46) bl32 HT_ HW_ hHeld ?_
               refine on_ 4 (some 47) bl33 HT_ (fun K hK => ?_); refine gs_ Try.func33 #[.int .i64 ((rd_T48 l0_3 x3_2).f0), .int .i64 a0_1] ?_
               with_reducible refine (spec_l4State.calls ((rd_T48 l0_3 x3_2).f0) a0_1 true _ aD.out).mono ?_
               rintro e w' ⟨rfl, ⟨nd, rfl⟩⟩; refine ⟨_, rfl, ?_⟩; refine hK.out _ _ ⟨b1 ab 0, b1 ab 1, b1 ab 2, b1 ab 3, b1 aa 0, b1 aa 1, b1 aa 2, b1 aa 3, (ct_ HB hw136_0), (ct_ HB hw136_1), (ct_ HB hw136_2), (ct_ HB hw136_3)⟩ (fun hHeld => ?_); clear hK K; refine nr_ (some 47) ?_
               refine pv_ 5 (some 48) bl34 HT_ ?_
               refine pv_ 6 (some 49) bl35 HT_ ?_
               refine pv_ 7 (some 50) bl36 HT_ ?_
               refine pv_ 9 (some 52) bl37 HT_ ?_
               refine tk_ 8 (some 51) bl38 HT_ HW_ hHeld ?_
               refine tk_ 10 (some 53) bl39 HT_ HW_ hHeld ?_
               refine on_ 11 (some 54) bl40 HT_ (fun K hK => ?_); refine gs_ Try.func33 #[.int .i64 ((rd_T48 l0_3 x3_2).f2), .int .i64 a0_1] ?_
               with_reducible refine (spec_l4State.calls ((rd_T48 l0_3 x3_2).f2) a0_1 true _ aG.out).mono ?_
               rintro e w' ⟨rfl, ⟨nd, rfl⟩⟩; refine ⟨_, rfl, ?_⟩; refine hK.out _ _ ⟨b1 ab 0, b1 ab 1, b1 ab 2, b1 ab 3, b1 aa 0, b1 aa 1, b1 aa 2, b1 aa 3, (ct_ HB hw136_0), (ct_ HB hw136_1), (ct_ HB hw136_2), (ct_ HB hw136_3)⟩ (fun hHeld => ?_); clear hK K; refine nr_ (some 54) ?_
               refine pv_ 12 (some 55) bl41 HT_ ?_
               refine pv_ 13 (some 56) bl42 HT_ ?_
               refine pv_ 14 (some 57) bl43 HT_ ?_
               refine pv_ 15 (some 58) bl44 HT_ ?_
               refine pv_ 17 (some 60) bl45 HT_ ?_
               refine tk_ 16 (some 59) bl46 HT_ HW_ hHeld ?_
               refine tk_ 18 (some 61) bl47 HT_ HW_ hHeld ?_
               refine pv_ 19 (some 62) bl48 HT_ ?_
               refine on_ 20 (some 63) bl49 HT_ (fun K hK => ?_); refine gs_ Try.func31 #[.int .i64 ((rd_T48 l0_3 x3_2).f1), .int .i64 0, .int .i64 (wrap64 (a0_0 - 1))] ?_
               with_reducible refine (spec_l1In.calls ((rd_T48 l0_3 x3_2).f1) 0 (wrap64 (a0_0 - 1)) true _ aK.out).mono ?_
               rintro e w' ⟨rfl, ⟨nd, rfl⟩⟩; refine ⟨_, rfl, ?_⟩; refine hK.out _ _ ⟨b1 ab 0, b1 ab 1, b1 ab 2, b1 ab 3, b1 aa 0, b1 aa 1, b1 aa 2, b1 aa 3, (ct_ HB hw136_0), (ct_ HB hw136_1), (ct_ HB hw136_2), (ct_ HB hw136_3)⟩ (fun hHeld => ?_); clear hK K; refine nr_ (some 63) ?_
               refine pv_ 21 (some 64) bl50 HT_ ?_
               refine pv_ 22 (some 65) bl51 HT_ ?_
               refine pv_ 23 (some 66) bl52 HT_ ?_
               refine pv_ 24 (some 67) bl53 HT_ ?_
               refine pv_ 25 (some 68) bl54 HT_ ?_
               refine pv_ 26 (some 69) bl55 HT_ ?_
               refine pv_ 27 (some 70) bl56 HT_ ?_
               refine pv_ 29 (some 72) bl57 HT_ ?_
               refine pv_ 30 (some 73) bl58 HT_ ?_
               refine tk_ 28 (some 71) bl59 HT_ HW_ hHeld ?_
               refine pv_ 31 (some 74) bl60 HT_ ?_
               refine tk_ 32 (some 75) bl61 HT_ HW_ hHeld ?_
               refine tk_ 33 (some 76) bl62 HT_ HW_ hHeld ?_
               refine on_ 34 (some 77) bl63 HT_ (fun K hK => ?_); refine goes_ Try.func49 (by kernel_rfl) rfl #[.agg #[.int .i64 ((rd_T48 l0_3 (ji26)).f0), .int .i64 ((rd_T48 l0_3 (ji26)).f1), .int .i64 ((rd_T48 l0_3 (ji26)).f2), .bool ((rd_T48 l0_3 (ji26)).f3)], .agg #[.int .i64 ((rd_T48 l0_3 x3_2).f0), .int .i64 ((rd_T48 l0_3 x3_2).f1), .int .i64 ((rd_T48 l0_3 x3_2).f2), .bool ((rd_T48 l0_3 x3_2).f3)]] (by rfl) rfl rfl (by (try simp only [m3]); first | done | (simp only [hji26]; rfl) | rfl | (simp only [d2]; rfl)) ?_
               with_reducible refine (spec_l4Less.calls ((rd_T48 l0_3 (ji26)).f0) ((rd_T48 l0_3 (ji26)).f1) ((rd_T48 l0_3 (ji26)).f2) ((rd_T48 l0_3 (ji26)).f3) ((rd_T48 l0_3 x3_2).f0) ((rd_T48 l0_3 x3_2).f1) ((rd_T48 l0_3 x3_2).f2) ((rd_T48 l0_3 x3_2).f3) true _ bj.out).mono ?_
               rintro e dV ⟨rfl, hb⟩; refine ⟨_, rfl, ?_⟩; replace aa := xB aa hb; replace ab := xB ab hb; replace HB := xS HB hb
               (try clear hb)
               (try clear hb2)
               (try clear hk)
               (try clear hi)
               refine hK.out _ _ ⟨b1 ab 0, b1 ab 1, b1 ab 2, b1 ab 3, b1 aa 0, b1 aa 1, b1 aa 2, b1 aa 3, (ct_ HB hw136_0), (ct_ HB hw136_1), (ct_ HB hw136_2), (ct_ HB hw136_3)⟩ (fun hHeld => ?_); clear hK K; refine nr_ (some 77) ?_
               refine pv_ 35 (some 78) bl64 HT_ ?_
               refine pv_ 36 (some 79) bl65 HT_ ?_
               refine pv_ 37 (some 80) bl66 HT_ ?_
               refine done_ (done_of HT_.out (by kernel_rfl)) ?_
               try go_wp2
               (first | go_roundg k2 | ((try simp only [← hji26]); go_roundg k2))
               case measure => have := HJ1.out; have := HK2.out; omega
               case rel => exact ⟨(wrap64 (x3_2 + 1)), vv, (by first | exact H' | (have h_ := H'; (try simp only [← hji26] at h_); (try simp only [← hji26]); exact h_)), ⟨by have := HJ1.out; have := HK2.out; omega⟩, ⟨zB aa.out⟩, ⟨zS HB.out⟩⟩
              ·replace aR := Bool.eq_false_iff.mpr aR; subst aR
               have H1 : (some false) = some r := by rw [if_neg (show ¬ (false = true) by decide)] at H; exact H
               clear H; have H := H1; clear H1; obtain rfl := Option.some.inj H; obtain ⟨bB, bC, bD, bE, bF, bG, bH, bJ⟩ := cz4 aa; have aj : 0 ≤ (x3_2 : Int) := oD; have q131 : x3_2 < (l0_3.length : Int) := oD; obtain ⟨ad131, e131, ae, af, ag, ah⟩ := at_T48 HR0_3.out x3_2 aj q131
               cases e131
               replace ae := ct_ HB ae; replace af := ct_ HB af; replace ag := ct_ HB ag; replace ah := ct_ HB ah; replace aj := eq_true aj; replace q131 := eq_true q131
               try go_wp2_with (first | ((with_reducible refine gate_dst (N := 4) rfl ?_); (try (refine gate_guard (by rfl) ?_; dsimp only)); refine bx_ 4 #[.int .i64 0, .int .i64 0, .int .i64 0, .bool false] 48 ?_; intro ac hg aT hbox hb; have ab := Aside0.mk (hbox); have az := xG HB hg; have aA := xG HB hg; replace HB := xS HB hb; have av := xN aa hg; have ai := xM aa hg; replace aa := xB aa hb; clear hb hbox hg; obtain ⟨dE, dF⟩ := nn ai; obtain ⟨bK, bL, bM, bN, bO, bP, bQ, bR⟩ := cz4 ab))
               have ak : Aside0 (((((aT.setCell ⟨ac, 0, none⟩ (.int .i64 ((rd_T48 l0_3 x3_2).f0))).setCell ⟨ac, 1, none⟩ (.int .i64 ((rd_T48 l0_3 x3_2).f1))).setCell ⟨ac, 2, none⟩ (.int .i64 ((rd_T48 l0_3 x3_2).f2))).setCell ⟨ac, 3, none⟩ (.bool ((rd_T48 l0_3 x3_2).f3))).heap[ad]? = some (.cells #[.int .i64 a0_0, .int .i64 a0_1, .int .i64 a0_2, .slice (some ad131) l0_3.length c0_3] 28 (0, 0))) := ⟨zB aa.out⟩; have al : Aside0 (((((aT.setCell ⟨ac, 0, none⟩ (.int .i64 ((rd_T48 l0_3 x3_2).f0))).setCell ⟨ac, 1, none⟩ (.int .i64 ((rd_T48 l0_3 x3_2).f1))).setCell ⟨ac, 2, none⟩ (.int .i64 ((rd_T48 l0_3 x3_2).f2))).setCell ⟨ac, 3, none⟩ (.bool ((rd_T48 l0_3 x3_2).f3))).heap[ac]? = some (.cells #[.int .i64 ((rd_T48 l0_3 x3_2).f0), .int .i64 ((rd_T48 l0_3 x3_2).f1), .int .i64 ((rd_T48 l0_3 x3_2).f2), .bool ((rd_T48 l0_3 x3_2).f3)] 48 (0, 0))) := ⟨by (with_reducible repeat (first | refine blk_drewN ?_ _ | refine blk_drew ?_ | refine blk_alloc ?_ _)); refine blk_put (cs := #[.int .i64 ((rd_T48 l0_3 x3_2).f0), .int .i64 ((rd_T48 l0_3 x3_2).f1), .int .i64 ((rd_T48 l0_3 x3_2).f2), .bool false]) ?_ 3 _ rfl; (with_reducible repeat (first | refine blk_drewN ?_ _ | refine blk_drew ?_ | refine blk_alloc ?_ _)); refine blk_put (cs := #[.int .i64 ((rd_T48 l0_3 x3_2).f0), .int .i64 ((rd_T48 l0_3 x3_2).f1), .int .i64 0, .bool false]) ?_ 2 _ rfl; (with_reducible repeat (first | refine blk_drewN ?_ _ | refine blk_drew ?_ | refine blk_alloc ?_ _)); refine blk_put (cs := #[.int .i64 ((rd_T48 l0_3 x3_2).f0), .int .i64 0, .int .i64 0, .bool false]) ?_ 1 _ rfl; (with_reducible repeat (first | refine blk_drewN ?_ _ | refine blk_drew ?_ | refine blk_alloc ?_ _)); refine blk_put (cs := #[.int .i64 0, .int .i64 0, .int .i64 0, .bool false]) ?_ 0 _ rfl; (with_reducible repeat (first | refine blk_drewN ?_ _ | refine blk_drew ?_ | refine blk_alloc ?_ _)); exact ab.out⟩; have am : Aside0 (Below w.heap.size w ((((aT.setCell ⟨ac, 0, none⟩ (.int .i64 ((rd_T48 l0_3 x3_2).f0))).setCell ⟨ac, 1, none⟩ (.int .i64 ((rd_T48 l0_3 x3_2).f1))).setCell ⟨ac, 2, none⟩ (.int .i64 ((rd_T48 l0_3 x3_2).f2))).setCell ⟨ac, 3, none⟩ (.bool ((rd_T48 l0_3 x3_2).f3)))) := ⟨zS HB.out⟩
               (try clear aa)
               (try clear ab)
               (try clear HB)
               generalize ((((aT.setCell ⟨ac, 0, none⟩ (.int .i64 ((rd_T48 l0_3 x3_2).f0))).setCell ⟨ac, 1, none⟩ (.int .i64 ((rd_T48 l0_3 x3_2).f1))).setCell ⟨ac, 2, none⟩ (.int .i64 ((rd_T48 l0_3 x3_2).f2))).setCell ⟨ac, 3, none⟩ (.bool ((rd_T48 l0_3 x3_2).f3))) = dr at ak al am ⊢; have aa := ak; have ab := al; have HB := am; clear ak al am; replace aa := Aside0.mk (blk_drew aa.out); replace ab := Aside0.mk (blk_drew ab.out); replace HB := Aside0.mk (below_drew1 HB.out); have ay : 0 ≤ ((ji26) : Int) := oD; have q136 : (ji26) < (l0_3.length : Int) := oD; obtain ⟨ad136, e136, an, ao, ap, aq⟩ := at_T48 HR0_3.out (ji26) ay q136; have hw136_3 := aq; have hw136_2 := ap; have hw136_1 := ao; have hw136_0 := an; obtain rfl : ad131 = ad136 := (by injection e136); replace an := ct_ HB an; replace ao := ct_ HB ao; replace ap := ct_ HB ap; replace aq := ct_ HB aq; replace ay := eq_true ay; replace q136 := eq_true q136; refine start_ (n := 38) (S := fun w' => w'.cell? ⟨ac, 0, none⟩ = some (.int .i64 ((rd_T48 l0_3 x3_2).f0)) ∧ w'.cell? ⟨ac, 1, none⟩ = some (.int .i64 ((rd_T48 l0_3 x3_2).f1)) ∧ w'.cell? ⟨ac, 2, none⟩ = some (.int .i64 ((rd_T48 l0_3 x3_2).f2)) ∧ w'.cell? ⟨ac, 3, none⟩ = some (.bool ((rd_T48 l0_3 x3_2).f3)) ∧ w'.cell? ⟨ad, 0, none⟩ = some (.int .i64 a0_0) ∧ w'.cell? ⟨ad, 1, none⟩ = some (.int .i64 a0_1) ∧ w'.cell? ⟨ad, 2, none⟩ = some (.int .i64 a0_2) ∧ w'.cell? ⟨ad, 3, none⟩ = some (.slice (some ad131) l0_3.length c0_3) ∧ w'.cell? (ad131.add (((ji26)).toNat * 4)) = some (.int .i64 ((rd_T48 l0_3 (ji26)).f0)) ∧ w'.cell? ⟨(ad131.add (((ji26)).toNat * 4)).block, (ad131.add (((ji26)).toNat * 4)).off + 1, none⟩ = some (.int .i64 ((rd_T48 l0_3 (ji26)).f1)) ∧ w'.cell? ⟨(ad131.add (((ji26)).toNat * 4)).block, (ad131.add (((ji26)).toNat * 4)).off + 2, none⟩ = some (.int .i64 ((rd_T48 l0_3 (ji26)).f2)) ∧ w'.cell? ⟨(ad131.add (((ji26)).toNat * 4)).block, (ad131.add (((ji26)).toNat * 4)).off + 3, none⟩ = some (.bool ((rd_T48 l0_3 (ji26)).f3))) (ds := []) bl28 (by kernel_rfl) rfl rfl ⟨b1 ab 0, b1 ab 1, b1 ab 2, b1 ab 3, b1 aa 0, b1 aa 1, b1 aa 2, b1 aa 3, (ct_ HB hw136_0), (ct_ HB hw136_1), (ct_ HB hw136_2), (ct_ HB hw136_3)⟩ (fun hHeld => ?_); refine with_tabW spec_AutoOk.tab7 spec_AutoOk.bits7 (fun HT_ HW_ => ?_)
               generalize dr.drew = dW at aa ab HB an ao ap aq hHeld ⊢
               refine pv_ 0 (some 43) bl29 HT_ ?_
               refine pv_ 2 (some 45) bl30 HT_ ?_
               refine tk_ 1 (some 44) bl31 HT_ HW_ hHeld ?_
               refine tk_ 3 (some 46) bl32 HT_ HW_ hHeld ?_
               refine on_ 4 (some 47) bl33 HT_ (fun K hK => ?_); refine gs_ Try.func33 #[.int .i64 ((rd_T48 l0_3 x3_2).f0), .int .i64 a0_1] ?_
               with_reducible refine (spec_l4State.calls ((rd_T48 l0_3 x3_2).f0) a0_1 true _ aD.out).mono ?_
               rintro e w' ⟨rfl, ⟨nd, rfl⟩⟩; refine ⟨_, rfl, ?_⟩; refine hK.out _ _ ⟨b1 ab 0, b1 ab 1, b1 ab 2, b1 ab 3, b1 aa 0, b1 aa 1, b1 aa 2, b1 aa 3, (ct_ HB hw136_0), (ct_ HB hw136_1), (ct_ HB hw136_2), (ct_ HB hw136_3)⟩ (fun hHeld => ?_); clear hK K; refine nr_ (some 47) ?_
               refine pv_ 5 (some 48) bl34 HT_ ?_
               refine pv_ 6 (some 49) bl35 HT_ ?_
               refine pv_ 7 (some 50) bl36 HT_ ?_
               refine pv_ 9 (some 52) bl37 HT_ ?_
               refine tk_ 8 (some 51) bl38 HT_ HW_ hHeld ?_
               refine tk_ 10 (some 53) bl39 HT_ HW_ hHeld ?_
               refine on_ 11 (some 54) bl40 HT_ (fun K hK => ?_); refine gs_ Try.func33 #[.int .i64 ((rd_T48 l0_3 x3_2).f2), .int .i64 a0_1] ?_
               with_reducible refine (spec_l4State.calls ((rd_T48 l0_3 x3_2).f2) a0_1 true _ aG.out).mono ?_
               rintro e w' ⟨rfl, ⟨nd, rfl⟩⟩; refine ⟨_, rfl, ?_⟩; refine hK.out _ _ ⟨b1 ab 0, b1 ab 1, b1 ab 2, b1 ab 3, b1 aa 0, b1 aa 1, b1 aa 2, b1 aa 3, (ct_ HB hw136_0), (ct_ HB hw136_1), (ct_ HB hw136_2), (ct_ HB hw136_3)⟩ (fun hHeld => ?_); clear hK K; refine nr_ (some 54) ?_
               refine pv_ 12 (some 55) bl41 HT_ ?_
               refine pv_ 13 (some 56) bl42 HT_ ?_
               refine pv_ 14 (some 57) bl43 HT_ ?_
               refine pv_ 15 (some 58) bl44 HT_ ?_
               refine pv_ 17 (some 60) bl45 HT_ ?_
               refine tk_ 16 (some 59) bl46 HT_ HW_ hHeld ?_
               refine tk_ 18 (some 61) bl47 HT_ HW_ hHeld ?_
               refine pv_ 19 (some 62) bl48 HT_ ?_
               refine on_ 20 (some 63) bl49 HT_ (fun K hK => ?_); refine gs_ Try.func31 #[.int .i64 ((rd_T48 l0_3 x3_2).f1), .int .i64 0, .int .i64 (wrap64 (a0_0 - 1))] ?_
               with_reducible refine (spec_l1In.calls ((rd_T48 l0_3 x3_2).f1) 0 (wrap64 (a0_0 - 1)) true _ aK.out).mono ?_
               rintro e w' ⟨rfl, ⟨nd, rfl⟩⟩; refine ⟨_, rfl, ?_⟩; refine hK.out _ _ ⟨b1 ab 0, b1 ab 1, b1 ab 2, b1 ab 3, b1 aa 0, b1 aa 1, b1 aa 2, b1 aa 3, (ct_ HB hw136_0), (ct_ HB hw136_1), (ct_ HB hw136_2), (ct_ HB hw136_3)⟩ (fun hHeld => ?_); clear hK K; refine nr_ (some 63) ?_
               refine pv_ 21 (some 64) bl50 HT_ ?_
               refine pv_ 22 (some 65) bl51 HT_ ?_
               refine pv_ 23 (some 66) bl52 HT_ ?_
               refine pv_ 24 (some 67) bl53 HT_ ?_
               refine pv_ 25 (some 68) bl54 HT_ ?_
               refine pv_ 26 (some 69) bl55 HT_ ?_
               refine pv_ 27 (some 70) bl56 HT_ ?_
               refine pv_ 29 (some 72) bl57 HT_ ?_
               refine pv_ 30 (some 73) bl58 HT_ ?_
               refine tk_ 28 (some 71) bl59 HT_ HW_ hHeld ?_
               refine pv_ 31 (some 74) bl60 HT_ ?_
               refine tk_ 32 (some 75) bl61 HT_ HW_ hHeld ?_
               refine tk_ 33 (some 76) bl62 HT_ HW_ hHeld ?_
               refine on_ 34 (some 77) bl63 HT_ (fun K hK => ?_); refine goes_ Try.func49 (by kernel_rfl) rfl #[.agg #[.int .i64 ((rd_T48 l0_3 (ji26)).f0), .int .i64 ((rd_T48 l0_3 (ji26)).f1), .int .i64 ((rd_T48 l0_3 (ji26)).f2), .bool ((rd_T48 l0_3 (ji26)).f3)], .agg #[.int .i64 ((rd_T48 l0_3 x3_2).f0), .int .i64 ((rd_T48 l0_3 x3_2).f1), .int .i64 ((rd_T48 l0_3 x3_2).f2), .bool ((rd_T48 l0_3 x3_2).f3)]] (by rfl) rfl rfl (by (try simp only [m3]); first | done | (simp only [hji26]; rfl) | rfl | (simp only [d2]; rfl)) ?_
               with_reducible refine (spec_l4Less.calls ((rd_T48 l0_3 (ji26)).f0) ((rd_T48 l0_3 (ji26)).f1) ((rd_T48 l0_3 (ji26)).f2) ((rd_T48 l0_3 (ji26)).f3) ((rd_T48 l0_3 x3_2).f0) ((rd_T48 l0_3 x3_2).f1) ((rd_T48 l0_3 x3_2).f2) ((rd_T48 l0_3 x3_2).f3) false _ bj.out).mono ?_
               rintro e dX ⟨rfl, hb⟩; refine ⟨_, rfl, ?_⟩; replace aa := xB aa hb; replace ab := xB ab hb; replace HB := xS HB hb
               (try clear hb)
               (try clear hb2)
               (try clear hk)
               (try clear hi)
               refine hK.out _ _ ⟨b1 ab 0, b1 ab 1, b1 ab 2, b1 ab 3, b1 aa 0, b1 aa 1, b1 aa 2, b1 aa 3, (ct_ HB hw136_0), (ct_ HB hw136_1), (ct_ HB hw136_2), (ct_ HB hw136_3)⟩ (fun hHeld => ?_); clear hK K; refine nr_ (some 77) ?_
               refine pv_ 35 (some 78) bl64 HT_ ?_
               refine pv_ 36 (some 79) bl65 HT_ ?_
               refine pv_ 37 (some 80) bl66 HT_ ?_
               refine done_ (done_of HT_.out (by kernel_rfl)) ?_
               try go_wp2
               go_ret; exact ⟨by first | rfl | (simp [errW_none, errW_some] <;> rfl) | (simp only [← hji26]; first | rfl | (simp [errW_none, errW_some] <;> rfl)) | (simp [*, errW_none, errW_some] <;> rfl), zS HB.out⟩
             ·rw [if_neg aQ] at H; exact absurd H (by simp)
            ·rw [if_neg aP] at H; exact absurd H (by simp)
           ·rw [if_neg aH] at H; have bf : decide (0 < x3_2) = false := decide_eq_false aH; clear aH; have H' := Aside0.mk H; clear H; obtain ⟨bS, bT, bU, bV, bW, bX, bY, bZ⟩ := cz4 aa; have aj : 0 ≤ (x3_2 : Int) := oD; have q131 : x3_2 < (l0_3.length : Int) := oD; obtain ⟨ad131, e131, ae, af, ag, ah⟩ := at_T48 HR0_3.out x3_2 aj q131
            cases e131
            replace ae := ct_ HB ae; replace af := ct_ HB af; replace ag := ct_ HB ag; replace ah := ct_ HB ah; replace aj := eq_true aj; replace q131 := eq_true q131
            try go_wp2_with (first | ((with_reducible refine gate_dst (N := 4) rfl ?_); (try (refine gate_guard (by rfl) ?_; dsimp only)); refine bx_ 4 #[.int .i64 0, .int .i64 0, .int .i64 0, .bool false] 48 ?_; intro ac hg aU hbox hb; have ab := Aside0.mk (hbox); have az := xG HB hg; have aA := xG HB hg; replace HB := xS HB hb; have av := xN aa hg; have ai := xM aa hg; replace aa := xB aa hb; clear hb hbox hg; obtain ⟨dG, dH⟩ := nn ai; obtain ⟨ca, cb, cc, cd, ce, cf, cg, ch⟩ := cz4 ab))
            have ak : Aside0 (((((aU.setCell ⟨ac, 0, none⟩ (.int .i64 ((rd_T48 l0_3 x3_2).f0))).setCell ⟨ac, 1, none⟩ (.int .i64 ((rd_T48 l0_3 x3_2).f1))).setCell ⟨ac, 2, none⟩ (.int .i64 ((rd_T48 l0_3 x3_2).f2))).setCell ⟨ac, 3, none⟩ (.bool ((rd_T48 l0_3 x3_2).f3))).heap[ad]? = some (.cells #[.int .i64 a0_0, .int .i64 a0_1, .int .i64 a0_2, .slice (some ad131) l0_3.length c0_3] 28 (0, 0))) := ⟨zB aa.out⟩; have al : Aside0 (((((aU.setCell ⟨ac, 0, none⟩ (.int .i64 ((rd_T48 l0_3 x3_2).f0))).setCell ⟨ac, 1, none⟩ (.int .i64 ((rd_T48 l0_3 x3_2).f1))).setCell ⟨ac, 2, none⟩ (.int .i64 ((rd_T48 l0_3 x3_2).f2))).setCell ⟨ac, 3, none⟩ (.bool ((rd_T48 l0_3 x3_2).f3))).heap[ac]? = some (.cells #[.int .i64 ((rd_T48 l0_3 x3_2).f0), .int .i64 ((rd_T48 l0_3 x3_2).f1), .int .i64 ((rd_T48 l0_3 x3_2).f2), .bool ((rd_T48 l0_3 x3_2).f3)] 48 (0, 0))) := ⟨by (with_reducible repeat (first | refine blk_drewN ?_ _ | refine blk_drew ?_ | refine blk_alloc ?_ _)); refine blk_put (cs := #[.int .i64 ((rd_T48 l0_3 x3_2).f0), .int .i64 ((rd_T48 l0_3 x3_2).f1), .int .i64 ((rd_T48 l0_3 x3_2).f2), .bool false]) ?_ 3 _ rfl; (with_reducible repeat (first | refine blk_drewN ?_ _ | refine blk_drew ?_ | refine blk_alloc ?_ _)); refine blk_put (cs := #[.int .i64 ((rd_T48 l0_3 x3_2).f0), .int .i64 ((rd_T48 l0_3 x3_2).f1), .int .i64 0, .bool false]) ?_ 2 _ rfl; (with_reducible repeat (first | refine blk_drewN ?_ _ | refine blk_drew ?_ | refine blk_alloc ?_ _)); refine blk_put (cs := #[.int .i64 ((rd_T48 l0_3 x3_2).f0), .int .i64 0, .int .i64 0, .bool false]) ?_ 1 _ rfl; (with_reducible repeat (first | refine blk_drewN ?_ _ | refine blk_drew ?_ | refine blk_alloc ?_ _)); refine blk_put (cs := #[.int .i64 0, .int .i64 0, .int .i64 0, .bool false]) ?_ 0 _ rfl; (with_reducible repeat (first | refine blk_drewN ?_ _ | refine blk_drew ?_ | refine blk_alloc ?_ _)); exact ab.out⟩; have am : Aside0 (Below w.heap.size w ((((aU.setCell ⟨ac, 0, none⟩ (.int .i64 ((rd_T48 l0_3 x3_2).f0))).setCell ⟨ac, 1, none⟩ (.int .i64 ((rd_T48 l0_3 x3_2).f1))).setCell ⟨ac, 2, none⟩ (.int .i64 ((rd_T48 l0_3 x3_2).f2))).setCell ⟨ac, 3, none⟩ (.bool ((rd_T48 l0_3 x3_2).f3)))) := ⟨zS HB.out⟩
            (try clear aa)
            (try clear ab)
            (try clear HB)
            generalize ((((aU.setCell ⟨ac, 0, none⟩ (.int .i64 ((rd_T48 l0_3 x3_2).f0))).setCell ⟨ac, 1, none⟩ (.int .i64 ((rd_T48 l0_3 x3_2).f1))).setCell ⟨ac, 2, none⟩ (.int .i64 ((rd_T48 l0_3 x3_2).f2))).setCell ⟨ac, 3, none⟩ (.bool ((rd_T48 l0_3 x3_2).f3))) = dt at ak al am ⊢; have aa := ak; have ab := al; have HB := am; clear ak al am; replace aa := Aside0.mk (blk_drew aa.out); replace ab := Aside0.mk (blk_drew ab.out); replace HB := Aside0.mk (below_drew1 HB.out); refine start_ (n := 38) (S := fun w' => w'.cell? ⟨ac, 0, none⟩ = some (.int .i64 ((rd_T48 l0_3 x3_2).f0)) ∧ w'.cell? ⟨ac, 1, none⟩ = some (.int .i64 ((rd_T48 l0_3 x3_2).f1)) ∧ w'.cell? ⟨ac, 2, none⟩ = some (.int .i64 ((rd_T48 l0_3 x3_2).f2)) ∧ w'.cell? ⟨ac, 3, none⟩ = some (.bool ((rd_T48 l0_3 x3_2).f3)) ∧ w'.cell? ⟨ad, 0, none⟩ = some (.int .i64 a0_0) ∧ w'.cell? ⟨ad, 1, none⟩ = some (.int .i64 a0_1) ∧ w'.cell? ⟨ad, 2, none⟩ = some (.int .i64 a0_2) ∧ w'.cell? ⟨ad, 3, none⟩ = some (.slice (some ad131) l0_3.length c0_3)) (ds := []) bl28 (by kernel_rfl) rfl rfl ⟨b1 ab 0, b1 ab 1, b1 ab 2, b1 ab 3, b1 aa 0, b1 aa 1, b1 aa 2, b1 aa 3⟩ (fun hHeld => ?_); refine with_tabW spec_AutoOk.tab7 spec_AutoOk.bits7 (fun HT_ HW_ => ?_); generalize dt.drew = dY at aa ab HB hHeld ⊢
            refine pv_ 0 (some 43) bl29 HT_ ?_
            refine pv_ 2 (some 45) bl30 HT_ ?_
            refine tk_ 1 (some 44) bl31 HT_ HW_ hHeld ?_
            refine tk_ 3 (some 46) bl32 HT_ HW_ hHeld ?_
            refine on_ 4 (some 47) bl33 HT_ (fun K hK => ?_); refine gs_ Try.func33 #[.int .i64 ((rd_T48 l0_3 x3_2).f0), .int .i64 a0_1] ?_
            with_reducible refine (spec_l4State.calls ((rd_T48 l0_3 x3_2).f0) a0_1 true _ aD.out).mono ?_
            rintro e w' ⟨rfl, ⟨nd, rfl⟩⟩; refine ⟨_, rfl, ?_⟩; refine hK.out _ _ ⟨b1 ab 0, b1 ab 1, b1 ab 2, b1 ab 3, b1 aa 0, b1 aa 1, b1 aa 2, b1 aa 3⟩ (fun hHeld => ?_); clear hK K; refine nr_ (some 47) ?_
            refine pv_ 5 (some 48) bl34 HT_ ?_
            refine pv_ 6 (some 49) bl35 HT_ ?_
            refine pv_ 7 (some 50) bl36 HT_ ?_
            refine pv_ 9 (some 52) bl37 HT_ ?_
            refine tk_ 8 (some 51) bl38 HT_ HW_ hHeld ?_
            refine tk_ 10 (some 53) bl39 HT_ HW_ hHeld ?_
            refine on_ 11 (some 54) bl40 HT_ (fun K hK => ?_); refine gs_ Try.func33 #[.int .i64 ((rd_T48 l0_3 x3_2).f2), .int .i64 a0_1] ?_
            with_reducible refine (spec_l4State.calls ((rd_T48 l0_3 x3_2).f2) a0_1 true _ aG.out).mono ?_
            rintro e w' ⟨rfl, ⟨nd, rfl⟩⟩; refine ⟨_, rfl, ?_⟩; refine hK.out _ _ ⟨b1 ab 0, b1 ab 1, b1 ab 2, b1 ab 3, b1 aa 0, b1 aa 1, b1 aa 2, b1 aa 3⟩ (fun hHeld => ?_); clear hK K; refine nr_ (some 54) ?_
            refine pv_ 12 (some 55) bl41 HT_ ?_
            refine pv_ 13 (some 56) bl42 HT_ ?_
            refine pv_ 14 (some 57) bl43 HT_ ?_
            refine pv_ 15 (some 58) bl44 HT_ ?_
            refine pv_ 17 (some 60) bl45 HT_ ?_
            refine tk_ 16 (some 59) bl46 HT_ HW_ hHeld ?_
            refine tk_ 18 (some 61) bl47 HT_ HW_ hHeld ?_
            refine pv_ 19 (some 62) bl48 HT_ ?_
            refine on_ 20 (some 63) bl49 HT_ (fun K hK => ?_); refine gs_ Try.func31 #[.int .i64 ((rd_T48 l0_3 x3_2).f1), .int .i64 0, .int .i64 (wrap64 (a0_0 - 1))] ?_
            with_reducible refine (spec_l1In.calls ((rd_T48 l0_3 x3_2).f1) 0 (wrap64 (a0_0 - 1)) true _ aK.out).mono ?_
            rintro e w' ⟨rfl, ⟨nd, rfl⟩⟩; refine ⟨_, rfl, ?_⟩; refine hK.out _ _ ⟨b1 ab 0, b1 ab 1, b1 ab 2, b1 ab 3, b1 aa 0, b1 aa 1, b1 aa 2, b1 aa 3⟩ (fun hHeld => ?_); clear hK K; refine nr_ (some 63) ?_
            refine pv_ 21 (some 64) bl50 HT_ ?_
            refine pv_ 22 (some 65) bl51 HT_ ?_
            refine pv_ 23 (some 66) bl52 HT_ ?_
            refine pv_ 24 (some 67) bl53 HT_ ?_
            refine pv_ 25 (some 68) bl54 HT_ ?_
            refine pv_ 26 (some 69) bl55 HT_ ?_
            refine pn_ 27 (some 70) bl56 HT_ ?_
            refine pn_ 28 (some 71) bl67 HT_ ?_
            refine pn_ 29 (some 72) bl68 HT_ ?_
            refine pn_ 30 (some 73) bl59 HT_ ?_
            refine pn_ 31 (some 74) bl60 HT_ ?_
            refine pn_ 32 (some 75) bl61 HT_ ?_
            refine pn_ 33 (some 76) bl62 HT_ ?_
            refine pn_ 34 (some 77) bl63 HT_ ?_
            refine pn_ 35 (some 78) bl64 HT_ ?_
            refine pv_ 36 (some 79) bl65 HT_ ?_
            refine pv_ 37 (some 80) bl66 HT_ ?_
            refine done_ (done_of HT_.out (by kernel_rfl)) ?_
            try go_wp2
            go_roundg k2
            case measure => have := HJ1.out; have := HK2.out; omega
            case rel => exact ⟨(wrap64 (x3_2 + 1)), vv, H', ⟨by have := HJ1.out; have := HK2.out; omega⟩, ⟨zB aa.out⟩, ⟨zS HB.out⟩⟩
          ·replace aO := Bool.eq_false_iff.mpr aO; subst aO
           have H1 : (some false) = some r := by rw [if_neg (show ¬ (false = true) by decide)] at H; exact H
           clear H; have H := H1; clear H1; obtain rfl := Option.some.inj H; obtain ⟨ci, cj, ck, cl, cm, cn, co, cp⟩ := cz4 aa; have aj : 0 ≤ (x3_2 : Int) := oD; have q131 : x3_2 < (l0_3.length : Int) := oD; obtain ⟨ad131, e131, ae, af, ag, ah⟩ := at_T48 HR0_3.out x3_2 aj q131
           cases e131
           replace ae := ct_ HB ae; replace af := ct_ HB af; replace ag := ct_ HB ag; replace ah := ct_ HB ah; replace aj := eq_true aj; replace q131 := eq_true q131
           try go_wp2_with (first | ((with_reducible refine gate_dst (N := 4) rfl ?_); (try (refine gate_guard (by rfl) ?_; dsimp only)); refine bx_ 4 #[.int .i64 0, .int .i64 0, .int .i64 0, .bool false] 48 ?_; intro ac hg aV hbox hb; have ab := Aside0.mk (hbox); have az := xG HB hg; have aA := xG HB hg; replace HB := xS HB hb; have av := xN aa hg; have ai := xM aa hg; replace aa := xB aa hb; clear hb hbox hg; obtain ⟨dI, dJ⟩ := nn ai; obtain ⟨cq, cr, ct, cu, cv, cw, cx, cy⟩ := cz4 ab))
           have ak : Aside0 (((((aV.setCell ⟨ac, 0, none⟩ (.int .i64 ((rd_T48 l0_3 x3_2).f0))).setCell ⟨ac, 1, none⟩ (.int .i64 ((rd_T48 l0_3 x3_2).f1))).setCell ⟨ac, 2, none⟩ (.int .i64 ((rd_T48 l0_3 x3_2).f2))).setCell ⟨ac, 3, none⟩ (.bool ((rd_T48 l0_3 x3_2).f3))).heap[ad]? = some (.cells #[.int .i64 a0_0, .int .i64 a0_1, .int .i64 a0_2, .slice (some ad131) l0_3.length c0_3] 28 (0, 0))) := ⟨zB aa.out⟩; have al : Aside0 (((((aV.setCell ⟨ac, 0, none⟩ (.int .i64 ((rd_T48 l0_3 x3_2).f0))).setCell ⟨ac, 1, none⟩ (.int .i64 ((rd_T48 l0_3 x3_2).f1))).setCell ⟨ac, 2, none⟩ (.int .i64 ((rd_T48 l0_3 x3_2).f2))).setCell ⟨ac, 3, none⟩ (.bool ((rd_T48 l0_3 x3_2).f3))).heap[ac]? = some (.cells #[.int .i64 ((rd_T48 l0_3 x3_2).f0), .int .i64 ((rd_T48 l0_3 x3_2).f1), .int .i64 ((rd_T48 l0_3 x3_2).f2), .bool ((rd_T48 l0_3 x3_2).f3)] 48 (0, 0))) := ⟨by (with_reducible repeat (first | refine blk_drewN ?_ _ | refine blk_drew ?_ | refine blk_alloc ?_ _)); refine blk_put (cs := #[.int .i64 ((rd_T48 l0_3 x3_2).f0), .int .i64 ((rd_T48 l0_3 x3_2).f1), .int .i64 ((rd_T48 l0_3 x3_2).f2), .bool false]) ?_ 3 _ rfl; (with_reducible repeat (first | refine blk_drewN ?_ _ | refine blk_drew ?_ | refine blk_alloc ?_ _)); refine blk_put (cs := #[.int .i64 ((rd_T48 l0_3 x3_2).f0), .int .i64 ((rd_T48 l0_3 x3_2).f1), .int .i64 0, .bool false]) ?_ 2 _ rfl; (with_reducible repeat (first | refine blk_drewN ?_ _ | refine blk_drew ?_ | refine blk_alloc ?_ _)); refine blk_put (cs := #[.int .i64 ((rd_T48 l0_3 x3_2).f0), .int .i64 0, .int .i64 0, .bool false]) ?_ 1 _ rfl; (with_reducible repeat (first | refine blk_drewN ?_ _ | refine blk_drew ?_ | refine blk_alloc ?_ _)); refine blk_put (cs := #[.int .i64 0, .int .i64 0, .int .i64 0, .bool false]) ?_ 0 _ rfl; (with_reducible repeat (first | refine blk_drewN ?_ _ | refine blk_drew ?_ | refine blk_alloc ?_ _)); exact ab.out⟩; have am : Aside0 (Below w.heap.size w ((((aV.setCell ⟨ac, 0, none⟩ (.int .i64 ((rd_T48 l0_3 x3_2).f0))).setCell ⟨ac, 1, none⟩ (.int .i64 ((rd_T48 l0_3 x3_2).f1))).setCell ⟨ac, 2, none⟩ (.int .i64 ((rd_T48 l0_3 x3_2).f2))).setCell ⟨ac, 3, none⟩ (.bool ((rd_T48 l0_3 x3_2).f3)))) := ⟨zS HB.out⟩
           (try clear aa)
           (try clear ab)
           (try clear HB)
           generalize ((((aV.setCell ⟨ac, 0, none⟩ (.int .i64 ((rd_T48 l0_3 x3_2).f0))).setCell ⟨ac, 1, none⟩ (.int .i64 ((rd_T48 l0_3 x3_2).f1))).setCell ⟨ac, 2, none⟩ (.int .i64 ((rd_T48 l0_3 x3_2).f2))).setCell ⟨ac, 3, none⟩ (.bool ((rd_T48 l0_3 x3_2).f3))) = du at ak al am ⊢; have aa := ak; have ab := al; have HB := am; clear ak al am; replace aa := Aside0.mk (blk_drew aa.out); replace ab := Aside0.mk (blk_drew ab.out); replace HB := Aside0.mk (below_drew1 HB.out); refine start_ (n := 38) (S := fun w' => w'.cell? ⟨ac, 0, none⟩ = some (.int .i64 ((rd_T48 l0_3 x3_2).f0)) ∧ w'.cell? ⟨ac, 1, none⟩ = some (.int .i64 ((rd_T48 l0_3 x3_2).f1)) ∧ w'.cell? ⟨ac, 2, none⟩ = some (.int .i64 ((rd_T48 l0_3 x3_2).f2)) ∧ w'.cell? ⟨ac, 3, none⟩ = some (.bool ((rd_T48 l0_3 x3_2).f3)) ∧ w'.cell? ⟨ad, 0, none⟩ = some (.int .i64 a0_0) ∧ w'.cell? ⟨ad, 1, none⟩ = some (.int .i64 a0_1) ∧ w'.cell? ⟨ad, 2, none⟩ = some (.int .i64 a0_2) ∧ w'.cell? ⟨ad, 3, none⟩ = some (.slice (some ad131) l0_3.length c0_3)) (ds := []) bl28 (by kernel_rfl) rfl rfl ⟨b1 ab 0, b1 ab 1, b1 ab 2, b1 ab 3, b1 aa 0, b1 aa 1, b1 aa 2, b1 aa 3⟩ (fun hHeld => ?_); refine with_tabW spec_AutoOk.tab7 spec_AutoOk.bits7 (fun HT_ HW_ => ?_); generalize du.drew = dZ at aa ab HB hHeld ⊢
           refine pv_ 0 (some 43) bl29 HT_ ?_
           refine pv_ 2 (some 45) bl30 HT_ ?_
           refine tk_ 1 (some 44) bl31 HT_ HW_ hHeld ?_
           refine tk_ 3 (some 46) bl32 HT_ HW_ hHeld ?_
           refine on_ 4 (some 47) bl33 HT_ (fun K hK => ?_); refine gs_ Try.func33 #[.int .i64 ((rd_T48 l0_3 x3_2).f0), .int .i64 a0_1] ?_
           with_reducible refine (spec_l4State.calls ((rd_T48 l0_3 x3_2).f0) a0_1 true _ aD.out).mono ?_
           rintro e w' ⟨rfl, ⟨nd, rfl⟩⟩; refine ⟨_, rfl, ?_⟩; refine hK.out _ _ ⟨b1 ab 0, b1 ab 1, b1 ab 2, b1 ab 3, b1 aa 0, b1 aa 1, b1 aa 2, b1 aa 3⟩ (fun hHeld => ?_); clear hK K; refine nr_ (some 47) ?_
           refine pv_ 5 (some 48) bl34 HT_ ?_
           refine pv_ 6 (some 49) bl35 HT_ ?_
           refine pv_ 7 (some 50) bl36 HT_ ?_
           refine pv_ 9 (some 52) bl37 HT_ ?_
           refine tk_ 8 (some 51) bl38 HT_ HW_ hHeld ?_
           refine tk_ 10 (some 53) bl39 HT_ HW_ hHeld ?_
           refine on_ 11 (some 54) bl40 HT_ (fun K hK => ?_); refine gs_ Try.func33 #[.int .i64 ((rd_T48 l0_3 x3_2).f2), .int .i64 a0_1] ?_
           with_reducible refine (spec_l4State.calls ((rd_T48 l0_3 x3_2).f2) a0_1 true _ aG.out).mono ?_
           rintro e w' ⟨rfl, ⟨nd, rfl⟩⟩; refine ⟨_, rfl, ?_⟩; refine hK.out _ _ ⟨b1 ab 0, b1 ab 1, b1 ab 2, b1 ab 3, b1 aa 0, b1 aa 1, b1 aa 2, b1 aa 3⟩ (fun hHeld => ?_); clear hK K; refine nr_ (some 54) ?_
           refine pv_ 12 (some 55) bl41 HT_ ?_
           refine pv_ 13 (some 56) bl42 HT_ ?_
           refine pv_ 14 (some 57) bl43 HT_ ?_
           refine pv_ 15 (some 58) bl44 HT_ ?_
           refine pv_ 17 (some 60) bl45 HT_ ?_
           refine tk_ 16 (some 59) bl46 HT_ HW_ hHeld ?_
           refine tk_ 18 (some 61) bl47 HT_ HW_ hHeld ?_
           refine pv_ 19 (some 62) bl48 HT_ ?_
           refine on_ 20 (some 63) bl49 HT_ (fun K hK => ?_); refine gs_ Try.func31 #[.int .i64 ((rd_T48 l0_3 x3_2).f1), .int .i64 0, .int .i64 (wrap64 (a0_0 - 1))] ?_
           with_reducible refine (spec_l1In.calls ((rd_T48 l0_3 x3_2).f1) 0 (wrap64 (a0_0 - 1)) false _ aK.out).mono ?_
           rintro e w' ⟨rfl, ⟨nd, rfl⟩⟩; refine ⟨_, rfl, ?_⟩; refine hK.out _ _ ⟨b1 ab 0, b1 ab 1, b1 ab 2, b1 ab 3, b1 aa 0, b1 aa 1, b1 aa 2, b1 aa 3⟩ (fun hHeld => ?_); clear hK K; refine nr_ (some 63) ?_
           refine pv_ 21 (some 64) bl50 HT_ ?_
           refine pv_ 22 (some 65) bl51 HT_ ?_
           refine pv_ 23 (some 66) bl52 HT_ ?_
           refine pn_ 24 (some 67) bl53 HT_ ?_
           refine pn_ 25 (some 68) bl54 HT_ ?_
           refine pn_ 26 (some 69) bl55 HT_ ?_
           refine pn_ 27 (some 70) bl56 HT_ ?_
           refine pn_ 28 (some 71) bl67 HT_ ?_
           refine pn_ 29 (some 72) bl68 HT_ ?_
           refine pn_ 30 (some 73) bl59 HT_ ?_
           refine pn_ 31 (some 74) bl60 HT_ ?_
           refine pn_ 32 (some 75) bl61 HT_ ?_
           refine pn_ 33 (some 76) bl62 HT_ ?_
           refine pn_ 34 (some 77) bl63 HT_ ?_
           refine pn_ 35 (some 78) bl64 HT_ ?_
           refine pn_ 36 (some 79) bl65 HT_ ?_
           refine pv_ 37 (some 80) bl66 HT_ ?_
           refine done_ (done_of HT_.out (by kernel_rfl)) ?_
           try go_wp2
           go_ret; exact ⟨vw, zS HB.out⟩
         ·replace aN := Bool.eq_false_iff.mpr aN; subst aN
          have H1 : (some false) = some r := by rw [if_neg (show ¬ (false = true) by decide)] at H; exact H
          clear H; have H := H1; clear H1; obtain rfl := Option.some.inj H; obtain ⟨cz, cA, cB, cC, cD, cE, cF, cG⟩ := cz4 aa; have aj : 0 ≤ (x3_2 : Int) := oD; have q131 : x3_2 < (l0_3.length : Int) := oD; obtain ⟨ad131, e131, ae, af, ag, ah⟩ := at_T48 HR0_3.out x3_2 aj q131
          cases e131
          replace ae := ct_ HB ae; replace af := ct_ HB af; replace ag := ct_ HB ag; replace ah := ct_ HB ah; replace aj := eq_true aj; replace q131 := eq_true q131
          try go_wp2_with (first | ((with_reducible refine gate_dst (N := 4) rfl ?_); (try (refine gate_guard (by rfl) ?_; dsimp only)); refine bx_ 4 #[.int .i64 0, .int .i64 0, .int .i64 0, .bool false] 48 ?_; intro ac hg aW hbox hb; have ab := Aside0.mk (hbox); have az := xG HB hg; have aA := xG HB hg; replace HB := xS HB hb; have av := xN aa hg; have ai := xM aa hg; replace aa := xB aa hb; clear hb hbox hg; obtain ⟨dK, dL⟩ := nn ai; obtain ⟨cH, cI, cJ, cK, cL, cM, cN, cO⟩ := cz4 ab))
          have ak : Aside0 (((((aW.setCell ⟨ac, 0, none⟩ (.int .i64 ((rd_T48 l0_3 x3_2).f0))).setCell ⟨ac, 1, none⟩ (.int .i64 ((rd_T48 l0_3 x3_2).f1))).setCell ⟨ac, 2, none⟩ (.int .i64 ((rd_T48 l0_3 x3_2).f2))).setCell ⟨ac, 3, none⟩ (.bool ((rd_T48 l0_3 x3_2).f3))).heap[ad]? = some (.cells #[.int .i64 a0_0, .int .i64 a0_1, .int .i64 a0_2, .slice (some ad131) l0_3.length c0_3] 28 (0, 0))) := ⟨zB aa.out⟩; have al : Aside0 (((((aW.setCell ⟨ac, 0, none⟩ (.int .i64 ((rd_T48 l0_3 x3_2).f0))).setCell ⟨ac, 1, none⟩ (.int .i64 ((rd_T48 l0_3 x3_2).f1))).setCell ⟨ac, 2, none⟩ (.int .i64 ((rd_T48 l0_3 x3_2).f2))).setCell ⟨ac, 3, none⟩ (.bool ((rd_T48 l0_3 x3_2).f3))).heap[ac]? = some (.cells #[.int .i64 ((rd_T48 l0_3 x3_2).f0), .int .i64 ((rd_T48 l0_3 x3_2).f1), .int .i64 ((rd_T48 l0_3 x3_2).f2), .bool ((rd_T48 l0_3 x3_2).f3)] 48 (0, 0))) := ⟨by (with_reducible repeat (first | refine blk_drewN ?_ _ | refine blk_drew ?_ | refine blk_alloc ?_ _)); refine blk_put (cs := #[.int .i64 ((rd_T48 l0_3 x3_2).f0), .int .i64 ((rd_T48 l0_3 x3_2).f1), .int .i64 ((rd_T48 l0_3 x3_2).f2), .bool false]) ?_ 3 _ rfl; (with_reducible repeat (first | refine blk_drewN ?_ _ | refine blk_drew ?_ | refine blk_alloc ?_ _)); refine blk_put (cs := #[.int .i64 ((rd_T48 l0_3 x3_2).f0), .int .i64 ((rd_T48 l0_3 x3_2).f1), .int .i64 0, .bool false]) ?_ 2 _ rfl; (with_reducible repeat (first | refine blk_drewN ?_ _ | refine blk_drew ?_ | refine blk_alloc ?_ _)); refine blk_put (cs := #[.int .i64 ((rd_T48 l0_3 x3_2).f0), .int .i64 0, .int .i64 0, .bool false]) ?_ 1 _ rfl; (with_reducible repeat (first | refine blk_drewN ?_ _ | refine blk_drew ?_ | refine blk_alloc ?_ _)); refine blk_put (cs := #[.int .i64 0, .int .i64 0, .int .i64 0, .bool false]) ?_ 0 _ rfl; (with_reducible repeat (first | refine blk_drewN ?_ _ | refine blk_drew ?_ | refine blk_alloc ?_ _)); exact ab.out⟩; have am : Aside0 (Below w.heap.size w ((((aW.setCell ⟨ac, 0, none⟩ (.int .i64 ((rd_T48 l0_3 x3_2).f0))).setCell ⟨ac, 1, none⟩ (.int .i64 ((rd_T48 l0_3 x3_2).f1))).setCell ⟨ac, 2, none⟩ (.int .i64 ((rd_T48 l0_3 x3_2).f2))).setCell ⟨ac, 3, none⟩ (.bool ((rd_T48 l0_3 x3_2).f3)))) := ⟨zS HB.out⟩
          (try clear aa)
          (try clear ab)
          (try clear HB)
          generalize ((((aW.setCell ⟨ac, 0, none⟩ (.int .i64 ((rd_T48 l0_3 x3_2).f0))).setCell ⟨ac, 1, none⟩ (.int .i64 ((rd_T48 l0_3 x3_2).f1))).setCell ⟨ac, 2, none⟩ (.int .i64 ((rd_T48 l0_3 x3_2).f2))).setCell ⟨ac, 3, none⟩ (.bool ((rd_T48 l0_3 x3_2).f3))) = dv at ak al am ⊢; have aa := ak; have ab := al; have HB := am; clear ak al am; replace aa := Aside0.mk (blk_drew aa.out); replace ab := Aside0.mk (blk_drew ab.out); replace HB := Aside0.mk (below_drew1 HB.out); refine start_ (n := 38) (S := fun w' => w'.cell? ⟨ac, 0, none⟩ = some (.int .i64 ((rd_T48 l0_3 x3_2).f0)) ∧ w'.cell? ⟨ac, 1, none⟩ = some (.int .i64 ((rd_T48 l0_3 x3_2).f1)) ∧ w'.cell? ⟨ac, 2, none⟩ = some (.int .i64 ((rd_T48 l0_3 x3_2).f2)) ∧ w'.cell? ⟨ac, 3, none⟩ = some (.bool ((rd_T48 l0_3 x3_2).f3)) ∧ w'.cell? ⟨ad, 0, none⟩ = some (.int .i64 a0_0) ∧ w'.cell? ⟨ad, 1, none⟩ = some (.int .i64 a0_1) ∧ w'.cell? ⟨ad, 2, none⟩ = some (.int .i64 a0_2) ∧ w'.cell? ⟨ad, 3, none⟩ = some (.slice (some ad131) l0_3.length c0_3)) (ds := []) bl28 (by kernel_rfl) rfl rfl ⟨b1 ab 0, b1 ab 1, b1 ab 2, b1 ab 3, b1 aa 0, b1 aa 1, b1 aa 2, b1 aa 3⟩ (fun hHeld => ?_); refine with_tabW spec_AutoOk.tab7 spec_AutoOk.bits7 (fun HT_ HW_ => ?_); generalize dv.drew = ea at aa ab HB hHeld ⊢
          refine pv_ 0 (some 43) bl29 HT_ ?_
          refine pv_ 2 (some 45) bl30 HT_ ?_
          refine tk_ 1 (some 44) bl31 HT_ HW_ hHeld ?_
          refine tk_ 3 (some 46) bl32 HT_ HW_ hHeld ?_
          refine on_ 4 (some 47) bl33 HT_ (fun K hK => ?_); refine gs_ Try.func33 #[.int .i64 ((rd_T48 l0_3 x3_2).f0), .int .i64 a0_1] ?_
          with_reducible refine (spec_l4State.calls ((rd_T48 l0_3 x3_2).f0) a0_1 true _ aD.out).mono ?_
          rintro e w' ⟨rfl, ⟨nd, rfl⟩⟩; refine ⟨_, rfl, ?_⟩; refine hK.out _ _ ⟨b1 ab 0, b1 ab 1, b1 ab 2, b1 ab 3, b1 aa 0, b1 aa 1, b1 aa 2, b1 aa 3⟩ (fun hHeld => ?_); clear hK K; refine nr_ (some 47) ?_
          refine pv_ 5 (some 48) bl34 HT_ ?_
          refine pv_ 6 (some 49) bl35 HT_ ?_
          refine pv_ 7 (some 50) bl36 HT_ ?_
          refine pv_ 9 (some 52) bl37 HT_ ?_
          refine tk_ 8 (some 51) bl38 HT_ HW_ hHeld ?_
          refine tk_ 10 (some 53) bl39 HT_ HW_ hHeld ?_
          refine on_ 11 (some 54) bl40 HT_ (fun K hK => ?_); refine gs_ Try.func33 #[.int .i64 ((rd_T48 l0_3 x3_2).f2), .int .i64 a0_1] ?_
          with_reducible refine (spec_l4State.calls ((rd_T48 l0_3 x3_2).f2) a0_1 false _ aG.out).mono ?_
          rintro e w' ⟨rfl, ⟨nd, rfl⟩⟩; refine ⟨_, rfl, ?_⟩; refine hK.out _ _ ⟨b1 ab 0, b1 ab 1, b1 ab 2, b1 ab 3, b1 aa 0, b1 aa 1, b1 aa 2, b1 aa 3⟩ (fun hHeld => ?_); clear hK K; refine nr_ (some 54) ?_
          refine pv_ 12 (some 55) bl41 HT_ ?_
          refine pv_ 13 (some 56) bl42 HT_ ?_
          refine pv_ 14 (some 57) bl43 HT_ ?_
          refine pn_ 15 (some 58) bl44 HT_ ?_
          refine pn_ 16 (some 59) bl69 HT_ ?_
          refine pn_ 17 (some 60) bl46 HT_ ?_
          refine pn_ 18 (some 61) bl47 HT_ ?_
          refine pn_ 19 (some 62) bl48 HT_ ?_
          refine pn_ 20 (some 63) bl49 HT_ ?_
          refine pn_ 21 (some 64) bl50 HT_ ?_
          refine pv_ 22 (some 65) bl51 HT_ ?_
          refine pv_ 23 (some 66) bl52 HT_ ?_
          refine pn_ 24 (some 67) bl53 HT_ ?_
          refine pn_ 25 (some 68) bl54 HT_ ?_
          refine pn_ 26 (some 69) bl55 HT_ ?_
          refine pn_ 27 (some 70) bl56 HT_ ?_
          refine pn_ 28 (some 71) bl67 HT_ ?_
          refine pn_ 29 (some 72) bl68 HT_ ?_
          refine pn_ 30 (some 73) bl59 HT_ ?_
          refine pn_ 31 (some 74) bl60 HT_ ?_
          refine pn_ 32 (some 75) bl61 HT_ ?_
          refine pn_ 33 (some 76) bl62 HT_ ?_
          refine pn_ 34 (some 77) bl63 HT_ ?_
          refine pn_ 35 (some 78) bl64 HT_ ?_
          refine pn_ 36 (some 79) bl65 HT_ ?_
          refine pv_ 37 (some 80) bl66 HT_ ?_
          refine done_ (done_of HT_.out (by kernel_rfl)) ?_
          try go_wp2
          go_ret; exact ⟨vw, zS HB.out⟩
        ·replace aM := Bool.eq_false_iff.mpr aM; subst aM
         have H1 : (some false) = some r := by rw [if_neg (show ¬ (false = true) by decide)] at H; exact H
         clear H; have H := H1; clear H1; obtain rfl := Option.some.inj H; obtain ⟨cP, cQ, cR, cS, cU, cV, cW, cX⟩ := cz4 aa; have aj : 0 ≤ (x3_2 : Int) := oD; have q131 : x3_2 < (l0_3.length : Int) := oD; obtain ⟨ad131, e131, ae, af, ag, ah⟩ := at_T48 HR0_3.out x3_2 aj q131
         cases e131
         replace ae := ct_ HB ae; replace af := ct_ HB af; replace ag := ct_ HB ag; replace ah := ct_ HB ah; replace aj := eq_true aj; replace q131 := eq_true q131
         try go_wp2_with (first | ((with_reducible refine gate_dst (N := 4) rfl ?_); (try (refine gate_guard (by rfl) ?_; dsimp only)); refine bx_ 4 #[.int .i64 0, .int .i64 0, .int .i64 0, .bool false] 48 ?_; intro ac hg aX hbox hb; have ab := Aside0.mk (hbox); have az := xG HB hg; have aA := xG HB hg; replace HB := xS HB hb; have av := xN aa hg; have ai := xM aa hg; replace aa := xB aa hb; clear hb hbox hg; obtain ⟨dM, dN⟩ := nn ai; obtain ⟨cY, cZ, da, db, dc, dd, de, df⟩ := cz4 ab))
         have ak : Aside0 (((((aX.setCell ⟨ac, 0, none⟩ (.int .i64 ((rd_T48 l0_3 x3_2).f0))).setCell ⟨ac, 1, none⟩ (.int .i64 ((rd_T48 l0_3 x3_2).f1))).setCell ⟨ac, 2, none⟩ (.int .i64 ((rd_T48 l0_3 x3_2).f2))).setCell ⟨ac, 3, none⟩ (.bool ((rd_T48 l0_3 x3_2).f3))).heap[ad]? = some (.cells #[.int .i64 a0_0, .int .i64 a0_1, .int .i64 a0_2, .slice (some ad131) l0_3.length c0_3] 28 (0, 0))) := ⟨zB aa.out⟩; have al : Aside0 (((((aX.setCell ⟨ac, 0, none⟩ (.int .i64 ((rd_T48 l0_3 x3_2).f0))).setCell ⟨ac, 1, none⟩ (.int .i64 ((rd_T48 l0_3 x3_2).f1))).setCell ⟨ac, 2, none⟩ (.int .i64 ((rd_T48 l0_3 x3_2).f2))).setCell ⟨ac, 3, none⟩ (.bool ((rd_T48 l0_3 x3_2).f3))).heap[ac]? = some (.cells #[.int .i64 ((rd_T48 l0_3 x3_2).f0), .int .i64 ((rd_T48 l0_3 x3_2).f1), .int .i64 ((rd_T48 l0_3 x3_2).f2), .bool ((rd_T48 l0_3 x3_2).f3)] 48 (0, 0))) := ⟨by (with_reducible repeat (first | refine blk_drewN ?_ _ | refine blk_drew ?_ | refine blk_alloc ?_ _)); refine blk_put (cs := #[.int .i64 ((rd_T48 l0_3 x3_2).f0), .int .i64 ((rd_T48 l0_3 x3_2).f1), .int .i64 ((rd_T48 l0_3 x3_2).f2), .bool false]) ?_ 3 _ rfl; (with_reducible repeat (first | refine blk_drewN ?_ _ | refine blk_drew ?_ | refine blk_alloc ?_ _)); refine blk_put (cs := #[.int .i64 ((rd_T48 l0_3 x3_2).f0), .int .i64 ((rd_T48 l0_3 x3_2).f1), .int .i64 0, .bool false]) ?_ 2 _ rfl; (with_reducible repeat (first | refine blk_drewN ?_ _ | refine blk_drew ?_ | refine blk_alloc ?_ _)); refine blk_put (cs := #[.int .i64 ((rd_T48 l0_3 x3_2).f0), .int .i64 0, .int .i64 0, .bool false]) ?_ 1 _ rfl; (with_reducible repeat (first | refine blk_drewN ?_ _ | refine blk_drew ?_ | refine blk_alloc ?_ _)); refine blk_put (cs := #[.int .i64 0, .int .i64 0, .int .i64 0, .bool false]) ?_ 0 _ rfl; (with_reducible repeat (first | refine blk_drewN ?_ _ | refine blk_drew ?_ | refine blk_alloc ?_ _)); exact ab.out⟩; have am : Aside0 (Below w.heap.size w ((((aX.setCell ⟨ac, 0, none⟩ (.int .i64 ((rd_T48 l0_3 x3_2).f0))).setCell ⟨ac, 1, none⟩ (.int .i64 ((rd_T48 l0_3 x3_2).f1))).setCell ⟨ac, 2, none⟩ (.int .i64 ((rd_T48 l0_3 x3_2).f2))).setCell ⟨ac, 3, none⟩ (.bool ((rd_T48 l0_3 x3_2).f3)))) := ⟨zS HB.out⟩
         (try clear aa)
         (try clear ab)
         (try clear HB)
         generalize ((((aX.setCell ⟨ac, 0, none⟩ (.int .i64 ((rd_T48 l0_3 x3_2).f0))).setCell ⟨ac, 1, none⟩ (.int .i64 ((rd_T48 l0_3 x3_2).f1))).setCell ⟨ac, 2, none⟩ (.int .i64 ((rd_T48 l0_3 x3_2).f2))).setCell ⟨ac, 3, none⟩ (.bool ((rd_T48 l0_3 x3_2).f3))) = dw at ak al am ⊢; have aa := ak; have ab := al; have HB := am; clear ak al am; replace aa := Aside0.mk (blk_drew aa.out); replace ab := Aside0.mk (blk_drew ab.out); replace HB := Aside0.mk (below_drew1 HB.out); refine start_ (n := 38) (S := fun w' => w'.cell? ⟨ac, 0, none⟩ = some (.int .i64 ((rd_T48 l0_3 x3_2).f0)) ∧ w'.cell? ⟨ac, 1, none⟩ = some (.int .i64 ((rd_T48 l0_3 x3_2).f1)) ∧ w'.cell? ⟨ac, 2, none⟩ = some (.int .i64 ((rd_T48 l0_3 x3_2).f2)) ∧ w'.cell? ⟨ac, 3, none⟩ = some (.bool ((rd_T48 l0_3 x3_2).f3)) ∧ w'.cell? ⟨ad, 0, none⟩ = some (.int .i64 a0_0) ∧ w'.cell? ⟨ad, 1, none⟩ = some (.int .i64 a0_1) ∧ w'.cell? ⟨ad, 2, none⟩ = some (.int .i64 a0_2) ∧ w'.cell? ⟨ad, 3, none⟩ = some (.slice (some ad131) l0_3.length c0_3)) (ds := []) bl28 (by kernel_rfl) rfl rfl ⟨b1 ab 0, b1 ab 1, b1 ab 2, b1 ab 3, b1 aa 0, b1 aa 1, b1 aa 2, b1 aa 3⟩ (fun hHeld => ?_); refine with_tabW spec_AutoOk.tab7 spec_AutoOk.bits7 (fun HT_ HW_ => ?_); generalize dw.drew = eb at aa ab HB hHeld ⊢
         refine pv_ 0 (some 43) bl29 HT_ ?_
         refine pv_ 2 (some 45) bl30 HT_ ?_
         refine tk_ 1 (some 44) bl31 HT_ HW_ hHeld ?_
         refine tk_ 3 (some 46) bl32 HT_ HW_ hHeld ?_
         refine on_ 4 (some 47) bl33 HT_ (fun K hK => ?_); refine gs_ Try.func33 #[.int .i64 ((rd_T48 l0_3 x3_2).f0), .int .i64 a0_1] ?_
         with_reducible refine (spec_l4State.calls ((rd_T48 l0_3 x3_2).f0) a0_1 false _ aD.out).mono ?_
         rintro e w' ⟨rfl, ⟨nd, rfl⟩⟩; refine ⟨_, rfl, ?_⟩; refine hK.out _ _ ⟨b1 ab 0, b1 ab 1, b1 ab 2, b1 ab 3, b1 aa 0, b1 aa 1, b1 aa 2, b1 aa 3⟩ (fun hHeld => ?_); clear hK K; refine nr_ (some 47) ?_
         refine pv_ 5 (some 48) bl34 HT_ ?_
         refine pv_ 6 (some 49) bl35 HT_ ?_
         refine pn_ 7 (some 50) bl36 HT_ ?_
         refine pn_ 8 (some 51) bl70 HT_ ?_
         refine pn_ 9 (some 52) bl38 HT_ ?_
         refine pn_ 10 (some 53) bl39 HT_ ?_
         refine pn_ 11 (some 54) bl40 HT_ ?_
         refine pn_ 12 (some 55) bl41 HT_ ?_
         refine pv_ 13 (some 56) bl42 HT_ ?_
         refine pv_ 14 (some 57) bl43 HT_ ?_
         refine pn_ 15 (some 58) bl44 HT_ ?_
         refine pn_ 16 (some 59) bl69 HT_ ?_
         refine pn_ 17 (some 60) bl46 HT_ ?_
         refine pn_ 18 (some 61) bl47 HT_ ?_
         refine pn_ 19 (some 62) bl48 HT_ ?_
         refine pn_ 20 (some 63) bl49 HT_ ?_
         refine pn_ 21 (some 64) bl50 HT_ ?_
         refine pv_ 22 (some 65) bl51 HT_ ?_
         refine pv_ 23 (some 66) bl52 HT_ ?_
         refine pn_ 24 (some 67) bl53 HT_ ?_
         refine pn_ 25 (some 68) bl54 HT_ ?_
         refine pn_ 26 (some 69) bl55 HT_ ?_
         refine pn_ 27 (some 70) bl56 HT_ ?_
         refine pn_ 28 (some 71) bl67 HT_ ?_
         refine pn_ 29 (some 72) bl68 HT_ ?_
         refine pn_ 30 (some 73) bl59 HT_ ?_
         refine pn_ 31 (some 74) bl60 HT_ ?_
         refine pn_ 32 (some 75) bl61 HT_ ?_
         refine pn_ 33 (some 76) bl62 HT_ ?_
         refine pn_ 34 (some 77) bl63 HT_ ?_
         refine pn_ 35 (some 78) bl64 HT_ ?_
         refine pn_ 36 (some 79) bl65 HT_ ?_
         refine pv_ 37 (some 80) bl66 HT_ ?_
         refine done_ (done_of HT_.out (by kernel_rfl)) ?_
         try go_wp2
         go_ret; exact ⟨vw, zS HB.out⟩
       ·rw [if_neg aL] at H; exact absurd H (by simp)
      ·rw [if_neg aF] at H; have be : decide (x3_2 < (l0_3.length : Int)) = false := decide_eq_false aF; clear aF; obtain rfl := Option.some.inj H; obtain ⟨dg, dh, di, dj, dk, dl, dm, dn⟩ := cz4 aa
       go_wp2
       go_ret; exact ⟨vw, zS HB.out⟩

end Go.Proofs.Ytnflbjdmbaaokaa.MFnExactGenDegen
