-- Written by a program of this session, out of Lean's print of the translation. Not trusted: Lean checks it.
import Derived.Test.YtnflbjdmbaaokaaMFnExactGenDegenx0
import Derived.Test.YtnflbjdmbaaokaaMFnExactGenDegenx2
import Derived.Test.YtnflbjdmbaaokaaMFnExactGenDegenx3
import Derived.Test.YtnflbjdmbaaokaaMFnExactGenDegenx5
namespace Go.Proofs.Ytnflbjdmbaaokaa.MFnExactGenDegen
open Go.RowKit Go.Proofs.YtnflbjdmbaaokaaW.PrintWords Go.Proofs.YtnflbjdmbaaokaaW.PrintLast Go.Proofs.YtnflbjdmbaaokaaW.PrintMore Go.Proofs.Ytnflbjdmbaaokaa.Short6
attribute [local go_sem] max2_int min2_int max_two min_two max_three min_three max_four min_four   -- for this text's walks alone
set_option linter.unusedVariables false
set_option linter.unusedSimpArgs false

section
open Go.Proofs.Ytnflbjdmbaaokaa.Short2.T
abbrev spec_GenDegen.bl0 : Array Bool := #[f, f, f, f, f, f, f, f, f, f, f, f, f, f, f, f, f, f, f, f, f, f]
abbrev spec_GenDegen.bl1 : Array Bool := #[t, f, f, f, f, f, f, f, f, f, f, f, f, f, f, f, f, f, f, f, f, f]
abbrev spec_GenDegen.bl2 : Array Bool := #[t, t, f, f, f, f, f, f, f, f, f, f, f, f, f, f, f, f, f, f, f, f]
abbrev spec_GenDegen.bl3 : Array Bool := #[t, t, t, f, f, f, f, f, f, f, f, f, f, f, f, f, f, f, f, f, f, f]
abbrev spec_GenDegen.bl4 : Array Bool := #[t, t, t, t, f, f, f, f, f, f, f, f, f, f, f, f, f, f, f, f, f, f]
abbrev spec_GenDegen.bl5 : Array Bool := #[t, t, t, t, t, f, f, f, f, f, f, f, f, f, f, f, f, f, f, f, f, f]
abbrev spec_GenDegen.bl6 : Array Bool := #[t, t, t, t, t, f, t, f, f, f, f, f, f, f, f, f, f, f, f, f, f, f]
abbrev spec_GenDegen.bl7 : Array Bool := #[t, t, t, t, t, t, t, f, f, f, f, f, f, f, f, f, f, f, f, f, f, f]
abbrev spec_GenDegen.bl8 : Array Bool := #[t, t, t, t, t, t, t, t, f, f, f, f, f, f, f, f, f, f, f, f, f, f]
abbrev spec_GenDegen.bl9 : Array Bool := #[t, t, t, t, t, t, t, t, t, f, f, f, f, f, f, f, f, f, f, f, f, f]
abbrev spec_GenDegen.bl10 : Array Bool := #[t, t, t, t, t, t, t, t, t, t, f, f, f, f, f, f, f, f, f, f, f, f]
abbrev spec_GenDegen.bl11 : Array Bool := #[t, t, t, t, t, t, t, t, t, t, t, f, f, f, f, f, f, f, f, f, f, f]
abbrev spec_GenDegen.bl12 : Array Bool := #[t, t, t, t, t, t, t, t, t, t, t, t, f, f, f, f, f, f, f, f, f, f]
abbrev spec_GenDegen.bl13 : Array Bool := #[t, t, t, t, t, t, t, t, t, t, t, t, t, f, f, f, f, f, f, f, f, f]
abbrev spec_GenDegen.bl14 : Array Bool := #[t, t, t, t, t, t, t, t, t, t, t, t, t, t, f, f, f, f, f, f, f, f]
abbrev spec_GenDegen.bl15 : Array Bool := #[t, t, t, t, t, t, t, t, t, t, t, t, t, t, t, f, f, f, f, f, f, f]
abbrev spec_GenDegen.bl16 : Array Bool := #[t, t, t, t, t, t, t, t, t, t, t, t, t, t, t, t, f, f, f, f, f, f]
abbrev spec_GenDegen.bl17 : Array Bool := #[t, t, t, t, t, t, t, t, t, t, t, t, t, t, t, t, t, f, f, f, f, f]
abbrev spec_GenDegen.bl18 : Array Bool := #[t, t, t, t, t, t, t, t, t, t, t, t, t, t, t, t, t, t, f, f, f, f]
abbrev spec_GenDegen.bl19 : Array Bool := #[t, t, t, t, t, t, t, t, t, t, t, t, t, t, t, t, t, t, t, f, f, f]
abbrev spec_GenDegen.bl20 : Array Bool := #[t, t, t, t, t, t, t, t, t, t, t, t, t, t, t, t, t, t, t, t, f, f]
abbrev spec_GenDegen.bl21 : Array Bool := #[t, t, t, t, t, t, t, t, t, t, t, t, t, t, t, t, t, t, t, t, t, f]
abbrev spec_GenDegen.bl22 : Array Bool := #[t, t, t, t, t, t, t, t, t, t, t, t, t, t, t, t, t, t, t, t, t, t]
abbrev spec_GenDegen.bl23 : Array Bool := #[t, t, t, t, t, t, t, t, t, t, t, t, t, t, f, f, t, f, f, f, f, f]
abbrev spec_GenDegen.bl24 : Array Bool := #[t, t, t, t, t, t, t, t, t, t, t, t, t, t, t, f, t, f, f, f, f, f]
abbrev spec_GenDegen.bl25 : Array Bool := #[t, t, t, t, t, t, f, f, f, f, f, f, f, f, f, f, f, f, f, f, f, f]
end
/-! ### spec_GenDegen: function 5 -/
mutual
def spec_GenDegen.j0 : Nat → Bool → Int → Int → Int → Int → List (S46) → Option (Int × Int × Int × (List (S48)) × Bool)
 | 0, _, _, _, _, _, _ => none
 | k + 1, x34, x161000, x161001, x161002, x161003, x161004 => if x34 = true then (some (0, 0, 0, ([] : List (S48)), false)) else ((spec_l1Max.f x161003 1).bind fun t165 => (spec_GenDegen.l0 k t165 0 0 x161000 x161001 x161002 x161003 x161004))
def spec_GenDegen.l0 : Nat → Int → Int → Int → Int → Int → Int → Int → List (S46) → Option (Int × Int × Int × (List (S48)) × Bool)
 | 0, _, _, _, _, _, _, _, _ => none
 | k + 1, x4, x5, x6, x161000, x161001, x161002, x161003, x161004 => if x6 < x161001 then ((spec_l1Has.f x161002 x6).bind fun t166 => (if t166 = true then ((spec_l1Bit.f (wrap64 (x6 * x4))).bind fun t167 => (spec_GenDegen.l0 k x4 (Go.bits .or .i64 x5 t167) (wrap64 (x6 + 1)) x161000 x161001 x161002 x161003 x161004)) else (spec_GenDegen.l0 k x4 x5 (wrap64 (x6 + 1)) x161000 x161001 x161002 x161003 x161004))) else (spec_GenDegen.l1 k x4 x5 (([] : List (S48))) 0 x161000 x161001 x161002 x161003 x161004)
def spec_GenDegen.l1 : Nat → Int → Int → List (S48) → Int → Int → Int → Int → Int → List (S46) → Option (Int × Int × Int × (List (S48)) × Bool)
 | 0, _, _, _, _, _, _, _, _, _ => none
 | k + 1, x4, x5, x7, x8, x161000, x161001, x161002, x161003, x161004 => if x8 < (x161004.length : Int) then (if 0 ≤ x8 then (spec_GenDegen.l2 k x4 x5 x7 x8 0 x161000 x161001 x161002 x161003 x161004 ((rd_T46 x161004 x8).f0) ((rd_T46 x161004 x8).f1) ((rd_T46 x161004 x8).f2) ((rd_T46 x161004 x8).f3)) else (none)) else ((spec_AutoMake.f k x161000 (wrap64 (x161001 * x4)) x5 x7).bind fun bt171 => (some (bt171.1, bt171.2.1, bt171.2.2.1, bt171.2.2.2.1, bt171.2.2.2.2)))
def spec_GenDegen.l2 : Nat → Int → Int → List (S48) → Int → Int → Int → Int → Int → Int → List (S46) → Int → Int → Int → Int → Option (Int × Int × Int × (List (S48)) × Bool)
 | 0, _, _, _, _, _, _, _, _, _, _, _, _, _, _ => none
 | k + 1, x4, x5, x7, x8, x10, x161000, x161001, x161002, x161003, x161004, x180000, x180001, x180002, x180003 => if x10 < x4 then (spec_GenDegen.l3 k x4 x5 x7 x8 x10 x10 x161000 x161001 x161002 x161003 x161004 x180000 x180001 x180002 x180003) else (spec_GenDegen.l1 k x4 x5 x7 (wrap64 (x8 + 1)) x161000 x161001 x161002 x161003 x161004)
def spec_GenDegen.l3 : Nat → Int → Int → List (S48) → Int → Int → Int → Int → Int → Int → Int → List (S46) → Int → Int → Int → Int → Option (Int × Int × Int × (List (S48)) × Bool)
 | 0, _, _, _, _, _, _, _, _, _, _, _, _, _, _, _ => none
 | k + 1, x4, x5, x7, x8, x10, x11, x161000, x161001, x161002, x161003, x161004, x180000, x180001, x180002, x180003 => if x11 < x161003 then ((spec_l1Has.f x180003 x11).bind fun t180 => (if t180 = true then (spec_GenDegen.l3 k x4 x5 x7 x8 x10 (wrap64 (x11 + 1)) x161000 x161001 x161002 x161003 x161004 x180000 x180001 x180002 x180003) else (if x11 ≥ x161003 then (if x7.length < 4398046511104 then (spec_GenDegen.l2 k x4 x5 (x7 ++ [(⟨wrap64 ((wrap64 (x180000 * x4)) + x10), x180001, wrap64 ((wrap64 (x180002 * x4)) + 0), decide (x11 ≥ x161003)⟩ : S48)]) x8 (wrap64 (x10 + 1)) x161000 x161001 x161002 x161003 x161004 x180000 x180001 x180002 x180003) else (none)) else (if x7.length < 4398046511104 then (spec_GenDegen.l2 k x4 x5 (x7 ++ [(⟨wrap64 ((wrap64 (x180000 * x4)) + x10), x180001, wrap64 ((wrap64 (x180002 * x4)) + x11), decide (x11 ≥ x161003)⟩ : S48)]) x8 (wrap64 (x10 + 1)) x161000 x161001 x161002 x161003 x161004 x180000 x180001 x180002 x180003) else (none))))) else (if x11 ≥ x161003 then (if x7.length < 4398046511104 then (spec_GenDegen.l2 k x4 x5 (x7 ++ [(⟨wrap64 ((wrap64 (x180000 * x4)) + x10), x180001, wrap64 ((wrap64 (x180002 * x4)) + 0), decide (x11 ≥ x161003)⟩ : S48)]) x8 (wrap64 (x10 + 1)) x161000 x161001 x161002 x161003 x161004 x180000 x180001 x180002 x180003) else (none)) else (if x7.length < 4398046511104 then (spec_GenDegen.l2 k x4 x5 (x7 ++ [(⟨wrap64 ((wrap64 (x180000 * x4)) + x10), x180001, wrap64 ((wrap64 (x180002 * x4)) + x11), decide (x11 ≥ x161003)⟩ : S48)]) x8 (wrap64 (x10 + 1)) x161000 x161001 x161002 x161003 x161004 x180000 x180001 x180002 x180003) else (none)))
end
def spec_GenDegen.f (k : Nat) (a0_0 : Int) (a0_1 : Int) (a0_2 : Int) (a0_3 : Int) (l0_4 : List (S46)) : Option (Int × Int × Int × (List (S48)) × Bool) := (spec_GenOk.f k a0_0 a0_1 a0_2 a0_3 l0_4).bind fun t162 => (if t162 = true then ((spec_l1Max.f a0_3 1).bind fun t163 => (if (wrap64 (a0_1 * t163)) > 31 then (spec_GenDegen.j0 k true a0_0 a0_1 a0_2 a0_3 l0_4) else ((spec_l1Max.f a0_3 1).bind fun t164 => (spec_GenDegen.j0 k (decide ((wrap64 ((l0_4.length : Int) * t164)) > 2000)) a0_0 a0_1 a0_2 a0_3 l0_4)))) else (spec_GenDegen.j0 k true a0_0 a0_1 a0_2 a0_3 l0_4))
theorem spec_GenDegen.mono_l : ∀ k, (∀ y0 y1 y2 y3 y4 y5, LeO (spec_GenDegen.j0 k y0 y1 y2 y3 y4 y5) (spec_GenDegen.j0 (k + 1) y0 y1 y2 y3 y4 y5)) ∧ (∀ y0 y1 y2 y3 y4 y5 y6 y7, LeO (spec_GenDegen.l0 k y0 y1 y2 y3 y4 y5 y6 y7) (spec_GenDegen.l0 (k + 1) y0 y1 y2 y3 y4 y5 y6 y7)) ∧ (∀ y0 y1 y2 y3 y4 y5 y6 y7 y8, LeO (spec_GenDegen.l1 k y0 y1 y2 y3 y4 y5 y6 y7 y8) (spec_GenDegen.l1 (k + 1) y0 y1 y2 y3 y4 y5 y6 y7 y8)) ∧ (∀ y0 y1 y2 y3 y4 y5 y6 y7 y8 y9 y10 y11 y12 y13, LeO (spec_GenDegen.l2 k y0 y1 y2 y3 y4 y5 y6 y7 y8 y9 y10 y11 y12 y13) (spec_GenDegen.l2 (k + 1) y0 y1 y2 y3 y4 y5 y6 y7 y8 y9 y10 y11 y12 y13)) ∧ (∀ y0 y1 y2 y3 y4 y5 y6 y7 y8 y9 y10 y11 y12 y13 y14, LeO (spec_GenDegen.l3 k y0 y1 y2 y3 y4 y5 y6 y7 y8 y9 y10 y11 y12 y13 y14) (spec_GenDegen.l3 (k + 1) y0 y1 y2 y3 y4 y5 y6 y7 y8 y9 y10 y11 y12 y13 y14))
 | 0 => ⟨fun _ _ _ _ _ _ r h => by simp [spec_GenDegen.j0] at h, fun _ _ _ _ _ _ _ _ r h => by simp [spec_GenDegen.l0] at h, fun _ _ _ _ _ _ _ _ _ r h => by simp [spec_GenDegen.l1] at h, fun _ _ _ _ _ _ _ _ _ _ _ _ _ _ r h => by simp [spec_GenDegen.l2] at h, fun _ _ _ _ _ _ _ _ _ _ _ _ _ _ _ r h => by simp [spec_GenDegen.l3] at h⟩
 | k + 1 => by
  obtain ⟨ih0, ih1, ih2, ih3, ih4⟩ := spec_GenDegen.mono_l k
  refine ⟨?_, ?_, ?_, ?_, ?_⟩
  ·intro y0 y1 y2 y3 y4 y5
   unfold spec_GenDegen.j0
   repeat' first
   | (with_reducible exact ih0 _ _ _ _ _ _)
   | (with_reducible exact ih1 _ _ _ _ _ _ _ _)
   | (with_reducible exact ih2 _ _ _ _ _ _ _ _ _)
   | (with_reducible exact ih3 _ _ _ _ _ _ _ _ _ _ _ _ _ _)
   | (with_reducible exact ih4 _ _ _ _ _ _ _ _ _ _ _ _ _ _ _)
   | (with_reducible exact spec_AutoMake.mono _ _ _ _ _)
   | (with_reducible exact spec_GenOk.mono _ _ _ _ _ _)
   | (with_reducible exact LeO.refl _)
   | (with_reducible exact LeO.none _)
   | (with_reducible refine LeO.ite ?_ ?_)
   | (with_reducible refine LeO.bind ?_ (fun _ => ?_))
   | exact ih0 _ _ _ _ _ _
   | exact ih1 _ _ _ _ _ _ _ _
   | exact ih2 _ _ _ _ _ _ _ _ _
   | exact ih3 _ _ _ _ _ _ _ _ _ _ _ _ _ _
   | exact ih4 _ _ _ _ _ _ _ _ _ _ _ _ _ _ _
   | exact spec_AutoMake.mono _ _ _ _ _
   | exact spec_GenOk.mono _ _ _ _ _ _
   | exact LeO.none _
   | refine LeO.ite ?_ ?_
   | refine LeO.bind ?_ (fun _ => ?_)
  ·intro y0 y1 y2 y3 y4 y5 y6 y7
   unfold spec_GenDegen.l0
   repeat' first
   | (with_reducible exact ih0 _ _ _ _ _ _)
   | (with_reducible exact ih1 _ _ _ _ _ _ _ _)
   | (with_reducible exact ih2 _ _ _ _ _ _ _ _ _)
   | (with_reducible exact ih3 _ _ _ _ _ _ _ _ _ _ _ _ _ _)
   | (with_reducible exact ih4 _ _ _ _ _ _ _ _ _ _ _ _ _ _ _)
   | (with_reducible exact spec_AutoMake.mono _ _ _ _ _)
   | (with_reducible exact spec_GenOk.mono _ _ _ _ _ _)
   | (with_reducible exact LeO.refl _)
   | (with_reducible exact LeO.none _)
   | (with_reducible refine LeO.ite ?_ ?_)
   | (with_reducible refine LeO.bind ?_ (fun _ => ?_))
   | exact ih0 _ _ _ _ _ _
   | exact ih1 _ _ _ _ _ _ _ _
   | exact ih2 _ _ _ _ _ _ _ _ _
   | exact ih3 _ _ _ _ _ _ _ _ _ _ _ _ _ _
   | exact ih4 _ _ _ _ _ _ _ _ _ _ _ _ _ _ _
   | exact spec_AutoMake.mono _ _ _ _ _
   | exact spec_GenOk.mono _ _ _ _ _ _
   | exact LeO.none _
   | refine LeO.ite ?_ ?_
   | refine LeO.bind ?_ (fun _ => ?_)
  ·intro y0 y1 y2 y3 y4 y5 y6 y7 y8
   unfold spec_GenDegen.l1
   repeat' first
   | (with_reducible exact ih0 _ _ _ _ _ _)
   | (with_reducible exact ih1 _ _ _ _ _ _ _ _)
   | (with_reducible exact ih2 _ _ _ _ _ _ _ _ _)
   | (with_reducible exact ih3 _ _ _ _ _ _ _ _ _ _ _ _ _ _)
   | (with_reducible exact ih4 _ _ _ _ _ _ _ _ _ _ _ _ _ _ _)
   | (with_reducible exact spec_AutoMake.mono _ _ _ _ _)
   | (with_reducible exact spec_GenOk.mono _ _ _ _ _ _)
   | (with_reducible exact LeO.refl _)
   | (with_reducible exact LeO.none _)
   | (with_reducible refine LeO.ite ?_ ?_)
   | (with_reducible refine LeO.bind ?_ (fun _ => ?_))
   | exact ih0 _ _ _ _ _ _
   | exact ih1 _ _ _ _ _ _ _ _
   | exact ih2 _ _ _ _ _ _ _ _ _
   | exact ih3 _ _ _ _ _ _ _ _ _ _ _ _ _ _
   | exact ih4 _ _ _ _ _ _ _ _ _ _ _ _ _ _ _
   | exact spec_AutoMake.mono _ _ _ _ _
   | exact spec_GenOk.mono _ _ _ _ _ _
   | exact LeO.none _
   | refine LeO.ite ?_ ?_
   | refine LeO.bind ?_ (fun _ => ?_)
  ·intro y0 y1 y2 y3 y4 y5 y6 y7 y8 y9 y10 y11 y12 y13
   unfold spec_GenDegen.l2
   repeat' first
   | (with_reducible exact ih0 _ _ _ _ _ _)
   | (with_reducible exact ih1 _ _ _ _ _ _ _ _)
   | (with_reducible exact ih2 _ _ _ _ _ _ _ _ _)
   | (with_reducible exact ih3 _ _ _ _ _ _ _ _ _ _ _ _ _ _)
   | (with_reducible exact ih4 _ _ _ _ _ _ _ _ _ _ _ _ _ _ _)
   | (with_reducible exact spec_AutoMake.mono _ _ _ _ _)
   | (with_reducible exact spec_GenOk.mono _ _ _ _ _ _)
   | (with_reducible exact LeO.refl _)
   | (with_reducible exact LeO.none _)
   | (with_reducible refine LeO.ite ?_ ?_)
   | (with_reducible refine LeO.bind ?_ (fun _ => ?_))
   | exact ih0 _ _ _ _ _ _
   | exact ih1 _ _ _ _ _ _ _ _
   | exact ih2 _ _ _ _ _ _ _ _ _
   | exact ih3 _ _ _ _ _ _ _ _ _ _ _ _ _ _
   | exact ih4 _ _ _ _ _ _ _ _ _ _ _ _ _ _ _
   | exact spec_AutoMake.mono _ _ _ _ _
   | exact spec_GenOk.mono _ _ _ _ _ _
   | exact LeO.none _
   | refine LeO.ite ?_ ?_
   | refine LeO.bind ?_ (fun _ => ?_)
  ·intro y0 y1 y2 y3 y4 y5 y6 y7 y8 y9 y10 y11 y12 y13 y14
   unfold spec_GenDegen.l3
   repeat' first
   | (with_reducible exact ih0 _ _ _ _ _ _)
   | (with_reducible exact ih1 _ _ _ _ _ _ _ _)
   | (with_reducible exact ih2 _ _ _ _ _ _ _ _ _)
   | (with_reducible exact ih3 _ _ _ _ _ _ _ _ _ _ _ _ _ _)
   | (with_reducible exact ih4 _ _ _ _ _ _ _ _ _ _ _ _ _ _ _)
   | (with_reducible exact spec_AutoMake.mono _ _ _ _ _)
   | (with_reducible exact spec_GenOk.mono _ _ _ _ _ _)
   | (with_reducible exact LeO.refl _)
   | (with_reducible exact LeO.none _)
   | (with_reducible refine LeO.ite ?_ ?_)
   | (with_reducible refine LeO.bind ?_ (fun _ => ?_))
   | exact ih0 _ _ _ _ _ _
   | exact ih1 _ _ _ _ _ _ _ _
   | exact ih2 _ _ _ _ _ _ _ _ _
   | exact ih3 _ _ _ _ _ _ _ _ _ _ _ _ _ _
   | exact ih4 _ _ _ _ _ _ _ _ _ _ _ _ _ _ _
   | exact spec_AutoMake.mono _ _ _ _ _
   | exact spec_GenOk.mono _ _ _ _ _ _
   | exact LeO.none _
   | refine LeO.ite ?_ ?_
   | refine LeO.bind ?_ (fun _ => ?_)
theorem spec_GenDegen.mono : ∀ a0 a1 a2 a3 a4 k, LeO (spec_GenDegen.f k a0 a1 a2 a3 a4) (spec_GenDegen.f (k + 1) a0 a1 a2 a3 a4) := by
 intro a0 a1 a2 a3 a4 k
 obtain ⟨ih0, ih1, ih2, ih3, ih4⟩ := spec_GenDegen.mono_l k
 unfold spec_GenDegen.f
 repeat' first
   | (with_reducible exact ih0 _ _ _ _ _ _)
   | (with_reducible exact ih1 _ _ _ _ _ _ _ _)
   | (with_reducible exact ih2 _ _ _ _ _ _ _ _ _)
   | (with_reducible exact ih3 _ _ _ _ _ _ _ _ _ _ _ _ _ _)
   | (with_reducible exact ih4 _ _ _ _ _ _ _ _ _ _ _ _ _ _ _)
   | (with_reducible exact spec_AutoMake.mono _ _ _ _ _)
   | (with_reducible exact spec_GenOk.mono _ _ _ _ _ _)
   | (with_reducible exact LeO.refl _)
   | (with_reducible exact LeO.none _)
   | (with_reducible refine LeO.ite ?_ ?_)
   | (with_reducible refine LeO.bind ?_ (fun _ => ?_))
   | exact ih0 _ _ _ _ _ _
   | exact ih1 _ _ _ _ _ _ _ _
   | exact ih2 _ _ _ _ _ _ _ _ _
   | exact ih3 _ _ _ _ _ _ _ _ _ _ _ _ _ _
   | exact ih4 _ _ _ _ _ _ _ _ _ _ _ _ _ _ _
   | exact spec_AutoMake.mono _ _ _ _ _
   | exact spec_GenOk.mono _ _ _ _ _ _
   | exact LeO.none _
   | refine LeO.ite ?_ ?_
   | refine LeO.bind ?_ (fun _ => ?_)
def spec_GenDegen.T1 : Bool × List (List Nat × List Nat) := (true, [([], []), ([0], [0]), ([1], [1]), ([2, 1], [2]), ([3], [3]), ([4, 3], [3, 4]), ([3], [3]), ([6, 3], [3, 6]), ([7, 3, 3], [3, 7]), ([5, 8, 3], [3, 5, 8]), ([9, 3], [3, 9]), ([3, 10], [3, 10]), ([11, 8], [11]), ([12], [12]), ([13, 12], [12, 13]), ([14, 12], [12, 14]), ([12], [12]), ([16, 12], [12, 16]), ([17, 12, 12], [12, 17]), ([15, 18, 12], [12, 15, 18]), ([19, 12], [12, 19]), ([12, 20], [12, 20])])
def spec_GenDegen.B1 : List Nat := [0, 1, 3, 7, 15, 31, 15, 79, 207, 511, 1023, 2047, 4095, 8191, 16383, 32767, 8191, 73727, 204799, 524287, 1048575, 2097151]
theorem spec_GenDegen.tab1 : rtab .any (opsOf Try.f5 1) = spec_GenDegen.T1 := by kernel_rfl
theorem spec_GenDegen.bits1 : waitsOk spec_GenDegen.T1.2 spec_GenDegen.B1 = true := by kernel_rfl
open Go.Proofs.Ytnflbjdmbaaokaa.Short2 in
set_option maxHeartbeats 8000000 in
set_option maxRecDepth 100000 in
theorem spec_GenDegen.calls (k : Nat) (a0_0 : Int) (a0_1 : Int) (a0_2 : Int) (a0_3 : Int) (A0_4 : Option Addr) (c0_4 : Nat) (l0_4 : List (S46)) (r1 : Int) (r2 : Int) (r3 : Int) (r4 : List (S48)) (r5 : Bool) (w : World) (hr0_4 : Kd.C k46 w A0_4 l0_4.length l0_4) (hc0_4 : l0_4.length ≤ c0_4) (h : spec_GenDegen.f k a0_0 a0_1 a0_2 a0_3 l0_4 = some (r1, r2, r3, r4, r5)) :
  Calls Try.prog 5 #[.agg #[.int .i64 a0_0, .int .i64 a0_1, .int .i64 a0_2, .int .i64 a0_3, .slice A0_4 l0_4.length c0_4]] w fun e w' => ∃ v3_ : Value, e = .returned (.tuple #[.agg #[.int .i64 r1, .int .i64 r2, .int .i64 r3, v3_], .bool r5]) ∧ Kd.R k48 48 w' w.heap.size (fun _ => True) v3_ r4 ∧ Below w.heap.size w w' := by
 have hu33 := Try.underlying33; have hu28 := Try.underlying28; have hu46 := Try.underlying46; have hu48 := Try.underlying48; have HR0_4 := Aside0.mk hr0_4; have HC0_4 := Aside0.mk hc0_4; clear hr0_4 hc0_4; have HB := Aside0.mk (Below.refl w.heap.size w); have H : ((spec_GenOk.f k a0_0 a0_1 a0_2 a0_3 l0_4).bind fun cp => (if cp = true then ((spec_l1Max.f a0_3 1).bind fun al => (if (wrap64 (a0_1 * al)) > 31 then (spec_GenDegen.j0 k true a0_0 a0_1 a0_2 a0_3 l0_4) else ((spec_l1Max.f a0_3 1).bind fun am => (spec_GenDegen.j0 k (decide ((wrap64 ((l0_4.length : Int) * am)) > 2000)) a0_0 a0_1 a0_2 a0_3 l0_4)))) else (spec_GenDegen.j0 k true a0_0 a0_1 a0_2 a0_3 l0_4))) = some (r1, r2, r3, r4, r5) := h; clear h; have HC2 := Aside0.mk H; clear H
 go_enter Try.func5, Try.ntmps5
 go_upto_region 1 with (first | ((with_reducible refine gate_dst (N := 1) rfl ?_); (try (refine gate_guard (by rfl) ?_; dsimp only)); refine bx_ 1 #[.int .i64 a0_0, .int .i64 a0_1, .int .i64 a0_2, .int .i64 a0_3, .slice A0_4 l0_4.length c0_4] 33 ?_; intro ai hg w3 hbox hb; have aa := Aside0.mk (hbox); have fS := xG HB hg; have fT := xG HB hg; replace HB := xS HB hb; clear hb hbox hg) | ((with_reducible refine gate_dst (N := 2) rfl ?_); (try (refine gate_guard (by rfl) ?_; dsimp only)); refine bx_ 2 #[.int .i64 0, .int .i64 0, .int .i64 0, .slice none 0 0] 28 ?_; intro ao hg w4 hbox hb; have ac := Aside0.mk (hbox); have fU := xG HB hg; have fV := xG HB hg; replace HB := xS HB hb; have ah := xN aa hg; have cy := xM aa hg; replace aa := xB aa hb; clear hb hbox hg))
 (try simp only [Act.put, q3])
 go_cut [34] (fun fI wc => ∃ (kq : Nat) (bO : Bool), fI = .bool bO ∧ Aside0 (spec_GenDegen.j0 kq bO a0_0 a0_1 a0_2 a0_3 l0_4 = some (r1, r2, r3, r4, r5)) ∧ Aside0 (kq ≤ k) ∧ Aside0 (wc.heap[ai]? = some (.cells #[.int .i64 a0_0, .int .i64 a0_1, .int .i64 a0_2, .int .i64 a0_3, (.slice A0_4 l0_4.length c0_4)] 33 (0, 0))) ∧ Aside0 (wc.heap[ao]? = some (.cells #[.int .i64 0, .int .i64 0, .int .i64 0, (.slice none 0 0)] 28 (0, 0))) ∧ Aside0 (Below w.heap.size w wc))
 case first =>
  have H := HC2.out; clear HC2; replace H := bI H; obtain ⟨cp, dp, H⟩ := H; replace H : (if cp = true then ((spec_l1Max.f a0_3 1).bind fun al => (if (wrap64 (a0_1 * al)) > 31 then (spec_GenDegen.j0 k true a0_0 a0_1 a0_2 a0_3 l0_4) else ((spec_l1Max.f a0_3 1).bind fun am => (spec_GenDegen.j0 k (decide ((wrap64 ((l0_4.length : Int) * am)) > 2000)) a0_0 a0_1 a0_2 a0_3 l0_4)))) else (spec_GenDegen.j0 k true a0_0 a0_1 a0_2 a0_3 l0_4)) = some (r1, r2, r3, r4, r5) := H; have A5 := Aside0.mk dp; clear dp
  by_cases c6 : cp = true
  ·subst c6
   have H1 : ((spec_l1Max.f a0_3 1).bind fun al => (if (wrap64 (a0_1 * al)) > 31 then (spec_GenDegen.j0 k true a0_0 a0_1 a0_2 a0_3 l0_4) else ((spec_l1Max.f a0_3 1).bind fun am => (spec_GenDegen.j0 k (decide ((wrap64 ((l0_4.length : Int) * am)) > 2000)) a0_0 a0_1 a0_2 a0_3 l0_4)))) = some (r1, r2, r3, r4, r5) := by rw [if_pos rfl] at H; exact H
   clear H; have H := H1; clear H1; replace H := bI H; obtain ⟨al, dq, H⟩ := H; replace H : (if (wrap64 (a0_1 * al)) > 31 then (spec_GenDegen.j0 k true a0_0 a0_1 a0_2 a0_3 l0_4) else ((spec_l1Max.f a0_3 1).bind fun am => (spec_GenDegen.j0 k (decide ((wrap64 ((l0_4.length : Int) * am)) > 2000)) a0_0 a0_1 a0_2 a0_3 l0_4))) = some (r1, r2, r3, r4, r5) := H; have A7 := Aside0.mk dq; clear dq
   by_cases c8 : (wrap64 (a0_1 * al)) > 31
   ·rw [if_pos c8] at H; have an : decide (31 < (wrap64 (a0_1 * al))) = true := decide_eq_true c8; clear c8
    (first | rw [an] | (simp only [i64_w, i32_w]; rw [an]) | skip)
    have H' := Aside0.mk H; clear H
    try go_wp2
    replace aa := Aside0.mk (blk_drew aa.out); replace ac := Aside0.mk (blk_drew ac.out); replace HB := Aside0.mk (below_drew1 HB.out); refine start_ (n := 22) (S := fun w' => w'.cell? ⟨ai, 0, none⟩ = some (.int .i64 a0_0) ∧ w'.cell? ⟨ai, 1, none⟩ = some (.int .i64 a0_1) ∧ w'.cell? ⟨ai, 2, none⟩ = some (.int .i64 a0_2) ∧ w'.cell? ⟨ai, 3, none⟩ = some (.int .i64 a0_3) ∧ w'.cell? ⟨ai, 4, none⟩ = some (.slice A0_4 l0_4.length c0_4)) (ds := []) bl0 (by kernel_rfl) rfl rfl ⟨b1 aa 0, b1 aa 1, b1 aa 2, b1 aa 3, b1 aa 4⟩ (fun hHeld => ?_); refine with_tabW spec_GenDegen.tab1 spec_GenDegen.bits1 (fun HT_ HW_ => ?_); generalize w4.drew = w9 at aa ac HB hHeld ⊢; refine tk_ 0 (some 13) bl1 HT_ HW_ hHeld ?_
    refine on_ 1 (some 14) bl2 HT_ (fun K hK => ?_); refine gs_ Try.func14 #[.agg #[.int .i64 a0_0, .int .i64 a0_1, .int .i64 a0_2, .int .i64 a0_3, .slice A0_4 l0_4.length c0_4]] ?_
    with_reducible refine (spec_GenOk.calls k a0_0 a0_1 a0_2 a0_3 _ _ l0_4 true _ ?side1 ?side2 A5.out).mono ?_
    (case side1 => exact zC (Kd.C_below HR0_4.out HB.out))
    (case side2 => exact HC0_4.out)
    rintro e hc ⟨rfl, hb⟩; refine ⟨_, rfl, ?_⟩; replace aa := xB aa hb; replace ac := xB ac hb; replace HB := xS HB hb
    (try clear hb)
    (try clear hb2)
    (try clear hk)
    (try clear hi)
    refine hK.out _ _ ⟨b1 aa 0, b1 aa 1, b1 aa 2, b1 aa 3, b1 aa 4⟩ (fun hHeld => ?_); clear hK K; refine nr_ (some 14) ?_
    refine pv_ 2 (some 15) bl3 HT_ ?_
    refine pv_ 3 (some 16) bl4 HT_ ?_
    refine pv_ 4 (some 17) bl5 HT_ ?_
    refine pv_ 6 (some 19) bl6 HT_ ?_
    refine tk_ 5 (some 18) bl7 HT_ HW_ hHeld ?_
    refine tk_ 7 (some 20) bl8 HT_ HW_ hHeld ?_
    refine on_ 8 (some 21) bl9 HT_ (fun K hK => ?_); refine gs_ Try.func15 #[.int .i64 a0_3, .int .i64 1] ?_
    with_reducible refine (spec_l1Max.calls a0_3 1 al _ A7.out).mono ?_
    rintro e w' ⟨rfl, ⟨nd, rfl⟩⟩; refine ⟨_, rfl, ?_⟩; refine hK.out _ _ ⟨b1 aa 0, b1 aa 1, b1 aa 2, b1 aa 3, b1 aa 4⟩ (fun hHeld => ?_); clear hK K; refine nr_ (some 21) ?_
    refine pv_ 9 (some 22) bl10 HT_ ?_
    refine pv_ 10 (some 23) bl11 HT_ ?_
    refine pv_ 11 (some 24) bl12 HT_ ?_
    refine pv_ 12 (some 25) bl13 HT_ ?_
    refine pn_ 13 (some 26) bl14 HT_ ?_
    refine pn_ 14 (some 27) bl15 HT_ ?_
    refine pn_ 15 (some 28) bl16 HT_ ?_
    refine pn_ 16 (some 29) bl17 HT_ ?_
    refine pn_ 17 (some 30) bl18 HT_ ?_
    refine pn_ 18 (some 31) bl19 HT_ ?_
    refine pn_ 19 (some 32) bl20 HT_ ?_
    refine pn_ 20 (some 33) bl21 HT_ ?_
    refine pv_ 21 (some 34) bl22 HT_ ?_
    refine done_ (done_of HT_.out (by kernel_rfl)) ?_
    try go_wp2
    go_meet
    case rel => exact ⟨_, (true), vv, H', ⟨by first | omega | exact Nat.le_refl _⟩, ⟨zB aa.out⟩, ⟨zB ac.out⟩, ⟨zS HB.out⟩⟩
   ·rw [if_neg c8] at H; have an : decide (31 < (wrap64 (a0_1 * al))) = false := decide_eq_false c8; clear c8
    (first | rw [an] | (simp only [i64_w, i32_w]; rw [an]) | skip)
    replace H := bI H; obtain ⟨am, cV, H⟩ := H; replace H : (spec_GenDegen.j0 k (decide ((wrap64 ((l0_4.length : Int) * am)) > 2000)) a0_0 a0_1 a0_2 a0_3 l0_4) = some (r1, r2, r3, r4, r5) := H; have fJ := Aside0.mk cV; clear cV; have H' := Aside0.mk H; clear H
    try go_wp2
    replace aa := Aside0.mk (blk_drew aa.out); replace ac := Aside0.mk (blk_drew ac.out); replace HB := Aside0.mk (below_drew1 HB.out); refine start_ (n := 22) (S := fun w' => w'.cell? ⟨ai, 0, none⟩ = some (.int .i64 a0_0) ∧ w'.cell? ⟨ai, 1, none⟩ = some (.int .i64 a0_1) ∧ w'.cell? ⟨ai, 2, none⟩ = some (.int .i64 a0_2) ∧ w'.cell? ⟨ai, 3, none⟩ = some (.int .i64 a0_3) ∧ w'.cell? ⟨ai, 4, none⟩ = some (.slice A0_4 l0_4.length c0_4)) (ds := []) bl0 (by kernel_rfl) rfl rfl ⟨b1 aa 0, b1 aa 1, b1 aa 2, b1 aa 3, b1 aa 4⟩ (fun hHeld => ?_); refine with_tabW spec_GenDegen.tab1 spec_GenDegen.bits1 (fun HT_ HW_ => ?_); generalize w4.drew = he at aa ac HB hHeld ⊢; refine tk_ 0 (some 13) bl1 HT_ HW_ hHeld ?_
    refine on_ 1 (some 14) bl2 HT_ (fun K hK => ?_); refine gs_ Try.func14 #[.agg #[.int .i64 a0_0, .int .i64 a0_1, .int .i64 a0_2, .int .i64 a0_3, .slice A0_4 l0_4.length c0_4]] ?_
    with_reducible refine (spec_GenOk.calls k a0_0 a0_1 a0_2 a0_3 _ _ l0_4 true _ ?side1 ?side2 A5.out).mono ?_
    (case side1 => exact zC (Kd.C_below HR0_4.out HB.out))
    (case side2 => exact HC0_4.out)
    rintro e hf ⟨rfl, hb⟩; refine ⟨_, rfl, ?_⟩; replace aa := xB aa hb; replace ac := xB ac hb; replace HB := xS HB hb
    (try clear hb)
    (try clear hb2)
    (try clear hk)
    (try clear hi)
    refine hK.out _ _ ⟨b1 aa 0, b1 aa 1, b1 aa 2, b1 aa 3, b1 aa 4⟩ (fun hHeld => ?_); clear hK K; refine nr_ (some 14) ?_
    refine pv_ 2 (some 15) bl3 HT_ ?_
    refine pv_ 3 (some 16) bl4 HT_ ?_
    refine pv_ 4 (some 17) bl5 HT_ ?_
    refine pv_ 6 (some 19) bl6 HT_ ?_
    refine tk_ 5 (some 18) bl7 HT_ HW_ hHeld ?_
    refine tk_ 7 (some 20) bl8 HT_ HW_ hHeld ?_
    refine on_ 8 (some 21) bl9 HT_ (fun K hK => ?_); refine gs_ Try.func15 #[.int .i64 a0_3, .int .i64 1] ?_
    with_reducible refine (spec_l1Max.calls a0_3 1 al _ A7.out).mono ?_
    rintro e w' ⟨rfl, ⟨nd, rfl⟩⟩; refine ⟨_, rfl, ?_⟩; refine hK.out _ _ ⟨b1 aa 0, b1 aa 1, b1 aa 2, b1 aa 3, b1 aa 4⟩ (fun hHeld => ?_); clear hK K; refine nr_ (some 21) ?_
    refine pv_ 9 (some 22) bl10 HT_ ?_
    refine pv_ 10 (some 23) bl11 HT_ ?_
    refine pv_ 11 (some 24) bl12 HT_ ?_
    refine pv_ 12 (some 25) bl13 HT_ ?_
    refine pv_ 13 (some 26) bl14 HT_ ?_
    refine pv_ 16 (some 29) bl23 HT_ ?_
    refine tk_ 14 (some 27) bl24 HT_ HW_ hHeld ?_
    refine pv_ 15 (some 28) bl17 HT_ ?_
    refine tk_ 17 (some 30) bl18 HT_ HW_ hHeld ?_
    refine on_ 18 (some 31) bl19 HT_ (fun K hK => ?_); refine gs_ Try.func15 #[.int .i64 a0_3, .int .i64 1] ?_
    with_reducible refine (spec_l1Max.calls a0_3 1 am _ fJ.out).mono ?_
    rintro e w' ⟨rfl, ⟨nd, rfl⟩⟩; refine ⟨_, rfl, ?_⟩; refine hK.out _ _ ⟨b1 aa 0, b1 aa 1, b1 aa 2, b1 aa 3, b1 aa 4⟩ (fun hHeld => ?_); clear hK K; refine nr_ (some 31) ?_
    refine pv_ 19 (some 32) bl20 HT_ ?_
    refine pv_ 20 (some 33) bl21 HT_ ?_
    refine pv_ 21 (some 34) bl22 HT_ ?_
    refine done_ (done_of HT_.out (by kernel_rfl)) ?_
    try go_wp2
    go_meet
    case rel => exact ⟨_, (decide ((wrap64 ((l0_4.length : Int) * am)) > 2000)), vv, H', ⟨by first | omega | exact Nat.le_refl _⟩, ⟨zB aa.out⟩, ⟨zB ac.out⟩, ⟨zS HB.out⟩⟩
  ·replace c6 := Bool.eq_false_iff.mpr c6; subst c6
   have H1 : (spec_GenDegen.j0 k true a0_0 a0_1 a0_2 a0_3 l0_4) = some (r1, r2, r3, r4, r5) := by rw [if_neg (show ¬ (false = true) by decide)] at H; exact H
   clear H; have H := H1; clear H1; have H' := Aside0.mk H; clear H
   try go_wp2
   replace aa := Aside0.mk (blk_drew aa.out); replace ac := Aside0.mk (blk_drew ac.out); replace HB := Aside0.mk (below_drew1 HB.out); refine start_ (n := 22) (S := fun w' => w'.cell? ⟨ai, 0, none⟩ = some (.int .i64 a0_0) ∧ w'.cell? ⟨ai, 1, none⟩ = some (.int .i64 a0_1) ∧ w'.cell? ⟨ai, 2, none⟩ = some (.int .i64 a0_2) ∧ w'.cell? ⟨ai, 3, none⟩ = some (.int .i64 a0_3) ∧ w'.cell? ⟨ai, 4, none⟩ = some (.slice A0_4 l0_4.length c0_4)) (ds := []) bl0 (by kernel_rfl) rfl rfl ⟨b1 aa 0, b1 aa 1, b1 aa 2, b1 aa 3, b1 aa 4⟩ (fun hHeld => ?_); refine with_tabW spec_GenDegen.tab1 spec_GenDegen.bits1 (fun HT_ HW_ => ?_); generalize w4.drew = hh at aa ac HB hHeld ⊢; refine tk_ 0 (some 13) bl1 HT_ HW_ hHeld ?_
   refine on_ 1 (some 14) bl2 HT_ (fun K hK => ?_); refine gs_ Try.func14 #[.agg #[.int .i64 a0_0, .int .i64 a0_1, .int .i64 a0_2, .int .i64 a0_3, .slice A0_4 l0_4.length c0_4]] ?_
   with_reducible refine (spec_GenOk.calls k a0_0 a0_1 a0_2 a0_3 _ _ l0_4 false _ ?side1 ?side2 A5.out).mono ?_
   (case side1 => exact zC (Kd.C_below HR0_4.out HB.out))
   (case side2 => exact HC0_4.out)
   rintro e hj ⟨rfl, hb⟩; refine ⟨_, rfl, ?_⟩; replace aa := xB aa hb; replace ac := xB ac hb; replace HB := xS HB hb
   (try clear hb)
   (try clear hb2)
   (try clear hk)
   (try clear hi)
   refine hK.out _ _ ⟨b1 aa 0, b1 aa 1, b1 aa 2, b1 aa 3, b1 aa 4⟩ (fun hHeld => ?_); clear hK K; refine nr_ (some 14) ?_
   refine pv_ 2 (some 15) bl3 HT_ ?_
   refine pv_ 3 (some 16) bl4 HT_ ?_
   refine pn_ 4 (some 17) bl5 HT_ ?_
   refine pn_ 5 (some 18) bl25 HT_ ?_
   refine pn_ 6 (some 19) bl7 HT_ ?_
   refine pn_ 7 (some 20) bl8 HT_ ?_
   refine pn_ 8 (some 21) bl9 HT_ ?_
   refine pn_ 9 (some 22) bl10 HT_ ?_
   refine pn_ 10 (some 23) bl11 HT_ ?_
   refine pv_ 11 (some 24) bl12 HT_ ?_
   refine pv_ 12 (some 25) bl13 HT_ ?_
   refine pn_ 13 (some 26) bl14 HT_ ?_
   refine pn_ 14 (some 27) bl15 HT_ ?_
   refine pn_ 15 (some 28) bl16 HT_ ?_
   refine pn_ 16 (some 29) bl17 HT_ ?_
   refine pn_ 17 (some 30) bl18 HT_ ?_
   refine pn_ 18 (some 31) bl19 HT_ ?_
   refine pn_ 19 (some 32) bl20 HT_ ?_
   refine pn_ 20 (some 33) bl21 HT_ ?_
   refine pv_ 21 (some 34) bl22 HT_ ?_
   refine done_ (done_of HT_.out (by kernel_rfl)) ?_
   try go_wp2
   go_meet
   case rel => exact ⟨_, (true), vv, H', ⟨by first | omega | exact Nat.le_refl _⟩, ⟨zB aa.out⟩, ⟨zB ac.out⟩, ⟨zS HB.out⟩⟩
 case rest =>
  clear HC2
  try clear c1
  try clear p2
  try clear c6
  try clear p6
  try clear c8
  try clear an
  try clear cI
  try clear cJ
  obtain ⟨kq, bO, rfl, HA, HJ1, aa, ac, HB⟩ := hcut
  cases kq with
  | zero => exact absurd HA.out (by simp [spec_GenDegen.j0])
  | succ kj1 =>
   have H := HA.out; clear HA; simp only [spec_GenDegen.j0] at H
   by_cases bM : bO = true
   ·subst bM
    have H1 : (some (0, 0, 0, ([] : List (S48)), false)) = some (r1, r2, r3, r4, r5) := by rw [if_pos rfl] at H; exact H
    clear H; have H := H1; clear H1; simp only [Option.some.injEq, Prod.mk.injEq] at H; obtain ⟨rfl, rfl, rfl, rfl, rfl⟩ := H; obtain ⟨fW, fX⟩ := nn cy; obtain ⟨aw, ax, ay, az, aA, aC, aD, aE⟩ := cz4 ac
    go_wp2
    refine bodyPost_ret (results_ct rfl _ _ ao 28 #[.int .i64 0, .int .i64 0, .int .i64 0, .slice none 0 0] (0, 0) _ rfl (xP4 ac.out) Try.underlying28 rfl (by kernel_rfl)) rfl ?_; exact ⟨_, vw, by first | exact Kd.R_nil _ _ _ _ _ | exact Kd.N_nil _ _ _ _ _ | exact Kd.V_nil _ _ _ _ _ | exact Kd.Q_nil _ _ _ _ _ | exact Kd.S_nil _ _ _ _ _, zS HB.out⟩
   ·replace bM := Bool.eq_false_iff.mpr bM; subst bM
    have H1 : ((spec_l1Max.f a0_3 1).bind fun ab => (spec_GenDegen.l0 kj1 ab 0 0 a0_0 a0_1 a0_2 a0_3 l0_4)) = some (r1, r2, r3, r4, r5) := by rw [if_neg (show ¬ (false = true) by decide)] at H; exact H
    clear H; have H := H1; clear H1; replace H := bI H; obtain ⟨ab, cW, H⟩ := H; replace H : (spec_GenDegen.l0 kj1 ab 0 0 a0_0 a0_1 a0_2 a0_3 l0_4) = some (r1, r2, r3, r4, r5) := H; have fK := Aside0.mk cW; clear cW; have H' := Aside0.mk H; clear H; obtain ⟨fY, fZ⟩ := nn ah; obtain ⟨aG, aH, aI, aJ, aK, aM, aN, aQ, aR, aT⟩ := cz5 aa
    go_wp2_with (first | ((with_reducible refine gate_callee (f := 15) rfl ?_); refine gl_ (some 38) Try.func15 #[.int .i64 a0_3, .int .i64 1] ?_; (with_reducible refine (spec_l1Max.calls a0_3 1 ab _ fK.out).mono ?_); rintro e w' ⟨rfl, ⟨nd, rfl⟩⟩; refine ⟨_, rfl, ?_⟩))
    go_loopg [5, 6] kj1 (fun kq v5 v6 w' => ∃ (x5_2 : Int) (x6_2 : Int), v5 = .int .i64 x5_2 ∧ v6 = .int .i64 x6_2 ∧ Aside0 (spec_GenDegen.l0 kq ab x5_2 x6_2 a0_0 a0_1 a0_2 a0_3 l0_4 = some (r1, r2, r3, r4, r5)) ∧ Aside0 (kq ≤ kj1) ∧ Aside0 (w'.heap[ai]? = some (.cells #[.int .i64 a0_0, .int .i64 a0_1, .int .i64 a0_2, .int .i64 a0_3, (.slice A0_4 l0_4.length c0_4)] 33 (0, 0))) ∧ Aside0 (w'.heap[ao]? = some (.cells #[.int .i64 0, .int .i64 0, .int .i64 0, (.slice none 0 0)] 28 (0, 0))) ∧ Aside0 (Below w.heap.size w w'))
    case atStart => exact ⟨(0), (0), vv, vv, H', ⟨Nat.le_refl _⟩, ⟨zB aa.out⟩, ⟨zB ac.out⟩, ⟨zS HB.out⟩⟩
    case round =>
     clear H'
     try clear c1
     try clear c2
     try clear p2
     try clear c6
     try clear p6
     try clear c8
     try clear an
     try clear cI
     try clear cJ
     try clear bM
     try clear cX
     try clear cY
     try clear aw ax ay az
     try clear aG aH aI aJ aK
     try clear aA
     try clear aC
     try clear aD
     try clear aE
     try clear aM
     try clear aN
     try clear aQ
     try clear aR
     try clear aT
     try clear p2
     try clear p6
     obtain ⟨x5_2, x6_2, rfl, rfl, HA, HK2, aa, ac, HB⟩ := hrel
     cases gk with
     | zero => exact absurd HA.out (by simp [spec_GenDegen.l0])
     | succ k2 =>
      have H := HA.out; clear HA; simp only [spec_GenDegen.l0] at H
      by_cases aZ : x6_2 < a0_1
      ·rw [if_pos aZ] at H; have bP : decide (x6_2 < a0_1) = true := decide_eq_true aZ; clear aZ; replace H := bI H; obtain ⟨cZ, da, H⟩ := H; replace H : (if cZ = true then ((spec_l1Bit.f (wrap64 (x6_2 * ab))).bind fun aY => (spec_GenDegen.l0 k2 ab (Go.bits .or .i64 x5_2 aY) (wrap64 (x6_2 + 1)) a0_0 a0_1 a0_2 a0_3 l0_4)) else (spec_GenDegen.l0 k2 ab x5_2 (wrap64 (x6_2 + 1)) a0_0 a0_1 a0_2 a0_3 l0_4)) = some (r1, r2, r3, r4, r5) := H; have dr := Aside0.mk da; clear da
       by_cases bQ : cZ = true
       ·subst bQ
        have H1 : ((spec_l1Bit.f (wrap64 (x6_2 * ab))).bind fun aY => (spec_GenDegen.l0 k2 ab (Go.bits .or .i64 x5_2 aY) (wrap64 (x6_2 + 1)) a0_0 a0_1 a0_2 a0_3 l0_4)) = some (r1, r2, r3, r4, r5) := by rw [if_pos rfl] at H; exact H
        clear H; have H := H1; clear H1; replace H := bI H; obtain ⟨aY, db, H⟩ := H; replace H : (spec_GenDegen.l0 k2 ab (Go.bits .or .i64 x5_2 aY) (wrap64 (x6_2 + 1)) a0_0 a0_1 a0_2 a0_3 l0_4) = some (r1, r2, r3, r4, r5) := H; have fL := Aside0.mk db; clear db; have H' := Aside0.mk H; clear H; obtain ⟨ga, gb⟩ := nn ah; obtain ⟨bf, bg, bh, bi, bj, bk, bl, bm, bn, bo⟩ := cz5 aa
        go_wp2_with (first | ((with_reducible refine gate_callee (f := 16) rfl ?_); refine gl_ (some 48) Try.func16 #[.int .i64 a0_2, .int .i64 x6_2] ?_; (with_reducible refine (spec_l1Has.calls a0_2 x6_2 true _ dr.out).mono ?_); rintro e w' ⟨rfl, ⟨nd, rfl⟩⟩; refine ⟨_, rfl, ?_⟩) | ((with_reducible refine gate_callee (f := 17) rfl ?_); refine gl_ (some 53) Try.func17 #[.int .i64 (wrap64 (x6_2 * ab))] ?_; (with_reducible refine (spec_l1Bit.calls (wrap64 (x6_2 * ab)) aY _ fL.out).mono ?_); rintro e w' ⟨rfl, ⟨nd, rfl⟩⟩; refine ⟨_, rfl, ?_⟩))
        go_roundg k2
        case measure => have := HJ1.out; have := HK2.out; omega
        case rel => exact ⟨(Go.bits .or .i64 x5_2 aY), (wrap64 (x6_2 + 1)), vv, vv, H', ⟨by have := HJ1.out; have := HK2.out; omega⟩, ⟨zB aa.out⟩, ⟨zB ac.out⟩, ⟨zS HB.out⟩⟩
       ·replace bQ := Bool.eq_false_iff.mpr bQ; subst bQ
        have H1 : (spec_GenDegen.l0 k2 ab x5_2 (wrap64 (x6_2 + 1)) a0_0 a0_1 a0_2 a0_3 l0_4) = some (r1, r2, r3, r4, r5) := by rw [if_neg (show ¬ (false = true) by decide)] at H; exact H
        clear H; have H := H1; clear H1; have H' := Aside0.mk H; clear H; obtain ⟨gc, gd⟩ := nn ah; obtain ⟨bp, bq, br, bs, bt, bu, bv, bw, bx, bz⟩ := cz5 aa
        go_wp2_with (first | ((with_reducible refine gate_callee (f := 16) rfl ?_); refine gl_ (some 48) Try.func16 #[.int .i64 a0_2, .int .i64 x6_2] ?_; (with_reducible refine (spec_l1Has.calls a0_2 x6_2 false _ dr.out).mono ?_); rintro e w' ⟨rfl, ⟨nd, rfl⟩⟩; refine ⟨_, rfl, ?_⟩))
        go_roundg k2
        case measure => have := HJ1.out; have := HK2.out; omega
        case rel => exact ⟨(x5_2), (wrap64 (x6_2 + 1)), vv, vv, H', ⟨by have := HJ1.out; have := HK2.out; omega⟩, ⟨zB aa.out⟩, ⟨zB ac.out⟩, ⟨zS HB.out⟩⟩
      ·rw [if_neg aZ] at H; have bP : decide (x6_2 < a0_1) = false := decide_eq_false aZ; clear aZ; obtain ⟨dc, ba⟩ : ∃ y_ : List (S48), y_ = (([] : List (S48))) := ⟨_, rfl⟩
       replace H : (spec_GenDegen.l1 k2 ab x5_2 dc 0 a0_0 a0_1 a0_2 a0_3 l0_4) = some (r1, r2, r3, r4, r5) := by first | (rw [ba]; with_reducible exact H) | (have H2_ := (Option.bind_some _ _).symm.trans H; rw [ba]; with_reducible exact H2_) | (have H2_ := (Option.bind_some _ _).symm.trans H; with_reducible exact H2_) | with_reducible exact H | (rw [ba]; exact H) | exact H
       have cK := Aside0.mk ba; clear ba; have H' := Aside0.mk H; clear H; obtain ⟨ge, gf⟩ := nn ah; obtain ⟨bA, bB, bC, bD, bE, bF, bH, bJ, bK, bL⟩ := cz5 aa
       go_wp2_with (first | ((with_reducible refine gate_dst (N := 55) rfl ?_); (try (refine gate_guard (by rfl) ?_; dsimp only)); refine Kd.R_lit k48 _ 48 ?hg (N := 55) ?hd (xs := ([] : List (S48))) (inner := []) (ok := fun _ => True) (okp := fun _ => True) ?hr ?hp (fun _ hk => hk) trivial (Below.refl _ _) (Nat.le_refl _) (by simp) ?_; (case hd => rfl); (case hg => rfl); (case hr => first | (go_simp; done) | (go_simp; rfl)); (case hp => exact (Reps.none _ _)); intro gV hl ho33 hb hg_ hnew_; clear hg_ hnew_; (first | rw [← cK.out] at ho33 | (simp only [Int.reduceToNat] at ho33; rw [← cK.out] at ho33)); have di := rW0 ho33 HB; replace aa := xB aa hb; replace ac := xB ac hb; replace HB := xS HB hb; clear hb ho33))
       go_loopg [7, 8] k2 (fun kq v7 v8 w' => ∃ (x7_3 : List (S48)) (x8_3 : Int), v8 = .int .i64 x8_3 ∧ Aside0 (spec_GenDegen.l1 kq ab x5_2 x7_3 x8_3 a0_0 a0_1 a0_2 a0_3 l0_4 = some (r1, r2, r3, r4, r5)) ∧ Aside0 (kq ≤ k2) ∧ Aside0 (Kd.R k48 48 w' w.heap.size (fun _ => True) v7 x7_3) ∧ Aside0 (w'.heap[ai]? = some (.cells #[.int .i64 a0_0, .int .i64 a0_1, .int .i64 a0_2, .int .i64 a0_3, (.slice A0_4 l0_4.length c0_4)] 33 (0, 0))) ∧ Aside0 (w'.heap[ao]? = some (.cells #[.int .i64 0, .int .i64 0, .int .i64 0, (.slice none 0 0)] 28 (0, 0))) ∧ Aside0 (Below w.heap.size w w'))
       case atStart => exact ⟨(dc), (0), vv, H', ⟨Nat.le_refl _⟩, ⟨zR di.out⟩, ⟨zB aa.out⟩, ⟨zB ac.out⟩, ⟨zS HB.out⟩⟩
       case round =>
        clear H'
        try clear c1
        try clear c2
        try clear p2
        try clear c3
        try clear c6
        try clear p6
        try clear c8
        try clear an
        try clear cI
        try clear cJ
        try clear bM
        try clear cX
        try clear cY
        try clear aZ
        try clear bP
        try clear bQ
        try clear dt
        try clear du
        try clear dv
        try clear aw ax ay az
        try clear aG aH aI aJ aK
        try clear bf bg bh bi bj
        try clear bp bq br bs bt
        try clear bA bB bC bD bE
        try clear aA
        try clear aC
        try clear aD
        try clear aE
        try clear aM
        try clear aN
        try clear aQ
        try clear aR
        try clear aT
        try clear bk
        try clear bl
        try clear bm
        try clear bn
        try clear bo
        try clear bu
        try clear bv
        try clear bw
        try clear bx
        try clear bz
        try clear bF
        try clear bH
        try clear bJ
        try clear bK
        try clear bL
        try clear p2
        try clear p6
        obtain ⟨x7_3, x8_3, rfl, HA, HK3, ag, aa, ac, HB⟩ := hrel
        cases gk with
        | zero => exact absurd HA.out (by simp [spec_GenDegen.l1])
        | succ k3 =>
         have H := HA.out; clear HA; simp only [spec_GenDegen.l1] at H
         by_cases bN : x8_3 < (l0_4.length : Int)
         ·rw [if_pos bN] at H; have cq : decide (x8_3 < (l0_4.length : Int)) = true := decide_eq_true bN; clear bN
          by_cases bT : 0 ≤ x8_3
          ·rw [if_pos bT] at H; have cL : decide (0 ≤ x8_3) = true := decide_eq_true bT; clear bT; have H' := Aside0.mk H; clear H; obtain ⟨gg, gh⟩ := nn ah; obtain ⟨bU, bV, bW, bX, bY, bZ, ca, cb, cc, cd⟩ := cz5 aa; have bR : 0 ≤ (x8_3 : Int) := oD; have q178 : x8_3 < (l0_4.length : Int) := oD; obtain ⟨ad178, e178, aU, aV, aW, aX⟩ := at_T46 HR0_4.out x8_3 bR q178
           cases e178
           replace aU := ct_ HB aU; replace aV := ct_ HB aV; replace aW := ct_ HB aW; replace aX := ct_ HB aX; replace bR := eq_true bR; replace q178 := eq_true q178
           go_wp2_with (first | ((with_reducible refine gate_dst (N := 9) rfl ?_); (try (refine gate_guard (by rfl) ?_; dsimp only)); refine bx_ 9 #[.int .i64 0, .int .i64 0, .int .i64 0, .int .i64 0] 46 ?_; intro cM hg hm hbox hb; replace ag := xR ag hb; have af := Aside0.mk (hbox); have gi := xG HB hg; have gj := xG HB hg; replace HB := xS HB hb; have ak := xN aa hg; have cz := xM aa hg; replace aa := xB aa hb; have dw := xN ac hg; have aj := xM ac hg; replace ac := xB ac hb; clear hb hbox hg; obtain ⟨gl, gm⟩ := nn cz; obtain ⟨gn, go⟩ := nn aj; obtain ⟨ce, cf, cg, ch, ci, cj, ck, cl⟩ := cz4 af))
           go_loopg [7, 10] k3 (fun kq v7 fM w' => ∃ (x7_4 : List (S48)) (ad : Int), fM = .int .i64 ad ∧ Aside0 (spec_GenDegen.l2 kq ab x5_2 x7_4 x8_3 ad a0_0 a0_1 a0_2 a0_3 l0_4 ((rd_T46 l0_4 x8_3).f0) ((rd_T46 l0_4 x8_3).f1) ((rd_T46 l0_4 x8_3).f2) ((rd_T46 l0_4 x8_3).f3) = some (r1, r2, r3, r4, r5)) ∧ Aside0 (kq ≤ k3) ∧ Aside0 (Kd.R k48 48 w' w.heap.size (fun _ => True) v7 x7_4) ∧ Aside0 (w'.heap[ai]? = some (.cells #[.int .i64 a0_0, .int .i64 a0_1, .int .i64 a0_2, .int .i64 a0_3, (.slice (some ad178) l0_4.length c0_4)] 33 (0, 0))) ∧ Aside0 (w'.heap[ao]? = some (.cells #[.int .i64 0, .int .i64 0, .int .i64 0, (.slice none 0 0)] 28 (0, 0))) ∧ Aside0 (w'.heap[cM]? = some (.cells #[.int .i64 ((rd_T46 l0_4 x8_3).f0), .int .i64 ((rd_T46 l0_4 x8_3).f1), .int .i64 ((rd_T46 l0_4 x8_3).f2), .int .i64 ((rd_T46 l0_4 x8_3).f3)] 46 (0, 0))) ∧ Aside0 (Below w.heap.size w w'))
           case atStart => exact ⟨(x7_3), (0), vv, H', ⟨Nat.le_refl _⟩, ⟨rM (Aside0.mk (yF4 ag af)) (fun _ hk => trivial)⟩, ⟨zB aa.out⟩, ⟨zB ac.out⟩, ⟨by (with_reducible repeat (first | refine blk_drewN ?_ _ | refine blk_drew ?_ | refine blk_alloc ?_ _)); refine blk_put (cs := #[.int .i64 ((rd_T46 l0_4 x8_3).f0), .int .i64 ((rd_T46 l0_4 x8_3).f1), .int .i64 ((rd_T46 l0_4 x8_3).f2), .int .i64 0]) ?_ 3 _ rfl; (with_reducible repeat (first | refine blk_drewN ?_ _ | refine blk_drew ?_ | refine blk_alloc ?_ _)); refine blk_put (cs := #[.int .i64 ((rd_T46 l0_4 x8_3).f0), .int .i64 ((rd_T46 l0_4 x8_3).f1), .int .i64 0, .int .i64 0]) ?_ 2 _ rfl; (with_reducible repeat (first | refine blk_drewN ?_ _ | refine blk_drew ?_ | refine blk_alloc ?_ _)); refine blk_put (cs := #[.int .i64 ((rd_T46 l0_4 x8_3).f0), .int .i64 0, .int .i64 0, .int .i64 0]) ?_ 1 _ rfl; (with_reducible repeat (first | refine blk_drewN ?_ _ | refine blk_drew ?_ | refine blk_alloc ?_ _)); refine blk_put (cs := #[.int .i64 0, .int .i64 0, .int .i64 0, .int .i64 0]) ?_ 0 _ rfl; (with_reducible repeat (first | refine blk_drewN ?_ _ | refine blk_drew ?_ | refine blk_alloc ?_ _)); exact af.out⟩, ⟨zS HB.out⟩⟩
           case round =>
            clear H'
            try clear c1
            try clear p1
            try clear q1
            try clear hx1
            try clear c2
            try clear p2
            try clear c3
            try clear c4
            try clear c6
            try clear p6
            try clear c8
            try clear an
            try clear cI
            try clear cJ
            try clear bM
            try clear cX
            try clear dx
            try clear q17
            try clear hx17
            try clear cY
            try clear aZ
            try clear bP
            try clear bQ
            try clear dt
            try clear du
            try clear dv
            try clear bN
            try clear cq
            try clear bT
            try clear cL
            try clear fN
            try clear fO
            try clear fP
            try clear aw ax ay az
            try clear aG aH aI aJ aK
            try clear bf bg bh bi bj
            try clear bp bq br bs bt
            try clear bA bB bC bD bE
            try clear bU bV bW bX bY
            try clear ce cf cg ch
            try clear aA
            try clear aC
            try clear aD
            try clear aE
            try clear aM
            try clear aN
            try clear aQ
            try clear aR
            try clear aT
            try clear bk
            try clear bl
            try clear bm
            try clear bn
            try clear bo
            try clear bu
            try clear bv
            try clear bw
            try clear bx
            try clear bz
            try clear bF
            try clear bH
            try clear bJ
            try clear bK
            try clear bL
            try clear bZ
            try clear ca
            try clear cb
            try clear cc
            try clear cd
            try clear ci
            try clear cj
            try clear ck
            try clear cl
            try clear aU
            try clear aV
            try clear aW
            try clear aX
            try clear bR
            try clear p2
            try clear p6
            try clear q178
            obtain ⟨x7_4, ad, rfl, HA, HK4, ag, aa, ac, af, HB⟩ := hrel
            cases gk with
            | zero => exact absurd HA.out (by simp [spec_GenDegen.l2])
            | succ k4 =>
             have H := HA.out; clear HA; simp only [spec_GenDegen.l2] at H
             by_cases bS : ad < ab
             ·rw [if_pos bS] at H; have cN : decide (ad < ab) = true := decide_eq_true bS; clear bS; have H' := Aside0.mk H; clear H
              go_wp2
              go_loopg [11] k4 (fun kq fQ w' => ∃ (ae : Int), fQ = .int .i64 ae ∧ Aside0 (spec_GenDegen.l3 kq ab x5_2 x7_4 x8_3 ad ae a0_0 a0_1 a0_2 a0_3 l0_4 ((rd_T46 l0_4 x8_3).f0) ((rd_T46 l0_4 x8_3).f1) ((rd_T46 l0_4 x8_3).f2) ((rd_T46 l0_4 x8_3).f3) = some (r1, r2, r3, r4, r5)) ∧ Aside0 (kq ≤ k4) ∧ Aside0 (Kd.R k48 48 w' w.heap.size (fun _ => True) u7 x7_4) ∧ Aside0 (w'.heap[ai]? = some (.cells #[.int .i64 a0_0, .int .i64 a0_1, .int .i64 a0_2, .int .i64 a0_3, (.slice (some ad178) l0_4.length c0_4)] 33 (0, 0))) ∧ Aside0 (w'.heap[ao]? = some (.cells #[.int .i64 0, .int .i64 0, .int .i64 0, (.slice none 0 0)] 28 (0, 0))) ∧ Aside0 (w'.heap[cM]? = some (.cells #[.int .i64 ((rd_T46 l0_4 x8_3).f0), .int .i64 ((rd_T46 l0_4 x8_3).f1), .int .i64 ((rd_T46 l0_4 x8_3).f2), .int .i64 ((rd_T46 l0_4 x8_3).f3)] 46 (0, 0))) ∧ Aside0 (Below w.heap.size w w'))
              case atStart => exact ⟨(ad), vv, H', ⟨Nat.le_refl _⟩, ⟨zR ag.out⟩, ⟨zB aa.out⟩, ⟨zB ac.out⟩, ⟨zB af.out⟩, ⟨zS HB.out⟩⟩
              case round =>
               clear H'
               try clear c1
               try clear p1
               try clear q1
               try clear hx1
               try clear c2
               try clear p2
               try clear c3
               try clear c4
               try clear c6
               try clear p6
               try clear c8
               try clear an
               try clear cI
               try clear cJ
               try clear bM
               try clear cX
               try clear dx
               try clear q17
               try clear hx17
               try clear cY
               try clear aZ
               try clear bP
               try clear bQ
               try clear dt
               try clear du
               try clear dv
               try clear bN
               try clear cq
               try clear bT
               try clear cL
               try clear fN
               try clear fO
               try clear fP
               try clear bS
               try clear cN
               try clear aw ax ay az
               try clear aG aH aI aJ aK
               try clear bf bg bh bi bj
               try clear bp bq br bs bt
               try clear bA bB bC bD bE
               try clear bU bV bW bX bY
               try clear ce cf cg ch
               try clear aA
               try clear aC
               try clear aD
               try clear aE
               try clear aM
               try clear aN
               try clear aQ
               try clear aR
               try clear aT
               try clear bk
               try clear bl
               try clear bm
               try clear bn
               try clear bo
               try clear bu
               try clear bv
               try clear bw
               try clear bx
               try clear bz
               try clear bF
               try clear bH
               try clear bJ
               try clear bK
               try clear bL
               try clear bZ
               try clear ca
               try clear cb
               try clear cc
               try clear cd
               try clear ci
               try clear cj
               try clear ck
               try clear cl
               try clear aU
               try clear aV
               try clear aW
               try clear aX
               try clear p1
               try clear dx
               try clear bR
               try clear p2
               try clear p6
               try clear q1
               try clear q17
               try clear q178
               obtain ⟨ae, rfl, HA, HK5, ag, aa, ac, af, HB⟩ := hrel
               cases gk with
               | zero => exact absurd HA.out (by simp [spec_GenDegen.l3])
               | succ k5 =>
                have H := HA.out; clear HA; simp only [spec_GenDegen.l3] at H
                by_cases cm : ae < a0_3
                ·rw [if_pos cm] at H; have dj : decide (ae < a0_3) = true := decide_eq_true cm; clear cm; replace H := bI H; obtain ⟨dd, de, H⟩ := H; replace H : (if dd = true then (spec_GenDegen.l3 k5 ab x5_2 x7_4 x8_3 ad (wrap64 (ae + 1)) a0_0 a0_1 a0_2 a0_3 l0_4 ((rd_T46 l0_4 x8_3).f0) ((rd_T46 l0_4 x8_3).f1) ((rd_T46 l0_4 x8_3).f2) ((rd_T46 l0_4 x8_3).f3)) else (if ae ≥ a0_3 then (if x7_4.length < 4398046511104 then (spec_GenDegen.l2 k5 ab x5_2 (x7_4 ++ [(⟨wrap64 ((wrap64 (((rd_T46 l0_4 x8_3).f0) * ab)) + ad), ((rd_T46 l0_4 x8_3).f1), wrap64 ((wrap64 (((rd_T46 l0_4 x8_3).f2) * ab)) + 0), decide (ae ≥ a0_3)⟩ : S48)]) x8_3 (wrap64 (ad + 1)) a0_0 a0_1 a0_2 a0_3 l0_4 ((rd_T46 l0_4 x8_3).f0) ((rd_T46 l0_4 x8_3).f1) ((rd_T46 l0_4 x8_3).f2) ((rd_T46 l0_4 x8_3).f3)) else (none)) else (if x7_4.length < 4398046511104 then (spec_GenDegen.l2 k5 ab x5_2 (x7_4 ++ [(⟨wrap64 ((wrap64 (((rd_T46 l0_4 x8_3).f0) * ab)) + ad), ((rd_T46 l0_4 x8_3).f1), wrap64 ((wrap64 (((rd_T46 l0_4 x8_3).f2) * ab)) + ae), decide (ae ≥ a0_3)⟩ : S48)]) x8_3 (wrap64 (ad + 1)) a0_0 a0_1 a0_2 a0_3 l0_4 ((rd_T46 l0_4 x8_3).f0) ((rd_T46 l0_4 x8_3).f1) ((rd_T46 l0_4 x8_3).f2) ((rd_T46 l0_4 x8_3).f3)) else (none)))) = some (r1, r2, r3, r4, r5) := H; have df := Aside0.mk de; clear de
                 by_cases cO : dd = true
                 ·subst cO
                  have H1 : (spec_GenDegen.l3 k5 ab x5_2 x7_4 x8_3 ad (wrap64 (ae + 1)) a0_0 a0_1 a0_2 a0_3 l0_4 ((rd_T46 l0_4 x8_3).f0) ((rd_T46 l0_4 x8_3).f1) ((rd_T46 l0_4 x8_3).f2) ((rd_T46 l0_4 x8_3).f3)) = some (r1, r2, r3, r4, r5) := by rw [if_pos rfl] at H; exact H
                  clear H; have H := H1; clear H1; have H' := Aside0.mk H; clear H; obtain ⟨gp, gq⟩ := nn ah; obtain ⟨gr, gs⟩ := nn ak; obtain ⟨dE, dF, dG, dH, dI, dJ, dK, dL, dM, dN⟩ := cz5 aa; obtain ⟨gt, gu⟩ := nn aj; obtain ⟨dO, dP, dQ, dR, dS, dT, dU, dV⟩ := cz4 af
                  go_wp2_with (first | (go_at_call 16; (with_reducible refine (spec_l1Has.calls ((rd_T46 l0_4 x8_3).f3) ae true _ df.out).mono ?_); rintro e w' ⟨rfl, ⟨nd, rfl⟩⟩))
                  go_roundg k5
                  case measure => have := HJ1.out; have := HK2.out; have := HK3.out; have := HK4.out; have := HK5.out; omega
                  case rel => exact ⟨(wrap64 (ae + 1)), vv, H', ⟨by have := HJ1.out; have := HK2.out; have := HK3.out; have := HK4.out; have := HK5.out; omega⟩, ⟨zR ag.out⟩, ⟨zB aa.out⟩, ⟨zB ac.out⟩, ⟨zB af.out⟩, ⟨zS HB.out⟩⟩
                 ·replace cO := Bool.eq_false_iff.mpr cO; subst cO
                  have H1 : (if ae ≥ a0_3 then (if x7_4.length < 4398046511104 then (spec_GenDegen.l2 k5 ab x5_2 (x7_4 ++ [(⟨wrap64 ((wrap64 (((rd_T46 l0_4 x8_3).f0) * ab)) + ad), ((rd_T46 l0_4 x8_3).f1), wrap64 ((wrap64 (((rd_T46 l0_4 x8_3).f2) * ab)) + 0), decide (ae ≥ a0_3)⟩ : S48)]) x8_3 (wrap64 (ad + 1)) a0_0 a0_1 a0_2 a0_3 l0_4 ((rd_T46 l0_4 x8_3).f0) ((rd_T46 l0_4 x8_3).f1) ((rd_T46 l0_4 x8_3).f2) ((rd_T46 l0_4 x8_3).f3)) else (none)) else (if x7_4.length < 4398046511104 then (spec_GenDegen.l2 k5 ab x5_2 (x7_4 ++ [(⟨wrap64 ((wrap64 (((rd_T46 l0_4 x8_3).f0) * ab)) + ad), ((rd_T46 l0_4 x8_3).f1), wrap64 ((wrap64 (((rd_T46 l0_4 x8_3).f2) * ab)) + ae), decide (ae ≥ a0_3)⟩ : S48)]) x8_3 (wrap64 (ad + 1)) a0_0 a0_1 a0_2 a0_3 l0_4 ((rd_T46 l0_4 x8_3).f0) ((rd_T46 l0_4 x8_3).f1) ((rd_T46 l0_4 x8_3).f2) ((rd_T46 l0_4 x8_3).f3)) else (none))) = some (r1, r2, r3, r4, r5) := by rw [if_neg (show ¬ (false = true) by decide)] at H; exact H
                  clear H; have H := H1; clear H1
                  by_cases cn : ae ≥ a0_3
                  ·rw [if_pos cn] at H; have cr : decide (a0_3 ≤ ae) = true := decide_eq_true cn; clear cn
                   by_cases cP : x7_4.length < 4398046511104
                   ·rw [if_pos cP] at H; have LMc52 := Aside0.mk cP; clear cP; obtain ⟨cA, bb⟩ : ∃ y_ : List (S48), y_ = (x7_4 ++ [(⟨wrap64 ((wrap64 (((rd_T46 l0_4 x8_3).f0) * ab)) + ad), ((rd_T46 l0_4 x8_3).f1), wrap64 ((wrap64 (((rd_T46 l0_4 x8_3).f2) * ab)) + 0), decide (ae ≥ a0_3)⟩ : S48)]) := ⟨_, rfl⟩
                    replace H : (spec_GenDegen.l2 k5 ab x5_2 cA x8_3 (wrap64 (ad + 1)) a0_0 a0_1 a0_2 a0_3 l0_4 ((rd_T46 l0_4 x8_3).f0) ((rd_T46 l0_4 x8_3).f1) ((rd_T46 l0_4 x8_3).f2) ((rd_T46 l0_4 x8_3).f3)) = some (r1, r2, r3, r4, r5) := by first | (rw [bb]; with_reducible exact H) | (have H2_ := (Option.bind_some _ _).symm.trans H; rw [bb]; with_reducible exact H2_) | (have H2_ := (Option.bind_some _ _).symm.trans H; with_reducible exact H2_) | with_reducible exact H | (rw [bb]; exact H) | exact H
                    have ct := Aside0.mk bb; replace ct : Aside0 (cA = (x7_4 ++ [(⟨wrap64 ((wrap64 (((rd_T46 l0_4 x8_3).f0) * ab)) + ad), ((rd_T46 l0_4 x8_3).f1), wrap64 (wrap64 (((rd_T46 l0_4 x8_3).f2) * ab)), true⟩ : S48)])) := ⟨by rw [ct.out]; simp only [Int.add_zero, ge_iff_le, gt_iff_lt, cr]⟩; clear bb; have H' := Aside0.mk H; clear H; obtain ⟨gv, gw⟩ := nn ah; obtain ⟨gx, gy⟩ := nn ak; obtain ⟨dW, dX, dY, dZ, ea, eb, ec, ed, ee, ef⟩ := cz5 aa; obtain ⟨gz, gA⟩ := nn aj; obtain ⟨eg, eh, ei, ej, ek, el, em, en⟩ := cz4 af
                    go_wp2_with (first | (go_at_call 16; (with_reducible refine (spec_l1Has.calls ((rd_T46 l0_4 x8_3).f3) ae false _ df.out).mono ?_); rintro e w' ⟨rfl, ⟨nd, rfl⟩⟩) | ((with_reducible refine gate_builtin (b := .append) (xs := #[.tmp 91, .tmp 108]) rfl ?_); (try (refine gate_guard (by rfl) ?_; dsimp only)); at_builtin; refine Kd.R_append k48 (w0 := w) w.heap.size rfl (.tmp 91) (.tmp 108) 26 48 (.agg #[(.int .i64 0), (.int .i64 0), (.int .i64 0), (.bool false)]) 32 rfl Try.underlying26 info48 rfl (by decide) (by omega) u7 x7_4 (⟨wrap64 ((wrap64 (((rd_T46 l0_4 x8_3).f0) * ab)) + ad), ((rd_T46 l0_4 x8_3).f1), wrap64 (wrap64 (((rd_T46 l0_4 x8_3).f2) * ab)), true⟩ : S48) [.int .i64 (wrap64 ((wrap64 (((rd_T46 l0_4 x8_3).f0) * ab)) + ad)), .int .i64 ((rd_T46 l0_4 x8_3).f1), .int .i64 (wrap64 (wrap64 (((rd_T46 l0_4 x8_3).f2) * ab))), .bool true] (fun _ => True) (fun _ => False) rfl rfl ?aP (fun _ hk => hk.elim) ?aF ?aO ?aB ?aS ?aL ?_; (case aP => exact k48_mkM _ _ _ (⟨wrap64 ((wrap64 (((rd_T46 l0_4 x8_3).f0) * ab)) + ad), ((rd_T46 l0_4 x8_3).f1), wrap64 (wrap64 (((rd_T46 l0_4 x8_3).f2) * ab)), true⟩ : S48)); (case aB => exact (zS HB.out)); (case aF => exact (fun _ _ => trivial)); (case aO => exact (zR ag.out)); (case aS => exact (below_size (zS HB.out))); (case aL => have := LMc52.out; omega); intro gW hn ho hb hg hat; rw [← ct.out] at ho; have ap := bG aa hg ag; have aq := bG ac hg ag; have ar := bG af hg ag; have au := Aside0.mk (hb); have av := Aside0.mk (ho); clear aa; clear ac; clear af; clear HB; clear ag; have aa := ap; have ac := aq; have af := ar; have HB := au; have dk := av; clear ap aq ar au av; clear ho hb hg hat))
                    go_roundg k5
                    case measure => have := HJ1.out; have := HK2.out; have := HK3.out; have := HK4.out; have := HK5.out; omega
                    case rel => exact ⟨(cA), (wrap64 (ad + 1)), vv, H', ⟨by have := HJ1.out; have := HK2.out; have := HK3.out; have := HK4.out; have := HK5.out; omega⟩, ⟨zR dk.out⟩, ⟨zB aa.out⟩, ⟨zB ac.out⟩, ⟨zB af.out⟩, ⟨zS HB.out⟩⟩
                   ·rw [if_neg cP] at H; exact absurd H (by simp)
                  ·rw [if_neg cn] at H; have cr : decide (a0_3 ≤ ae) = false := decide_eq_false cn; clear cn
                   by_cases cQ : x7_4.length < 4398046511104
                   ·rw [if_pos cQ] at H; have LMc59 := Aside0.mk cQ; clear cQ; obtain ⟨cB, bc⟩ : ∃ y_ : List (S48), y_ = (x7_4 ++ [(⟨wrap64 ((wrap64 (((rd_T46 l0_4 x8_3).f0) * ab)) + ad), ((rd_T46 l0_4 x8_3).f1), wrap64 ((wrap64 (((rd_T46 l0_4 x8_3).f2) * ab)) + ae), decide (ae ≥ a0_3)⟩ : S48)]) := ⟨_, rfl⟩
                    replace H : (spec_GenDegen.l2 k5 ab x5_2 cB x8_3 (wrap64 (ad + 1)) a0_0 a0_1 a0_2 a0_3 l0_4 ((rd_T46 l0_4 x8_3).f0) ((rd_T46 l0_4 x8_3).f1) ((rd_T46 l0_4 x8_3).f2) ((rd_T46 l0_4 x8_3).f3)) = some (r1, r2, r3, r4, r5) := by first | (rw [bc]; with_reducible exact H) | (have H2_ := (Option.bind_some _ _).symm.trans H; rw [bc]; with_reducible exact H2_) | (have H2_ := (Option.bind_some _ _).symm.trans H; with_reducible exact H2_) | with_reducible exact H | (rw [bc]; exact H) | exact H
                    have cu := Aside0.mk bc; replace cu : Aside0 (cB = (x7_4 ++ [(⟨wrap64 ((wrap64 (((rd_T46 l0_4 x8_3).f0) * ab)) + ad), ((rd_T46 l0_4 x8_3).f1), wrap64 ((wrap64 (((rd_T46 l0_4 x8_3).f2) * ab)) + ae), false⟩ : S48)])) := ⟨by rw [cu.out]; simp only [Int.add_zero, ge_iff_le, gt_iff_lt, cr]⟩; clear bc; have H' := Aside0.mk H; clear H; obtain ⟨gB, gC⟩ := nn ah; obtain ⟨gD, gE⟩ := nn ak; obtain ⟨eo, ep, eq, er, es, et, eu, ev, ew, ex⟩ := cz5 aa; obtain ⟨gF, gG⟩ := nn aj; obtain ⟨ey, ez, eA, eB, eC, eD, eE, eF⟩ := cz4 af
                    go_wp2_with (first | (go_at_call 16; (with_reducible refine (spec_l1Has.calls ((rd_T46 l0_4 x8_3).f3) ae false _ df.out).mono ?_); rintro e w' ⟨rfl, ⟨nd, rfl⟩⟩) | ((with_reducible refine gate_builtin (b := .append) (xs := #[.tmp 91, .tmp 108]) rfl ?_); (try (refine gate_guard (by rfl) ?_; dsimp only)); at_builtin; refine Kd.R_append k48 (w0 := w) w.heap.size rfl (.tmp 91) (.tmp 108) 26 48 (.agg #[(.int .i64 0), (.int .i64 0), (.int .i64 0), (.bool false)]) 32 rfl Try.underlying26 info48 rfl (by decide) (by omega) u7 x7_4 (⟨wrap64 ((wrap64 (((rd_T46 l0_4 x8_3).f0) * ab)) + ad), ((rd_T46 l0_4 x8_3).f1), wrap64 ((wrap64 (((rd_T46 l0_4 x8_3).f2) * ab)) + ae), false⟩ : S48) [.int .i64 (wrap64 ((wrap64 (((rd_T46 l0_4 x8_3).f0) * ab)) + ad)), .int .i64 ((rd_T46 l0_4 x8_3).f1), .int .i64 (wrap64 ((wrap64 (((rd_T46 l0_4 x8_3).f2) * ab)) + ae)), .bool false] (fun _ => True) (fun _ => False) rfl rfl ?aP (fun _ hk => hk.elim) ?aF ?aO ?aB ?aS ?aL ?_; (case aP => exact k48_mkM _ _ _ (⟨wrap64 ((wrap64 (((rd_T46 l0_4 x8_3).f0) * ab)) + ad), ((rd_T46 l0_4 x8_3).f1), wrap64 ((wrap64 (((rd_T46 l0_4 x8_3).f2) * ab)) + ae), false⟩ : S48)); (case aB => exact (zS HB.out)); (case aF => exact (fun _ _ => trivial)); (case aO => exact (zR ag.out)); (case aS => exact (below_size (zS HB.out))); (case aL => have := LMc59.out; omega); intro gX hq ho hb hg hat; rw [← cu.out] at ho; have ap := bG aa hg ag; have aq := bG ac hg ag; have ar := bG af hg ag; have au := Aside0.mk (hb); have av := Aside0.mk (ho); clear aa; clear ac; clear af; clear HB; clear ag; have aa := ap; have ac := aq; have af := ar; have HB := au; have dl := av; clear ap aq ar au av; clear ho hb hg hat))
                    go_roundg k5
                    case measure => have := HJ1.out; have := HK2.out; have := HK3.out; have := HK4.out; have := HK5.out; omega
                    case rel => exact ⟨(cB), (wrap64 (ad + 1)), vv, H', ⟨by have := HJ1.out; have := HK2.out; have := HK3.out; have := HK4.out; have := HK5.out; omega⟩, ⟨zR dl.out⟩, ⟨zB aa.out⟩, ⟨zB ac.out⟩, ⟨zB af.out⟩, ⟨zS HB.out⟩⟩
                   ·rw [if_neg cQ] at H; exact absurd H (by simp)
                ·rw [if_neg cm] at H; have dj : decide (ae < a0_3) = false := decide_eq_false cm; clear cm
                 by_cases co : ae ≥ a0_3
                 ·rw [if_pos co] at H; have cv : decide (a0_3 ≤ ae) = true := decide_eq_true co; clear co
                  by_cases cR : x7_4.length < 4398046511104
                  ·rw [if_pos cR] at H; have LMc67 := Aside0.mk cR; clear cR; obtain ⟨cC, bd⟩ : ∃ y_ : List (S48), y_ = (x7_4 ++ [(⟨wrap64 ((wrap64 (((rd_T46 l0_4 x8_3).f0) * ab)) + ad), ((rd_T46 l0_4 x8_3).f1), wrap64 ((wrap64 (((rd_T46 l0_4 x8_3).f2) * ab)) + 0), decide (ae ≥ a0_3)⟩ : S48)]) := ⟨_, rfl⟩
                   replace H : (spec_GenDegen.l2 k5 ab x5_2 cC x8_3 (wrap64 (ad + 1)) a0_0 a0_1 a0_2 a0_3 l0_4 ((rd_T46 l0_4 x8_3).f0) ((rd_T46 l0_4 x8_3).f1) ((rd_T46 l0_4 x8_3).f2) ((rd_T46 l0_4 x8_3).f3)) = some (r1, r2, r3, r4, r5) := by first | (rw [bd]; with_reducible exact H) | (have H2_ := (Option.bind_some _ _).symm.trans H; rw [bd]; with_reducible exact H2_) | (have H2_ := (Option.bind_some _ _).symm.trans H; with_reducible exact H2_) | with_reducible exact H | (rw [bd]; exact H) | exact H
                   have cw := Aside0.mk bd; replace cw : Aside0 (cC = (x7_4 ++ [(⟨wrap64 ((wrap64 (((rd_T46 l0_4 x8_3).f0) * ab)) + ad), ((rd_T46 l0_4 x8_3).f1), wrap64 (wrap64 (((rd_T46 l0_4 x8_3).f2) * ab)), true⟩ : S48)])) := ⟨by rw [cw.out]; simp only [Int.add_zero, ge_iff_le, gt_iff_lt, cv]⟩; clear bd; have H' := Aside0.mk H; clear H; obtain ⟨gH, gI⟩ := nn ah; obtain ⟨gJ, gK⟩ := nn ak; obtain ⟨eG, eH, eI, eJ, eK, eL, eM, eN, eO, eP⟩ := cz5 aa; obtain ⟨gL, gM⟩ := nn aj; obtain ⟨eQ, eR, eS, eT, eU, eV, eW, eX⟩ := cz4 af
                   go_wp2_with (first | ((with_reducible refine gate_builtin (b := .append) (xs := #[.tmp 91, .tmp 108]) rfl ?_); (try (refine gate_guard (by rfl) ?_; dsimp only)); at_builtin; refine Kd.R_append k48 (w0 := w) w.heap.size rfl (.tmp 91) (.tmp 108) 26 48 (.agg #[(.int .i64 0), (.int .i64 0), (.int .i64 0), (.bool false)]) 32 rfl Try.underlying26 info48 rfl (by decide) (by omega) u7 x7_4 (⟨wrap64 ((wrap64 (((rd_T46 l0_4 x8_3).f0) * ab)) + ad), ((rd_T46 l0_4 x8_3).f1), wrap64 (wrap64 (((rd_T46 l0_4 x8_3).f2) * ab)), true⟩ : S48) [.int .i64 (wrap64 ((wrap64 (((rd_T46 l0_4 x8_3).f0) * ab)) + ad)), .int .i64 ((rd_T46 l0_4 x8_3).f1), .int .i64 (wrap64 (wrap64 (((rd_T46 l0_4 x8_3).f2) * ab))), .bool true] (fun _ => True) (fun _ => False) rfl rfl ?aP (fun _ hk => hk.elim) ?aF ?aO ?aB ?aS ?aL ?_; (case aP => exact k48_mkM _ _ _ (⟨wrap64 ((wrap64 (((rd_T46 l0_4 x8_3).f0) * ab)) + ad), ((rd_T46 l0_4 x8_3).f1), wrap64 (wrap64 (((rd_T46 l0_4 x8_3).f2) * ab)), true⟩ : S48)); (case aB => exact (zS HB.out)); (case aF => exact (fun _ _ => trivial)); (case aO => exact (zR ag.out)); (case aS => exact (below_size (zS HB.out))); (case aL => have := LMc67.out; omega); intro gY hs ho hb hg hat; rw [← cw.out] at ho; have ap := bG aa hg ag; have aq := bG ac hg ag; have ar := bG af hg ag; have au := Aside0.mk (hb); have av := Aside0.mk (ho); clear aa; clear ac; clear af; clear HB; clear ag; have aa := ap; have ac := aq; have af := ar; have HB := au; have dm := av; clear ap aq ar au av; clear ho hb hg hat))
                   go_roundg k5
                   case measure => have := HJ1.out; have := HK2.out; have := HK3.out; have := HK4.out; have := HK5.out; omega
                   case rel => exact ⟨(cC), (wrap64 (ad + 1)), vv, H', ⟨by have := HJ1.out; have := HK2.out; have := HK3.out; have := HK4.out; have := HK5.out; omega⟩, ⟨zR dm.out⟩, ⟨zB aa.out⟩, ⟨zB ac.out⟩, ⟨zB af.out⟩, ⟨zS HB.out⟩⟩
                  ·rw [if_neg cR] at H; exact absurd H (by simp)
                 ·rw [if_neg co] at H; have cv : decide (a0_3 ≤ ae) = false := decide_eq_false co; clear co
                  by_cases cS : x7_4.length < 4398046511104
                  ·rw [if_pos cS] at H; have LMc74 := Aside0.mk cS; clear cS; obtain ⟨cD, be⟩ : ∃ y_ : List (S48), y_ = (x7_4 ++ [(⟨wrap64 ((wrap64 (((rd_T46 l0_4 x8_3).f0) * ab)) + ad), ((rd_T46 l0_4 x8_3).f1), wrap64 ((wrap64 (((rd_T46 l0_4 x8_3).f2) * ab)) + ae), decide (ae ≥ a0_3)⟩ : S48)]) := ⟨_, rfl⟩
                   replace H : (spec_GenDegen.l2 k5 ab x5_2 cD x8_3 (wrap64 (ad + 1)) a0_0 a0_1 a0_2 a0_3 l0_4 ((rd_T46 l0_4 x8_3).f0) ((rd_T46 l0_4 x8_3).f1) ((rd_T46 l0_4 x8_3).f2) ((rd_T46 l0_4 x8_3).f3)) = some (r1, r2, r3, r4, r5) := by first | (rw [be]; with_reducible exact H) | (have H2_ := (Option.bind_some _ _).symm.trans H; rw [be]; with_reducible exact H2_) | (have H2_ := (Option.bind_some _ _).symm.trans H; with_reducible exact H2_) | with_reducible exact H | (rw [be]; exact H) | exact H
                   have cx := Aside0.mk be; replace cx : Aside0 (cD = (x7_4 ++ [(⟨wrap64 ((wrap64 (((rd_T46 l0_4 x8_3).f0) * ab)) + ad), ((rd_T46 l0_4 x8_3).f1), wrap64 ((wrap64 (((rd_T46 l0_4 x8_3).f2) * ab)) + ae), false⟩ : S48)])) := ⟨by rw [cx.out]; simp only [Int.add_zero, ge_iff_le, gt_iff_lt, cv]⟩; clear be; have H' := Aside0.mk H; clear H; obtain ⟨gN, gO⟩ := nn ah; obtain ⟨gP, gQ⟩ := nn ak; obtain ⟨eY, eZ, fa, fb, fc, fd, fe, ff, fg, fh⟩ := cz5 aa; obtain ⟨gR, gS⟩ := nn aj; obtain ⟨fi, fj, fk, fl, fm, fn, fo, fp⟩ := cz4 af
                   go_wp2_with (first | ((with_reducible refine gate_builtin (b := .append) (xs := #[.tmp 91, .tmp 108]) rfl ?_); (try (refine gate_guard (by rfl) ?_; dsimp only)); at_builtin; refine Kd.R_append k48 (w0 := w) w.heap.size rfl (.tmp 91) (.tmp 108) 26 48 (.agg #[(.int .i64 0), (.int .i64 0), (.int .i64 0), (.bool false)]) 32 rfl Try.underlying26 info48 rfl (by decide) (by omega) u7 x7_4 (⟨wrap64 ((wrap64 (((rd_T46 l0_4 x8_3).f0) * ab)) + ad), ((rd_T46 l0_4 x8_3).f1), wrap64 ((wrap64 (((rd_T46 l0_4 x8_3).f2) * ab)) + ae), false⟩ : S48) [.int .i64 (wrap64 ((wrap64 (((rd_T46 l0_4 x8_3).f0) * ab)) + ad)), .int .i64 ((rd_T46 l0_4 x8_3).f1), .int .i64 (wrap64 ((wrap64 (((rd_T46 l0_4 x8_3).f2) * ab)) + ae)), .bool false] (fun _ => True) (fun _ => False) rfl rfl ?aP (fun _ hk => hk.elim) ?aF ?aO ?aB ?aS ?aL ?_; (case aP => exact k48_mkM _ _ _ (⟨wrap64 ((wrap64 (((rd_T46 l0_4 x8_3).f0) * ab)) + ad), ((rd_T46 l0_4 x8_3).f1), wrap64 ((wrap64 (((rd_T46 l0_4 x8_3).f2) * ab)) + ae), false⟩ : S48)); (case aB => exact (zS HB.out)); (case aF => exact (fun _ _ => trivial)); (case aO => exact (zR ag.out)); (case aS => exact (below_size (zS HB.out))); (case aL => have := LMc74.out; omega); intro gZ ht ho hb hg hat; rw [← cx.out] at ho; have ap := bG aa hg ag; have aq := bG ac hg ag; have ar := bG af hg ag; have au := Aside0.mk (hb); have av := Aside0.mk (ho); clear aa; clear ac; clear af; clear HB; clear ag; have aa := ap; have ac := aq; have af := ar; have HB := au; have dn := av; clear ap aq ar au av; clear ho hb hg hat))
                   go_roundg k5
                   case measure => have := HJ1.out; have := HK2.out; have := HK3.out; have := HK4.out; have := HK5.out; omega
                   case rel => exact ⟨(cD), (wrap64 (ad + 1)), vv, H', ⟨by have := HJ1.out; have := HK2.out; have := HK3.out; have := HK4.out; have := HK5.out; omega⟩, ⟨zR dn.out⟩, ⟨zB aa.out⟩, ⟨zB ac.out⟩, ⟨zB af.out⟩, ⟨zS HB.out⟩⟩
                  ·rw [if_neg cS] at H; exact absurd H (by simp)
             ·rw [if_neg bS] at H; have cN : decide (ad < ab) = false := decide_eq_false bS; clear bS; have H' := Aside0.mk H; clear H
              go_wp2
              go_roundg k4
              case measure => have := HJ1.out; have := HK2.out; have := HK3.out; have := HK4.out; omega
              case rel => exact ⟨(x7_4), (wrap64 (x8_3 + 1)), vv, H', ⟨by have := HJ1.out; have := HK2.out; have := HK3.out; have := HK4.out; omega⟩, ⟨zR ag.out⟩, ⟨zB aa.out⟩, ⟨zB ac.out⟩, ⟨zS HB.out⟩⟩
          ·rw [if_neg bT] at H; exact absurd H (by simp)
         ·rw [if_neg bN] at H; have cq : decide (x8_3 < (l0_4.length : Int)) = false := decide_eq_false bN; clear bN; replace H := bI H; obtain ⟨⟨cE, cF, cG, cH, dg⟩, dh, H⟩ := H; replace H : (some (cE, cF, cG, cH, dg)) = some (r1, r2, r3, r4, r5) := H; have fR := Aside0.mk dh; clear dh; simp only [Option.some.injEq, Prod.mk.injEq] at H; obtain ⟨rfl, rfl, rfl, rfl, rfl⟩ := H; obtain ⟨gT, gU⟩ := nn ah; obtain ⟨fq, fr, fs, ft, fu, fv, fw, fx, fy, fz⟩ := cz5 aa; obtain ⟨dy, dz, dA⟩ := Kd.R_slice ag.out; subst dA
          go_wp2_with (first | ((with_reducible refine gate_callee (f := 18) rfl ?_); refine gl_ (some 118) Try.func18 #[.int .i64 a0_0, .int .i64 (wrap64 (a0_1 * ab)), .int .i64 x5_2, .slice dy x7_3.length dz] ?_; (with_reducible refine (spec_AutoMake.calls k3 a0_0 (wrap64 (a0_1 * ab)) x5_2 _ _ x7_3 cE cF cG cH dg _ ?side1 ?side2 fR.out).mono ?_); (case side1 => exact sC ag); (case side2 => exact sL ag); rintro e hu ⟨ha, rfl, ho0, hb⟩; refine ⟨_, rfl, ?_⟩; have cU := rW1 ho0 ag HB; replace ag := xE ag ho0 hb; replace aa := xB aa hb; replace ac := xB ac hb; replace HB := xS HB hb; (try clear hb); (try clear hb2); (try clear hk); (try clear hi); (try clear ho0); obtain ⟨fA, fB, fC, fD, fE, fF, fG, fH⟩ := cz4 ac; obtain ⟨dB, dC, dD⟩ := Kd.R_slice cU.out; subst dD))
          refine bodyPost_ret (results_ct rfl _ _ ao 28 #[.int .i64 cE, .int .i64 cF, .int .i64 cG, .slice dB cH.length dC] (0, 0) _ rfl (xP4 ac.out) Try.underlying28 rfl (by kernel_rfl)) rfl ?_; exact ⟨_, vw, rM (Aside0.mk (yF4 cU ac)) (fun _ hk => trivial), zS HB.out⟩


/-! ### laws_toGEdge: function 36 -/
def laws_toGEdge.f (a0_0 : Int) (a0_1 : Int) (a0_2 : Int) (a0_3 : Int) : Option (Int × Int × Int × Int) := some (a0_0, a0_1, a0_2, a0_3)
open Go.Proofs.Ytnflbjdmbaaokaa.Short2 in
set_option maxHeartbeats 8000000 in
set_option maxRecDepth 100000 in
theorem laws_toGEdge.calls (a0_0 : Int) (a0_1 : Int) (a0_2 : Int) (a0_3 : Int) (r1 : Int) (r2 : Int) (r3 : Int) (r4 : Int) (w : World) (h : laws_toGEdge.f a0_0 a0_1 a0_2 a0_3 = some (r1, r2, r3, r4)) :
  Calls Try.prog 36 #[.agg #[.int .i64 a0_0, .int .i64 a0_1, .int .i64 a0_2, .int .i64 a0_3]] w fun e w' => e = .returned (.agg #[.int .i64 r1, .int .i64 r2, .int .i64 r3, .int .i64 r4]) ∧ Below w.heap.size w w' := by
 have hu65 := Try.underlying65; have hu46 := Try.underlying46; have HB := Aside0.mk (Below.refl w.heap.size w); have H : (some (a0_0, a0_1, a0_2, a0_3)) = some (r1, r2, r3, r4) := h; clear h; simp only [Option.some.injEq, Prod.mk.injEq] at H; obtain ⟨rfl, rfl, rfl, rfl⟩ := H
 go_enter Try.func36, Try.ntmps36
 go_wp2_with (first | ((with_reducible refine gate_dst (N := 1) rfl ?_); refine bx_ 1 #[.int .i64 a0_0, .int .i64 a0_1, .int .i64 a0_2, .int .i64 a0_3] 65 ?_; intro aK hg w2 hbox hb; have aa := Aside0.mk (hbox); have aL := xG HB hg; have aM := xG HB hg; replace HB := xS HB hb; clear hb hbox hg) | ((with_reducible refine gate_dst (N := 2) rfl ?_); refine bx_ 2 #[.int .i64 0, .int .i64 0, .int .i64 0, .int .i64 0] 46 ?_; intro ag hg w3 hbox hb; have ac := Aside0.mk (hbox); have aN := xG HB hg; have aO := xG HB hg; replace HB := xS HB hb; have ad := xN aa hg; have ai := xM aa hg; replace aa := xB aa hb; clear hb hbox hg) | ((with_reducible refine gate_dst (N := 3) rfl ?_); refine bx_ 3 #[.int .i64 0, .int .i64 0, .int .i64 0, .int .i64 0] 46 ?_; intro aP hg w4 hbox hb; have ah := Aside0.mk (hbox); have aQ := xG HB hg; have aR := xG HB hg; replace HB := xS HB hb; have ae := xN aa hg; have aj := xM aa hg; replace aa := xB aa hb; have ab := xN ac hg; have af := xM ac hg; replace ac := xB ac hb; clear hb hbox hg; obtain ⟨aS, aT⟩ := nn ad; obtain ⟨aU, aV⟩ := nn ae; obtain ⟨au, av, aw, ax, ay, az, aA, aB⟩ := cz4 aa; obtain ⟨aW, aX⟩ := nn af; obtain ⟨aC, aD, aE, aF, aG, aH, aI, aJ⟩ := cz4 ah; obtain ⟨ak, al, am, an, ao, ap, aq, ar⟩ := cz4 ac))
 refine bodyPost_ret (results_cell_row rfl _ _ ag 46 #[.int .i64 a0_0, .int .i64 a0_1, .int .i64 a0_2, .int .i64 a0_3] (0, 0) _ rfl (by (with_reducible repeat (first | refine blk_drewN ?_ _ | refine blk_drew ?_ | refine blk_alloc ?_ _)); refine blk_put (cs := #[.int .i64 a0_0, .int .i64 a0_1, .int .i64 a0_2, .int .i64 0]) ?_ 3 _ rfl; (with_reducible repeat (first | refine blk_drewN ?_ _ | refine blk_drew ?_ | refine blk_alloc ?_ _)); refine blk_put (cs := #[.int .i64 a0_0, .int .i64 a0_1, .int .i64 0, .int .i64 0]) ?_ 2 _ rfl; (with_reducible repeat (first | refine blk_drewN ?_ _ | refine blk_drew ?_ | refine blk_alloc ?_ _)); refine blk_put (cs := #[.int .i64 a0_0, .int .i64 0, .int .i64 0, .int .i64 0]) ?_ 1 _ rfl; (with_reducible repeat (first | refine blk_drewN ?_ _ | refine blk_drew ?_ | refine blk_alloc ?_ _)); refine blk_put (cs := #[.int .i64 0, .int .i64 0, .int .i64 0, .int .i64 0]) ?_ 0 _ rfl; (with_reducible repeat (first | refine blk_drewN ?_ _ | refine blk_drew ?_ | refine blk_alloc ?_ _)); refine blk_far ?_ ab.out _; (with_reducible repeat (first | refine blk_drewN ?_ _ | refine blk_drew ?_ | refine blk_alloc ?_ _)); refine blk_far ?_ ab.out _; (with_reducible repeat (first | refine blk_drewN ?_ _ | refine blk_drew ?_ | refine blk_alloc ?_ _)); refine blk_far ?_ ab.out _; (with_reducible repeat (first | refine blk_drewN ?_ _ | refine blk_drew ?_ | refine blk_alloc ?_ _)); refine blk_far ?_ ab.out _; (with_reducible repeat (first | refine blk_drewN ?_ _ | refine blk_drew ?_ | refine blk_alloc ?_ _)); exact ac.out) Try.underlying46 rfl (by kernel_rfl)) rfl ?_; exact ⟨vw, zS HB.out⟩

end Go.Proofs.Ytnflbjdmbaaokaa.MFnExactGenDegen
