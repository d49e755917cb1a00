-- Written by a program of this session, out of Lean's print of the translation. Not trusted: Lean checks it.
import Derived.Test.YtlallflpicgcmaaMFnReach4x0
import Derived.Test.YtlallflpicgcmaaMFnReach4x1
import Derived.Test.YtlallflpicgcmaaMFnReach4x2
import Derived.Test.YtlallflpicgcmaaMFnReach4x3
import Derived.Test.YtlallflpicgcmaaMFnReach4x4
import Derived.Test.YtlallflpicgcmaaMFnReach4x7
import Derived.Test.YtlallflpicgcmaaMFnReach4x8
namespace Go.Proofs.Ytlallflpicgcmaa.MFnReach4
open Go.RowKit Go.Proofs.YtlallflpicgcmaaW.PrintWords Go.Proofs.YtlallflpicgcmaaW.PrintLast Go.Proofs.YtlallflpicgcmaaW.PrintMore Go.Proofs.Ytlallflpicgcmaa.Short4
attribute [local go_sem] max2_int min2_int max_two min_two max_three min_three max_four min_four   -- for this text's walks alone
set_option linter.unusedVariables false
set_option linter.unusedSimpArgs false

section
open Go.Proofs.Ytlallflpicgcmaa.Short2.T
abbrev laws_FnReach4.bl0 : Array Bool := #[f, f, f, f, f, f, f, f, f, f, f, f, f, f, f, f, f, f, f, f, f, f, f]
abbrev laws_FnReach4.bl1 : Array Bool := #[t, f, f, f, f, f, f, f, f, f, f, f, f, f, f, f, f, f, f, f, f, f, f]
abbrev laws_FnReach4.bl2 : Array Bool := #[t, t, f, f, f, f, f, f, f, f, f, f, f, f, f, f, f, f, f, f, f, f, f]
abbrev laws_FnReach4.bl3 : Array Bool := #[t, t, t, f, f, f, f, f, f, f, f, f, f, f, f, f, f, f, f, f, f, f, f]
abbrev laws_FnReach4.bl4 : Array Bool := #[t, t, t, t, f, f, f, f, f, f, f, f, f, f, f, f, f, f, f, f, f, f, f]
abbrev laws_FnReach4.bl5 : Array Bool := #[t, t, t, t, t, f, f, f, f, f, f, f, f, f, f, f, f, f, f, f, f, f, f]
abbrev laws_FnReach4.bl6 : Array Bool := #[t, t, t, t, t, t, f, f, f, f, f, f, f, f, f, f, f, f, f, f, f, f, f]
abbrev laws_FnReach4.bl7 : Array Bool := #[t, t, t, t, t, t, t, f, f, f, f, f, f, f, f, f, f, f, f, f, f, f, f]
abbrev laws_FnReach4.bl8 : Array Bool := #[t, t, t, t, t, t, t, t, f, f, f, f, f, f, f, f, f, f, f, f, f, f, f]
abbrev laws_FnReach4.bl9 : Array Bool := #[t, t, t, t, t, t, t, t, t, f, f, f, f, f, f, f, f, f, f, f, f, f, f]
abbrev laws_FnReach4.bl10 : Array Bool := #[t, t, t, t, t, t, t, t, t, t, f, f, f, f, f, f, f, f, f, f, f, f, f]
abbrev laws_FnReach4.bl11 : Array Bool := #[t, t, t, t, t, t, t, t, t, t, t, f, f, f, f, f, f, f, f, f, f, f, f]
abbrev laws_FnReach4.bl12 : Array Bool := #[t, t, t, t, t, t, t, t, t, t, t, t, f, f, f, f, f, f, f, f, f, f, f]
abbrev laws_FnReach4.bl13 : Array Bool := #[t, t, t, t, t, t, t, t, t, t, t, t, f, t, f, f, f, f, f, f, f, f, f]
abbrev laws_FnReach4.bl14 : Array Bool := #[t, t, t, t, t, t, t, t, t, t, t, t, t, t, f, f, f, f, f, f, f, f, f]
abbrev laws_FnReach4.bl15 : Array Bool := #[t, t, t, t, t, t, t, t, t, t, t, t, t, t, t, f, f, f, f, f, f, f, f]
abbrev laws_FnReach4.bl16 : Array Bool := #[t, t, t, t, t, t, t, t, t, t, t, t, t, t, t, t, f, f, f, f, f, f, f]
abbrev laws_FnReach4.bl17 : Array Bool := #[t, t, t, t, t, t, t, t, t, t, t, t, t, t, t, t, t, f, f, f, f, f, f]
abbrev laws_FnReach4.bl18 : Array Bool := #[t, t, t, t, t, t, t, t, t, t, t, t, t, t, t, t, t, t, f, f, f, f, f]
abbrev laws_FnReach4.bl19 : Array Bool := #[t, t, t, t, t, t, t, t, t, t, t, t, t, t, t, t, t, t, t, f, f, f, f]
abbrev laws_FnReach4.bl20 : Array Bool := #[t, t, t, t, t, t, t, t, t, t, t, t, t, t, t, t, t, t, t, t, f, f, f]
abbrev laws_FnReach4.bl21 : Array Bool := #[t, t, t, t, t, t, t, t, t, t, t, t, t, t, t, t, t, t, t, t, t, f, f]
abbrev laws_FnReach4.bl22 : Array Bool := #[t, t, t, t, t, t, t, t, t, t, t, t, t, t, t, t, t, t, t, t, t, t, f]
abbrev laws_FnReach4.bl23 : Array Bool := #[t, t, t, t, t, t, t, t, t, t, t, t, t, t, t, t, t, t, t, t, t, t, t]
abbrev laws_FnReach4.bl24 : Array Bool := #[t, t, t, t, t, t, t, t, t, t, t, t, t, f, f, f, f, f, f, f, f, f, f]
abbrev laws_FnReach4.bl25 : Array Bool := #[f, f, f, f, f, f, f, f, f, f, f, f, f, f, f, f, f, f, f]
abbrev laws_FnReach4.bl26 : Array Bool := #[f, t, f, f, f, f, f, f, f, f, f, f, f, f, f, f, f, f, f]
abbrev laws_FnReach4.bl27 : Array Bool := #[f, t, t, f, f, f, f, f, f, f, f, f, f, f, f, f, f, f, f]
abbrev laws_FnReach4.bl28 : Array Bool := #[f, t, t, f, f, f, t, f, f, f, f, f, f, f, f, f, f, f, f]
abbrev laws_FnReach4.bl29 : Array Bool := #[f, t, t, f, f, f, t, f, t, f, f, f, f, f, f, f, f, f, f]
abbrev laws_FnReach4.bl30 : Array Bool := #[f, t, t, f, f, f, t, f, t, t, f, f, f, f, f, f, f, f, f]
abbrev laws_FnReach4.bl31 : Array Bool := #[t, t, t, f, f, f, t, f, t, t, f, f, f, f, f, f, f, f, f]
abbrev laws_FnReach4.bl32 : Array Bool := #[t, t, t, t, f, f, t, f, t, t, f, f, f, f, f, f, f, f, f]
abbrev laws_FnReach4.bl33 : Array Bool := #[t, t, t, t, t, f, t, f, t, t, f, f, f, f, f, f, f, f, f]
abbrev laws_FnReach4.bl34 : Array Bool := #[t, t, t, t, t, t, t, f, t, t, f, f, f, f, f, f, f, f, f]
abbrev laws_FnReach4.bl35 : Array Bool := #[t, t, t, t, t, t, t, t, t, t, f, f, f, f, f, f, f, f, f]
abbrev laws_FnReach4.bl36 : Array Bool := #[t, t, t, t, t, t, t, t, t, t, t, f, f, f, f, f, f, f, f]
abbrev laws_FnReach4.bl37 : Array Bool := #[t, t, t, t, t, t, t, t, t, t, t, t, f, f, f, f, f, f, f]
abbrev laws_FnReach4.bl38 : Array Bool := #[t, t, t, t, t, t, t, t, t, t, t, t, t, f, f, f, f, f, f]
abbrev laws_FnReach4.bl39 : Array Bool := #[t, t, t, t, t, t, t, t, t, t, t, t, t, t, f, f, f, f, f]
abbrev laws_FnReach4.bl40 : Array Bool := #[t, t, t, t, t, t, t, t, t, t, t, t, t, t, t, f, f, f, f]
abbrev laws_FnReach4.bl41 : Array Bool := #[t, t, t, t, t, t, t, t, t, t, t, t, t, t, t, t, f, f, f]
abbrev laws_FnReach4.bl42 : Array Bool := #[t, t, t, t, t, t, t, t, t, t, t, t, t, t, t, t, t, f, f]
abbrev laws_FnReach4.bl43 : Array Bool := #[t, t, t, t, t, t, t, t, t, t, t, t, t, t, t, t, t, t, f]
abbrev laws_FnReach4.bl44 : Array Bool := #[t, t, t, t, t, t, t, t, t, t, t, t, t, t, t, t, t, t, t]
end
/-! ### laws_FnReach4: function 11 -/
mutual
def laws_FnReach4.j0 : Nat → Int → Int → Bool → Int → Int → Int → List (S68) → Option (Bool)
 | 0, _, _, _, _, _, _, _ => none
 | k + 1, x4, x5, x36, x415000, x415001, x415002, x415003 => if x36 = true then (some (x5 == 0)) else (laws_FnReach4.l0 k x4 x5 0 x415000 x415001 x415002 x415003)
def laws_FnReach4.l0 : Nat → Int → Int → Int → Int → Int → Int → List (S68) → Option (Bool)
 | 0, _, _, _, _, _, _, _ => none
 | k + 1, x4, x5, x6, x415000, x415001, x415002, x415003 => if x6 < x415000 then ((impl_AutoNext.f k x415000 x415001 x415002 x415003 x5 x6).bind fun t419 => ((impl_SetIn.f t419 x5).bind fun t420 => (if t420 = true then (laws_FnReach4.l0 k x4 x5 (wrap64 (x6 + 1)) x415000 x415001 x415002 x415003) else (some false)))) else ((impl_AutoTrim.f k x415000 x415001 x415002 x415003).bind fun bt421 => ((spec_AutoReach.f k x415000 x415001 x415002 x415003 x415002).bind fun t431 => ((impl_AutoOk.f k bt421.1 bt421.2.1 bt421.2.2.1 bt421.2.2.2.1).bind fun t432 => (if t432 = true then (if (bt421.2.2.2.2.length : Int) = bt421.2.1 then ((spec_SetCount.f k t431).bind fun t433 => (if bt421.2.1 = t433 then ((impl_SetIn.f x4 x5).bind fun t434 => (laws_FnReach4.j2 k bt421.2.2.2.2 (!t434) x415000 x415001 x415002 x415003 bt421.1 bt421.2.1 bt421.2.2.1 bt421.2.2.2.1)) else (laws_FnReach4.j2 k bt421.2.2.2.2 true x415000 x415001 x415002 x415003 bt421.1 bt421.2.1 bt421.2.2.1 bt421.2.2.2.1))) else (laws_FnReach4.j2 k bt421.2.2.2.2 true x415000 x415001 x415002 x415003 bt421.1 bt421.2.1 bt421.2.2.1 bt421.2.2.2.1)) else (laws_FnReach4.j2 k bt421.2.2.2.2 true x415000 x415001 x415002 x415003 bt421.1 bt421.2.1 bt421.2.2.1 bt421.2.2.2.1)))))
def laws_FnReach4.j2 : Nat → List Int → Bool → Int → Int → Int → List (S68) → Int → Int → Int → List (S68) → Option (Bool)
 | 0, _, _, _, _, _, _, _, _, _, _ => none
 | k + 1, x8, x83, x415000, x415001, x415002, x415003, x431000, x431001, x431002, x431003 => if x83 = true then (some false) else (laws_FnReach4.l1 k x8 0 x415000 x415001 x415002 x415003 x431000 x431001 x431002 x431003)
def laws_FnReach4.l1 : Nat → List Int → Int → Int → Int → Int → List (S68) → Int → Int → Int → List (S68) → Option (Bool)
 | 0, _, _, _, _, _, _, _, _, _, _ => none
 | k + 1, x8, x10, x415000, x415001, x415002, x415003, x431000, x431001, x431002, x431003 => if x10 < (x431003.length : Int) then (if 0 ≤ x10 then (if 0 ≤ ((rd_T68 x431003 x10).f0) then (if ((rd_T68 x431003 x10).f0) < (x8.length : Int) then (if 0 ≤ ((rd_T68 x431003 x10).f2) then (if ((rd_T68 x431003 x10).f2) < (x8.length : Int) then ((impl_AutoEdge.f k x415000 x415001 x415002 x415003 (rd x8 ((rd_T68 x431003 x10).f0)) ((rd_T68 x431003 x10).f1) (rd x8 ((rd_T68 x431003 x10).f2))).bind fun bt439 => (if bt439.2 = true then (if (bt439.1 != ((rd_T68 x431003 x10).f3)) = true then (some false) else (laws_FnReach4.l1 k x8 (wrap64 (x10 + 1)) x415000 x415001 x415002 x415003 x431000 x431001 x431002 x431003)) else (some false))) else (none)) else (none)) else (none)) else (none)) else (none)) else (some true)
end
def laws_FnReach4.f (k : Nat) (l0 : List Int) : Option (Bool) := (laws_big.f l0).bind fun t406 => (if t406 = true then (some true) else ((spec_DrawAutoReach.f k l0).bind fun bt407 => ((impl_AutoReach.f k bt407.1 bt407.2.1 bt407.2.2.1 bt407.2.2.2.1 bt407.2.2.2.2).bind fun t415 => ((spec_AutoReach.f k bt407.1 bt407.2.1 bt407.2.2.1 bt407.2.2.2.1 bt407.2.2.2.2).bind fun t416 => (if t415 = t416 then ((spec_AutoOk.f k bt407.1 bt407.2.1 bt407.2.2.1 bt407.2.2.2.1).bind fun t417 => (if t417 = true then ((spec_SetOk.f bt407.2.2.2.2).bind fun t418 => (laws_FnReach4.j0 k bt407.2.2.2.2 t415 (!t418) bt407.1 bt407.2.1 bt407.2.2.1 bt407.2.2.2.1)) else (laws_FnReach4.j0 k bt407.2.2.2.2 t415 true bt407.1 bt407.2.1 bt407.2.2.1 bt407.2.2.2.1))) else (some false))))))
theorem laws_FnReach4.mono_l : ∀ k, (∀ y0 y1 y2 y3 y4 y5 y6, LeO (laws_FnReach4.j0 k y0 y1 y2 y3 y4 y5 y6) (laws_FnReach4.j0 (k + 1) y0 y1 y2 y3 y4 y5 y6)) ∧ (∀ y0 y1 y2 y3 y4 y5 y6, LeO (laws_FnReach4.l0 k y0 y1 y2 y3 y4 y5 y6) (laws_FnReach4.l0 (k + 1) y0 y1 y2 y3 y4 y5 y6)) ∧ (∀ y0 y1 y2 y3 y4 y5 y6 y7 y8 y9, LeO (laws_FnReach4.j2 k y0 y1 y2 y3 y4 y5 y6 y7 y8 y9) (laws_FnReach4.j2 (k + 1) y0 y1 y2 y3 y4 y5 y6 y7 y8 y9)) ∧ (∀ y0 y1 y2 y3 y4 y5 y6 y7 y8 y9, LeO (laws_FnReach4.l1 k y0 y1 y2 y3 y4 y5 y6 y7 y8 y9) (laws_FnReach4.l1 (k + 1) y0 y1 y2 y3 y4 y5 y6 y7 y8 y9))
 | 0 => ⟨fun _ _ _ _ _ _ _ r h => by simp [laws_FnReach4.j0] at h, fun _ _ _ _ _ _ _ r h => by simp [laws_FnReach4.l0] at h, fun _ _ _ _ _ _ _ _ _ _ r h => by simp [laws_FnReach4.j2] at h, fun _ _ _ _ _ _ _ _ _ _ r h => by simp [laws_FnReach4.l1] at h⟩
 | k + 1 => by
  obtain ⟨ih0, ih1, ih2, ih3⟩ := laws_FnReach4.mono_l k
  refine ⟨?_, ?_, ?_, ?_⟩
  ·intro y0 y1 y2 y3 y4 y5 y6
   unfold laws_FnReach4.j0
   repeat' first
   | (with_reducible exact ih0 _ _ _ _ _ _ _)
   | (with_reducible exact ih1 _ _ _ _ _ _ _)
   | (with_reducible exact ih2 _ _ _ _ _ _ _ _ _ _)
   | (with_reducible exact ih3 _ _ _ _ _ _ _ _ _ _)
   | (with_reducible exact impl_AutoEdge.mono _ _ _ _ _ _ _ _)
   | (with_reducible exact impl_AutoNext.mono _ _ _ _ _ _ _)
   | (with_reducible exact impl_AutoOk.mono _ _ _ _ _)
   | (with_reducible exact impl_AutoReach.mono _ _ _ _ _ _)
   | (with_reducible exact impl_AutoTrim.mono _ _ _ _ _)
   | (with_reducible exact spec_AutoOk.mono _ _ _ _ _)
   | (with_reducible exact spec_AutoReach.mono _ _ _ _ _ _)
   | (with_reducible exact spec_DrawAutoReach.mono _ _)
   | (with_reducible exact spec_SetCount.mono _ _)
   | (with_reducible exact LeO.refl _)
   | (with_reducible exact LeO.none _)
   | (with_reducible refine LeO.ite ?_ ?_)
   | (with_reducible refine LeO.bind ?_ (fun _ => ?_))
   | exact ih0 _ _ _ _ _ _ _
   | exact ih1 _ _ _ _ _ _ _
   | exact ih2 _ _ _ _ _ _ _ _ _ _
   | exact ih3 _ _ _ _ _ _ _ _ _ _
   | exact impl_AutoEdge.mono _ _ _ _ _ _ _ _
   | exact impl_AutoNext.mono _ _ _ _ _ _ _
   | exact impl_AutoOk.mono _ _ _ _ _
   | exact impl_AutoReach.mono _ _ _ _ _ _
   | exact impl_AutoTrim.mono _ _ _ _ _
   | exact spec_AutoOk.mono _ _ _ _ _
   | exact spec_AutoReach.mono _ _ _ _ _ _
   | exact spec_DrawAutoReach.mono _ _
   | exact spec_SetCount.mono _ _
   | exact LeO.none _
   | refine LeO.ite ?_ ?_
   | refine LeO.bind ?_ (fun _ => ?_)
  ·intro y0 y1 y2 y3 y4 y5 y6
   unfold laws_FnReach4.l0
   repeat' first
   | (with_reducible exact ih0 _ _ _ _ _ _ _)
   | (with_reducible exact ih1 _ _ _ _ _ _ _)
   | (with_reducible exact ih2 _ _ _ _ _ _ _ _ _ _)
   | (with_reducible exact ih3 _ _ _ _ _ _ _ _ _ _)
   | (with_reducible exact impl_AutoEdge.mono _ _ _ _ _ _ _ _)
   | (with_reducible exact impl_AutoNext.mono _ _ _ _ _ _ _)
   | (with_reducible exact impl_AutoOk.mono _ _ _ _ _)
   | (with_reducible exact impl_AutoReach.mono _ _ _ _ _ _)
   | (with_reducible exact impl_AutoTrim.mono _ _ _ _ _)
   | (with_reducible exact spec_AutoOk.mono _ _ _ _ _)
   | (with_reducible exact spec_AutoReach.mono _ _ _ _ _ _)
   | (with_reducible exact spec_DrawAutoReach.mono _ _)
   | (with_reducible exact spec_SetCount.mono _ _)
   | (with_reducible exact LeO.refl _)
   | (with_reducible exact LeO.none _)
   | (with_reducible refine LeO.ite ?_ ?_)
   | (with_reducible refine LeO.bind ?_ (fun _ => ?_))
   | exact ih0 _ _ _ _ _ _ _
   | exact ih1 _ _ _ _ _ _ _
   | exact ih2 _ _ _ _ _ _ _ _ _ _
   | exact ih3 _ _ _ _ _ _ _ _ _ _
   | exact impl_AutoEdge.mono _ _ _ _ _ _ _ _
   | exact impl_AutoNext.mono _ _ _ _ _ _ _
   | exact impl_AutoOk.mono _ _ _ _ _
   | exact impl_AutoReach.mono _ _ _ _ _ _
   | exact impl_AutoTrim.mono _ _ _ _ _
   | exact spec_AutoOk.mono _ _ _ _ _
   | exact spec_AutoReach.mono _ _ _ _ _ _
   | exact spec_DrawAutoReach.mono _ _
   | exact spec_SetCount.mono _ _
   | exact LeO.none _
   | refine LeO.ite ?_ ?_
   | refine LeO.bind ?_ (fun _ => ?_)
  ·intro y0 y1 y2 y3 y4 y5 y6 y7 y8 y9
   unfold laws_FnReach4.j2
   repeat' first
   | (with_reducible exact ih0 _ _ _ _ _ _ _)
   | (with_reducible exact ih1 _ _ _ _ _ _ _)
   | (with_reducible exact ih2 _ _ _ _ _ _ _ _ _ _)
   | (with_reducible exact ih3 _ _ _ _ _ _ _ _ _ _)
   | (with_reducible exact impl_AutoEdge.mono _ _ _ _ _ _ _ _)
   | (with_reducible exact impl_AutoNext.mono _ _ _ _ _ _ _)
   | (with_reducible exact impl_AutoOk.mono _ _ _ _ _)
   | (with_reducible exact impl_AutoReach.mono _ _ _ _ _ _)
   | (with_reducible exact impl_AutoTrim.mono _ _ _ _ _)
   | (with_reducible exact spec_AutoOk.mono _ _ _ _ _)
   | (with_reducible exact spec_AutoReach.mono _ _ _ _ _ _)
   | (with_reducible exact spec_DrawAutoReach.mono _ _)
   | (with_reducible exact spec_SetCount.mono _ _)
   | (with_reducible exact LeO.refl _)
   | (with_reducible exact LeO.none _)
   | (with_reducible refine LeO.ite ?_ ?_)
   | (with_reducible refine LeO.bind ?_ (fun _ => ?_))
   | exact ih0 _ _ _ _ _ _ _
   | exact ih1 _ _ _ _ _ _ _
   | exact ih2 _ _ _ _ _ _ _ _ _ _
   | exact ih3 _ _ _ _ _ _ _ _ _ _
   | exact impl_AutoEdge.mono _ _ _ _ _ _ _ _
   | exact impl_AutoNext.mono _ _ _ _ _ _ _
   | exact impl_AutoOk.mono _ _ _ _ _
   | exact impl_AutoReach.mono _ _ _ _ _ _
   | exact impl_AutoTrim.mono _ _ _ _ _
   | exact spec_AutoOk.mono _ _ _ _ _
   | exact spec_AutoReach.mono _ _ _ _ _ _
   | exact spec_DrawAutoReach.mono _ _
   | exact spec_SetCount.mono _ _
   | exact LeO.none _
   | refine LeO.ite ?_ ?_
   | refine LeO.bind ?_ (fun _ => ?_)
  ·intro y0 y1 y2 y3 y4 y5 y6 y7 y8 y9
   unfold laws_FnReach4.l1
   repeat' first
   | (with_reducible exact ih0 _ _ _ _ _ _ _)
   | (with_reducible exact ih1 _ _ _ _ _ _ _)
   | (with_reducible exact ih2 _ _ _ _ _ _ _ _ _ _)
   | (with_reducible exact ih3 _ _ _ _ _ _ _ _ _ _)
   | (with_reducible exact impl_AutoEdge.mono _ _ _ _ _ _ _ _)
   | (with_reducible exact impl_AutoNext.mono _ _ _ _ _ _ _)
   | (with_reducible exact impl_AutoOk.mono _ _ _ _ _)
   | (with_reducible exact impl_AutoReach.mono _ _ _ _ _ _)
   | (with_reducible exact impl_AutoTrim.mono _ _ _ _ _)
   | (with_reducible exact spec_AutoOk.mono _ _ _ _ _)
   | (with_reducible exact spec_AutoReach.mono _ _ _ _ _ _)
   | (with_reducible exact spec_DrawAutoReach.mono _ _)
   | (with_reducible exact spec_SetCount.mono _ _)
   | (with_reducible exact LeO.refl _)
   | (with_reducible exact LeO.none _)
   | (with_reducible refine LeO.ite ?_ ?_)
   | (with_reducible refine LeO.bind ?_ (fun _ => ?_))
   | exact ih0 _ _ _ _ _ _ _
   | exact ih1 _ _ _ _ _ _ _
   | exact ih2 _ _ _ _ _ _ _ _ _ _
   | exact ih3 _ _ _ _ _ _ _ _ _ _
   | exact impl_AutoEdge.mono _ _ _ _ _ _ _ _
   | exact impl_AutoNext.mono _ _ _ _ _ _ _
   | exact impl_AutoOk.mono _ _ _ _ _
   | exact impl_AutoReach.mono _ _ _ _ _ _
   | exact impl_AutoTrim.mono _ _ _ _ _
   | exact spec_AutoOk.mono _ _ _ _ _
   | exact spec_AutoReach.mono _ _ _ _ _ _
   | exact spec_DrawAutoReach.mono _ _
   | exact spec_SetCount.mono _ _
   | exact LeO.none _
   | refine LeO.ite ?_ ?_
   | refine LeO.bind ?_ (fun _ => ?_)
theorem laws_FnReach4.mono : ∀ a0 k, LeO (laws_FnReach4.f k a0) (laws_FnReach4.f (k + 1) a0) := by
 intro a0 k
 obtain ⟨ih0, ih1, ih2, ih3⟩ := laws_FnReach4.mono_l k
 unfold laws_FnReach4.f
 repeat' first
   | (with_reducible exact ih0 _ _ _ _ _ _ _)
   | (with_reducible exact ih1 _ _ _ _ _ _ _)
   | (with_reducible exact ih2 _ _ _ _ _ _ _ _ _ _)
   | (with_reducible exact ih3 _ _ _ _ _ _ _ _ _ _)
   | (with_reducible exact impl_AutoEdge.mono _ _ _ _ _ _ _ _)
   | (with_reducible exact impl_AutoNext.mono _ _ _ _ _ _ _)
   | (with_reducible exact impl_AutoOk.mono _ _ _ _ _)
   | (with_reducible exact impl_AutoReach.mono _ _ _ _ _ _)
   | (with_reducible exact impl_AutoTrim.mono _ _ _ _ _)
   | (with_reducible exact spec_AutoOk.mono _ _ _ _ _)
   | (with_reducible exact spec_AutoReach.mono _ _ _ _ _ _)
   | (with_reducible exact spec_DrawAutoReach.mono _ _)
   | (with_reducible exact spec_SetCount.mono _ _)
   | (with_reducible exact LeO.refl _)
   | (with_reducible exact LeO.none _)
   | (with_reducible refine LeO.ite ?_ ?_)
   | (with_reducible refine LeO.bind ?_ (fun _ => ?_))
   | exact ih0 _ _ _ _ _ _ _
   | exact ih1 _ _ _ _ _ _ _
   | exact ih2 _ _ _ _ _ _ _ _ _ _
   | exact ih3 _ _ _ _ _ _ _ _ _ _
   | exact impl_AutoEdge.mono _ _ _ _ _ _ _ _
   | exact impl_AutoNext.mono _ _ _ _ _ _ _
   | exact impl_AutoOk.mono _ _ _ _ _
   | exact impl_AutoReach.mono _ _ _ _ _ _
   | exact impl_AutoTrim.mono _ _ _ _ _
   | exact spec_AutoOk.mono _ _ _ _ _
   | exact spec_AutoReach.mono _ _ _ _ _ _
   | exact spec_DrawAutoReach.mono _ _
   | exact spec_SetCount.mono _ _
   | exact LeO.none _
   | refine LeO.ite ?_ ?_
   | refine LeO.bind ?_ (fun _ => ?_)
def laws_FnReach4.T16 : Bool × List (List Nat × List Nat) := (true, [([], []), ([0], [0]), ([1], [1]), ([2, 1], [2]), ([3], [3]), ([4, 3], [3, 4]), ([3], [3]), ([6, 3], [3, 6]), ([5, 7, 3], [3, 5, 7]), ([3, 8], [3, 8]), ([9, 3], [9]), ([10], [10]), ([11, 10], [10, 11]), ([10], [10]), ([13, 10, 10], [10, 13]), ([12, 14, 10], [10, 12, 14]), ([10, 15], [10, 15]), ([16, 14], [16]), ([17], [17]), ([17], [17]), ([18, 19, 17, 17], [17, 18, 19]), ([20, 17], [17, 20]), ([17, 21], [17, 21])])
def laws_FnReach4.B16 : List Nat := [0, 1, 3, 7, 15, 31, 15, 79, 255, 511, 1023, 2047, 4095, 2047, 10239, 32767, 65535, 131071, 262143, 262143, 1048575, 2097151, 4194303]
theorem laws_FnReach4.tab16 : rtab .any (opsOf Try.f11 16) = laws_FnReach4.T16 := by kernel_rfl
theorem laws_FnReach4.bits16 : waitsOk laws_FnReach4.T16.2 laws_FnReach4.B16 = true := by kernel_rfl
def laws_FnReach4.T22 : Bool × List (List Nat × List Nat) := (true, [([], []), ([], []), ([], []), ([2], [2]), ([1, 3], [1, 3]), ([4], [4]), ([], []), ([6], [6]), ([], []), ([], []), ([9], [9]), ([8, 10], [8, 10]), ([11], [11]), ([0, 5, 7, 12], [0, 5, 7, 12]), ([13], [13]), ([14], [14]), ([14], [14]), ([15, 13, 0, 1, 2, 3, 4, 5, 6, 7, 8, 9, 10, 11, 12, 13, 14, 15], [15]), ([16, 17, 0, 1, 2, 3, 4, 5, 6, 7, 8, 9, 10, 11, 12, 13, 14, 15, 16, 17], [16])])
def laws_FnReach4.B22 : List Nat := [0, 0, 0, 4, 14, 30, 0, 64, 0, 0, 512, 1792, 3840, 8191, 16383, 32767, 32767, 65535, 262143]
theorem laws_FnReach4.tab22 : rtab .any (opsOf Try.f11 22) = laws_FnReach4.T22 := by kernel_rfl
theorem laws_FnReach4.bits22 : waitsOk laws_FnReach4.T22.2 laws_FnReach4.B22 = true := by kernel_rfl
open Go.Proofs.Ytlallflpicgcmaa.Short2 in
set_option maxHeartbeats 8000000 in
set_option maxRecDepth 100000 in
theorem laws_FnReach4.calls (k : Nat) (A0 : Option Addr) (c0 : Nat) (l0 : List Int) (r : Bool) (w : World) (hr0 : Kd.C (Kd.int .u8) w A0 l0.length l0) (hc0 : l0.length ≤ c0) (h : laws_FnReach4.f k l0 = some r) :
  Calls Try.prog 11 #[.slice A0 l0.length c0] w fun e w' => e = .returned (.bool r) ∧ Below w.heap.size w w' := by
 have hu24 := Try.underlying24; have hu68 := Try.underlying68; have HR0 := Aside0.mk hr0; have HC0 := Aside0.mk hc0; clear hr0 hc0; have HB := Aside0.mk (Below.refl w.heap.size w); have H : ((laws_big.f l0).bind fun t406 => (if t406 = true then (some true) else ((spec_DrawAutoReach.f k l0).bind fun bt407 => ((impl_AutoReach.f k bt407.1 bt407.2.1 bt407.2.2.1 bt407.2.2.2.1 bt407.2.2.2.2).bind fun t415 => ((spec_AutoReach.f k bt407.1 bt407.2.1 bt407.2.2.1 bt407.2.2.2.1 bt407.2.2.2.2).bind fun t416 => (if t415 = t416 then ((spec_AutoOk.f k bt407.1 bt407.2.1 bt407.2.2.1 bt407.2.2.2.1).bind fun t417 => (if t417 = true then ((spec_SetOk.f bt407.2.2.2.2).bind fun t418 => (laws_FnReach4.j0 k bt407.2.2.2.2 t415 (!t418) bt407.1 bt407.2.1 bt407.2.2.1 bt407.2.2.2.1)) else (laws_FnReach4.j0 k bt407.2.2.2.2 t415 true bt407.1 bt407.2.1 bt407.2.2.1 bt407.2.2.2.1))) else (some false))))))) = some r := h; clear h; replace H := Option.bind_eq_some_iff.mp H; obtain ⟨t406, A20, H⟩ := H; replace H : (if t406 = true then (some true) else ((spec_DrawAutoReach.f k l0).bind fun bt407 => ((impl_AutoReach.f k bt407.1 bt407.2.1 bt407.2.2.1 bt407.2.2.2.1 bt407.2.2.2.2).bind fun t415 => ((spec_AutoReach.f k bt407.1 bt407.2.1 bt407.2.2.1 bt407.2.2.2.1 bt407.2.2.2.2).bind fun t416 => (if t415 = t416 then ((spec_AutoOk.f k bt407.1 bt407.2.1 bt407.2.2.1 bt407.2.2.2.1).bind fun t417 => (if t417 = true then ((spec_SetOk.f bt407.2.2.2.2).bind fun t418 => (laws_FnReach4.j0 k bt407.2.2.2.2 t415 (!t418) bt407.1 bt407.2.1 bt407.2.2.1 bt407.2.2.2.1)) else (laws_FnReach4.j0 k bt407.2.2.2.2 t415 true bt407.1 bt407.2.1 bt407.2.2.1 bt407.2.2.2.1))) else (some false)))))) = some r := H; have A2 := Aside0.mk A20; clear A20
 by_cases c3 : t406 = true
 ·subst c3
  have H1 : (some true) = some r := by rw [if_pos rfl] at H; exact H
  clear H; have H := H1; clear H1; obtain rfl := Option.some.inj H
  go_enter Try.func11, Try.ntmps11
  go_wp2_with (first | ((with_reducible refine gate_callee (f := 40) rfl ?_); refine goesL_ (some 15) rfl rfl Try.func40 (by kernel_rfl) rfl #[.slice A0 l0.length c0] rfl (by (try simp only [m3]); first | done | rfl | (simp only [d2]; rfl)) ?_; (with_reducible refine (laws_big.calls _ _ l0 true _ ?side1 ?side2 A2.out).mono ?_); (case side1 => repeat (first | exact HR0.out | (with_reducible refine Kd.C_alloc ?_ _) | (with_reducible refine Kd.C_drewN ?_ _) | (with_reducible refine Kd.C_drew ?_))); (case side2 => exact HC0.out); rintro e w' ⟨rfl, ⟨nd, rfl⟩⟩; refine ⟨_, rfl, ?_⟩))
  go_ret; exact ⟨by first | rfl | (simp [errW_none, errW_some] <;> rfl) | (simp [*, errW_none, errW_some] <;> rfl), by repeat (first | (with_reducible first | exact HB.out | apply below_alloc | apply pw_below_drewN | apply below_drew1) | exact HB.out)⟩
 ·replace c3 := Bool.eq_false_iff.mpr c3; subst c3
  have H1 : ((spec_DrawAutoReach.f k l0).bind fun bt407 => ((impl_AutoReach.f k bt407.1 bt407.2.1 bt407.2.2.1 bt407.2.2.2.1 bt407.2.2.2.2).bind fun t415 => ((spec_AutoReach.f k bt407.1 bt407.2.1 bt407.2.2.1 bt407.2.2.2.1 bt407.2.2.2.2).bind fun t416 => (if t415 = t416 then ((spec_AutoOk.f k bt407.1 bt407.2.1 bt407.2.2.1 bt407.2.2.2.1).bind fun t417 => (if t417 = true then ((spec_SetOk.f bt407.2.2.2.2).bind fun t418 => (laws_FnReach4.j0 k bt407.2.2.2.2 t415 (!t418) bt407.1 bt407.2.1 bt407.2.2.1 bt407.2.2.2.1)) else (laws_FnReach4.j0 k bt407.2.2.2.2 t415 true bt407.1 bt407.2.1 bt407.2.2.1 bt407.2.2.2.1))) else (some false))))) = some r := by rw [if_neg (show ¬ (false = true) by decide)] at H; exact H
  clear H; have H := H1; clear H1; replace H := Option.bind_eq_some_iff.mp H; obtain ⟨⟨t407, t408, t409, t410, t413⟩, A40, H⟩ := H; replace H : ((impl_AutoReach.f k t407 t408 t409 t410 t413).bind fun t415 => ((spec_AutoReach.f k t407 t408 t409 t410 t413).bind fun t416 => (if t415 = t416 then ((spec_AutoOk.f k t407 t408 t409 t410).bind fun t417 => (if t417 = true then ((spec_SetOk.f t413).bind fun t418 => (laws_FnReach4.j0 k t413 t415 (!t418) t407 t408 t409 t410)) else (laws_FnReach4.j0 k t413 t415 true t407 t408 t409 t410))) else (some false)))) = some r := H; have A4 := Aside0.mk A40; clear A40; replace H := Option.bind_eq_some_iff.mp H; obtain ⟨t415, A50, H⟩ := H; replace H : ((spec_AutoReach.f k t407 t408 t409 t410 t413).bind fun t416 => (if t415 = t416 then ((spec_AutoOk.f k t407 t408 t409 t410).bind fun t417 => (if t417 = true then ((spec_SetOk.f t413).bind fun t418 => (laws_FnReach4.j0 k t413 t415 (!t418) t407 t408 t409 t410)) else (laws_FnReach4.j0 k t413 t415 true t407 t408 t409 t410))) else (some false))) = some r := H; have A5 := Aside0.mk A50; clear A50; replace H := Option.bind_eq_some_iff.mp H; obtain ⟨t416, A60, H⟩ := H; replace H : (if t415 = t416 then ((spec_AutoOk.f k t407 t408 t409 t410).bind fun t417 => (if t417 = true then ((spec_SetOk.f t413).bind fun t418 => (laws_FnReach4.j0 k t413 t415 (!t418) t407 t408 t409 t410)) else (laws_FnReach4.j0 k t413 t415 true t407 t408 t409 t410))) else (some false)) = some r := H; have A6 := Aside0.mk A60; clear A60
  by_cases c7 : t415 = t416
  ·rw [if_pos c7] at H; have c7b0 : (t415 == t416) = true := beq_iff_eq.mpr c7; have c7b1 : (t415 != t416) = false := bne_eq_false_iff_eq.mpr c7; clear c7; have HC8 := Aside0.mk H; clear H
   go_enter Try.func11, Try.ntmps11
   go_upto_region 7 with (first | ((with_reducible refine gate_callee (f := 40) rfl ?_); refine goesL_ (some 15) rfl rfl Try.func40 (by kernel_rfl) rfl #[.slice A0 l0.length c0] rfl (by (try simp only [m3]); first | done | rfl | (simp only [d2]; rfl)) ?_; (with_reducible refine (laws_big.calls _ _ l0 false _ ?side1 ?side2 A2.out).mono ?_); (case side1 => repeat (first | exact HR0.out | (with_reducible refine Kd.C_alloc ?_ _) | (with_reducible refine Kd.C_drewN ?_ _) | (with_reducible refine Kd.C_drew ?_))); (case side2 => exact HC0.out); rintro e w' ⟨rfl, ⟨nd, rfl⟩⟩; refine ⟨_, rfl, ?_⟩) | ((with_reducible refine gate_callee (f := 41) rfl ?_); refine goesL_ (some 18) rfl rfl Try.func41 (by kernel_rfl) rfl #[.slice A0 l0.length c0] rfl (by (try simp only [m3]); first | done | rfl | (simp only [d2]; rfl)) ?_; (with_reducible refine (spec_DrawAutoReach.calls k _ _ l0 t407 t408 t409 t410 t413 _ ?side1 ?side2 A4.out).mono ?_); (case side1 => repeat (first | exact HR0.out | (with_reducible refine Kd.C_alloc ?_ _) | (with_reducible refine Kd.C_drewN ?_ _) | (with_reducible refine Kd.C_drew ?_))); (case side2 => exact HC0.out); rintro e w9 ⟨v411, rfl, ho0, hb⟩; refine ⟨_, rfl, ?_⟩; have HO412 := Aside0.mk (Kd.R_lower ho0 (below_size (zS HB.out))); replace HB := xS HB hb; (try clear hb); (try clear hb2); (try clear hk); (try clear hi); (try clear ho0)) | ((with_reducible refine gate_dst (N := 3) rfl ?_); (try (refine gate_guard (by rfl) ?_; dsimp only)); refine box_event ?hg (N := 3) ?hd (cs := #[.int .i64 0, .int .i64 0, .int .i64 0, .slice none 0 0]) (t := 24) ?hr ?_; (case hd => rfl); (case hg => rfl); (case hr => first | (go_simp; done) | (go_simp; rfl)); intro gb414 hg w10 hbox hb; replace HO412 := xR HO412 hb; have BK414 := Aside0.mk (hbox); have GW414 := xG HB hg; have GE414 := xG HB hg; replace HB := xS HB hb; clear hb hbox hg; have hcz11_0 : w10.cell? ⟨gb414, 0, none⟩ = some (.int .i64 0) := b1 BK414 0; have hcz11_1 : w10.cell? ⟨gb414, 1, none⟩ = some (.int .i64 0) := b1 BK414 1; have hcz11_2 : w10.cell? ⟨gb414, 2, none⟩ = some (.int .i64 0) := b1 BK414 2; have hcz11_3 : w10.cell? ⟨gb414, 3, none⟩ = some (.slice none 0 0) := b1 BK414 3; have hfz11_0 := blk_frozen BK414.out 0; have hfz11_1 := blk_frozen BK414.out 1; have hfz11_2 := blk_frozen BK414.out 2; have hfz11_3 := blk_frozen BK414.out 3; obtain ⟨Ao12, co12, eo12⟩ := Kd.R_slice HO412.out; subst eo12) | ((with_reducible refine gate_callee (f := 33) rfl ?_); refine goesL_ (some 23) rfl rfl Try.func33 (by kernel_rfl) rfl #[.agg #[.int .i64 t407, .int .i64 t408, .int .i64 t409, .slice Ao12 t410.length co12], .int .i64 t413] rfl (by (try simp only [m3]); first | done | rfl | (simp only [d2]; rfl)) ?_; (with_reducible refine (impl_AutoReach.calls k t407 t408 t409 _ _ t410 t413 t415 _ ?side1 ?side2 A5.out).mono ?_); (case side1 => refine (Kd.R_reads' (e := 68) (base := w.heap.size) (ok := fun k_ => True) (n := t410.length) (c := co12) ?_).2.2; exact (zR (xF4 HO412 BK414))); (case side2 => exact (Kd.R_reads' HO412.out).2.1); rintro e w13 ⟨rfl, hb⟩; refine ⟨_, rfl, ?_⟩; replace HO412 := Aside0.mk (Kd.R_below (zR (xF4 HO412 BK414)) hb); replace BK414 := Aside0.mk (blk_below (g := gb414) (o := .cells #[.int .i64 t407, .int .i64 t408, .int .i64 t409, .slice Ao12 t410.length co12] 24 (0, 0)) (xP4 BK414.out) hb); replace HB := xS HB hb; (try clear hb); (try clear hb2); (try clear hk); (try clear hi); have hcz14_0 : w13.cell? ⟨gb414, 0, none⟩ = some (.int .i64 t407) := b1 BK414 0; have hcz14_1 : w13.cell? ⟨gb414, 1, none⟩ = some (.int .i64 t408) := b1 BK414 1; have hcz14_2 : w13.cell? ⟨gb414, 2, none⟩ = some (.int .i64 t409) := b1 BK414 2; have hcz14_3 : w13.cell? ⟨gb414, 3, none⟩ = some (.slice Ao12 t410.length co12) := b1 BK414 3; have hfz14_0 := blk_frozen BK414.out 0; have hfz14_1 := blk_frozen BK414.out 1; have hfz14_2 := blk_frozen BK414.out 2; have hfz14_3 := blk_frozen BK414.out 3) | ((with_reducible refine gate_callee (f := 32) rfl ?_); refine goesL_ (some 27) rfl rfl Try.func32 (by kernel_rfl) rfl #[.agg #[.int .i64 t407, .int .i64 t408, .int .i64 t409, .slice Ao12 t410.length co12], .int .i64 t413] rfl (by (try simp only [m3]); first | done | rfl | (simp only [d2]; rfl)) ?_; (with_reducible refine (spec_AutoReach.calls k t407 t408 t409 _ _ t410 t413 t416 _ ?side1 ?side2 A6.out).mono ?_); (case side1 => exact zC (Kd.R_reads' HO412.out).2.2); (case side2 => exact (Kd.R_reads' HO412.out).2.1); rintro e w15 ⟨rfl, hb⟩; refine ⟨_, rfl, ?_⟩; replace HO412 := xR HO412 hb; replace BK414 := xB BK414 hb; replace HB := xS HB hb; (try clear hb); (try clear hb2); (try clear hk); (try clear hi)))
   (try simp only [Act.put, q3])
   go_cut [36] (fun v36 wc => ∃ (kq : Nat) (x36_7 : Bool), v36 = .bool x36_7 ∧ Aside0 (laws_FnReach4.j0 kq t413 t415 x36_7 t407 t408 t409 t410 = some r) ∧ Aside0 (kq ≤ k) ∧ Aside0 (Kd.R k68 68 wc w.heap.size (fun _ => True) (.slice Ao12 t410.length co12) t410) ∧ Aside0 (wc.heap[gb414]? = some (.cells #[.int .i64 t407, .int .i64 t408, .int .i64 t409, (.slice Ao12 t410.length co12)] 24 (0, 0))) ∧ Aside0 (Below w.heap.size w wc))
   case first =>
    have H := HC8.out; clear HC8; replace H := Option.bind_eq_some_iff.mp H; obtain ⟨t417, A160, H⟩ := H; replace H : (if t417 = true then ((spec_SetOk.f t413).bind fun t418 => (laws_FnReach4.j0 k t413 t415 (!t418) t407 t408 t409 t410)) else (laws_FnReach4.j0 k t413 t415 true t407 t408 t409 t410)) = some r := H; have A16 := Aside0.mk A160; clear A160
    by_cases c17 : t417 = true
    ·subst c17
     have H1 : ((spec_SetOk.f t413).bind fun t418 => (laws_FnReach4.j0 k t413 t415 (!t418) t407 t408 t409 t410)) = some r := by rw [if_pos rfl] at H; exact H
     clear H; have H := H1; clear H1; replace H := Option.bind_eq_some_iff.mp H; obtain ⟨t418, A180, H⟩ := H; replace H : (laws_FnReach4.j0 k t413 t415 (!t418) t407 t408 t409 t410) = some r := H; have A18 := Aside0.mk A180; clear A180; have H' := Aside0.mk H; clear H; have hcz19_0 : w15.cell? ⟨gb414, 0, none⟩ = some (.int .i64 t407) := b1 BK414 0; have hcz19_1 : w15.cell? ⟨gb414, 1, none⟩ = some (.int .i64 t408) := b1 BK414 1; have hcz19_2 : w15.cell? ⟨gb414, 2, none⟩ = some (.int .i64 t409) := b1 BK414 2; have hcz19_3 : w15.cell? ⟨gb414, 3, none⟩ = some (.slice Ao12 t410.length co12) := b1 BK414 3; have hfz19_0 := blk_frozen BK414.out 0; have hfz19_1 := blk_frozen BK414.out 1; have hfz19_2 := blk_frozen BK414.out 2; have hfz19_3 := blk_frozen BK414.out 3
     go_wp2_with (first | ((with_reducible refine gate_callee (f := 20) rfl ?_); refine goesL_ (some 30) rfl rfl Try.func20 (by kernel_rfl) rfl #[.agg #[.int .i64 t407, .int .i64 t408, .int .i64 t409, .slice Ao12 t410.length co12]] rfl (by (try simp only [m3]); first | done | rfl | (simp only [d2]; rfl)) ?_; (with_reducible refine (spec_AutoOk.calls k t407 t408 t409 _ _ t410 true _ ?side1 ?side2 A16.out).mono ?_); (case side1 => exact zC (Kd.R_reads' HO412.out).2.2); (case side2 => exact (Kd.R_reads' HO412.out).2.1); rintro e w20 ⟨rfl, hb⟩; refine ⟨_, rfl, ?_⟩; replace HO412 := xR HO412 hb; replace BK414 := xB BK414 hb; replace HB := xS HB hb; (try clear hb); (try clear hb2); (try clear hk); (try clear hi)) | (go_at_call 42; (with_reducible refine (spec_SetOk.calls t413 t418 _ A18.out).mono ?_); rintro e w' ⟨rfl, ⟨nd, rfl⟩⟩))
     go_meet
     case rel => exact ⟨_, (!t418), (by first | rfl | (simp; done) | (simp [*]; done) | (rw [Int.tmod_eq_emod_of_nonneg (Int.natCast_nonneg _)]; done)), H', ⟨by first | omega | exact Nat.le_refl _⟩, ⟨zR HO412.out⟩, ⟨zB BK414.out⟩, ⟨zS HB.out⟩⟩
    ·replace c17 := Bool.eq_false_iff.mpr c17; subst c17
     have H1 : (laws_FnReach4.j0 k t413 t415 true t407 t408 t409 t410) = some r := by rw [if_neg (show ¬ (false = true) by decide)] at H; exact H
     clear H; have H := H1; clear H1; have H' := Aside0.mk H; clear H; have hcz21_0 : w15.cell? ⟨gb414, 0, none⟩ = some (.int .i64 t407) := b1 BK414 0; have hcz21_1 : w15.cell? ⟨gb414, 1, none⟩ = some (.int .i64 t408) := b1 BK414 1; have hcz21_2 : w15.cell? ⟨gb414, 2, none⟩ = some (.int .i64 t409) := b1 BK414 2; have hcz21_3 : w15.cell? ⟨gb414, 3, none⟩ = some (.slice Ao12 t410.length co12) := b1 BK414 3; have hfz21_0 := blk_frozen BK414.out 0; have hfz21_1 := blk_frozen BK414.out 1; have hfz21_2 := blk_frozen BK414.out 2; have hfz21_3 := blk_frozen BK414.out 3
     go_wp2_with (first | ((with_reducible refine gate_callee (f := 20) rfl ?_); refine goesL_ (some 30) rfl rfl Try.func20 (by kernel_rfl) rfl #[.agg #[.int .i64 t407, .int .i64 t408, .int .i64 t409, .slice Ao12 t410.length co12]] rfl (by (try simp only [m3]); first | done | rfl | (simp only [d2]; rfl)) ?_; (with_reducible refine (spec_AutoOk.calls k t407 t408 t409 _ _ t410 false _ ?side1 ?side2 A16.out).mono ?_); (case side1 => exact zC (Kd.R_reads' HO412.out).2.2); (case side2 => exact (Kd.R_reads' HO412.out).2.1); rintro e w22 ⟨rfl, hb⟩; refine ⟨_, rfl, ?_⟩; replace HO412 := xR HO412 hb; replace BK414 := xB BK414 hb; replace HB := xS HB hb; (try clear hb); (try clear hb2); (try clear hk); (try clear hi)))
     go_meet
     case rel => exact ⟨_, (true), (by first | rfl | (simp; done) | (simp [*]; done) | (rw [Int.tmod_eq_emod_of_nonneg (Int.natCast_nonneg _)]; done)), H', ⟨by first | omega | exact Nat.le_refl _⟩, ⟨zR HO412.out⟩, ⟨zB BK414.out⟩, ⟨zS HB.out⟩⟩
   case rest =>
    clear HC8
    try clear c1
    try clear c2
    try clear p2
    try clear c3
    try clear c4
    try clear c7
    try clear c7b0
    try clear c7b1
    try clear c11
    try clear c17
    try clear c20
    try clear hcz11_0
    try clear hcz11_1
    try clear hcz11_2
    try clear hcz11_3
    try clear hcz14_0
    try clear hcz14_1
    try clear hcz14_2
    try clear hcz14_3
    try clear hcz19_0
    try clear hcz19_1
    try clear hcz19_2
    try clear hcz19_3
    try clear hcz21_0
    try clear hcz21_1
    try clear hcz21_2
    try clear hcz21_3
    try clear hfz11_0
    try clear hfz11_1
    try clear hfz11_2
    try clear hfz11_3
    try clear hfz14_0
    try clear hfz14_1
    try clear hfz14_2
    try clear hfz14_3
    try clear hfz19_0
    try clear hfz19_1
    try clear hfz19_2
    try clear hfz19_3
    try clear hfz21_0
    try clear hfz21_1
    try clear hfz21_2
    try clear hfz21_3
    obtain ⟨kq, x36_7, rfl, HA, HJ7, HO_415003, BK414, HB⟩ := hcut
    cases kq with
    | zero => exact absurd HA.out (by simp [laws_FnReach4.j0])
    | succ kj7 =>
     have H := HA.out; clear HA; simp only [laws_FnReach4.j0] at H
     by_cases c23 : x36_7 = true
     ·subst c23
      have H1 : (some (t415 == 0)) = some r := by rw [if_pos rfl] at H; exact H
      clear H; have H := H1; clear H1; obtain rfl := Option.some.inj H
      go_wp2
      go_ret; exact ⟨by first | rfl | (simp [errW_none, errW_some] <;> rfl) | (simp [*, errW_none, errW_some] <;> rfl), by repeat (first | (with_reducible first | exact HB.out | apply below_alloc | apply pw_below_drewN | apply below_drew1 | refine below_set ?_ GE414.out) | exact HB.out)⟩
     ·replace c23 := Bool.eq_false_iff.mpr c23; subst c23
      have H1 : (laws_FnReach4.l0 kj7 t413 t415 0 t407 t408 t409 t410) = some r := by rw [if_neg (show ¬ (false = true) by decide)] at H; exact H
      clear H; have H := H1; clear H1; have H' := Aside0.mk H; clear H
      go_wp2
      go_loopg [6] kj7 (fun kq v6 w' => ∃ (x6_2 : Int), v6 = .int .i64 x6_2 ∧ Aside0 (laws_FnReach4.l0 kq t413 t415 x6_2 t407 t408 t409 t410 = some r) ∧ Aside0 (kq ≤ kj7) ∧ Aside0 (Kd.R k68 68 w' w.heap.size (fun _ => True) (.slice Ao12 t410.length co12) t410) ∧ Aside0 (w'.heap[gb414]? = some (.cells #[.int .i64 t407, .int .i64 t408, .int .i64 t409, (.slice Ao12 t410.length co12)] 24 (0, 0))) ∧ Aside0 (Below w.heap.size w w'))
      case atStart => exact ⟨(0), (by first | rfl | (simp; done) | (simp [*]; done) | (rw [Int.tmod_eq_emod_of_nonneg (Int.natCast_nonneg _)]; done)), H', ⟨Nat.le_refl _⟩, ⟨zR HO_415003.out⟩, ⟨zB BK414.out⟩, ⟨zS HB.out⟩⟩
      case round =>
       clear H'
       try clear c1
       try clear c2
       try clear p2
       try clear c3
       try clear c4
       try clear c7
       try clear c7b0
       try clear c7b1
       try clear c11
       try clear c17
       try clear c20
       try clear c23
       try clear hcz11_0
       try clear hcz11_1
       try clear hcz11_2
       try clear hcz11_3
       try clear hcz14_0
       try clear hcz14_1
       try clear hcz14_2
       try clear hcz14_3
       try clear hcz19_0
       try clear hcz19_1
       try clear hcz19_2
       try clear hcz19_3
       try clear hcz21_0
       try clear hcz21_1
       try clear hcz21_2
       try clear hcz21_3
       try clear hfz11_0
       try clear hfz11_1
       try clear hfz11_2
       try clear hfz11_3
       try clear hfz14_0
       try clear hfz14_1
       try clear hfz14_2
       try clear hfz14_3
       try clear hfz19_0
       try clear hfz19_1
       try clear hfz19_2
       try clear hfz19_3
       try clear hfz21_0
       try clear hfz21_1
       try clear hfz21_2
       try clear hfz21_3
       try clear p2
       obtain ⟨x6_2, rfl, HA, HK2, HO_415003, BK414, HB⟩ := hrel
       cases gk with
       | zero => exact absurd HA.out (by simp [laws_FnReach4.l0])
       | succ k2 =>
        have H := HA.out; clear HA; simp only [laws_FnReach4.l0] at H
        by_cases c24 : x6_2 < t407
        ·rw [if_pos c24] at H; have c24b0 : decide (x6_2 < t407) = true := decide_eq_true c24; clear c24; replace H := Option.bind_eq_some_iff.mp H; obtain ⟨t419, A250, H⟩ := H; replace H : ((impl_SetIn.f t419 t415).bind fun t420 => (if t420 = true then (laws_FnReach4.l0 k2 t413 t415 (wrap64 (x6_2 + 1)) t407 t408 t409 t410) else (some false))) = some r := H; have A25 := Aside0.mk A250; clear A250; replace H := Option.bind_eq_some_iff.mp H; obtain ⟨t420, A260, H⟩ := H; replace H : (if t420 = true then (laws_FnReach4.l0 k2 t413 t415 (wrap64 (x6_2 + 1)) t407 t408 t409 t410) else (some false)) = some r := H; have A26 := Aside0.mk A260; clear A260
         by_cases c27 : t420 = true
         ·subst c27
          have H1 : (laws_FnReach4.l0 k2 t413 t415 (wrap64 (x6_2 + 1)) t407 t408 t409 t410) = some r := by rw [if_pos rfl] at H; exact H
          clear H; have H := H1; clear H1; have H' := Aside0.mk H; clear H; have hcz28_0 : wr.cell? ⟨gb414, 0, none⟩ = some (.int .i64 t407) := b1 BK414 0; have hcz28_1 : wr.cell? ⟨gb414, 1, none⟩ = some (.int .i64 t408) := b1 BK414 1; have hcz28_2 : wr.cell? ⟨gb414, 2, none⟩ = some (.int .i64 t409) := b1 BK414 2; have hcz28_3 : wr.cell? ⟨gb414, 3, none⟩ = some (.slice Ao12 t410.length co12) := b1 BK414 3; have hfz28_0 := blk_frozen BK414.out 0; have hfz28_1 := blk_frozen BK414.out 1; have hfz28_2 := blk_frozen BK414.out 2; have hfz28_3 := blk_frozen BK414.out 3
          go_wp2_with (first | ((with_reducible refine gate_callee (f := 31) rfl ?_); refine goesL_ (some 48) rfl rfl Try.func31 (by kernel_rfl) rfl #[.agg #[.int .i64 t407, .int .i64 t408, .int .i64 t409, .slice Ao12 t410.length co12], .int .i64 t415, .int .i64 x6_2] rfl (by (try simp only [m3]); first | done | rfl | (simp only [d2]; rfl)) ?_; (with_reducible refine (impl_AutoNext.calls k2 t407 t408 t409 _ _ t410 t415 x6_2 t419 _ ?side1 ?side2 A25.out).mono ?_); (case side1 => exact zC (Kd.R_reads' HO_415003.out).2.2); (case side2 => exact (Kd.R_reads' HO_415003.out).2.1); rintro e w29 ⟨rfl, hb⟩; refine ⟨_, rfl, ?_⟩; replace HO_415003 := xR HO_415003 hb; replace BK414 := xB BK414 hb; replace HB := xS HB hb; (try clear hb); (try clear hb2); (try clear hk); (try clear hi)) | ((with_reducible refine gate_callee (f := 43) rfl ?_); refine goesL_ (some 50) rfl rfl Try.func43 (by kernel_rfl) rfl #[.int .i64 t419, .int .i64 t415] rfl (by (try simp only [m3]); first | done | rfl | (simp only [d2]; rfl)) ?_; (with_reducible refine (impl_SetIn.calls t419 t415 true _ A26.out).mono ?_); rintro e w' ⟨rfl, ⟨nd, rfl⟩⟩; refine ⟨_, rfl, ?_⟩))
          go_roundg k2
          case measure => have := HJ7.out; have := HK2.out; omega
          case rel => exact ⟨(wrap64 (x6_2 + 1)), (by first | rfl | (simp; done) | (simp [*]; done) | (rw [Int.tmod_eq_emod_of_nonneg (Int.natCast_nonneg _)]; done)), H', ⟨by have := HJ7.out; have := HK2.out; omega⟩, ⟨zR HO_415003.out⟩, ⟨zB BK414.out⟩, ⟨zS HB.out⟩⟩
         ·replace c27 := Bool.eq_false_iff.mpr c27; subst c27
          have H1 : (some false) = some r := by rw [if_neg (show ¬ (false = true) by decide)] at H; exact H
          clear H; have H := H1; clear H1; obtain rfl := Option.some.inj H; have hcz30_0 : wr.cell? ⟨gb414, 0, none⟩ = some (.int .i64 t407) := b1 BK414 0; have hcz30_1 : wr.cell? ⟨gb414, 1, none⟩ = some (.int .i64 t408) := b1 BK414 1; have hcz30_2 : wr.cell? ⟨gb414, 2, none⟩ = some (.int .i64 t409) := b1 BK414 2; have hcz30_3 : wr.cell? ⟨gb414, 3, none⟩ = some (.slice Ao12 t410.length co12) := b1 BK414 3; have hfz30_0 := blk_frozen BK414.out 0; have hfz30_1 := blk_frozen BK414.out 1; have hfz30_2 := blk_frozen BK414.out 2; have hfz30_3 := blk_frozen BK414.out 3
          go_wp2_with (first | ((with_reducible refine gate_callee (f := 31) rfl ?_); refine goesL_ (some 48) rfl rfl Try.func31 (by kernel_rfl) rfl #[.agg #[.int .i64 t407, .int .i64 t408, .int .i64 t409, .slice Ao12 t410.length co12], .int .i64 t415, .int .i64 x6_2] rfl (by (try simp only [m3]); first | done | rfl | (simp only [d2]; rfl)) ?_; (with_reducible refine (impl_AutoNext.calls k2 t407 t408 t409 _ _ t410 t415 x6_2 t419 _ ?side1 ?side2 A25.out).mono ?_); (case side1 => exact zC (Kd.R_reads' HO_415003.out).2.2); (case side2 => exact (Kd.R_reads' HO_415003.out).2.1); rintro e w31 ⟨rfl, hb⟩; refine ⟨_, rfl, ?_⟩; replace HO_415003 := xR HO_415003 hb; replace BK414 := xB BK414 hb; replace HB := xS HB hb; (try clear hb); (try clear hb2); (try clear hk); (try clear hi)) | ((with_reducible refine gate_callee (f := 43) rfl ?_); refine goesL_ (some 50) rfl rfl Try.func43 (by kernel_rfl) rfl #[.int .i64 t419, .int .i64 t415] rfl (by (try simp only [m3]); first | done | rfl | (simp only [d2]; rfl)) ?_; (with_reducible refine (impl_SetIn.calls t419 t415 false _ A26.out).mono ?_); rintro e w' ⟨rfl, ⟨nd, rfl⟩⟩; refine ⟨_, rfl, ?_⟩))
          go_ret; exact ⟨by first | rfl | (simp [errW_none, errW_some] <;> rfl) | (simp [*, errW_none, errW_some] <;> rfl), by repeat (first | (with_reducible first | exact HB.out | apply below_alloc | apply pw_below_drewN | apply below_drew1 | refine below_set ?_ GE414.out) | exact HB.out)⟩
        ·rw [if_neg c24] at H; have c24b0 : decide (x6_2 < t407) = false := decide_eq_false c24; clear c24; replace H := Option.bind_eq_some_iff.mp H; obtain ⟨⟨t421, t422, t423, t424, t427⟩, A320, H⟩ := H; replace H : ((spec_AutoReach.f k2 t407 t408 t409 t410 t409).bind fun t431 => ((impl_AutoOk.f k2 t421 t422 t423 t424).bind fun t432 => (if t432 = true then (if (t427.length : Int) = t422 then ((spec_SetCount.f k2 t431).bind fun t433 => (if t422 = t433 then ((impl_SetIn.f t413 t415).bind fun t434 => (laws_FnReach4.j2 k2 t427 (!t434) t407 t408 t409 t410 t421 t422 t423 t424)) else (laws_FnReach4.j2 k2 t427 true t407 t408 t409 t410 t421 t422 t423 t424))) else (laws_FnReach4.j2 k2 t427 true t407 t408 t409 t410 t421 t422 t423 t424)) else (laws_FnReach4.j2 k2 t427 true t407 t408 t409 t410 t421 t422 t423 t424)))) = some r := H; have A32 := Aside0.mk A320; clear A320; replace H := Option.bind_eq_some_iff.mp H; obtain ⟨t431, A330, H⟩ := H; replace H : ((impl_AutoOk.f k2 t421 t422 t423 t424).bind fun t432 => (if t432 = true then (if (t427.length : Int) = t422 then ((spec_SetCount.f k2 t431).bind fun t433 => (if t422 = t433 then ((impl_SetIn.f t413 t415).bind fun t434 => (laws_FnReach4.j2 k2 t427 (!t434) t407 t408 t409 t410 t421 t422 t423 t424)) else (laws_FnReach4.j2 k2 t427 true t407 t408 t409 t410 t421 t422 t423 t424))) else (laws_FnReach4.j2 k2 t427 true t407 t408 t409 t410 t421 t422 t423 t424)) else (laws_FnReach4.j2 k2 t427 true t407 t408 t409 t410 t421 t422 t423 t424))) = some r := H; have A33 := Aside0.mk A330; clear A330; have HC34 := Aside0.mk H; clear H; have hcz35_0 : wr.cell? ⟨gb414, 0, none⟩ = some (.int .i64 t407) := b1 BK414 0; have hcz35_1 : wr.cell? ⟨gb414, 1, none⟩ = some (.int .i64 t408) := b1 BK414 1; have hcz35_2 : wr.cell? ⟨gb414, 2, none⟩ = some (.int .i64 t409) := b1 BK414 2; have hcz35_3 : wr.cell? ⟨gb414, 3, none⟩ = some (.slice Ao12 t410.length co12) := b1 BK414 3; have hfz35_0 := blk_frozen BK414.out 0; have hfz35_1 := blk_frozen BK414.out 1; have hfz35_2 := blk_frozen BK414.out 2; have hfz35_3 := blk_frozen BK414.out 3
         go_upto_region 16 with (first | ((with_reducible refine gate_callee (f := 44) rfl ?_); refine goesL_ (some 54) rfl rfl Try.func44 (by kernel_rfl) rfl #[.agg #[.int .i64 t407, .int .i64 t408, .int .i64 t409, .slice Ao12 t410.length co12]] rfl (by (try simp only [m3]); first | done | rfl | (simp only [d2]; rfl)) ?_; (with_reducible refine (impl_AutoTrim.calls k2 t407 t408 t409 _ _ t410 t421 t422 t423 t424 t427 _ ?side1 ?side2 A32.out).mono ?_); (case side1 => exact zC (Kd.R_reads' HO_415003.out).2.2); (case side2 => exact (Kd.R_reads' HO_415003.out).2.1); rintro e w36 ⟨v425, v428, rfl, ho0, ho1, hb⟩; refine ⟨_, rfl, ?_⟩; have HO426 := Aside0.mk (Kd.R_lower (Kd.R_new' ho0 (Kd.R_lt (zR HO_415003.out))) (below_size (zS HB.out))); replace HO_415003 := xE HO_415003 ho0 hb; have HO429 := Aside0.mk (Kd.R_lower ho1 (below_size (zS HB.out))); replace BK414 := xB BK414 hb; replace HB := xS HB hb; (try clear hb); (try clear hb2); (try clear hk); (try clear hi); (try clear ho0); (try clear ho1)) | ((with_reducible refine gate_dst (N := 7) rfl ?_); (try (refine gate_guard (by rfl) ?_; dsimp only)); refine box_event ?hg (N := 7) ?hd (cs := #[.int .i64 0, .int .i64 0, .int .i64 0, .slice none 0 0]) (t := 24) ?hr ?_; (case hd => rfl); (case hg => rfl); (case hr => first | (go_simp; done) | (go_simp; rfl)); intro gb430 hg w37 hbox hb; replace HO_415003 := xR HO_415003 hb; replace HO426 := xR HO426 hb; replace HO429 := xR HO429 hb; have BK430 := Aside0.mk (hbox); have GW430 := xG HB hg; have GE430 := xG HB hg; replace HB := xS HB hb; have NB414_430 := xN BK414 hg; have NB430_414 := xM BK414 hg; replace BK414 := xB BK414 hb; clear hb hbox hg; have hnb38 := NB430_414.out; have hnc38 := NB414_430.out; have hcz39_0 : w37.cell? ⟨gb430, 0, none⟩ = some (.int .i64 0) := b1 BK430 0; have hcz39_1 : w37.cell? ⟨gb430, 1, none⟩ = some (.int .i64 0) := b1 BK430 1; have hcz39_2 : w37.cell? ⟨gb430, 2, none⟩ = some (.int .i64 0) := b1 BK430 2; have hcz39_3 : w37.cell? ⟨gb430, 3, none⟩ = some (.slice none 0 0) := b1 BK430 3; have hfz39_0 := blk_frozen BK430.out 0; have hfz39_1 := blk_frozen BK430.out 1; have hfz39_2 := blk_frozen BK430.out 2; have hfz39_3 := blk_frozen BK430.out 3; obtain ⟨Ao40, co40, eo40⟩ := Kd.R_slice HO426.out; subst eo40; have hcz41_0 : w37.cell? ⟨gb414, 0, none⟩ = some (.int .i64 t407) := b1 BK414 0; have hcz41_1 : w37.cell? ⟨gb414, 1, none⟩ = some (.int .i64 t408) := b1 BK414 1; have hcz41_2 : w37.cell? ⟨gb414, 2, none⟩ = some (.int .i64 t409) := b1 BK414 2; have hcz41_3 : w37.cell? ⟨gb414, 3, none⟩ = some (.slice Ao12 t410.length co12) := b1 BK414 3; have hfz41_0 := blk_frozen BK414.out 0; have hfz41_1 := blk_frozen BK414.out 1; have hfz41_2 := blk_frozen BK414.out 2; have hfz41_3 := blk_frozen BK414.out 3) | ((with_reducible refine gate_callee (f := 32) rfl ?_); refine goesL_ (some 60) rfl rfl Try.func32 (by kernel_rfl) rfl #[.agg #[.int .i64 t407, .int .i64 t408, .int .i64 t409, .slice Ao12 t410.length co12], .int .i64 t409] rfl (by (try simp only [m3]); first | done | rfl | (simp only [d2]; rfl)) ?_; (with_reducible refine (spec_AutoReach.calls k2 t407 t408 t409 _ _ t410 t409 t431 _ ?side1 ?side2 A33.out).mono ?_); (case side1 => refine (Kd.R_reads' (e := 68) (base := w.heap.size) (ok := fun k_ => (True ∧ some k_ ≠ (.slice Ao40 t424.length co40 : Value).ownBlock)) (n := t410.length) (c := co12) ?_).2.2; exact (zR (xF4 HO_415003 BK430))); (case side2 => exact (Kd.R_reads' HO_415003.out).2.1); rintro e w42 ⟨rfl, hb⟩; refine ⟨_, rfl, ?_⟩; replace HO_415003 := Aside0.mk (Kd.R_below (zR (xF4 HO_415003 BK430)) hb); replace HO426 := Aside0.mk (Kd.R_below (zR (xF4 HO426 BK430)) hb); replace HO429 := Aside0.mk (Kd.R_below (zR (xF4 HO429 BK430)) hb); replace BK414 := xB BK414 hb; replace BK430 := Aside0.mk (blk_below (g := gb430) (o := .cells #[.int .i64 t421, .int .i64 t422, .int .i64 t423, .slice Ao40 t424.length co40] 24 (0, 0)) (xP4 BK430.out) hb); replace HB := xS HB hb; (try clear hb); (try clear hb2); (try clear hk); (try clear hi)))
         (try simp only [Act.put, q3])
         go_cut [83] (fun v83 wc => ∃ (kq : Nat) (x83_33 : Bool), v83 = .bool x83_33 ∧ Aside0 (laws_FnReach4.j2 kq t427 x83_33 t407 t408 t409 t410 t421 t422 t423 t424 = some r) ∧ Aside0 (kq ≤ k2) ∧ Aside0 (Kd.R (Kd.int .i64) 3 wc w.heap.size (fun _ => True) v428 t427) ∧ Aside0 (Kd.R k68 68 wc w.heap.size (fun k_ => some k_ ≠ ((.slice Ao40 t424.length co40) : Value).ownBlock) (.slice Ao12 t410.length co12) t410) ∧ Aside0 (Kd.R k68 68 wc w.heap.size (fun k_ => some k_ ≠ ((.slice Ao12 t410.length co12) : Value).ownBlock) (.slice Ao40 t424.length co40) t424) ∧ Aside0 (wc.heap[gb414]? = some (.cells #[.int .i64 t407, .int .i64 t408, .int .i64 t409, (.slice Ao12 t410.length co12)] 24 (0, 0))) ∧ Aside0 (wc.heap[gb430]? = some (.cells #[.int .i64 t421, .int .i64 t422, .int .i64 t423, (.slice Ao40 t424.length co40)] 24 (0, 0))) ∧ Aside0 (Below w.heap.size w wc))
         case first =>
          have H := HC34.out; clear HC34; replace H := Option.bind_eq_some_iff.mp H; obtain ⟨t432, A430, H⟩ := H; replace H : (if t432 = true then (if (t427.length : Int) = t422 then ((spec_SetCount.f k2 t431).bind fun t433 => (if t422 = t433 then ((impl_SetIn.f t413 t415).bind fun t434 => (laws_FnReach4.j2 k2 t427 (!t434) t407 t408 t409 t410 t421 t422 t423 t424)) else (laws_FnReach4.j2 k2 t427 true t407 t408 t409 t410 t421 t422 t423 t424))) else (laws_FnReach4.j2 k2 t427 true t407 t408 t409 t410 t421 t422 t423 t424)) else (laws_FnReach4.j2 k2 t427 true t407 t408 t409 t410 t421 t422 t423 t424)) = some r := H; have A43 := Aside0.mk A430; clear A430
          by_cases c44 : t432 = true
          ·subst c44
           have H1 : (if (t427.length : Int) = t422 then ((spec_SetCount.f k2 t431).bind fun t433 => (if t422 = t433 then ((impl_SetIn.f t413 t415).bind fun t434 => (laws_FnReach4.j2 k2 t427 (!t434) t407 t408 t409 t410 t421 t422 t423 t424)) else (laws_FnReach4.j2 k2 t427 true t407 t408 t409 t410 t421 t422 t423 t424))) else (laws_FnReach4.j2 k2 t427 true t407 t408 t409 t410 t421 t422 t423 t424)) = some r := by rw [if_pos rfl] at H; exact H
           clear H; have H := H1; clear H1
           by_cases c45 : (t427.length : Int) = t422
           ·rw [if_pos c45] at H; have c45b0 : ((t427.length : Int) == t422) = true := beq_iff_eq.mpr c45; have c45b1 : ((t427.length : Int) != t422) = false := bne_eq_false_iff_eq.mpr c45; clear c45
            (first | rw [c45b0] | (simp only [i64_w, i32_w]; rw [c45b0]) | skip)
            replace H := Option.bind_eq_some_iff.mp H; obtain ⟨t433, A460, H⟩ := H; replace H : (if t422 = t433 then ((impl_SetIn.f t413 t415).bind fun t434 => (laws_FnReach4.j2 k2 t427 (!t434) t407 t408 t409 t410 t421 t422 t423 t424)) else (laws_FnReach4.j2 k2 t427 true t407 t408 t409 t410 t421 t422 t423 t424)) = some r := H; have A46 := Aside0.mk A460; clear A460
            by_cases c47 : t422 = t433
            ·rw [if_pos c47] at H; have c47b0 : (t422 == t433) = true := beq_iff_eq.mpr c47; have c47b1 : (t422 != t433) = false := bne_eq_false_iff_eq.mpr c47; clear c47; replace H := Option.bind_eq_some_iff.mp H; obtain ⟨t434, A480, H⟩ := H; replace H : (laws_FnReach4.j2 k2 t427 (!t434) t407 t408 t409 t410 t421 t422 t423 t424) = some r := H; have A48 := Aside0.mk A480; clear A480; have H' := Aside0.mk H; clear H
             try go_wp2
             replace HO_415003 := Aside0.mk (Kd.R_drew HO_415003.out); replace HO426 := Aside0.mk (Kd.R_drew HO426.out); replace HO429 := Aside0.mk (Kd.R_drew HO429.out); replace BK414 := Aside0.mk (blk_drew BK414.out); replace BK430 := Aside0.mk (blk_drew BK430.out); replace HB := Aside0.mk (below_drew1 HB.out); refine start_ (n := 23) (S := fun w' => w'.cell? ⟨gb430, 0, none⟩ = some (.int .i64 t421) ∧ w'.cell? ⟨gb430, 1, none⟩ = some (.int .i64 t422) ∧ w'.cell? ⟨gb430, 2, none⟩ = some (.int .i64 t423) ∧ w'.cell? ⟨gb430, 3, none⟩ = some (.slice Ao40 t424.length co40)) (ds := []) bl0 (by kernel_rfl) rfl rfl ⟨b1 BK430 0, b1 BK430 1, b1 BK430 2, b1 BK430 3⟩ (fun hHeld => ?_); refine with_tabW laws_FnReach4.tab16 laws_FnReach4.bits16 (fun HT_ HW_ => ?_); generalize w42.drew = w49 at HO_415003 HO426 HO429 BK414 BK430 HB hHeld ⊢; refine take_ (i := 0) (N := some 61) (v := ?_) (a' := ?_) bl1 rfl rfl (take_ofW HT_.out HW_.out (by kernel_rfl)) (fun _ _ _ h => h) (Or.inl ⟨by rfl, ?_⟩) hHeld ?_ ?_; rotate_left
             ·rintro w' ⟨s0, s1, s2, s3⟩; go_simp; with_reducible rfl
             rotate_left
             ·simp only [Act.put, q5]; rfl
             refine one_ (i := 1) (N := some 62) bl2 rfl rfl (one_of HT_.out (by kernel_rfl)) (by decide) (fun K hK => ?_); refine goes_ Try.func22 (by kernel_rfl) rfl #[.agg #[.int .i64 t421, .int .i64 t422, .int .i64 t423, .slice Ao40 t424.length co40]] (by rfl) rfl rfl (by (try simp only [m3]); first | done | rfl | (simp only [d2]; rfl)) ?_
             with_reducible refine (impl_AutoOk.calls k2 t421 t422 t423 _ _ t424 true _ ?side1 ?side2 A43.out).mono ?_
             (case side1 => exact zC (Kd.R_reads' HO426.out).2.2)
             (case side2 => exact (Kd.R_reads' HO426.out).2.1)
             rintro e w50 ⟨rfl, hb⟩; refine ⟨_, rfl, ?_⟩; replace HO_415003 := xR HO_415003 hb; replace HO426 := xR HO426 hb; replace HO429 := xR HO429 hb; replace BK414 := xB BK414 hb; replace BK430 := xB BK430 hb; replace HB := xS HB hb
             (try clear hb)
             (try clear hb2)
             (try clear hk)
             (try clear hi)
             obtain ⟨Ao51, co51, eo51⟩ := Kd.R_slice HO429.out
             (first | subst eo51 | (injection eo51 with f1_ f2_ f3_; have f4_ := f1_.symm; have f5_ := f3_.symm; clear f1_ f2_ f3_; subst f4_; subst f5_))
             refine hK.out _ _ ⟨b1 BK430 0, b1 BK430 1, b1 BK430 2, b1 BK430 3⟩ (fun hHeld => ?_); clear hK K; refine norm_ (a' := ?_) ?_ ?_; rotate_left
             ·show Act.put _ (some 62) _ = _; simp only [Act.put, q5]; rfl
             refine pu 2 (some 63) bl3 HT_ ?_ rfl rfl (.inl ⟨by rfl, ?_⟩) ?_ ?_ ?_; rotate_left; (intro w'; go_simp; with_reducible rfl); rotate_left; (simp only [Act.put, q5]; rfl)
             refine pu 3 (some 64) bl4 HT_ ?_ rfl rfl (.inl ⟨by rfl, ?_⟩) ?_ ?_ ?_; rotate_left; (intro w'; go_simp; with_reducible rfl); rotate_left; (simp only [Act.put, q5]; rfl)
             refine pu 4 (some 65) bl5 HT_ ?_ rfl rfl (.inl ⟨by rfl, ?_⟩) ?_ ?_ ?_; rotate_left; (intro w'; go_simp; with_reducible rfl); rotate_left; (simp only [Act.put, q5]; rfl)
             refine pu 5 (some 66) bl6 HT_ ?_ rfl rfl (.inl ⟨by rfl, ?_⟩) ?_ ?_ ?_; rotate_left; (intro w'; go_simp; with_reducible rfl); rotate_left; (simp only [Act.put, q5]; rfl)
             refine pu 6 (some 67) bl7 HT_ ?_ rfl rfl (.inl ⟨by rfl, ?_⟩) ?_ ?_ ?_; rotate_left; (intro w'; go_simp; with_reducible rfl); rotate_left; (simp only [Act.put, q5]; rfl)
             refine take_ (i := 7) (N := some 68) (v := ?_) (a' := ?_) bl8 rfl rfl (take_ofW HT_.out HW_.out (by kernel_rfl)) (fun _ _ _ h => h) (Or.inl ⟨by rfl, ?_⟩) hHeld ?_ ?_; rotate_left
             ·rintro w' ⟨s0, s1, s2, s3⟩; go_simp; with_reducible rfl
             rotate_left
             ·simp only [Act.put, q5]; rfl
             refine pu 8 (some 69) bl9 HT_ ?_ rfl rfl (.inl ⟨by rfl, ?_⟩) ?_ ?_ ?_; rotate_left; (intro w'; go_simp; with_reducible rfl); rotate_left; (simp only [Act.put, q5]; rfl)
             refine pu 9 (some 70) bl10 HT_ ?_ rfl rfl (.inl ⟨by rfl, ?_⟩) ?_ ?_ ?_; rotate_left; (intro w'; go_simp; with_reducible rfl); rotate_left; (simp only [Act.put, q5]; rfl)
             refine pu 10 (some 71) bl11 HT_ ?_ rfl rfl (.inl ⟨by rfl, ?_⟩) ?_ ?_ ?_; rotate_left; (intro w'; go_simp; with_reducible rfl); rotate_left; (simp only [Act.put, q5]; rfl)
             refine pu 11 (some 72) bl12 HT_ ?_ rfl rfl (.inl ⟨by rfl, ?_⟩) ?_ ?_ ?_; rotate_left; (intro w'; go_simp; with_reducible rfl); rotate_left; (simp only [Act.put, q5]; rfl)
             refine pu 13 (some 74) bl13 HT_ ?_ rfl rfl (.inl ⟨by rfl, ?_⟩) ?_ ?_ ?_; rotate_left; (intro w'; go_simp; with_reducible rfl); rotate_left; (simp only [Act.put, q5]; rfl)
             refine take_ (i := 12) (N := some 73) (v := ?_) (a' := ?_) bl14 rfl rfl (take_ofW HT_.out HW_.out (by kernel_rfl)) (fun _ _ _ h => h) (Or.inl ⟨by rfl, ?_⟩) hHeld ?_ ?_; rotate_left
             ·rintro w' ⟨s0, s1, s2, s3⟩; go_simp; with_reducible rfl
             rotate_left
             ·simp only [Act.put, q5]; rfl
             refine one_ (i := 14) (N := some 75) bl15 rfl rfl (one_of HT_.out (by kernel_rfl)) (by decide) (fun K hK => ?_); refine goes_ Try.func45 (by kernel_rfl) rfl #[.int .i64 t431] (by rfl) rfl rfl (by (try simp only [m3]); first | done | rfl | (simp only [d2]; rfl)) ?_
             with_reducible refine (spec_SetCount.calls k2 t431 t433 _ A46.out).mono ?_
             rintro e w52 ⟨rfl, hb⟩; refine ⟨_, rfl, ?_⟩; replace HO_415003 := xR HO_415003 hb; replace HO426 := xR HO426 hb; replace HO429 := xR HO429 hb; replace BK414 := xB BK414 hb; replace BK430 := xB BK430 hb; replace HB := xS HB hb
             (try clear hb)
             (try clear hb2)
             (try clear hk)
             (try clear hi)
             refine hK.out _ _ ⟨b1 BK430 0, b1 BK430 1, b1 BK430 2, b1 BK430 3⟩ (fun hHeld => ?_); clear hK K; refine norm_ (a' := ?_) ?_ ?_; rotate_left
             ·show Act.put _ (some 75) _ = _; simp only [Act.put, q5]; rfl
             refine pu 15 (some 76) bl16 HT_ ?_ rfl rfl (.inl ⟨by rfl, ?_⟩) ?_ ?_ ?_; rotate_left; (intro w'; go_simp; with_reducible rfl); rotate_left; (simp only [Act.put, q5]; rfl)
             refine pu 16 (some 77) bl17 HT_ ?_ rfl rfl (.inl ⟨by rfl, ?_⟩) ?_ ?_ ?_; rotate_left; (intro w'; go_simp; with_reducible rfl); rotate_left; (simp only [Act.put, q5]; rfl)
             refine pu 17 (some 78) bl18 HT_ ?_ rfl rfl (.inl ⟨by rfl, ?_⟩) ?_ ?_ ?_; rotate_left; (intro w'; go_simp; with_reducible rfl); rotate_left; (simp only [Act.put, q5]; rfl)
             refine pu 18 (some 79) bl19 HT_ ?_ rfl rfl (.inl ⟨by rfl, ?_⟩) ?_ ?_ ?_; rotate_left; (intro w'; go_simp; with_reducible rfl); rotate_left; (simp only [Act.put, q5]; rfl)
             refine pu 19 (some 80) bl20 HT_ ?_ rfl rfl (.inl ⟨by rfl, ?_⟩) ?_ ?_ ?_; rotate_left; (intro w'; go_simp; with_reducible rfl); rotate_left; (simp only [Act.put, q5]; rfl)
             refine one_ (i := 20) (N := some 81) bl21 rfl rfl (one_of HT_.out (by kernel_rfl)) (by decide) (fun K hK => ?_); refine goes_ Try.func43 (by kernel_rfl) rfl #[.int .i64 t413, .int .i64 t415] (by rfl) rfl rfl (by (try simp only [m3]); first | done | rfl | (simp only [d2]; rfl)) ?_
             with_reducible refine (impl_SetIn.calls t413 t415 t434 _ A48.out).mono ?_
             rintro e w' ⟨rfl, ⟨nd, rfl⟩⟩; refine ⟨_, rfl, ?_⟩; refine hK.out _ _ ⟨b1 BK430 0, b1 BK430 1, b1 BK430 2, b1 BK430 3⟩ (fun hHeld => ?_); clear hK K; refine norm_ (a' := ?_) ?_ ?_; rotate_left
             ·show Act.put _ (some 81) _ = _; simp only [Act.put, q5]; rfl
             refine pu 21 (some 82) bl22 HT_ ?_ rfl rfl (.inl ⟨by rfl, ?_⟩) ?_ ?_ ?_; rotate_left; (intro w'; go_simp; with_reducible rfl); rotate_left; (simp only [Act.put, q5]; rfl)
             refine pu 22 (some 83) bl23 HT_ ?_ rfl rfl (.inl ⟨by rfl, ?_⟩) ?_ ?_ ?_; rotate_left; (intro w'; go_simp; with_reducible rfl); rotate_left; (simp only [Act.put, q5]; rfl)
             refine done_ (done_of HT_.out (by kernel_rfl)) ?_
             try go_wp2
             go_meet
             case rel => exact ⟨_, (!t434), (by first | rfl | (simp; done) | (simp [*]; done) | (rw [Int.tmod_eq_emod_of_nonneg (Int.natCast_nonneg _)]; done)), H', ⟨by have := HJ7.out; have := HK2.out; first | omega | exact Nat.le_refl _⟩, ⟨zR HO429.out⟩, ⟨by (with_reducible repeat (first | apply Kd.R_alloc | apply Kd.R_drewN | apply Kd.R_drew)); exact Kd.R_mono HO_415003.out (fun _ hk => hk.2)⟩, ⟨by (with_reducible repeat (first | apply Kd.R_alloc | apply Kd.R_drewN | apply Kd.R_drew)); exact Kd.R_mono HO426.out (fun _ hk => hk.2)⟩, ⟨zB BK414.out⟩, ⟨zB BK430.out⟩, ⟨zS HB.out⟩⟩
            ·rw [if_neg c47] at H; have c47b0 : (t422 == t433) = false := beq_eq_false_iff_ne.mpr c47; have c47b1 : (t422 != t433) = true := bne_iff_ne.mpr c47; have H' := Aside0.mk H; clear H
             try go_wp2
             replace HO_415003 := Aside0.mk (Kd.R_drew HO_415003.out); replace HO426 := Aside0.mk (Kd.R_drew HO426.out); replace HO429 := Aside0.mk (Kd.R_drew HO429.out); replace BK414 := Aside0.mk (blk_drew BK414.out); replace BK430 := Aside0.mk (blk_drew BK430.out); replace HB := Aside0.mk (below_drew1 HB.out); refine start_ (n := 23) (S := fun w' => w'.cell? ⟨gb430, 0, none⟩ = some (.int .i64 t421) ∧ w'.cell? ⟨gb430, 1, none⟩ = some (.int .i64 t422) ∧ w'.cell? ⟨gb430, 2, none⟩ = some (.int .i64 t423) ∧ w'.cell? ⟨gb430, 3, none⟩ = some (.slice Ao40 t424.length co40)) (ds := []) bl0 (by kernel_rfl) rfl rfl ⟨b1 BK430 0, b1 BK430 1, b1 BK430 2, b1 BK430 3⟩ (fun hHeld => ?_); refine with_tabW laws_FnReach4.tab16 laws_FnReach4.bits16 (fun HT_ HW_ => ?_); generalize w42.drew = w53 at HO_415003 HO426 HO429 BK414 BK430 HB hHeld ⊢; refine take_ (i := 0) (N := some 61) (v := ?_) (a' := ?_) bl1 rfl rfl (take_ofW HT_.out HW_.out (by kernel_rfl)) (fun _ _ _ h => h) (Or.inl ⟨by rfl, ?_⟩) hHeld ?_ ?_; rotate_left
             ·rintro w' ⟨s0, s1, s2, s3⟩; go_simp; with_reducible rfl
             rotate_left
             ·simp only [Act.put, q5]; rfl
             refine one_ (i := 1) (N := some 62) bl2 rfl rfl (one_of HT_.out (by kernel_rfl)) (by decide) (fun K hK => ?_); refine goes_ Try.func22 (by kernel_rfl) rfl #[.agg #[.int .i64 t421, .int .i64 t422, .int .i64 t423, .slice Ao40 t424.length co40]] (by rfl) rfl rfl (by (try simp only [m3]); first | done | rfl | (simp only [d2]; rfl)) ?_
             with_reducible refine (impl_AutoOk.calls k2 t421 t422 t423 _ _ t424 true _ ?side1 ?side2 A43.out).mono ?_
             (case side1 => exact zC (Kd.R_reads' HO426.out).2.2)
             (case side2 => exact (Kd.R_reads' HO426.out).2.1)
             rintro e w54 ⟨rfl, hb⟩; refine ⟨_, rfl, ?_⟩; replace HO_415003 := xR HO_415003 hb; replace HO426 := xR HO426 hb; replace HO429 := xR HO429 hb; replace BK414 := xB BK414 hb; replace BK430 := xB BK430 hb; replace HB := xS HB hb
             (try clear hb)
             (try clear hb2)
             (try clear hk)
             (try clear hi)
             obtain ⟨Ao55, co55, eo55⟩ := Kd.R_slice HO429.out
             (first | subst eo55 | (injection eo55 with f1_ f2_ f3_; have f4_ := f1_.symm; have f5_ := f3_.symm; clear f1_ f2_ f3_; subst f4_; subst f5_))
             refine hK.out _ _ ⟨b1 BK430 0, b1 BK430 1, b1 BK430 2, b1 BK430 3⟩ (fun hHeld => ?_); clear hK K; refine norm_ (a' := ?_) ?_ ?_; rotate_left
             ·show Act.put _ (some 62) _ = _; simp only [Act.put, q5]; rfl
             refine pu 2 (some 63) bl3 HT_ ?_ rfl rfl (.inl ⟨by rfl, ?_⟩) ?_ ?_ ?_; rotate_left; (intro w'; go_simp; with_reducible rfl); rotate_left; (simp only [Act.put, q5]; rfl)
             refine pu 3 (some 64) bl4 HT_ ?_ rfl rfl (.inl ⟨by rfl, ?_⟩) ?_ ?_ ?_; rotate_left; (intro w'; go_simp; with_reducible rfl); rotate_left; (simp only [Act.put, q5]; rfl)
             refine pu 4 (some 65) bl5 HT_ ?_ rfl rfl (.inl ⟨by rfl, ?_⟩) ?_ ?_ ?_; rotate_left; (intro w'; go_simp; with_reducible rfl); rotate_left; (simp only [Act.put, q5]; rfl)
             refine pu 5 (some 66) bl6 HT_ ?_ rfl rfl (.inl ⟨by rfl, ?_⟩) ?_ ?_ ?_; rotate_left; (intro w'; go_simp; with_reducible rfl); rotate_left; (simp only [Act.put, q5]; rfl)
             refine pu 6 (some 67) bl7 HT_ ?_ rfl rfl (.inl ⟨by rfl, ?_⟩) ?_ ?_ ?_; rotate_left; (intro w'; go_simp; with_reducible rfl); rotate_left; (simp only [Act.put, q5]; rfl)
             refine take_ (i := 7) (N := some 68) (v := ?_) (a' := ?_) bl8 rfl rfl (take_ofW HT_.out HW_.out (by kernel_rfl)) (fun _ _ _ h => h) (Or.inl ⟨by rfl, ?_⟩) hHeld ?_ ?_; rotate_left
             ·rintro w' ⟨s0, s1, s2, s3⟩; go_simp; with_reducible rfl
             rotate_left
             ·simp only [Act.put, q5]; rfl
             refine pu 8 (some 69) bl9 HT_ ?_ rfl rfl (.inl ⟨by rfl, ?_⟩) ?_ ?_ ?_; rotate_left; (intro w'; go_simp; with_reducible rfl); rotate_left; (simp only [Act.put, q5]; rfl)
             refine pu 9 (some 70) bl10 HT_ ?_ rfl rfl (.inl ⟨by rfl, ?_⟩) ?_ ?_ ?_; rotate_left; (intro w'; go_simp; with_reducible rfl); rotate_left; (simp only [Act.put, q5]; rfl)
             refine pu 10 (some 71) bl11 HT_ ?_ rfl rfl (.inl ⟨by rfl, ?_⟩) ?_ ?_ ?_; rotate_left; (intro w'; go_simp; with_reducible rfl); rotate_left; (simp only [Act.put, q5]; rfl)
             refine pu 11 (some 72) bl12 HT_ ?_ rfl rfl (.inl ⟨by rfl, ?_⟩) ?_ ?_ ?_; rotate_left; (intro w'; go_simp; with_reducible rfl); rotate_left; (simp only [Act.put, q5]; rfl)
             refine pu 13 (some 74) bl13 HT_ ?_ rfl rfl (.inl ⟨by rfl, ?_⟩) ?_ ?_ ?_; rotate_left; (intro w'; go_simp; with_reducible rfl); rotate_left; (simp only [Act.put, q5]; rfl)
             refine take_ (i := 12) (N := some 73) (v := ?_) (a' := ?_) bl14 rfl rfl (take_ofW HT_.out HW_.out (by kernel_rfl)) (fun _ _ _ h => h) (Or.inl ⟨by rfl, ?_⟩) hHeld ?_ ?_; rotate_left
             ·rintro w' ⟨s0, s1, s2, s3⟩; go_simp; with_reducible rfl
             rotate_left
             ·simp only [Act.put, q5]; rfl
             refine one_ (i := 14) (N := some 75) bl15 rfl rfl (one_of HT_.out (by kernel_rfl)) (by decide) (fun K hK => ?_); refine goes_ Try.func45 (by kernel_rfl) rfl #[.int .i64 t431] (by rfl) rfl rfl (by (try simp only [m3]); first | done | rfl | (simp only [d2]; rfl)) ?_
             with_reducible refine (spec_SetCount.calls k2 t431 t433 _ A46.out).mono ?_
             rintro e w56 ⟨rfl, hb⟩; refine ⟨_, rfl, ?_⟩; replace HO_415003 := xR HO_415003 hb; replace HO426 := xR HO426 hb; replace HO429 := xR HO429 hb; replace BK414 := xB BK414 hb; replace BK430 := xB BK430 hb; replace HB := xS HB hb
             (try clear hb)
             (try clear hb2)
             (try clear hk)
             (try clear hi)
             refine hK.out _ _ ⟨b1 BK430 0, b1 BK430 1, b1 BK430 2, b1 BK430 3⟩ (fun hHeld => ?_); clear hK K; refine norm_ (a' := ?_) ?_ ?_; rotate_left
             ·show Act.put _ (some 75) _ = _; simp only [Act.put, q5]; rfl
             refine pu 15 (some 76) bl16 HT_ ?_ rfl rfl (.inl ⟨by rfl, ?_⟩) ?_ ?_ ?_; rotate_left; (intro w'; go_simp; with_reducible rfl); rotate_left; (simp only [Act.put, q5]; rfl)
             refine pu 16 (some 77) bl17 HT_ ?_ rfl rfl (.inl ⟨by rfl, ?_⟩) ?_ ?_ ?_; rotate_left; (intro w'; go_simp; with_reducible rfl); rotate_left; (simp only [Act.put, q5]; rfl)
             refine pu 17 (some 78) bl18 HT_ ?_ rfl rfl (.inl ⟨by rfl, ?_⟩) ?_ ?_ ?_; rotate_left; (intro w'; go_simp; with_reducible rfl); rotate_left; (simp only [Act.put, q5]; rfl)
             refine pu 18 (some 79) bl19 HT_ undef rfl rfl (.inr ⟨by rfl, rfl⟩) ?_ ?_ ?_; rotate_left; (simp only [Act.put, q5]; rfl)
             refine pu 19 (some 80) bl20 HT_ undef rfl rfl (.inr ⟨by rfl, rfl⟩) ?_ ?_ ?_; rotate_left; (simp only [Act.put, q5]; rfl)
             refine pu 20 (some 81) bl21 HT_ undef rfl rfl (.inr ⟨by rfl, rfl⟩) ?_ ?_ ?_; rotate_left; (simp only [Act.put, q5]; rfl)
             refine pu 21 (some 82) bl22 HT_ undef rfl rfl (.inr ⟨by rfl, rfl⟩) ?_ ?_ ?_; rotate_left; (simp only [Act.put, q5]; rfl)
             refine pu 22 (some 83) bl23 HT_ ?_ rfl rfl (.inl ⟨by rfl, ?_⟩) ?_ ?_ ?_; rotate_left; (intro w'; go_simp; with_reducible rfl); rotate_left; (simp only [Act.put, q5]; rfl)
             refine done_ (done_of HT_.out (by kernel_rfl)) ?_
             try go_wp2
             go_meet
             case rel => exact ⟨_, (true), (by first | rfl | (simp; done) | (simp [*]; done) | (rw [Int.tmod_eq_emod_of_nonneg (Int.natCast_nonneg _)]; done)), H', ⟨by have := HJ7.out; have := HK2.out; first | omega | exact Nat.le_refl _⟩, ⟨zR HO429.out⟩, ⟨by (with_reducible repeat (first | apply Kd.R_alloc | apply Kd.R_drewN | apply Kd.R_drew)); exact Kd.R_mono HO_415003.out (fun _ hk => hk.2)⟩, ⟨by (with_reducible repeat (first | apply Kd.R_alloc | apply Kd.R_drewN | apply Kd.R_drew)); exact Kd.R_mono HO426.out (fun _ hk => hk.2)⟩, ⟨zB BK414.out⟩, ⟨zB BK430.out⟩, ⟨zS HB.out⟩⟩
           ·rw [if_neg c45] at H; have c45b0 : ((t427.length : Int) == t422) = false := beq_eq_false_iff_ne.mpr c45; have c45b1 : ((t427.length : Int) != t422) = true := bne_iff_ne.mpr c45
            (first | rw [c45b0] | (simp only [i64_w, i32_w]; rw [c45b0]) | skip)
            have H' := Aside0.mk H; clear H
            try go_wp2
            replace HO_415003 := Aside0.mk (Kd.R_drew HO_415003.out); replace HO426 := Aside0.mk (Kd.R_drew HO426.out); replace HO429 := Aside0.mk (Kd.R_drew HO429.out); replace BK414 := Aside0.mk (blk_drew BK414.out); replace BK430 := Aside0.mk (blk_drew BK430.out); replace HB := Aside0.mk (below_drew1 HB.out); refine start_ (n := 23) (S := fun w' => w'.cell? ⟨gb430, 0, none⟩ = some (.int .i64 t421) ∧ w'.cell? ⟨gb430, 1, none⟩ = some (.int .i64 t422) ∧ w'.cell? ⟨gb430, 2, none⟩ = some (.int .i64 t423) ∧ w'.cell? ⟨gb430, 3, none⟩ = some (.slice Ao40 t424.length co40)) (ds := []) bl0 (by kernel_rfl) rfl rfl ⟨b1 BK430 0, b1 BK430 1, b1 BK430 2, b1 BK430 3⟩ (fun hHeld => ?_); refine with_tabW laws_FnReach4.tab16 laws_FnReach4.bits16 (fun HT_ HW_ => ?_); generalize w42.drew = w57 at HO_415003 HO426 HO429 BK414 BK430 HB hHeld ⊢; refine take_ (i := 0) (N := some 61) (v := ?_) (a' := ?_) bl1 rfl rfl (take_ofW HT_.out HW_.out (by kernel_rfl)) (fun _ _ _ h => h) (Or.inl ⟨by rfl, ?_⟩) hHeld ?_ ?_; rotate_left
            ·rintro w' ⟨s0, s1, s2, s3⟩; go_simp; with_reducible rfl
            rotate_left
            ·simp only [Act.put, q5]; rfl
            refine one_ (i := 1) (N := some 62) bl2 rfl rfl (one_of HT_.out (by kernel_rfl)) (by decide) (fun K hK => ?_); refine goes_ Try.func22 (by kernel_rfl) rfl #[.agg #[.int .i64 t421, .int .i64 t422, .int .i64 t423, .slice Ao40 t424.length co40]] (by rfl) rfl rfl (by (try simp only [m3]); first | done | rfl | (simp only [d2]; rfl)) ?_
            with_reducible refine (impl_AutoOk.calls k2 t421 t422 t423 _ _ t424 true _ ?side1 ?side2 A43.out).mono ?_
            (case side1 => exact zC (Kd.R_reads' HO426.out).2.2)
            (case side2 => exact (Kd.R_reads' HO426.out).2.1)
            rintro e w58 ⟨rfl, hb⟩; refine ⟨_, rfl, ?_⟩; replace HO_415003 := xR HO_415003 hb; replace HO426 := xR HO426 hb; replace HO429 := xR HO429 hb; replace BK414 := xB BK414 hb; replace BK430 := xB BK430 hb; replace HB := xS HB hb
            (try clear hb)
            (try clear hb2)
            (try clear hk)
            (try clear hi)
            obtain ⟨Ao59, co59, eo59⟩ := Kd.R_slice HO429.out
            (first | subst eo59 | (injection eo59 with f1_ f2_ f3_; have f4_ := f1_.symm; have f5_ := f3_.symm; clear f1_ f2_ f3_; subst f4_; subst f5_))
            refine hK.out _ _ ⟨b1 BK430 0, b1 BK430 1, b1 BK430 2, b1 BK430 3⟩ (fun hHeld => ?_); clear hK K; refine norm_ (a' := ?_) ?_ ?_; rotate_left
            ·show Act.put _ (some 62) _ = _; simp only [Act.put, q5]; rfl
            refine pu 2 (some 63) bl3 HT_ ?_ rfl rfl (.inl ⟨by rfl, ?_⟩) ?_ ?_ ?_; rotate_left; (intro w'; go_simp; with_reducible rfl); rotate_left; (simp only [Act.put, q5]; rfl)
            refine pu 3 (some 64) bl4 HT_ ?_ rfl rfl (.inl ⟨by rfl, ?_⟩) ?_ ?_ ?_; rotate_left; (intro w'; go_simp; with_reducible rfl); rotate_left; (simp only [Act.put, q5]; rfl)
            refine pu 4 (some 65) bl5 HT_ ?_ rfl rfl (.inl ⟨by rfl, ?_⟩) ?_ ?_ ?_; rotate_left; (intro w'; go_simp; with_reducible rfl); rotate_left; (simp only [Act.put, q5]; rfl)
            refine pu 5 (some 66) bl6 HT_ ?_ rfl rfl (.inl ⟨by rfl, ?_⟩) ?_ ?_ ?_; rotate_left; (intro w'; go_simp; with_reducible rfl); rotate_left; (simp only [Act.put, q5]; rfl)
            refine pu 6 (some 67) bl7 HT_ ?_ rfl rfl (.inl ⟨by rfl, ?_⟩) ?_ ?_ ?_; rotate_left; (intro w'; go_simp; with_reducible rfl); rotate_left; (simp only [Act.put, q5]; rfl)
            refine take_ (i := 7) (N := some 68) (v := ?_) (a' := ?_) bl8 rfl rfl (take_ofW HT_.out HW_.out (by kernel_rfl)) (fun _ _ _ h => h) (Or.inl ⟨by rfl, ?_⟩) hHeld ?_ ?_; rotate_left
            ·rintro w' ⟨s0, s1, s2, s3⟩; go_simp; with_reducible rfl
            rotate_left
            ·simp only [Act.put, q5]; rfl
            refine pu 8 (some 69) bl9 HT_ ?_ rfl rfl (.inl ⟨by rfl, ?_⟩) ?_ ?_ ?_; rotate_left; (intro w'; go_simp; with_reducible rfl); rotate_left; (simp only [Act.put, q5]; rfl)
            refine pu 9 (some 70) bl10 HT_ ?_ rfl rfl (.inl ⟨by rfl, ?_⟩) ?_ ?_ ?_; rotate_left; (intro w'; go_simp; with_reducible rfl); rotate_left; (simp only [Act.put, q5]; rfl)
            refine pu 10 (some 71) bl11 HT_ ?_ rfl rfl (.inl ⟨by rfl, ?_⟩) ?_ ?_ ?_; rotate_left; (intro w'; go_simp; with_reducible rfl); rotate_left; (simp only [Act.put, q5]; rfl)
            refine pu 11 (some 72) bl12 HT_ undef rfl rfl (.inr ⟨by rfl, rfl⟩) ?_ ?_ ?_; rotate_left; (simp only [Act.put, q5]; rfl)
            refine pu 12 (some 73) bl24 HT_ undef rfl rfl (.inr ⟨by rfl, rfl⟩) ?_ ?_ ?_; rotate_left; (simp only [Act.put, q5]; rfl)
            refine pu 13 (some 74) bl14 HT_ undef rfl rfl (.inr ⟨by rfl, rfl⟩) ?_ ?_ ?_; rotate_left; (simp only [Act.put, q5]; rfl)
            refine pu 14 (some 75) bl15 HT_ undef rfl rfl (.inr ⟨by rfl, rfl⟩) ?_ ?_ ?_; rotate_left; (simp only [Act.put, q5]; rfl)
            refine pu 15 (some 76) bl16 HT_ undef rfl rfl (.inr ⟨by rfl, rfl⟩) ?_ ?_ ?_; rotate_left; (simp only [Act.put, q5]; rfl)
            refine pu 16 (some 77) bl17 HT_ ?_ rfl rfl (.inl ⟨by rfl, ?_⟩) ?_ ?_ ?_; rotate_left; (intro w'; go_simp; with_reducible rfl); rotate_left; (simp only [Act.put, q5]; rfl)
            refine pu 17 (some 78) bl18 HT_ ?_ rfl rfl (.inl ⟨by rfl, ?_⟩) ?_ ?_ ?_; rotate_left; (intro w'; go_simp; with_reducible rfl); rotate_left; (simp only [Act.put, q5]; rfl)
            refine pu 18 (some 79) bl19 HT_ undef rfl rfl (.inr ⟨by rfl, rfl⟩) ?_ ?_ ?_; rotate_left; (simp only [Act.put, q5]; rfl)
            refine pu 19 (some 80) bl20 HT_ undef rfl rfl (.inr ⟨by rfl, rfl⟩) ?_ ?_ ?_; rotate_left; (simp only [Act.put, q5]; rfl)
            refine pu 20 (some 81) bl21 HT_ undef rfl rfl (.inr ⟨by rfl, rfl⟩) ?_ ?_ ?_; rotate_left; (simp only [Act.put, q5]; rfl)
            refine pu 21 (some 82) bl22 HT_ undef rfl rfl (.inr ⟨by rfl, rfl⟩) ?_ ?_ ?_; rotate_left; (simp only [Act.put, q5]; rfl)
            refine pu 22 (some 83) bl23 HT_ ?_ rfl rfl (.inl ⟨by rfl, ?_⟩) ?_ ?_ ?_; rotate_left; (intro w'; go_simp; with_reducible rfl); rotate_left; (simp only [Act.put, q5]; rfl)
            refine done_ (done_of HT_.out (by kernel_rfl)) ?_
            try go_wp2
            go_meet
            case rel => exact ⟨_, (true), (by first | rfl | (simp; done) | (simp [*]; done) | (rw [Int.tmod_eq_emod_of_nonneg (Int.natCast_nonneg _)]; done)), H', ⟨by have := HJ7.out; have := HK2.out; first | omega | exact Nat.le_refl _⟩, ⟨zR HO429.out⟩, ⟨by (with_reducible repeat (first | apply Kd.R_alloc | apply Kd.R_drewN | apply Kd.R_drew)); exact Kd.R_mono HO_415003.out (fun _ hk => hk.2)⟩, ⟨by (with_reducible repeat (first | apply Kd.R_alloc | apply Kd.R_drewN | apply Kd.R_drew)); exact Kd.R_mono HO426.out (fun _ hk => hk.2)⟩, ⟨zB BK414.out⟩, ⟨zB BK430.out⟩, ⟨zS HB.out⟩⟩
          ·replace c44 := Bool.eq_false_iff.mpr c44; subst c44
           have H1 : (laws_FnReach4.j2 k2 t427 true t407 t408 t409 t410 t421 t422 t423 t424) = some r := by rw [if_neg (show ¬ (false = true) by decide)] at H; exact H
           clear H; have H := H1; clear H1; have H' := Aside0.mk H; clear H
           try go_wp2
           replace HO_415003 := Aside0.mk (Kd.R_drew HO_415003.out); replace HO426 := Aside0.mk (Kd.R_drew HO426.out); replace HO429 := Aside0.mk (Kd.R_drew HO429.out); replace BK414 := Aside0.mk (blk_drew BK414.out); replace BK430 := Aside0.mk (blk_drew BK430.out); replace HB := Aside0.mk (below_drew1 HB.out); refine start_ (n := 23) (S := fun w' => w'.cell? ⟨gb430, 0, none⟩ = some (.int .i64 t421) ∧ w'.cell? ⟨gb430, 1, none⟩ = some (.int .i64 t422) ∧ w'.cell? ⟨gb430, 2, none⟩ = some (.int .i64 t423) ∧ w'.cell? ⟨gb430, 3, none⟩ = some (.slice Ao40 t424.length co40)) (ds := []) bl0 (by kernel_rfl) rfl rfl ⟨b1 BK430 0, b1 BK430 1, b1 BK430 2, b1 BK430 3⟩ (fun hHeld => ?_); refine with_tabW laws_FnReach4.tab16 laws_FnReach4.bits16 (fun HT_ HW_ => ?_); generalize w42.drew = w60 at HO_415003 HO426 HO429 BK414 BK430 HB hHeld ⊢; refine take_ (i := 0) (N := some 61) (v := ?_) (a' := ?_) bl1 rfl rfl (take_ofW HT_.out HW_.out (by kernel_rfl)) (fun _ _ _ h => h) (Or.inl ⟨by rfl, ?_⟩) hHeld ?_ ?_; rotate_left
           ·rintro w' ⟨s0, s1, s2, s3⟩; go_simp; with_reducible rfl
           rotate_left
           ·simp only [Act.put, q5]; rfl
           refine one_ (i := 1) (N := some 62) bl2 rfl rfl (one_of HT_.out (by kernel_rfl)) (by decide) (fun K hK => ?_); refine goes_ Try.func22 (by kernel_rfl) rfl #[.agg #[.int .i64 t421, .int .i64 t422, .int .i64 t423, .slice Ao40 t424.length co40]] (by rfl) rfl rfl (by (try simp only [m3]); first | done | rfl | (simp only [d2]; rfl)) ?_
           with_reducible refine (impl_AutoOk.calls k2 t421 t422 t423 _ _ t424 false _ ?side1 ?side2 A43.out).mono ?_
           (case side1 => exact zC (Kd.R_reads' HO426.out).2.2)
           (case side2 => exact (Kd.R_reads' HO426.out).2.1)
           rintro e w61 ⟨rfl, hb⟩; refine ⟨_, rfl, ?_⟩; replace HO_415003 := xR HO_415003 hb; replace HO426 := xR HO426 hb; replace HO429 := xR HO429 hb; replace BK414 := xB BK414 hb; replace BK430 := xB BK430 hb; replace HB := xS HB hb
           (try clear hb)
           (try clear hb2)
           (try clear hk)
           (try clear hi)
           refine hK.out _ _ ⟨b1 BK430 0, b1 BK430 1, b1 BK430 2, b1 BK430 3⟩ (fun hHeld => ?_); clear hK K; refine norm_ (a' := ?_) ?_ ?_; rotate_left
           ·show Act.put _ (some 62) _ = _; simp only [Act.put, q5]; rfl
           refine pu 2 (some 63) bl3 HT_ ?_ rfl rfl (.inl ⟨by rfl, ?_⟩) ?_ ?_ ?_; rotate_left; (intro w'; go_simp; with_reducible rfl); rotate_left; (simp only [Act.put, q5]; rfl)
           refine pu 3 (some 64) bl4 HT_ ?_ rfl rfl (.inl ⟨by rfl, ?_⟩) ?_ ?_ ?_; rotate_left; (intro w'; go_simp; with_reducible rfl); rotate_left; (simp only [Act.put, q5]; rfl)
           refine pu 4 (some 65) bl5 HT_ undef rfl rfl (.inr ⟨by rfl, rfl⟩) ?_ ?_ ?_; rotate_left; (simp only [Act.put, q5]; rfl)
           refine pu 5 (some 66) bl6 HT_ undef rfl rfl (.inr ⟨by rfl, rfl⟩) ?_ ?_ ?_; rotate_left; (simp only [Act.put, q5]; rfl)
           refine pu 6 (some 67) bl7 HT_ undef rfl rfl (.inr ⟨by rfl, rfl⟩) ?_ ?_ ?_; rotate_left; (simp only [Act.put, q5]; rfl)
           refine pu 7 (some 68) bl8 HT_ undef rfl rfl (.inr ⟨by rfl, rfl⟩) ?_ ?_ ?_; rotate_left; (simp only [Act.put, q5]; rfl)
           refine pu 8 (some 69) bl9 HT_ undef rfl rfl (.inr ⟨by rfl, rfl⟩) ?_ ?_ ?_; rotate_left; (simp only [Act.put, q5]; rfl)
           refine pu 9 (some 70) bl10 HT_ ?_ rfl rfl (.inl ⟨by rfl, ?_⟩) ?_ ?_ ?_; rotate_left; (intro w'; go_simp; with_reducible rfl); rotate_left; (simp only [Act.put, q5]; rfl)
           refine pu 10 (some 71) bl11 HT_ ?_ rfl rfl (.inl ⟨by rfl, ?_⟩) ?_ ?_ ?_; rotate_left; (intro w'; go_simp; with_reducible rfl); rotate_left; (simp only [Act.put, q5]; rfl)
           refine pu 11 (some 72) bl12 HT_ undef rfl rfl (.inr ⟨by rfl, rfl⟩) ?_ ?_ ?_; rotate_left; (simp only [Act.put, q5]; rfl)
           refine pu 12 (some 73) bl24 HT_ undef rfl rfl (.inr ⟨by rfl, rfl⟩) ?_ ?_ ?_; rotate_left; (simp only [Act.put, q5]; rfl)
           refine pu 13 (some 74) bl14 HT_ undef rfl rfl (.inr ⟨by rfl, rfl⟩) ?_ ?_ ?_; rotate_left; (simp only [Act.put, q5]; rfl)
           refine pu 14 (some 75) bl15 HT_ undef rfl rfl (.inr ⟨by rfl, rfl⟩) ?_ ?_ ?_; rotate_left; (simp only [Act.put, q5]; rfl)
           refine pu 15 (some 76) bl16 HT_ undef rfl rfl (.inr ⟨by rfl, rfl⟩) ?_ ?_ ?_; rotate_left; (simp only [Act.put, q5]; rfl)
           refine pu 16 (some 77) bl17 HT_ ?_ rfl rfl (.inl ⟨by rfl, ?_⟩) ?_ ?_ ?_; rotate_left; (intro w'; go_simp; with_reducible rfl); rotate_left; (simp only [Act.put, q5]; rfl)
           refine pu 17 (some 78) bl18 HT_ ?_ rfl rfl (.inl ⟨by rfl, ?_⟩) ?_ ?_ ?_; rotate_left; (intro w'; go_simp; with_reducible rfl); rotate_left; (simp only [Act.put, q5]; rfl)
           refine pu 18 (some 79) bl19 HT_ undef rfl rfl (.inr ⟨by rfl, rfl⟩) ?_ ?_ ?_; rotate_left; (simp only [Act.put, q5]; rfl)
           refine pu 19 (some 80) bl20 HT_ undef rfl rfl (.inr ⟨by rfl, rfl⟩) ?_ ?_ ?_; rotate_left; (simp only [Act.put, q5]; rfl)
           refine pu 20 (some 81) bl21 HT_ undef rfl rfl (.inr ⟨by rfl, rfl⟩) ?_ ?_ ?_; rotate_left; (simp only [Act.put, q5]; rfl)
           refine pu 21 (some 82) bl22 HT_ undef rfl rfl (.inr ⟨by rfl, rfl⟩) ?_ ?_ ?_; rotate_left; (simp only [Act.put, q5]; rfl)
           refine pu 22 (some 83) bl23 HT_ ?_ rfl rfl (.inl ⟨by rfl, ?_⟩) ?_ ?_ ?_; rotate_left; (intro w'; go_simp; with_reducible rfl); rotate_left; (simp only [Act.put, q5]; rfl)
           refine done_ (done_of HT_.out (by kernel_rfl)) ?_
           try go_wp2
           go_meet
           case rel => exact ⟨_, (true), (by first | rfl | (simp; done) | (simp [*]; done) | (rw [Int.tmod_eq_emod_of_nonneg (Int.natCast_nonneg _)]; done)), H', ⟨by have := HJ7.out; have := HK2.out; first | omega | exact Nat.le_refl _⟩, ⟨zR HO429.out⟩, ⟨by (with_reducible repeat (first | apply Kd.R_alloc | apply Kd.R_drewN | apply Kd.R_drew)); exact Kd.R_mono HO_415003.out (fun _ hk => hk.2)⟩, ⟨by (with_reducible repeat (first | apply Kd.R_alloc | apply Kd.R_drewN | apply Kd.R_drew)); exact Kd.R_mono HO426.out (fun _ hk => hk.2)⟩, ⟨zB BK414.out⟩, ⟨zB BK430.out⟩, ⟨zS HB.out⟩⟩
         case rest =>
          clear HC34
          try clear c2
          try clear p2
          try clear c4
          try clear c22
          try clear c44
          try clear c45
          try clear c45b0
          try clear c45b1
          obtain ⟨kq, x83_33, rfl, HA, HJ33, HO_8, HO_415003, HO_431003, BK414, BK430, HB⟩ := hcut
          cases kq with
          | zero => exact absurd HA.out (by simp [laws_FnReach4.j2])
          | succ kj33 =>
           have H := HA.out; clear HA; simp only [laws_FnReach4.j2] at H
           by_cases c62 : x83_33 = true
           ·subst c62
            have H1 : (some false) = some r := by rw [if_pos rfl] at H; exact H
            clear H; have H := H1; clear H1; obtain rfl := Option.some.inj H
            go_wp2
            go_ret; exact ⟨by first | rfl | (simp [errW_none, errW_some] <;> rfl) | (simp [*, errW_none, errW_some] <;> rfl), by repeat (first | (with_reducible first | exact HB.out | apply below_alloc | apply pw_below_drewN | apply below_drew1 | refine below_set ?_ GE414.out | refine below_set ?_ GE430.out) | exact HB.out)⟩
           ·replace c62 := Bool.eq_false_iff.mpr c62; subst c62
            have H1 : (laws_FnReach4.l1 kj33 t427 0 t407 t408 t409 t410 t421 t422 t423 t424) = some r := by rw [if_neg (show ¬ (false = true) by decide)] at H; exact H
            clear H; have H := H1; clear H1; have H' := Aside0.mk H; clear H
            go_wp2
            go_loopg [10] kj33 (fun kq v10 w' => ∃ (x10_4 : Int), v10 = .int .i64 x10_4 ∧ Aside0 (laws_FnReach4.l1 kq t427 x10_4 t407 t408 t409 t410 t421 t422 t423 t424 = some r) ∧ Aside0 (kq ≤ kj33) ∧ Aside0 (Kd.R (Kd.int .i64) 3 w' w.heap.size (fun _ => True) v428 t427) ∧ Aside0 (Kd.R k68 68 w' w.heap.size (fun k_ => some k_ ≠ ((.slice Ao40 t424.length co40) : Value).ownBlock) (.slice Ao12 t410.length co12) t410) ∧ Aside0 (Kd.R k68 68 w' w.heap.size (fun k_ => some k_ ≠ ((.slice Ao12 t410.length co12) : Value).ownBlock) (.slice Ao40 t424.length co40) t424) ∧ Aside0 (w'.heap[gb414]? = some (.cells #[.int .i64 t407, .int .i64 t408, .int .i64 t409, (.slice Ao12 t410.length co12)] 24 (0, 0))) ∧ Aside0 (w'.heap[gb430]? = some (.cells #[.int .i64 t421, .int .i64 t422, .int .i64 t423, (.slice Ao40 t424.length co40)] 24 (0, 0))) ∧ Aside0 (Below w.heap.size w w'))
            case atStart => exact ⟨(0), (by first | rfl | (simp; done) | (simp [*]; done) | (rw [Int.tmod_eq_emod_of_nonneg (Int.natCast_nonneg _)]; done)), H', ⟨Nat.le_refl _⟩, ⟨zR HO_8.out⟩, ⟨zR HO_415003.out⟩, ⟨zR HO_431003.out⟩, ⟨zB BK414.out⟩, ⟨zB BK430.out⟩, ⟨zS HB.out⟩⟩
            case round =>
             clear H'
             try clear c2
             try clear p2
             try clear c4
             try clear c6
             try clear c22
             try clear c44
             try clear c45
             try clear c45b0
             try clear c45b1
             try clear c62
             try clear p2
             obtain ⟨x10_4, rfl, HA, HK4, HO_8, HO_415003, HO_431003, BK414, BK430, HB⟩ := hrel
             cases gk with
             | zero => exact absurd HA.out (by simp [laws_FnReach4.l1])
             | succ k4 =>
              have H := HA.out; clear HA; simp only [laws_FnReach4.l1] at H
              by_cases c63 : x10_4 < (t424.length : Int)
              ·rw [if_pos c63] at H; have c63b0 : decide (x10_4 < (t424.length : Int)) = true := decide_eq_true c63; clear c63
               by_cases c64 : 0 ≤ x10_4
               ·rw [if_pos c64] at H; have c64b0 : decide (0 ≤ x10_4) = true := decide_eq_true c64; clear c64
                by_cases c65 : 0 ≤ ((rd_T68 t424 x10_4).f0)
                ·rw [if_pos c65] at H; have c65b0 : decide (0 ≤ ((rd_T68 t424 x10_4).f0)) = true := decide_eq_true c65; clear c65
                 by_cases c66 : ((rd_T68 t424 x10_4).f0) < (t427.length : Int)
                 ·rw [if_pos c66] at H; have c66b0 : decide (((rd_T68 t424 x10_4).f0) < (t427.length : Int)) = true := decide_eq_true c66; clear c66
                  by_cases c67 : 0 ≤ ((rd_T68 t424 x10_4).f2)
                  ·rw [if_pos c67] at H; have c67b0 : decide (0 ≤ ((rd_T68 t424 x10_4).f2)) = true := decide_eq_true c67; clear c67
                   by_cases c68 : ((rd_T68 t424 x10_4).f2) < (t427.length : Int)
                   ·rw [if_pos c68] at H; have c68b0 : decide (((rd_T68 t424 x10_4).f2) < (t427.length : Int)) = true := decide_eq_true c68; clear c68; replace H := Option.bind_eq_some_iff.mp H; obtain ⟨⟨t439, t440⟩, A690, H⟩ := H; replace H : (if t440 = true then (if (t439 != ((rd_T68 t424 x10_4).f3)) = true then (some false) else (laws_FnReach4.l1 k4 t427 (wrap64 (x10_4 + 1)) t407 t408 t409 t410 t421 t422 t423 t424)) else (some false)) = some r := H; have A69 := Aside0.mk A690; clear A690
                    by_cases c70 : t440 = true
                    ·subst c70
                     have H1 : (if (t439 != ((rd_T68 t424 x10_4).f3)) = true then (some false) else (laws_FnReach4.l1 k4 t427 (wrap64 (x10_4 + 1)) t407 t408 t409 t410 t421 t422 t423 t424)) = some r := by rw [if_pos rfl] at H; exact H
                     clear H; have H := H1; clear H1
                     by_cases c71 : (t439 != ((rd_T68 t424 x10_4).f3)) = true
                     ·rw [if_pos c71] at H; have c71b0 : (t439 != ((rd_T68 t424 x10_4).f3)) = true := c71
                      (try (have c71b1 : decide (t439 = ((rd_T68 t424 x10_4).f3)) = false := by simpa using c71))
                      (try (have c71b2 : (t439 == ((rd_T68 t424 x10_4).f3)) = false := by simpa using c71))
                      (try (have c71b3 : ¬ (t439 = ((rd_T68 t424 x10_4).f3)) := by simpa using c71))
                      clear c71; obtain rfl := Option.some.inj H; have hnb72 := NB430_414.out; have hnc72 := NB414_430.out; have hcz73_0 : wr.cell? ⟨gb430, 0, none⟩ = some (.int .i64 t421) := b1 BK430 0; have hcz73_1 : wr.cell? ⟨gb430, 1, none⟩ = some (.int .i64 t422) := b1 BK430 1; have hcz73_2 : wr.cell? ⟨gb430, 2, none⟩ = some (.int .i64 t423) := b1 BK430 2; have hcz73_3 : wr.cell? ⟨gb430, 3, none⟩ = some (.slice Ao40 t424.length co40) := b1 BK430 3; have hfz73_0 := blk_frozen BK430.out 0; have hfz73_1 := blk_frozen BK430.out 1; have hfz73_2 := blk_frozen BK430.out 2; have hfz73_3 := blk_frozen BK430.out 3; have p435 : 0 ≤ (x10_4 : Int) := oD; have q435 : x10_4 < (t424.length : Int) := oD; obtain ⟨ad435, e435, hx435_0, hx435_1, hx435_2, hx435_3⟩ := at_T68 (Kd.R_reads' HO_431003.out).2.2 x10_4 p435 q435
                      cases e435
                      replace p435 := eq_true p435; replace q435 := eq_true q435
                      try go_wp2_with (first | ((with_reducible refine gate_dst (N := 11) rfl ?_); (try (refine gate_guard (by rfl) ?_; dsimp only)); refine box_event ?hg (N := 11) ?hd (cs := #[.int .i64 0, .int .i64 0, .int .i64 0, .bool false]) (t := 68) ?hr ?_; (case hd => rfl); (case hg => rfl); (case hr => first | (go_simp; done) | (go_simp; rfl)); intro gb436 hg w74 hbox hb; replace HO_8 := xR HO_8 hb; replace HO_415003 := Aside0.mk (Kd.R_below (Kd.R_elderB (zR HO_415003.out) gb436 (Nat.le_of_eq hg.symm)) hb); replace HO_431003 := Aside0.mk (Kd.R_below (Kd.R_elderB (zR HO_431003.out) gb436 (Nat.le_of_eq hg.symm)) hb); have BK436 := Aside0.mk (hbox); have GW436 := xG HB hg; have GE436 := xG HB hg; replace HB := xS HB hb; have NB414_436 := xN BK414 hg; have NB436_414 := xM BK414 hg; replace BK414 := xB BK414 hb; have NB430_436 := xN BK430 hg; have NB436_430 := xM BK430 hg; replace BK430 := xB BK430 hb; clear hb hbox hg; have hnb75 := NB436_414.out; have hnc75 := NB414_436.out; have hnb76 := NB436_430.out; have hnc76 := NB430_436.out; have hcz77_0 : w74.cell? ⟨gb436, 0, none⟩ = some (.int .i64 0) := b1 BK436 0; have hcz77_1 : w74.cell? ⟨gb436, 1, none⟩ = some (.int .i64 0) := b1 BK436 1; have hcz77_2 : w74.cell? ⟨gb436, 2, none⟩ = some (.int .i64 0) := b1 BK436 2; have hcz77_3 : w74.cell? ⟨gb436, 3, none⟩ = some (.bool false) := b1 BK436 3; have hfz77_0 := blk_frozen BK436.out 0; have hfz77_1 := blk_frozen BK436.out 1; have hfz77_2 := blk_frozen BK436.out 2; have hfz77_3 := blk_frozen BK436.out 3))
                      have n0_ : Aside0 (Kd.R (Kd.int .i64) 3 ((((w74.setCell ⟨gb436, 0, none⟩ (.int .i64 ((rd_T68 t424 x10_4).f0))).setCell ⟨gb436, 1, none⟩ (.int .i64 ((rd_T68 t424 x10_4).f1))).setCell ⟨gb436, 2, none⟩ (.int .i64 ((rd_T68 t424 x10_4).f2))).setCell ⟨gb436, 3, none⟩ (.bool ((rd_T68 t424 x10_4).f3))) w.heap.size (fun _ => True) v428 t427) := ⟨by (with_reducible repeat (first | apply Kd.R_alloc | apply Kd.R_drewN | apply Kd.R_drew)); exact Kd.R_mono (Kd.R_far (p := ⟨gb436, 3, none⟩) (Kd.R_far (p := ⟨gb436, 2, none⟩) (Kd.R_far (p := ⟨gb436, 1, none⟩) (Kd.R_far (p := ⟨gb436, 0, none⟩) (Kd.R_types HO_8.out BK436.out (by decide)) (fun _ hk => hk.2) (.int .i64 ((rd_T68 t424 x10_4).f0))) (fun _ hk => hk.2) (.int .i64 ((rd_T68 t424 x10_4).f1))) (fun _ hk => hk.2) (.int .i64 ((rd_T68 t424 x10_4).f2))) (fun _ hk => hk.2) (.bool ((rd_T68 t424 x10_4).f3))) (fun _ hk => trivial)⟩; have n1_ : Aside0 (Kd.R k68 68 ((((w74.setCell ⟨gb436, 0, none⟩ (.int .i64 ((rd_T68 t424 x10_4).f0))).setCell ⟨gb436, 1, none⟩ (.int .i64 ((rd_T68 t424 x10_4).f1))).setCell ⟨gb436, 2, none⟩ (.int .i64 ((rd_T68 t424 x10_4).f2))).setCell ⟨gb436, 3, none⟩ (.bool ((rd_T68 t424 x10_4).f3))) w.heap.size (fun k_ => some k_ ≠ (.slice (some ad435) t424.length co40 : Value).ownBlock ∧ k_ ≠ gb436) (.slice Ao12 t410.length co12) t410) := ⟨by (with_reducible repeat (first | apply Kd.R_alloc | apply Kd.R_drewN | apply Kd.R_drew)); exact Kd.R_mono (Kd.R_far (p := ⟨gb436, 3, none⟩) (Kd.R_far (p := ⟨gb436, 2, none⟩) (Kd.R_far (p := ⟨gb436, 1, none⟩) (Kd.R_far (p := ⟨gb436, 0, none⟩) (Kd.R_mono HO_415003.out (fun k_ hk => (⟨hk, hk.2⟩ : _ ∧ k_ ≠ gb436))) (fun _ hk => hk.2) (.int .i64 ((rd_T68 t424 x10_4).f0))) (fun _ hk => hk.2) (.int .i64 ((rd_T68 t424 x10_4).f1))) (fun _ hk => hk.2) (.int .i64 ((rd_T68 t424 x10_4).f2))) (fun _ hk => hk.2) (.bool ((rd_T68 t424 x10_4).f3))) (fun _ hk => ⟨hk.1.1, hk.1.2⟩)⟩; have n2_ : Aside0 (Kd.R k68 68 ((((w74.setCell ⟨gb436, 0, none⟩ (.int .i64 ((rd_T68 t424 x10_4).f0))).setCell ⟨gb436, 1, none⟩ (.int .i64 ((rd_T68 t424 x10_4).f1))).setCell ⟨gb436, 2, none⟩ (.int .i64 ((rd_T68 t424 x10_4).f2))).setCell ⟨gb436, 3, none⟩ (.bool ((rd_T68 t424 x10_4).f3))) w.heap.size (fun k_ => some k_ ≠ (.slice Ao12 t410.length co12 : Value).ownBlock ∧ k_ ≠ gb436) (.slice (some ad435) t424.length co40) t424) := ⟨by (with_reducible repeat (first | apply Kd.R_alloc | apply Kd.R_drewN | apply Kd.R_drew)); exact Kd.R_mono (Kd.R_far (p := ⟨gb436, 3, none⟩) (Kd.R_far (p := ⟨gb436, 2, none⟩) (Kd.R_far (p := ⟨gb436, 1, none⟩) (Kd.R_far (p := ⟨gb436, 0, none⟩) (Kd.R_mono HO_431003.out (fun k_ hk => (⟨hk, hk.2⟩ : _ ∧ k_ ≠ gb436))) (fun _ hk => hk.2) (.int .i64 ((rd_T68 t424 x10_4).f0))) (fun _ hk => hk.2) (.int .i64 ((rd_T68 t424 x10_4).f1))) (fun _ hk => hk.2) (.int .i64 ((rd_T68 t424 x10_4).f2))) (fun _ hk => hk.2) (.bool ((rd_T68 t424 x10_4).f3))) (fun _ hk => ⟨hk.1.1, hk.1.2⟩)⟩
                      have n3_ : Aside0 (((((w74.setCell ⟨gb436, 0, none⟩ (.int .i64 ((rd_T68 t424 x10_4).f0))).setCell ⟨gb436, 1, none⟩ (.int .i64 ((rd_T68 t424 x10_4).f1))).setCell ⟨gb436, 2, none⟩ (.int .i64 ((rd_T68 t424 x10_4).f2))).setCell ⟨gb436, 3, none⟩ (.bool ((rd_T68 t424 x10_4).f3))).heap[gb414]? = some (.cells #[.int .i64 t407, .int .i64 t408, .int .i64 t409, .slice Ao12 t410.length co12] 24 (0, 0))) := ⟨zB BK414.out⟩; have n4_ : Aside0 (((((w74.setCell ⟨gb436, 0, none⟩ (.int .i64 ((rd_T68 t424 x10_4).f0))).setCell ⟨gb436, 1, none⟩ (.int .i64 ((rd_T68 t424 x10_4).f1))).setCell ⟨gb436, 2, none⟩ (.int .i64 ((rd_T68 t424 x10_4).f2))).setCell ⟨gb436, 3, none⟩ (.bool ((rd_T68 t424 x10_4).f3))).heap[gb430]? = some (.cells #[.int .i64 t421, .int .i64 t422, .int .i64 t423, .slice (some ad435) t424.length co40] 24 (0, 0))) := ⟨zB BK430.out⟩; have n5_ : Aside0 (((((w74.setCell ⟨gb436, 0, none⟩ (.int .i64 ((rd_T68 t424 x10_4).f0))).setCell ⟨gb436, 1, none⟩ (.int .i64 ((rd_T68 t424 x10_4).f1))).setCell ⟨gb436, 2, none⟩ (.int .i64 ((rd_T68 t424 x10_4).f2))).setCell ⟨gb436, 3, none⟩ (.bool ((rd_T68 t424 x10_4).f3))).heap[gb436]? = some (.cells #[.int .i64 ((rd_T68 t424 x10_4).f0), .int .i64 ((rd_T68 t424 x10_4).f1), .int .i64 ((rd_T68 t424 x10_4).f2), .bool ((rd_T68 t424 x10_4).f3)] 68 (0, 0))) := ⟨by (with_reducible repeat (first | refine blk_drewN ?_ _ | refine blk_drew ?_ | refine blk_alloc ?_ _)); refine blk_put (cs := #[.int .i64 ((rd_T68 t424 x10_4).f0), .int .i64 ((rd_T68 t424 x10_4).f1), .int .i64 ((rd_T68 t424 x10_4).f2), .bool false]) ?_ 3 _ rfl; (with_reducible repeat (first | refine blk_drewN ?_ _ | refine blk_drew ?_ | refine blk_alloc ?_ _)); refine blk_put (cs := #[.int .i64 ((rd_T68 t424 x10_4).f0), .int .i64 ((rd_T68 t424 x10_4).f1), .int .i64 0, .bool false]) ?_ 2 _ rfl; (with_reducible repeat (first | refine blk_drewN ?_ _ | refine blk_drew ?_ | refine blk_alloc ?_ _)); refine blk_put (cs := #[.int .i64 ((rd_T68 t424 x10_4).f0), .int .i64 0, .int .i64 0, .bool false]) ?_ 1 _ rfl; (with_reducible repeat (first | refine blk_drewN ?_ _ | refine blk_drew ?_ | refine blk_alloc ?_ _)); refine blk_put (cs := #[.int .i64 0, .int .i64 0, .int .i64 0, .bool false]) ?_ 0 _ rfl; (with_reducible repeat (first | refine blk_drewN ?_ _ | refine blk_drew ?_ | refine blk_alloc ?_ _)); exact BK436.out⟩; have n6_ : Aside0 (Below w.heap.size w ((((w74.setCell ⟨gb436, 0, none⟩ (.int .i64 ((rd_T68 t424 x10_4).f0))).setCell ⟨gb436, 1, none⟩ (.int .i64 ((rd_T68 t424 x10_4).f1))).setCell ⟨gb436, 2, none⟩ (.int .i64 ((rd_T68 t424 x10_4).f2))).setCell ⟨gb436, 3, none⟩ (.bool ((rd_T68 t424 x10_4).f3)))) := ⟨zS HB.out⟩
                      (try clear HO_8)
                      (try clear HO_415003)
                      (try clear HO_431003)
                      (try clear BK414)
                      (try clear BK430)
                      (try clear BK436)
                      (try clear HB)
                      generalize ((((w74.setCell ⟨gb436, 0, none⟩ (.int .i64 ((rd_T68 t424 x10_4).f0))).setCell ⟨gb436, 1, none⟩ (.int .i64 ((rd_T68 t424 x10_4).f1))).setCell ⟨gb436, 2, none⟩ (.int .i64 ((rd_T68 t424 x10_4).f2))).setCell ⟨gb436, 3, none⟩ (.bool ((rd_T68 t424 x10_4).f3))) = w78 at n0_ n1_ n2_ n3_ n4_ n5_ n6_ ⊢; have HO_8 := n0_; have HO_415003 := n1_; have HO_431003 := n2_; have BK414 := n3_; have BK430 := n4_; have BK436 := n5_; have HB := n6_; clear n0_ n1_ n2_ n3_ n4_ n5_ n6_; replace HO_8 := Aside0.mk (Kd.R_drew HO_8.out); replace HO_415003 := Aside0.mk (Kd.R_drew HO_415003.out); replace HO_431003 := Aside0.mk (Kd.R_drew HO_431003.out); replace BK414 := Aside0.mk (blk_drew BK414.out); replace BK430 := Aside0.mk (blk_drew BK430.out); replace BK436 := Aside0.mk (blk_drew BK436.out); replace HB := Aside0.mk (below_drew1 HB.out); obtain ⟨Ao80, co80, eo80⟩ := Kd.R_slice HO_8.out
                      (first | subst eo80 | (injection eo80 with f1_ f2_ f3_; have f4_ := f1_.symm; have f5_ := f3_.symm; clear f1_ f2_ f3_; subst f4_; subst f5_))
                      have p437 : 0 ≤ (((rd_T68 t424 x10_4).f0) : Int) := oD; have q437 : ((rd_T68 t424 x10_4).f0) < (t427.length : Int) := oD; obtain ⟨ad437, e437, hx437_0⟩ := Kd.at_int (Kd.R_reads' HO_8.out).2.2 ((rd_T68 t424 x10_4).f0) p437 q437
                      cases e437
                      replace p437 := eq_true p437; replace q437 := eq_true q437; have p438 : 0 ≤ (((rd_T68 t424 x10_4).f2) : Int) := oD; have q438 : ((rd_T68 t424 x10_4).f2) < (t427.length : Int) := oD; obtain ⟨ad438, e438, hx438_0⟩ := Kd.at_int (Kd.R_reads' HO_8.out).2.2 ((rd_T68 t424 x10_4).f2) p438 q438; obtain rfl : ad437 = ad438 := (by injection e438); replace p438 := eq_true p438; replace q438 := eq_true q438; refine start_ (n := 19) (S := fun w' => w'.cell? ⟨gb414, 0, none⟩ = some (.int .i64 t407) ∧ w'.cell? ⟨gb414, 1, none⟩ = some (.int .i64 t408) ∧ w'.cell? ⟨gb414, 2, none⟩ = some (.int .i64 t409) ∧ w'.cell? ⟨gb414, 3, none⟩ = some (.slice Ao12 t410.length co12) ∧ w'.cell? ⟨gb436, 0, none⟩ = some (.int .i64 ((rd_T68 t424 x10_4).f0)) ∧ w'.cell? ⟨gb436, 1, none⟩ = some (.int .i64 ((rd_T68 t424 x10_4).f1)) ∧ w'.cell? ⟨gb436, 2, none⟩ = some (.int .i64 ((rd_T68 t424 x10_4).f2)) ∧ w'.cell? ⟨gb436, 3, none⟩ = some (.bool ((rd_T68 t424 x10_4).f3)) ∧ w'.cell? (ad437.add (((rd_T68 t424 x10_4).f0)).toNat) = some (.int .i64 (rd t427 ((rd_T68 t424 x10_4).f0))) ∧ w'.cell? (ad437.add (((rd_T68 t424 x10_4).f2)).toNat) = some (.int .i64 (rd t427 ((rd_T68 t424 x10_4).f2)))) (ds := []) bl25 (by kernel_rfl) rfl rfl ⟨b1 BK414 0, b1 BK414 1, b1 BK414 2, b1 BK414 3, b1 BK436 0, b1 BK436 1, b1 BK436 2, b1 BK436 3, hx437_0, hx438_0⟩ (fun hHeld => ?_); refine with_tabW laws_FnReach4.tab22 laws_FnReach4.bits22 (fun HT_ HW_ => ?_); generalize w78.drew = w79 at HO_8 HO_415003 HO_431003 BK414 BK430 BK436 HB hx437_0 hx438_0 hHeld ⊢
                      refine pu 1 (some 98) bl26 HT_ ?_ rfl rfl (.inl ⟨by rfl, ?_⟩) ?_ ?_ ?_; rotate_left; (intro w'; go_simp; with_reducible rfl); rotate_left; (simp only [Act.put, q5]; rfl)
                      refine pu 2 (some 99) bl27 HT_ ?_ rfl rfl (.inl ⟨by rfl, ?_⟩) ?_ ?_ ?_; rotate_left; (intro w'; go_simp; with_reducible rfl); rotate_left; (simp only [Act.put, q5]; rfl)
                      refine pu 6 (some 103) bl28 HT_ ?_ rfl rfl (.inl ⟨by rfl, ?_⟩) ?_ ?_ ?_; rotate_left; (intro w'; go_simp; with_reducible rfl); rotate_left; (simp only [Act.put, q5]; rfl)
                      refine pu 8 (some 105) bl29 HT_ ?_ rfl rfl (.inl ⟨by rfl, ?_⟩) ?_ ?_ ?_; rotate_left; (intro w'; go_simp; with_reducible rfl); rotate_left; (simp only [Act.put, q5]; rfl)
                      refine pu 9 (some 106) bl30 HT_ ?_ rfl rfl (.inl ⟨by rfl, ?_⟩) ?_ ?_ ?_; rotate_left; (intro w'; go_simp; with_reducible rfl); rotate_left; (simp only [Act.put, q5]; rfl)
                      refine take_ (i := 0) (N := some 97) (v := ?_) (a' := ?_) bl31 rfl rfl (take_ofW HT_.out HW_.out (by kernel_rfl)) (fun _ _ _ h => h) (Or.inl ⟨by rfl, ?_⟩) hHeld ?_ ?_; rotate_left
                      ·rintro w' ⟨s0, s1, s2, s3, s4, s5, s6, s7, s8, s9⟩; go_simp; with_reducible rfl
                      rotate_left
                      ·simp only [Act.put, q5]; rfl
                      refine take_ (i := 3) (N := some 100) (v := ?_) (a' := ?_) bl32 rfl rfl (take_ofW HT_.out HW_.out (by kernel_rfl)) (fun _ _ _ h => h) (Or.inl ⟨by rfl, ?_⟩) hHeld ?_ ?_; rotate_left
                      ·rintro w' ⟨s0, s1, s2, s3, s4, s5, s6, s7, s8, s9⟩; go_simp; with_reducible rfl
                      rotate_left
                      ·simp only [Act.put, q5]; rfl
                      refine pu 4 (some 101) bl33 HT_ ?_ rfl rfl (.inl ⟨by rfl, ?_⟩) ?_ ?_ ?_; rotate_left; (intro w'; go_simp; with_reducible rfl); rotate_left; (simp only [Act.put, q5]; rfl)
                      refine take_ (i := 5) (N := some 102) (v := ?_) (a' := ?_) bl34 rfl rfl (take_ofW HT_.out HW_.out (by kernel_rfl)) (fun _ _ _ h => h) (Or.inl ⟨by rfl, ?_⟩) hHeld ?_ ?_; rotate_left
                      ·rintro w' ⟨s0, s1, s2, s3, s4, s5, s6, s7, s8, s9⟩; go_simp; with_reducible rfl
                      rotate_left
                      ·simp only [Act.put, q5]; rfl
                      refine take_ (i := 7) (N := some 104) (v := ?_) (a' := ?_) bl35 rfl rfl (take_ofW HT_.out HW_.out (by kernel_rfl)) (fun _ _ _ h => h) (Or.inl ⟨by rfl, ?_⟩) hHeld ?_ ?_; rotate_left
                      ·rintro w' ⟨s0, s1, s2, s3, s4, s5, s6, s7, s8, s9⟩; go_simp; with_reducible rfl
                      rotate_left
                      ·simp only [Act.put, q5]; rfl
                      refine take_ (i := 10) (N := some 107) (v := ?_) (a' := ?_) bl36 rfl rfl (take_ofW HT_.out HW_.out (by kernel_rfl)) (fun _ _ _ h => h) (Or.inl ⟨by rfl, ?_⟩) hHeld ?_ ?_; rotate_left
                      ·rintro w' ⟨s0, s1, s2, s3, s4, s5, s6, s7, s8, s9⟩; go_simp; with_reducible rfl
                      rotate_left
                      ·simp only [Act.put, q5]; rfl
                      refine pu 11 (some 108) bl37 HT_ ?_ rfl rfl (.inl ⟨by rfl, ?_⟩) ?_ ?_ ?_; rotate_left; (intro w'; go_simp; with_reducible rfl); rotate_left; (simp only [Act.put, q5]; rfl)
                      refine take_ (i := 12) (N := some 109) (v := ?_) (a' := ?_) bl38 rfl rfl (take_ofW HT_.out HW_.out (by kernel_rfl)) (fun _ _ _ h => h) (Or.inl ⟨by rfl, ?_⟩) hHeld ?_ ?_; rotate_left
                      ·rintro w' ⟨s0, s1, s2, s3, s4, s5, s6, s7, s8, s9⟩; go_simp; with_reducible rfl
                      rotate_left
                      ·simp only [Act.put, q5]; rfl
                      refine one_ (i := 13) (N := some 110) bl39 rfl rfl (one_of HT_.out (by kernel_rfl)) (by decide) (fun K hK => ?_); refine goes_ Try.func29 (by kernel_rfl) rfl #[.agg #[.int .i64 t407, .int .i64 t408, .int .i64 t409, .slice Ao12 t410.length co12], .int .i64 (rd t427 ((rd_T68 t424 x10_4).f0)), .int .i64 ((rd_T68 t424 x10_4).f1), .int .i64 (rd t427 ((rd_T68 t424 x10_4).f2))] (by rfl) rfl rfl (by (try simp only [m3]); first | done | rfl | (simp only [d2]; rfl)) ?_
                      with_reducible refine (impl_AutoEdge.calls k4 t407 t408 t409 _ _ t410 (rd t427 ((rd_T68 t424 x10_4).f0)) ((rd_T68 t424 x10_4).f1) (rd t427 ((rd_T68 t424 x10_4).f2)) t439 true _ ?side1 ?side2 A69.out).mono ?_
                      (case side1 => exact zC (Kd.R_reads' HO_415003.out).2.2)
                      (case side2 => exact (Kd.R_reads' HO_415003.out).2.1)
                      rintro e w81 ⟨rfl, hb⟩; have HS8_ := (hb.cell (World.block_lt_of_cell? _ _ (hHeld.2.2.2.2.2.2.2.2.1))).trans (hHeld.2.2.2.2.2.2.2.2.1); have HS9_ := (hb.cell (World.block_lt_of_cell? _ _ (hHeld.2.2.2.2.2.2.2.2.2))).trans (hHeld.2.2.2.2.2.2.2.2.2); refine ⟨_, rfl, ?_⟩; replace HO_8 := xR HO_8 hb; replace HO_415003 := xR HO_415003 hb; replace HO_431003 := xR HO_431003 hb; replace BK414 := xB BK414 hb; replace BK430 := xB BK430 hb; replace BK436 := xB BK436 hb; replace HB := xS HB hb
                      (try clear hb)
                      (try clear hb2)
                      (try clear hk)
                      (try clear hi)
                      refine hK.out _ _ ⟨b1 BK414 0, b1 BK414 1, b1 BK414 2, b1 BK414 3, b1 BK436 0, b1 BK436 1, b1 BK436 2, b1 BK436 3, HS8_, HS9_⟩ (fun hHeld => ?_); clear hK K; refine norm_ (a' := ?_) ?_ ?_; rotate_left
                      ·show Act.put _ (some 110) _ = _; simp only [Act.put, q5]; rfl
                      refine pu 14 (some 96) bl40 HT_ ?_ rfl rfl (.inl ⟨by rfl, ?_⟩) ?_ ?_ ?_; rotate_left; (intro w'; go_simp; with_reducible rfl); rotate_left; (simp only [Act.put, q5]; rfl)
                      refine pu 15 (some 111) bl41 HT_ ?_ rfl rfl (.inl ⟨by rfl, ?_⟩) ?_ ?_ ?_; rotate_left; (intro w'; go_simp; with_reducible rfl); rotate_left; (simp only [Act.put, q5]; rfl)
                      refine pu 16 (some 112) bl42 HT_ ?_ rfl rfl (.inl ⟨by rfl, ?_⟩) ?_ ?_ ?_; rotate_left; (intro w'; go_simp; with_reducible rfl); rotate_left; (simp only [Act.put, q5]; rfl)
                      refine pu 17 (some 12) bl43 HT_ ?_ rfl rfl (.inl ⟨by rfl, ?_⟩) ?_ ?_ ?_; rotate_left; (intro w'; go_simp; with_reducible rfl); rotate_left; (simp only [Act.put, q5]; rfl)
                      refine pu 18 (some 13) bl44 HT_ ?_ rfl rfl (.inl ⟨by rfl, ?_⟩) ?_ ?_ ?_; rotate_left; (intro w'; go_simp; with_reducible rfl); rotate_left; (simp only [Act.put, q5]; rfl)
                      refine done_ (done_of HT_.out (by kernel_rfl)) ?_; have hcz82_0 : w81.cell? ⟨gb436, 0, none⟩ = some (.int .i64 ((rd_T68 t424 x10_4).f0)) := b1 BK436 0; have hcz82_1 : w81.cell? ⟨gb436, 1, none⟩ = some (.int .i64 ((rd_T68 t424 x10_4).f1)) := b1 BK436 1; have hcz82_2 : w81.cell? ⟨gb436, 2, none⟩ = some (.int .i64 ((rd_T68 t424 x10_4).f2)) := b1 BK436 2; have hcz82_3 : w81.cell? ⟨gb436, 3, none⟩ = some (.bool ((rd_T68 t424 x10_4).f3)) := b1 BK436 3; have hfz82_0 := blk_frozen BK436.out 0; have hfz82_1 := blk_frozen BK436.out 1; have hfz82_2 := blk_frozen BK436.out 2; have hfz82_3 := blk_frozen BK436.out 3
                      try go_wp2
                      go_ret; exact ⟨by first | rfl | (simp [errW_none, errW_some] <;> rfl) | (simp [*, errW_none, errW_some] <;> rfl), by repeat (first | (with_reducible first | exact HB.out | apply below_alloc | apply pw_below_drewN | apply below_drew1 | refine below_set ?_ GE414.out | refine below_set ?_ GE430.out | refine below_set ?_ GE436.out) | exact HB.out)⟩
                     ·rw [if_neg c71] at H
                      have c71b0 : (t439 != ((rd_T68 t424 x10_4).f3)) = false := by simpa using c71
                      (try (have c71b1 : decide (t439 = ((rd_T68 t424 x10_4).f3)) = true := by simpa using c71))
                      (try (have c71b2 : (t439 == ((rd_T68 t424 x10_4).f3)) = true := by simpa using c71))
                      clear c71; have H' := Aside0.mk H; clear H; have hnb83 := NB430_414.out; have hnc83 := NB414_430.out; have hcz84_0 : wr.cell? ⟨gb430, 0, none⟩ = some (.int .i64 t421) := b1 BK430 0; have hcz84_1 : wr.cell? ⟨gb430, 1, none⟩ = some (.int .i64 t422) := b1 BK430 1; have hcz84_2 : wr.cell? ⟨gb430, 2, none⟩ = some (.int .i64 t423) := b1 BK430 2; have hcz84_3 : wr.cell? ⟨gb430, 3, none⟩ = some (.slice Ao40 t424.length co40) := b1 BK430 3; have hfz84_0 := blk_frozen BK430.out 0; have hfz84_1 := blk_frozen BK430.out 1; have hfz84_2 := blk_frozen BK430.out 2; have hfz84_3 := blk_frozen BK430.out 3; have p435 : 0 ≤ (x10_4 : Int) := oD; have q435 : x10_4 < (t424.length : Int) := oD; obtain ⟨ad435, e435, hx435_0, hx435_1, hx435_2, hx435_3⟩ := at_T68 (Kd.R_reads' HO_431003.out).2.2 x10_4 p435 q435
                      cases e435
                      replace p435 := eq_true p435; replace q435 := eq_true q435
                      try go_wp2_with (first | ((with_reducible refine gate_dst (N := 11) rfl ?_); (try (refine gate_guard (by rfl) ?_; dsimp only)); refine box_event ?hg (N := 11) ?hd (cs := #[.int .i64 0, .int .i64 0, .int .i64 0, .bool false]) (t := 68) ?hr ?_; (case hd => rfl); (case hg => rfl); (case hr => first | (go_simp; done) | (go_simp; rfl)); intro gb436 hg w85 hbox hb; replace HO_8 := xR HO_8 hb; replace HO_415003 := Aside0.mk (Kd.R_below (Kd.R_elderB (zR HO_415003.out) gb436 (Nat.le_of_eq hg.symm)) hb); replace HO_431003 := Aside0.mk (Kd.R_below (Kd.R_elderB (zR HO_431003.out) gb436 (Nat.le_of_eq hg.symm)) hb); have BK436 := Aside0.mk (hbox); have GW436 := xG HB hg; have GE436 := xG HB hg; replace HB := xS HB hb; have NB414_436 := xN BK414 hg; have NB436_414 := xM BK414 hg; replace BK414 := xB BK414 hb; have NB430_436 := xN BK430 hg; have NB436_430 := xM BK430 hg; replace BK430 := xB BK430 hb; clear hb hbox hg; have hnb86 := NB436_414.out; have hnc86 := NB414_436.out; have hnb87 := NB436_430.out; have hnc87 := NB430_436.out; have hcz88_0 : w85.cell? ⟨gb436, 0, none⟩ = some (.int .i64 0) := b1 BK436 0; have hcz88_1 : w85.cell? ⟨gb436, 1, none⟩ = some (.int .i64 0) := b1 BK436 1; have hcz88_2 : w85.cell? ⟨gb436, 2, none⟩ = some (.int .i64 0) := b1 BK436 2; have hcz88_3 : w85.cell? ⟨gb436, 3, none⟩ = some (.bool false) := b1 BK436 3; have hfz88_0 := blk_frozen BK436.out 0; have hfz88_1 := blk_frozen BK436.out 1; have hfz88_2 := blk_frozen BK436.out 2; have hfz88_3 := blk_frozen BK436.out 3))
                      have n0_ : Aside0 (Kd.R (Kd.int .i64) 3 ((((w85.setCell ⟨gb436, 0, none⟩ (.int .i64 ((rd_T68 t424 x10_4).f0))).setCell ⟨gb436, 1, none⟩ (.int .i64 ((rd_T68 t424 x10_4).f1))).setCell ⟨gb436, 2, none⟩ (.int .i64 ((rd_T68 t424 x10_4).f2))).setCell ⟨gb436, 3, none⟩ (.bool ((rd_T68 t424 x10_4).f3))) w.heap.size (fun _ => True) v428 t427) := ⟨by (with_reducible repeat (first | apply Kd.R_alloc | apply Kd.R_drewN | apply Kd.R_drew)); exact Kd.R_mono (Kd.R_far (p := ⟨gb436, 3, none⟩) (Kd.R_far (p := ⟨gb436, 2, none⟩) (Kd.R_far (p := ⟨gb436, 1, none⟩) (Kd.R_far (p := ⟨gb436, 0, none⟩) (Kd.R_types HO_8.out BK436.out (by decide)) (fun _ hk => hk.2) (.int .i64 ((rd_T68 t424 x10_4).f0))) (fun _ hk => hk.2) (.int .i64 ((rd_T68 t424 x10_4).f1))) (fun _ hk => hk.2) (.int .i64 ((rd_T68 t424 x10_4).f2))) (fun _ hk => hk.2) (.bool ((rd_T68 t424 x10_4).f3))) (fun _ hk => trivial)⟩; have n1_ : Aside0 (Kd.R k68 68 ((((w85.setCell ⟨gb436, 0, none⟩ (.int .i64 ((rd_T68 t424 x10_4).f0))).setCell ⟨gb436, 1, none⟩ (.int .i64 ((rd_T68 t424 x10_4).f1))).setCell ⟨gb436, 2, none⟩ (.int .i64 ((rd_T68 t424 x10_4).f2))).setCell ⟨gb436, 3, none⟩ (.bool ((rd_T68 t424 x10_4).f3))) w.heap.size (fun k_ => some k_ ≠ (.slice (some ad435) t424.length co40 : Value).ownBlock ∧ k_ ≠ gb436) (.slice Ao12 t410.length co12) t410) := ⟨by (with_reducible repeat (first | apply Kd.R_alloc | apply Kd.R_drewN | apply Kd.R_drew)); exact Kd.R_mono (Kd.R_far (p := ⟨gb436, 3, none⟩) (Kd.R_far (p := ⟨gb436, 2, none⟩) (Kd.R_far (p := ⟨gb436, 1, none⟩) (Kd.R_far (p := ⟨gb436, 0, none⟩) (Kd.R_mono HO_415003.out (fun k_ hk => (⟨hk, hk.2⟩ : _ ∧ k_ ≠ gb436))) (fun _ hk => hk.2) (.int .i64 ((rd_T68 t424 x10_4).f0))) (fun _ hk => hk.2) (.int .i64 ((rd_T68 t424 x10_4).f1))) (fun _ hk => hk.2) (.int .i64 ((rd_T68 t424 x10_4).f2))) (fun _ hk => hk.2) (.bool ((rd_T68 t424 x10_4).f3))) (fun _ hk => ⟨hk.1.1, hk.1.2⟩)⟩; have n2_ : Aside0 (Kd.R k68 68 ((((w85.setCell ⟨gb436, 0, none⟩ (.int .i64 ((rd_T68 t424 x10_4).f0))).setCell ⟨gb436, 1, none⟩ (.int .i64 ((rd_T68 t424 x10_4).f1))).setCell ⟨gb436, 2, none⟩ (.int .i64 ((rd_T68 t424 x10_4).f2))).setCell ⟨gb436, 3, none⟩ (.bool ((rd_T68 t424 x10_4).f3))) w.heap.size (fun k_ => some k_ ≠ (.slice Ao12 t410.length co12 : Value).ownBlock ∧ k_ ≠ gb436) (.slice (some ad435) t424.length co40) t424) := ⟨by (with_reducible repeat (first | apply Kd.R_alloc | apply Kd.R_drewN | apply Kd.R_drew)); exact Kd.R_mono (Kd.R_far (p := ⟨gb436, 3, none⟩) (Kd.R_far (p := ⟨gb436, 2, none⟩) (Kd.R_far (p := ⟨gb436, 1, none⟩) (Kd.R_far (p := ⟨gb436, 0, none⟩) (Kd.R_mono HO_431003.out (fun k_ hk => (⟨hk, hk.2⟩ : _ ∧ k_ ≠ gb436))) (fun _ hk => hk.2) (.int .i64 ((rd_T68 t424 x10_4).f0))) (fun _ hk => hk.2) (.int .i64 ((rd_T68 t424 x10_4).f1))) (fun _ hk => hk.2) (.int .i64 ((rd_T68 t424 x10_4).f2))) (fun _ hk => hk.2) (.bool ((rd_T68 t424 x10_4).f3))) (fun _ hk => ⟨hk.1.1, hk.1.2⟩)⟩
                      have n3_ : Aside0 (((((w85.setCell ⟨gb436, 0, none⟩ (.int .i64 ((rd_T68 t424 x10_4).f0))).setCell ⟨gb436, 1, none⟩ (.int .i64 ((rd_T68 t424 x10_4).f1))).setCell ⟨gb436, 2, none⟩ (.int .i64 ((rd_T68 t424 x10_4).f2))).setCell ⟨gb436, 3, none⟩ (.bool ((rd_T68 t424 x10_4).f3))).heap[gb414]? = some (.cells #[.int .i64 t407, .int .i64 t408, .int .i64 t409, .slice Ao12 t410.length co12] 24 (0, 0))) := ⟨zB BK414.out⟩; have n4_ : Aside0 (((((w85.setCell ⟨gb436, 0, none⟩ (.int .i64 ((rd_T68 t424 x10_4).f0))).setCell ⟨gb436, 1, none⟩ (.int .i64 ((rd_T68 t424 x10_4).f1))).setCell ⟨gb436, 2, none⟩ (.int .i64 ((rd_T68 t424 x10_4).f2))).setCell ⟨gb436, 3, none⟩ (.bool ((rd_T68 t424 x10_4).f3))).heap[gb430]? = some (.cells #[.int .i64 t421, .int .i64 t422, .int .i64 t423, .slice (some ad435) t424.length co40] 24 (0, 0))) := ⟨zB BK430.out⟩; have n5_ : Aside0 (((((w85.setCell ⟨gb436, 0, none⟩ (.int .i64 ((rd_T68 t424 x10_4).f0))).setCell ⟨gb436, 1, none⟩ (.int .i64 ((rd_T68 t424 x10_4).f1))).setCell ⟨gb436, 2, none⟩ (.int .i64 ((rd_T68 t424 x10_4).f2))).setCell ⟨gb436, 3, none⟩ (.bool ((rd_T68 t424 x10_4).f3))).heap[gb436]? = some (.cells #[.int .i64 ((rd_T68 t424 x10_4).f0), .int .i64 ((rd_T68 t424 x10_4).f1), .int .i64 ((rd_T68 t424 x10_4).f2), .bool ((rd_T68 t424 x10_4).f3)] 68 (0, 0))) := ⟨by (with_reducible repeat (first | refine blk_drewN ?_ _ | refine blk_drew ?_ | refine blk_alloc ?_ _)); refine blk_put (cs := #[.int .i64 ((rd_T68 t424 x10_4).f0), .int .i64 ((rd_T68 t424 x10_4).f1), .int .i64 ((rd_T68 t424 x10_4).f2), .bool false]) ?_ 3 _ rfl; (with_reducible repeat (first | refine blk_drewN ?_ _ | refine blk_drew ?_ | refine blk_alloc ?_ _)); refine blk_put (cs := #[.int .i64 ((rd_T68 t424 x10_4).f0), .int .i64 ((rd_T68 t424 x10_4).f1), .int .i64 0, .bool false]) ?_ 2 _ rfl; (with_reducible repeat (first | refine blk_drewN ?_ _ | refine blk_drew ?_ | refine blk_alloc ?_ _)); refine blk_put (cs := #[.int .i64 ((rd_T68 t424 x10_4).f0), .int .i64 0, .int .i64 0, .bool false]) ?_ 1 _ rfl; (with_reducible repeat (first | refine blk_drewN ?_ _ | refine blk_drew ?_ | refine blk_alloc ?_ _)); refine blk_put (cs := #[.int .i64 0, .int .i64 0, .int .i64 0, .bool false]) ?_ 0 _ rfl; (with_reducible repeat (first | refine blk_drewN ?_ _ | refine blk_drew ?_ | refine blk_alloc ?_ _)); exact BK436.out⟩; have n6_ : Aside0 (Below w.heap.size w ((((w85.setCell ⟨gb436, 0, none⟩ (.int .i64 ((rd_T68 t424 x10_4).f0))).setCell ⟨gb436, 1, none⟩ (.int .i64 ((rd_T68 t424 x10_4).f1))).setCell ⟨gb436, 2, none⟩ (.int .i64 ((rd_T68 t424 x10_4).f2))).setCell ⟨gb436, 3, none⟩ (.bool ((rd_T68 t424 x10_4).f3)))) := ⟨zS HB.out⟩
                      (try clear HO_8)
                      (try clear HO_415003)
                      (try clear HO_431003)
                      (try clear BK414)
                      (try clear BK430)
                      (try clear BK436)
                      (try clear HB)
                      generalize ((((w85.setCell ⟨gb436, 0, none⟩ (.int .i64 ((rd_T68 t424 x10_4).f0))).setCell ⟨gb436, 1, none⟩ (.int .i64 ((rd_T68 t424 x10_4).f1))).setCell ⟨gb436, 2, none⟩ (.int .i64 ((rd_T68 t424 x10_4).f2))).setCell ⟨gb436, 3, none⟩ (.bool ((rd_T68 t424 x10_4).f3))) = w89 at n0_ n1_ n2_ n3_ n4_ n5_ n6_ ⊢; have HO_8 := n0_; have HO_415003 := n1_; have HO_431003 := n2_; have BK414 := n3_; have BK430 := n4_; have BK436 := n5_; have HB := n6_; clear n0_ n1_ n2_ n3_ n4_ n5_ n6_; replace HO_8 := Aside0.mk (Kd.R_drew HO_8.out); replace HO_415003 := Aside0.mk (Kd.R_drew HO_415003.out); replace HO_431003 := Aside0.mk (Kd.R_drew HO_431003.out); replace BK414 := Aside0.mk (blk_drew BK414.out); replace BK430 := Aside0.mk (blk_drew BK430.out); replace BK436 := Aside0.mk (blk_drew BK436.out); replace HB := Aside0.mk (below_drew1 HB.out); obtain ⟨Ao91, co91, eo91⟩ := Kd.R_slice HO_8.out
                      (first | subst eo91 | (injection eo91 with f1_ f2_ f3_; have f4_ := f1_.symm; have f5_ := f3_.symm; clear f1_ f2_ f3_; subst f4_; subst f5_))
                      have p437 : 0 ≤ (((rd_T68 t424 x10_4).f0) : Int) := oD; have q437 : ((rd_T68 t424 x10_4).f0) < (t427.length : Int) := oD; obtain ⟨ad437, e437, hx437_0⟩ := Kd.at_int (Kd.R_reads' HO_8.out).2.2 ((rd_T68 t424 x10_4).f0) p437 q437
                      cases e437
                      replace p437 := eq_true p437; replace q437 := eq_true q437; have p438 : 0 ≤ (((rd_T68 t424 x10_4).f2) : Int) := oD; have q438 : ((rd_T68 t424 x10_4).f2) < (t427.length : Int) := oD; obtain ⟨ad438, e438, hx438_0⟩ := Kd.at_int (Kd.R_reads' HO_8.out).2.2 ((rd_T68 t424 x10_4).f2) p438 q438; obtain rfl : ad437 = ad438 := (by injection e438); replace p438 := eq_true p438; replace q438 := eq_true q438; refine start_ (n := 19) (S := fun w' => w'.cell? ⟨gb414, 0, none⟩ = some (.int .i64 t407) ∧ w'.cell? ⟨gb414, 1, none⟩ = some (.int .i64 t408) ∧ w'.cell? ⟨gb414, 2, none⟩ = some (.int .i64 t409) ∧ w'.cell? ⟨gb414, 3, none⟩ = some (.slice Ao12 t410.length co12) ∧ w'.cell? ⟨gb436, 0, none⟩ = some (.int .i64 ((rd_T68 t424 x10_4).f0)) ∧ w'.cell? ⟨gb436, 1, none⟩ = some (.int .i64 ((rd_T68 t424 x10_4).f1)) ∧ w'.cell? ⟨gb436, 2, none⟩ = some (.int .i64 ((rd_T68 t424 x10_4).f2)) ∧ w'.cell? ⟨gb436, 3, none⟩ = some (.bool ((rd_T68 t424 x10_4).f3)) ∧ w'.cell? (ad437.add (((rd_T68 t424 x10_4).f0)).toNat) = some (.int .i64 (rd t427 ((rd_T68 t424 x10_4).f0))) ∧ w'.cell? (ad437.add (((rd_T68 t424 x10_4).f2)).toNat) = some (.int .i64 (rd t427 ((rd_T68 t424 x10_4).f2)))) (ds := []) bl25 (by kernel_rfl) rfl rfl ⟨b1 BK414 0, b1 BK414 1, b1 BK414 2, b1 BK414 3, b1 BK436 0, b1 BK436 1, b1 BK436 2, b1 BK436 3, hx437_0, hx438_0⟩ (fun hHeld => ?_); refine with_tabW laws_FnReach4.tab22 laws_FnReach4.bits22 (fun HT_ HW_ => ?_); generalize w89.drew = w90 at HO_8 HO_415003 HO_431003 BK414 BK430 BK436 HB hx437_0 hx438_0 hHeld ⊢
                      refine pu 1 (some 98) bl26 HT_ ?_ rfl rfl (.inl ⟨by rfl, ?_⟩) ?_ ?_ ?_; rotate_left; (intro w'; go_simp; with_reducible rfl); rotate_left; (simp only [Act.put, q5]; rfl)
                      refine pu 2 (some 99) bl27 HT_ ?_ rfl rfl (.inl ⟨by rfl, ?_⟩) ?_ ?_ ?_; rotate_left; (intro w'; go_simp; with_reducible rfl); rotate_left; (simp only [Act.put, q5]; rfl)
                      refine pu 6 (some 103) bl28 HT_ ?_ rfl rfl (.inl ⟨by rfl, ?_⟩) ?_ ?_ ?_; rotate_left; (intro w'; go_simp; with_reducible rfl); rotate_left; (simp only [Act.put, q5]; rfl)
                      refine pu 8 (some 105) bl29 HT_ ?_ rfl rfl (.inl ⟨by rfl, ?_⟩) ?_ ?_ ?_; rotate_left; (intro w'; go_simp; with_reducible rfl); rotate_left; (simp only [Act.put, q5]; rfl)
                      refine pu 9 (some 106) bl30 HT_ ?_ rfl rfl (.inl ⟨by rfl, ?_⟩) ?_ ?_ ?_; rotate_left; (intro w'; go_simp; with_reducible rfl); rotate_left; (simp only [Act.put, q5]; rfl)
                      refine take_ (i := 0) (N := some 97) (v := ?_) (a' := ?_) bl31 rfl rfl (take_ofW HT_.out HW_.out (by kernel_rfl)) (fun _ _ _ h => h) (Or.inl ⟨by rfl, ?_⟩) hHeld ?_ ?_; rotate_left
                      ·rintro w' ⟨s0, s1, s2, s3, s4, s5, s6, s7, s8, s9⟩; go_simp; with_reducible rfl
                      rotate_left
                      ·simp only [Act.put, q5]; rfl
                      refine take_ (i := 3) (N := some 100) (v := ?_) (a' := ?_) bl32 rfl rfl (take_ofW HT_.out HW_.out (by kernel_rfl)) (fun _ _ _ h => h) (Or.inl ⟨by rfl, ?_⟩) hHeld ?_ ?_; rotate_left
                      ·rintro w' ⟨s0, s1, s2, s3, s4, s5, s6, s7, s8, s9⟩; go_simp; with_reducible rfl
                      rotate_left
                      ·simp only [Act.put, q5]; rfl
                      refine pu 4 (some 101) bl33 HT_ ?_ rfl rfl (.inl ⟨by rfl, ?_⟩) ?_ ?_ ?_; rotate_left; (intro w'; go_simp; with_reducible rfl); rotate_left; (simp only [Act.put, q5]; rfl)
                      refine take_ (i := 5) (N := some 102) (v := ?_) (a' := ?_) bl34 rfl rfl (take_ofW HT_.out HW_.out (by kernel_rfl)) (fun _ _ _ h => h) (Or.inl ⟨by rfl, ?_⟩) hHeld ?_ ?_; rotate_left
                      ·rintro w' ⟨s0, s1, s2, s3, s4, s5, s6, s7, s8, s9⟩; go_simp; with_reducible rfl
                      rotate_left
                      ·simp only [Act.put, q5]; rfl
                      refine take_ (i := 7) (N := some 104) (v := ?_) (a' := ?_) bl35 rfl rfl (take_ofW HT_.out HW_.out (by kernel_rfl)) (fun _ _ _ h => h) (Or.inl ⟨by rfl, ?_⟩) hHeld ?_ ?_; rotate_left
                      ·rintro w' ⟨s0, s1, s2, s3, s4, s5, s6, s7, s8, s9⟩; go_simp; with_reducible rfl
                      rotate_left
                      ·simp only [Act.put, q5]; rfl
                      refine take_ (i := 10) (N := some 107) (v := ?_) (a' := ?_) bl36 rfl rfl (take_ofW HT_.out HW_.out (by kernel_rfl)) (fun _ _ _ h => h) (Or.inl ⟨by rfl, ?_⟩) hHeld ?_ ?_; rotate_left
                      ·rintro w' ⟨s0, s1, s2, s3, s4, s5, s6, s7, s8, s9⟩; go_simp; with_reducible rfl
                      rotate_left
                      ·simp only [Act.put, q5]; rfl
                      refine pu 11 (some 108) bl37 HT_ ?_ rfl rfl (.inl ⟨by rfl, ?_⟩) ?_ ?_ ?_; rotate_left; (intro w'; go_simp; with_reducible rfl); rotate_left; (simp only [Act.put, q5]; rfl)
                      refine take_ (i := 12) (N := some 109) (v := ?_) (a' := ?_) bl38 rfl rfl (take_ofW HT_.out HW_.out (by kernel_rfl)) (fun _ _ _ h => h) (Or.inl ⟨by rfl, ?_⟩) hHeld ?_ ?_; rotate_left
                      ·rintro w' ⟨s0, s1, s2, s3, s4, s5, s6, s7, s8, s9⟩; go_simp; with_reducible rfl
                      rotate_left
                      ·simp only [Act.put, q5]; rfl
                      refine one_ (i := 13) (N := some 110) bl39 rfl rfl (one_of HT_.out (by kernel_rfl)) (by decide) (fun K hK => ?_); refine goes_ Try.func29 (by kernel_rfl) rfl #[.agg #[.int .i64 t407, .int .i64 t408, .int .i64 t409, .slice Ao12 t410.length co12], .int .i64 (rd t427 ((rd_T68 t424 x10_4).f0)), .int .i64 ((rd_T68 t424 x10_4).f1), .int .i64 (rd t427 ((rd_T68 t424 x10_4).f2))] (by rfl) rfl rfl (by (try simp only [m3]); first | done | rfl | (simp only [d2]; rfl)) ?_
                      with_reducible refine (impl_AutoEdge.calls k4 t407 t408 t409 _ _ t410 (rd t427 ((rd_T68 t424 x10_4).f0)) ((rd_T68 t424 x10_4).f1) (rd t427 ((rd_T68 t424 x10_4).f2)) t439 true _ ?side1 ?side2 A69.out).mono ?_
                      (case side1 => exact zC (Kd.R_reads' HO_415003.out).2.2)
                      (case side2 => exact (Kd.R_reads' HO_415003.out).2.1)
                      rintro e w92 ⟨rfl, hb⟩; have HS8_ := (hb.cell (World.block_lt_of_cell? _ _ (hHeld.2.2.2.2.2.2.2.2.1))).trans (hHeld.2.2.2.2.2.2.2.2.1); have HS9_ := (hb.cell (World.block_lt_of_cell? _ _ (hHeld.2.2.2.2.2.2.2.2.2))).trans (hHeld.2.2.2.2.2.2.2.2.2); refine ⟨_, rfl, ?_⟩; replace HO_8 := xR HO_8 hb; replace HO_415003 := xR HO_415003 hb; replace HO_431003 := xR HO_431003 hb; replace BK414 := xB BK414 hb; replace BK430 := xB BK430 hb; replace BK436 := xB BK436 hb; replace HB := xS HB hb
                      (try clear hb)
                      (try clear hb2)
                      (try clear hk)
                      (try clear hi)
                      refine hK.out _ _ ⟨b1 BK414 0, b1 BK414 1, b1 BK414 2, b1 BK414 3, b1 BK436 0, b1 BK436 1, b1 BK436 2, b1 BK436 3, HS8_, HS9_⟩ (fun hHeld => ?_); clear hK K; refine norm_ (a' := ?_) ?_ ?_; rotate_left
                      ·show Act.put _ (some 110) _ = _; simp only [Act.put, q5]; rfl
                      refine pu 14 (some 96) bl40 HT_ ?_ rfl rfl (.inl ⟨by rfl, ?_⟩) ?_ ?_ ?_; rotate_left; (intro w'; go_simp; with_reducible rfl); rotate_left; (simp only [Act.put, q5]; rfl)
                      refine pu 15 (some 111) bl41 HT_ ?_ rfl rfl (.inl ⟨by rfl, ?_⟩) ?_ ?_ ?_; rotate_left; (intro w'; go_simp; with_reducible rfl); rotate_left; (simp only [Act.put, q5]; rfl)
                      refine pu 16 (some 112) bl42 HT_ ?_ rfl rfl (.inl ⟨by rfl, ?_⟩) ?_ ?_ ?_; rotate_left; (intro w'; go_simp; with_reducible rfl); rotate_left; (simp only [Act.put, q5]; rfl)
                      refine pu 17 (some 12) bl43 HT_ ?_ rfl rfl (.inl ⟨by rfl, ?_⟩) ?_ ?_ ?_; rotate_left; (intro w'; go_simp; with_reducible rfl); rotate_left; (simp only [Act.put, q5]; rfl)
                      refine pu 18 (some 13) bl44 HT_ ?_ rfl rfl (.inl ⟨by rfl, ?_⟩) ?_ ?_ ?_; rotate_left; (intro w'; go_simp; with_reducible rfl); rotate_left; (simp only [Act.put, q5]; rfl)
                      refine done_ (done_of HT_.out (by kernel_rfl)) ?_; have hcz93_0 : w92.cell? ⟨gb436, 0, none⟩ = some (.int .i64 ((rd_T68 t424 x10_4).f0)) := b1 BK436 0; have hcz93_1 : w92.cell? ⟨gb436, 1, none⟩ = some (.int .i64 ((rd_T68 t424 x10_4).f1)) := b1 BK436 1; have hcz93_2 : w92.cell? ⟨gb436, 2, none⟩ = some (.int .i64 ((rd_T68 t424 x10_4).f2)) := b1 BK436 2; have hcz93_3 : w92.cell? ⟨gb436, 3, none⟩ = some (.bool ((rd_T68 t424 x10_4).f3)) := b1 BK436 3; have hfz93_0 := blk_frozen BK436.out 0; have hfz93_1 := blk_frozen BK436.out 1; have hfz93_2 := blk_frozen BK436.out 2; have hfz93_3 := blk_frozen BK436.out 3
                      try go_wp2
                      go_roundg k4
                      case measure => have := HJ7.out; have := HK2.out; have := HJ33.out; have := HK4.out; omega
                      case rel => exact ⟨(wrap64 (x10_4 + 1)), (by first | rfl | (simp; done) | (simp [*]; done) | (rw [Int.tmod_eq_emod_of_nonneg (Int.natCast_nonneg _)]; done)), H', ⟨by have := HJ7.out; have := HK2.out; have := HJ33.out; have := HK4.out; omega⟩, ⟨zR HO_8.out⟩, ⟨by (with_reducible repeat (first | apply Kd.R_alloc | apply Kd.R_drewN | apply Kd.R_drew)); exact Kd.R_mono HO_415003.out (fun _ hk => hk.1)⟩, ⟨by (with_reducible repeat (first | apply Kd.R_alloc | apply Kd.R_drewN | apply Kd.R_drew)); exact Kd.R_mono HO_431003.out (fun _ hk => hk.1)⟩, ⟨zB BK414.out⟩, ⟨zB BK430.out⟩, ⟨zS HB.out⟩⟩
                    ·replace c70 := Bool.eq_false_iff.mpr c70; subst c70
                     have H1 : (some false) = some r := by rw [if_neg (show ¬ (false = true) by decide)] at H; exact H
                     clear H; have H := H1; clear H1; obtain rfl := Option.some.inj H; have hnb94 := NB430_414.out; have hnc94 := NB414_430.out; have hcz95_0 : wr.cell? ⟨gb430, 0, none⟩ = some (.int .i64 t421) := b1 BK430 0; have hcz95_1 : wr.cell? ⟨gb430, 1, none⟩ = some (.int .i64 t422) := b1 BK430 1; have hcz95_2 : wr.cell? ⟨gb430, 2, none⟩ = some (.int .i64 t423) := b1 BK430 2; have hcz95_3 : wr.cell? ⟨gb430, 3, none⟩ = some (.slice Ao40 t424.length co40) := b1 BK430 3; have hfz95_0 := blk_frozen BK430.out 0; have hfz95_1 := blk_frozen BK430.out 1; have hfz95_2 := blk_frozen BK430.out 2; have hfz95_3 := blk_frozen BK430.out 3; have p435 : 0 ≤ (x10_4 : Int) := oD; have q435 : x10_4 < (t424.length : Int) := oD; obtain ⟨ad435, e435, hx435_0, hx435_1, hx435_2, hx435_3⟩ := at_T68 (Kd.R_reads' HO_431003.out).2.2 x10_4 p435 q435
                     cases e435
                     replace p435 := eq_true p435; replace q435 := eq_true q435
                     try go_wp2_with (first | ((with_reducible refine gate_dst (N := 11) rfl ?_); (try (refine gate_guard (by rfl) ?_; dsimp only)); refine box_event ?hg (N := 11) ?hd (cs := #[.int .i64 0, .int .i64 0, .int .i64 0, .bool false]) (t := 68) ?hr ?_; (case hd => rfl); (case hg => rfl); (case hr => first | (go_simp; done) | (go_simp; rfl)); intro gb436 hg w96 hbox hb; replace HO_8 := xR HO_8 hb; replace HO_415003 := Aside0.mk (Kd.R_below (Kd.R_elderB (zR HO_415003.out) gb436 (Nat.le_of_eq hg.symm)) hb); replace HO_431003 := Aside0.mk (Kd.R_below (Kd.R_elderB (zR HO_431003.out) gb436 (Nat.le_of_eq hg.symm)) hb); have BK436 := Aside0.mk (hbox); have GW436 := xG HB hg; have GE436 := xG HB hg; replace HB := xS HB hb; have NB414_436 := xN BK414 hg; have NB436_414 := xM BK414 hg; replace BK414 := xB BK414 hb; have NB430_436 := xN BK430 hg; have NB436_430 := xM BK430 hg; replace BK430 := xB BK430 hb; clear hb hbox hg; have hnb97 := NB436_414.out; have hnc97 := NB414_436.out; have hnb98 := NB436_430.out; have hnc98 := NB430_436.out; have hcz99_0 : w96.cell? ⟨gb436, 0, none⟩ = some (.int .i64 0) := b1 BK436 0; have hcz99_1 : w96.cell? ⟨gb436, 1, none⟩ = some (.int .i64 0) := b1 BK436 1; have hcz99_2 : w96.cell? ⟨gb436, 2, none⟩ = some (.int .i64 0) := b1 BK436 2; have hcz99_3 : w96.cell? ⟨gb436, 3, none⟩ = some (.bool false) := b1 BK436 3; have hfz99_0 := blk_frozen BK436.out 0; have hfz99_1 := blk_frozen BK436.out 1; have hfz99_2 := blk_frozen BK436.out 2; have hfz99_3 := blk_frozen BK436.out 3))
                     have n0_ : Aside0 (Kd.R (Kd.int .i64) 3 ((((w96.setCell ⟨gb436, 0, none⟩ (.int .i64 ((rd_T68 t424 x10_4).f0))).setCell ⟨gb436, 1, none⟩ (.int .i64 ((rd_T68 t424 x10_4).f1))).setCell ⟨gb436, 2, none⟩ (.int .i64 ((rd_T68 t424 x10_4).f2))).setCell ⟨gb436, 3, none⟩ (.bool ((rd_T68 t424 x10_4).f3))) w.heap.size (fun _ => True) v428 t427) := ⟨by (with_reducible repeat (first | apply Kd.R_alloc | apply Kd.R_drewN | apply Kd.R_drew)); exact Kd.R_mono (Kd.R_far (p := ⟨gb436, 3, none⟩) (Kd.R_far (p := ⟨gb436, 2, none⟩) (Kd.R_far (p := ⟨gb436, 1, none⟩) (Kd.R_far (p := ⟨gb436, 0, none⟩) (Kd.R_types HO_8.out BK436.out (by decide)) (fun _ hk => hk.2) (.int .i64 ((rd_T68 t424 x10_4).f0))) (fun _ hk => hk.2) (.int .i64 ((rd_T68 t424 x10_4).f1))) (fun _ hk => hk.2) (.int .i64 ((rd_T68 t424 x10_4).f2))) (fun _ hk => hk.2) (.bool ((rd_T68 t424 x10_4).f3))) (fun _ hk => trivial)⟩; have n1_ : Aside0 (Kd.R k68 68 ((((w96.setCell ⟨gb436, 0, none⟩ (.int .i64 ((rd_T68 t424 x10_4).f0))).setCell ⟨gb436, 1, none⟩ (.int .i64 ((rd_T68 t424 x10_4).f1))).setCell ⟨gb436, 2, none⟩ (.int .i64 ((rd_T68 t424 x10_4).f2))).setCell ⟨gb436, 3, none⟩ (.bool ((rd_T68 t424 x10_4).f3))) w.heap.size (fun k_ => some k_ ≠ (.slice (some ad435) t424.length co40 : Value).ownBlock ∧ k_ ≠ gb436) (.slice Ao12 t410.length co12) t410) := ⟨by (with_reducible repeat (first | apply Kd.R_alloc | apply Kd.R_drewN | apply Kd.R_drew)); exact Kd.R_mono (Kd.R_far (p := ⟨gb436, 3, none⟩) (Kd.R_far (p := ⟨gb436, 2, none⟩) (Kd.R_far (p := ⟨gb436, 1, none⟩) (Kd.R_far (p := ⟨gb436, 0, none⟩) (Kd.R_mono HO_415003.out (fun k_ hk => (⟨hk, hk.2⟩ : _ ∧ k_ ≠ gb436))) (fun _ hk => hk.2) (.int .i64 ((rd_T68 t424 x10_4).f0))) (fun _ hk => hk.2) (.int .i64 ((rd_T68 t424 x10_4).f1))) (fun _ hk => hk.2) (.int .i64 ((rd_T68 t424 x10_4).f2))) (fun _ hk => hk.2) (.bool ((rd_T68 t424 x10_4).f3))) (fun _ hk => ⟨hk.1.1, hk.1.2⟩)⟩; have n2_ : Aside0 (Kd.R k68 68 ((((w96.setCell ⟨gb436, 0, none⟩ (.int .i64 ((rd_T68 t424 x10_4).f0))).setCell ⟨gb436, 1, none⟩ (.int .i64 ((rd_T68 t424 x10_4).f1))).setCell ⟨gb436, 2, none⟩ (.int .i64 ((rd_T68 t424 x10_4).f2))).setCell ⟨gb436, 3, none⟩ (.bool ((rd_T68 t424 x10_4).f3))) w.heap.size (fun k_ => some k_ ≠ (.slice Ao12 t410.length co12 : Value).ownBlock ∧ k_ ≠ gb436) (.slice (some ad435) t424.length co40) t424) := ⟨by (with_reducible repeat (first | apply Kd.R_alloc | apply Kd.R_drewN | apply Kd.R_drew)); exact Kd.R_mono (Kd.R_far (p := ⟨gb436, 3, none⟩) (Kd.R_far (p := ⟨gb436, 2, none⟩) (Kd.R_far (p := ⟨gb436, 1, none⟩) (Kd.R_far (p := ⟨gb436, 0, none⟩) (Kd.R_mono HO_431003.out (fun k_ hk => (⟨hk, hk.2⟩ : _ ∧ k_ ≠ gb436))) (fun _ hk => hk.2) (.int .i64 ((rd_T68 t424 x10_4).f0))) (fun _ hk => hk.2) (.int .i64 ((rd_T68 t424 x10_4).f1))) (fun _ hk => hk.2) (.int .i64 ((rd_T68 t424 x10_4).f2))) (fun _ hk => hk.2) (.bool ((rd_T68 t424 x10_4).f3))) (fun _ hk => ⟨hk.1.1, hk.1.2⟩)⟩
                     have n3_ : Aside0 (((((w96.setCell ⟨gb436, 0, none⟩ (.int .i64 ((rd_T68 t424 x10_4).f0))).setCell ⟨gb436, 1, none⟩ (.int .i64 ((rd_T68 t424 x10_4).f1))).setCell ⟨gb436, 2, none⟩ (.int .i64 ((rd_T68 t424 x10_4).f2))).setCell ⟨gb436, 3, none⟩ (.bool ((rd_T68 t424 x10_4).f3))).heap[gb414]? = some (.cells #[.int .i64 t407, .int .i64 t408, .int .i64 t409, .slice Ao12 t410.length co12] 24 (0, 0))) := ⟨zB BK414.out⟩; have n4_ : Aside0 (((((w96.setCell ⟨gb436, 0, none⟩ (.int .i64 ((rd_T68 t424 x10_4).f0))).setCell ⟨gb436, 1, none⟩ (.int .i64 ((rd_T68 t424 x10_4).f1))).setCell ⟨gb436, 2, none⟩ (.int .i64 ((rd_T68 t424 x10_4).f2))).setCell ⟨gb436, 3, none⟩ (.bool ((rd_T68 t424 x10_4).f3))).heap[gb430]? = some (.cells #[.int .i64 t421, .int .i64 t422, .int .i64 t423, .slice (some ad435) t424.length co40] 24 (0, 0))) := ⟨zB BK430.out⟩; have n5_ : Aside0 (((((w96.setCell ⟨gb436, 0, none⟩ (.int .i64 ((rd_T68 t424 x10_4).f0))).setCell ⟨gb436, 1, none⟩ (.int .i64 ((rd_T68 t424 x10_4).f1))).setCell ⟨gb436, 2, none⟩ (.int .i64 ((rd_T68 t424 x10_4).f2))).setCell ⟨gb436, 3, none⟩ (.bool ((rd_T68 t424 x10_4).f3))).heap[gb436]? = some (.cells #[.int .i64 ((rd_T68 t424 x10_4).f0), .int .i64 ((rd_T68 t424 x10_4).f1), .int .i64 ((rd_T68 t424 x10_4).f2), .bool ((rd_T68 t424 x10_4).f3)] 68 (0, 0))) := ⟨by (with_reducible repeat (first | refine blk_drewN ?_ _ | refine blk_drew ?_ | refine blk_alloc ?_ _)); refine blk_put (cs := #[.int .i64 ((rd_T68 t424 x10_4).f0), .int .i64 ((rd_T68 t424 x10_4).f1), .int .i64 ((rd_T68 t424 x10_4).f2), .bool false]) ?_ 3 _ rfl; (with_reducible repeat (first | refine blk_drewN ?_ _ | refine blk_drew ?_ | refine blk_alloc ?_ _)); refine blk_put (cs := #[.int .i64 ((rd_T68 t424 x10_4).f0), .int .i64 ((rd_T68 t424 x10_4).f1), .int .i64 0, .bool false]) ?_ 2 _ rfl; (with_reducible repeat (first | refine blk_drewN ?_ _ | refine blk_drew ?_ | refine blk_alloc ?_ _)); refine blk_put (cs := #[.int .i64 ((rd_T68 t424 x10_4).f0), .int .i64 0, .int .i64 0, .bool false]) ?_ 1 _ rfl; (with_reducible repeat (first | refine blk_drewN ?_ _ | refine blk_drew ?_ | refine blk_alloc ?_ _)); refine blk_put (cs := #[.int .i64 0, .int .i64 0, .int .i64 0, .bool false]) ?_ 0 _ rfl; (with_reducible repeat (first | refine blk_drewN ?_ _ | refine blk_drew ?_ | refine blk_alloc ?_ _)); exact BK436.out⟩; have n6_ : Aside0 (Below w.heap.size w ((((w96.setCell ⟨gb436, 0, none⟩ (.int .i64 ((rd_T68 t424 x10_4).f0))).setCell ⟨gb436, 1, none⟩ (.int .i64 ((rd_T68 t424 x10_4).f1))).setCell ⟨gb436, 2, none⟩ (.int .i64 ((rd_T68 t424 x10_4).f2))).setCell ⟨gb436, 3, none⟩ (.bool ((rd_T68 t424 x10_4).f3)))) := ⟨zS HB.out⟩
                     (try clear HO_8)
                     (try clear HO_415003)
                     (try clear HO_431003)
                     (try clear BK414)
                     (try clear BK430)
                     (try clear BK436)
                     (try clear HB)
                     generalize ((((w96.setCell ⟨gb436, 0, none⟩ (.int .i64 ((rd_T68 t424 x10_4).f0))).setCell ⟨gb436, 1, none⟩ (.int .i64 ((rd_T68 t424 x10_4).f1))).setCell ⟨gb436, 2, none⟩ (.int .i64 ((rd_T68 t424 x10_4).f2))).setCell ⟨gb436, 3, none⟩ (.bool ((rd_T68 t424 x10_4).f3))) = w100 at n0_ n1_ n2_ n3_ n4_ n5_ n6_ ⊢; have HO_8 := n0_; have HO_415003 := n1_; have HO_431003 := n2_; have BK414 := n3_; have BK430 := n4_; have BK436 := n5_; have HB := n6_; clear n0_ n1_ n2_ n3_ n4_ n5_ n6_; replace HO_8 := Aside0.mk (Kd.R_drew HO_8.out); replace HO_415003 := Aside0.mk (Kd.R_drew HO_415003.out); replace HO_431003 := Aside0.mk (Kd.R_drew HO_431003.out); replace BK414 := Aside0.mk (blk_drew BK414.out); replace BK430 := Aside0.mk (blk_drew BK430.out); replace BK436 := Aside0.mk (blk_drew BK436.out); replace HB := Aside0.mk (below_drew1 HB.out); obtain ⟨Ao102, co102, eo102⟩ := Kd.R_slice HO_8.out
                     (first | subst eo102 | (injection eo102 with f1_ f2_ f3_; have f4_ := f1_.symm; have f5_ := f3_.symm; clear f1_ f2_ f3_; subst f4_; subst f5_))
                     have p437 : 0 ≤ (((rd_T68 t424 x10_4).f0) : Int) := oD; have q437 : ((rd_T68 t424 x10_4).f0) < (t427.length : Int) := oD; obtain ⟨ad437, e437, hx437_0⟩ := Kd.at_int (Kd.R_reads' HO_8.out).2.2 ((rd_T68 t424 x10_4).f0) p437 q437
                     cases e437
                     replace p437 := eq_true p437; replace q437 := eq_true q437; have p438 : 0 ≤ (((rd_T68 t424 x10_4).f2) : Int) := oD; have q438 : ((rd_T68 t424 x10_4).f2) < (t427.length : Int) := oD; obtain ⟨ad438, e438, hx438_0⟩ := Kd.at_int (Kd.R_reads' HO_8.out).2.2 ((rd_T68 t424 x10_4).f2) p438 q438; obtain rfl : ad437 = ad438 := (by injection e438); replace p438 := eq_true p438; replace q438 := eq_true q438; refine start_ (n := 19) (S := fun w' => w'.cell? ⟨gb414, 0, none⟩ = some (.int .i64 t407) ∧ w'.cell? ⟨gb414, 1, none⟩ = some (.int .i64 t408) ∧ w'.cell? ⟨gb414, 2, none⟩ = some (.int .i64 t409) ∧ w'.cell? ⟨gb414, 3, none⟩ = some (.slice Ao12 t410.length co12) ∧ w'.cell? ⟨gb436, 0, none⟩ = some (.int .i64 ((rd_T68 t424 x10_4).f0)) ∧ w'.cell? ⟨gb436, 1, none⟩ = some (.int .i64 ((rd_T68 t424 x10_4).f1)) ∧ w'.cell? ⟨gb436, 2, none⟩ = some (.int .i64 ((rd_T68 t424 x10_4).f2)) ∧ w'.cell? ⟨gb436, 3, none⟩ = some (.bool ((rd_T68 t424 x10_4).f3)) ∧ w'.cell? (ad437.add (((rd_T68 t424 x10_4).f0)).toNat) = some (.int .i64 (rd t427 ((rd_T68 t424 x10_4).f0))) ∧ w'.cell? (ad437.add (((rd_T68 t424 x10_4).f2)).toNat) = some (.int .i64 (rd t427 ((rd_T68 t424 x10_4).f2)))) (ds := []) bl25 (by kernel_rfl) rfl rfl ⟨b1 BK414 0, b1 BK414 1, b1 BK414 2, b1 BK414 3, b1 BK436 0, b1 BK436 1, b1 BK436 2, b1 BK436 3, hx437_0, hx438_0⟩ (fun hHeld => ?_); refine with_tabW laws_FnReach4.tab22 laws_FnReach4.bits22 (fun HT_ HW_ => ?_); generalize w100.drew = w101 at HO_8 HO_415003 HO_431003 BK414 BK430 BK436 HB hx437_0 hx438_0 hHeld ⊢
                     refine pu 1 (some 98) bl26 HT_ ?_ rfl rfl (.inl ⟨by rfl, ?_⟩) ?_ ?_ ?_; rotate_left; (intro w'; go_simp; with_reducible rfl); rotate_left; (simp only [Act.put, q5]; rfl)
                     refine pu 2 (some 99) bl27 HT_ ?_ rfl rfl (.inl ⟨by rfl, ?_⟩) ?_ ?_ ?_; rotate_left; (intro w'; go_simp; with_reducible rfl); rotate_left; (simp only [Act.put, q5]; rfl)
                     refine pu 6 (some 103) bl28 HT_ ?_ rfl rfl (.inl ⟨by rfl, ?_⟩) ?_ ?_ ?_; rotate_left; (intro w'; go_simp; with_reducible rfl); rotate_left; (simp only [Act.put, q5]; rfl)
                     refine pu 8 (some 105) bl29 HT_ ?_ rfl rfl (.inl ⟨by rfl, ?_⟩) ?_ ?_ ?_; rotate_left; (intro w'; go_simp; with_reducible rfl); rotate_left; (simp only [Act.put, q5]; rfl)
                     refine pu 9 (some 106) bl30 HT_ ?_ rfl rfl (.inl ⟨by rfl, ?_⟩) ?_ ?_ ?_; rotate_left; (intro w'; go_simp; with_reducible rfl); rotate_left; (simp only [Act.put, q5]; rfl)
                     refine take_ (i := 0) (N := some 97) (v := ?_) (a' := ?_) bl31 rfl rfl (take_ofW HT_.out HW_.out (by kernel_rfl)) (fun _ _ _ h => h) (Or.inl ⟨by rfl, ?_⟩) hHeld ?_ ?_; rotate_left
                     ·rintro w' ⟨s0, s1, s2, s3, s4, s5, s6, s7, s8, s9⟩; go_simp; with_reducible rfl
                     rotate_left
                     ·simp only [Act.put, q5]; rfl
                     refine take_ (i := 3) (N := some 100) (v := ?_) (a' := ?_) bl32 rfl rfl (take_ofW HT_.out HW_.out (by kernel_rfl)) (fun _ _ _ h => h) (Or.inl ⟨by rfl, ?_⟩) hHeld ?_ ?_; rotate_left
                     ·rintro w' ⟨s0, s1, s2, s3, s4, s5, s6, s7, s8, s9⟩; go_simp; with_reducible rfl
                     rotate_left
                     ·simp only [Act.put, q5]; rfl
                     refine pu 4 (some 101) bl33 HT_ ?_ rfl rfl (.inl ⟨by rfl, ?_⟩) ?_ ?_ ?_; rotate_left; (intro w'; go_simp; with_reducible rfl); rotate_left; (simp only [Act.put, q5]; rfl)
                     refine take_ (i := 5) (N := some 102) (v := ?_) (a' := ?_) bl34 rfl rfl (take_ofW HT_.out HW_.out (by kernel_rfl)) (fun _ _ _ h => h) (Or.inl ⟨by rfl, ?_⟩) hHeld ?_ ?_; rotate_left
                     ·rintro w' ⟨s0, s1, s2, s3, s4, s5, s6, s7, s8, s9⟩; go_simp; with_reducible rfl
                     rotate_left
                     ·simp only [Act.put, q5]; rfl
                     refine take_ (i := 7) (N := some 104) (v := ?_) (a' := ?_) bl35 rfl rfl (take_ofW HT_.out HW_.out (by kernel_rfl)) (fun _ _ _ h => h) (Or.inl ⟨by rfl, ?_⟩) hHeld ?_ ?_; rotate_left
                     ·rintro w' ⟨s0, s1, s2, s3, s4, s5, s6, s7, s8, s9⟩; go_simp; with_reducible rfl
                     rotate_left
                     ·simp only [Act.put, q5]; rfl
                     refine take_ (i := 10) (N := some 107) (v := ?_) (a' := ?_) bl36 rfl rfl (take_ofW HT_.out HW_.out (by kernel_rfl)) (fun _ _ _ h => h) (Or.inl ⟨by rfl, ?_⟩) hHeld ?_ ?_; rotate_left
                     ·rintro w' ⟨s0, s1, s2, s3, s4, s5, s6, s7, s8, s9⟩; go_simp; with_reducible rfl
                     rotate_left
                     ·simp only [Act.put, q5]; rfl
                     refine pu 11 (some 108) bl37 HT_ ?_ rfl rfl (.inl ⟨by rfl, ?_⟩) ?_ ?_ ?_; rotate_left; (intro w'; go_simp; with_reducible rfl); rotate_left; (simp only [Act.put, q5]; rfl)
                     refine take_ (i := 12) (N := some 109) (v := ?_) (a' := ?_) bl38 rfl rfl (take_ofW HT_.out HW_.out (by kernel_rfl)) (fun _ _ _ h => h) (Or.inl ⟨by rfl, ?_⟩) hHeld ?_ ?_; rotate_left
                     ·rintro w' ⟨s0, s1, s2, s3, s4, s5, s6, s7, s8, s9⟩; go_simp; with_reducible rfl
                     rotate_left
                     ·simp only [Act.put, q5]; rfl
                     refine one_ (i := 13) (N := some 110) bl39 rfl rfl (one_of HT_.out (by kernel_rfl)) (by decide) (fun K hK => ?_); refine goes_ Try.func29 (by kernel_rfl) rfl #[.agg #[.int .i64 t407, .int .i64 t408, .int .i64 t409, .slice Ao12 t410.length co12], .int .i64 (rd t427 ((rd_T68 t424 x10_4).f0)), .int .i64 ((rd_T68 t424 x10_4).f1), .int .i64 (rd t427 ((rd_T68 t424 x10_4).f2))] (by rfl) rfl rfl (by (try simp only [m3]); first | done | rfl | (simp only [d2]; rfl)) ?_
                     with_reducible refine (impl_AutoEdge.calls k4 t407 t408 t409 _ _ t410 (rd t427 ((rd_T68 t424 x10_4).f0)) ((rd_T68 t424 x10_4).f1) (rd t427 ((rd_T68 t424 x10_4).f2)) t439 false _ ?side1 ?side2 A69.out).mono ?_
                     (case side1 => exact zC (Kd.R_reads' HO_415003.out).2.2)
                     (case side2 => exact (Kd.R_reads' HO_415003.out).2.1)
                     rintro e w103 ⟨rfl, hb⟩; have HS8_ := (hb.cell (World.block_lt_of_cell? _ _ (hHeld.2.2.2.2.2.2.2.2.1))).trans (hHeld.2.2.2.2.2.2.2.2.1); have HS9_ := (hb.cell (World.block_lt_of_cell? _ _ (hHeld.2.2.2.2.2.2.2.2.2))).trans (hHeld.2.2.2.2.2.2.2.2.2); refine ⟨_, rfl, ?_⟩; replace HO_8 := xR HO_8 hb; replace HO_415003 := xR HO_415003 hb; replace HO_431003 := xR HO_431003 hb; replace BK414 := xB BK414 hb; replace BK430 := xB BK430 hb; replace BK436 := xB BK436 hb; replace HB := xS HB hb
                     (try clear hb)
                     (try clear hb2)
                     (try clear hk)
                     (try clear hi)
                     refine hK.out _ _ ⟨b1 BK414 0, b1 BK414 1, b1 BK414 2, b1 BK414 3, b1 BK436 0, b1 BK436 1, b1 BK436 2, b1 BK436 3, HS8_, HS9_⟩ (fun hHeld => ?_); clear hK K; refine norm_ (a' := ?_) ?_ ?_; rotate_left
                     ·show Act.put _ (some 110) _ = _; simp only [Act.put, q5]; rfl
                     refine pu 14 (some 96) bl40 HT_ ?_ rfl rfl (.inl ⟨by rfl, ?_⟩) ?_ ?_ ?_; rotate_left; (intro w'; go_simp; with_reducible rfl); rotate_left; (simp only [Act.put, q5]; rfl)
                     refine pu 15 (some 111) bl41 HT_ ?_ rfl rfl (.inl ⟨by rfl, ?_⟩) ?_ ?_ ?_; rotate_left; (intro w'; go_simp; with_reducible rfl); rotate_left; (simp only [Act.put, q5]; rfl)
                     refine pu 16 (some 112) bl42 HT_ ?_ rfl rfl (.inl ⟨by rfl, ?_⟩) ?_ ?_ ?_; rotate_left; (intro w'; go_simp; with_reducible rfl); rotate_left; (simp only [Act.put, q5]; rfl)
                     refine pu 17 (some 12) bl43 HT_ ?_ rfl rfl (.inl ⟨by rfl, ?_⟩) ?_ ?_ ?_; rotate_left; (intro w'; go_simp; with_reducible rfl); rotate_left; (simp only [Act.put, q5]; rfl)
                     refine pu 18 (some 13) bl44 HT_ ?_ rfl rfl (.inl ⟨by rfl, ?_⟩) ?_ ?_ ?_; rotate_left; (intro w'; go_simp; with_reducible rfl); rotate_left; (simp only [Act.put, q5]; rfl)
                     refine done_ (done_of HT_.out (by kernel_rfl)) ?_
                     try go_wp2
                     go_ret; exact ⟨by first | rfl | (simp [errW_none, errW_some] <;> rfl) | (simp [*, errW_none, errW_some] <;> rfl), by repeat (first | (with_reducible first | exact HB.out | apply below_alloc | apply pw_below_drewN | apply below_drew1 | refine below_set ?_ GE414.out | refine below_set ?_ GE430.out | refine below_set ?_ GE436.out) | exact HB.out)⟩
                   ·rw [if_neg c68] at H; exact absurd H (by simp)
                  ·rw [if_neg c67] at H; exact absurd H (by simp)
                 ·rw [if_neg c66] at H; exact absurd H (by simp)
                ·rw [if_neg c65] at H; exact absurd H (by simp)
               ·rw [if_neg c64] at H; exact absurd H (by simp)
              ·rw [if_neg c63] at H; have c63b0 : decide (x10_4 < (t424.length : Int)) = false := decide_eq_false c63; clear c63; obtain rfl := Option.some.inj H; have hnb104 := NB430_414.out; have hnc104 := NB414_430.out; have hcz105_0 : wr.cell? ⟨gb430, 0, none⟩ = some (.int .i64 t421) := b1 BK430 0; have hcz105_1 : wr.cell? ⟨gb430, 1, none⟩ = some (.int .i64 t422) := b1 BK430 1; have hcz105_2 : wr.cell? ⟨gb430, 2, none⟩ = some (.int .i64 t423) := b1 BK430 2; have hcz105_3 : wr.cell? ⟨gb430, 3, none⟩ = some (.slice Ao40 t424.length co40) := b1 BK430 3; have hfz105_0 := blk_frozen BK430.out 0; have hfz105_1 := blk_frozen BK430.out 1; have hfz105_2 := blk_frozen BK430.out 2; have hfz105_3 := blk_frozen BK430.out 3
               go_wp2
               go_ret; exact ⟨by first | rfl | (simp [errW_none, errW_some] <;> rfl) | (simp [*, errW_none, errW_some] <;> rfl), by repeat (first | (with_reducible first | exact HB.out | apply below_alloc | apply pw_below_drewN | apply below_drew1 | refine below_set ?_ GE414.out | refine below_set ?_ GE430.out) | exact HB.out)⟩
  ·rw [if_neg c7] at H; have c7b0 : (t415 == t416) = false := beq_eq_false_iff_ne.mpr c7; have c7b1 : (t415 != t416) = true := bne_iff_ne.mpr c7; obtain rfl := Option.some.inj H
   go_enter Try.func11, Try.ntmps11
   go_wp2_with (first | ((with_reducible refine gate_callee (f := 40) rfl ?_); refine goesL_ (some 15) rfl rfl Try.func40 (by kernel_rfl) rfl #[.slice A0 l0.length c0] rfl (by (try simp only [m3]); first | done | rfl | (simp only [d2]; rfl)) ?_; (with_reducible refine (laws_big.calls _ _ l0 false _ ?side1 ?side2 A2.out).mono ?_); (case side1 => repeat (first | exact HR0.out | (with_reducible refine Kd.C_alloc ?_ _) | (with_reducible refine Kd.C_drewN ?_ _) | (with_reducible refine Kd.C_drew ?_))); (case side2 => exact HC0.out); rintro e w' ⟨rfl, ⟨nd, rfl⟩⟩; refine ⟨_, rfl, ?_⟩) | ((with_reducible refine gate_callee (f := 41) rfl ?_); refine goesL_ (some 18) rfl rfl Try.func41 (by kernel_rfl) rfl #[.slice A0 l0.length c0] rfl (by (try simp only [m3]); first | done | rfl | (simp only [d2]; rfl)) ?_; (with_reducible refine (spec_DrawAutoReach.calls k _ _ l0 t407 t408 t409 t410 t413 _ ?side1 ?side2 A4.out).mono ?_); (case side1 => repeat (first | exact HR0.out | (with_reducible refine Kd.C_alloc ?_ _) | (with_reducible refine Kd.C_drewN ?_ _) | (with_reducible refine Kd.C_drew ?_))); (case side2 => exact HC0.out); rintro e w106 ⟨v411, rfl, ho0, hb⟩; refine ⟨_, rfl, ?_⟩; have HO412 := Aside0.mk (Kd.R_lower ho0 (below_size (zS HB.out))); replace HB := xS HB hb; (try clear hb); (try clear hb2); (try clear hk); (try clear hi); (try clear ho0)) | ((with_reducible refine gate_dst (N := 3) rfl ?_); (try (refine gate_guard (by rfl) ?_; dsimp only)); refine box_event ?hg (N := 3) ?hd (cs := #[.int .i64 0, .int .i64 0, .int .i64 0, .slice none 0 0]) (t := 24) ?hr ?_; (case hd => rfl); (case hg => rfl); (case hr => first | (go_simp; done) | (go_simp; rfl)); intro gb414 hg w107 hbox hb; replace HO412 := xR HO412 hb; have BK414 := Aside0.mk (hbox); have GW414 := xG HB hg; have GE414 := xG HB hg; replace HB := xS HB hb; clear hb hbox hg; have hcz108_0 : w107.cell? ⟨gb414, 0, none⟩ = some (.int .i64 0) := b1 BK414 0; have hcz108_1 : w107.cell? ⟨gb414, 1, none⟩ = some (.int .i64 0) := b1 BK414 1; have hcz108_2 : w107.cell? ⟨gb414, 2, none⟩ = some (.int .i64 0) := b1 BK414 2; have hcz108_3 : w107.cell? ⟨gb414, 3, none⟩ = some (.slice none 0 0) := b1 BK414 3; have hfz108_0 := blk_frozen BK414.out 0; have hfz108_1 := blk_frozen BK414.out 1; have hfz108_2 := blk_frozen BK414.out 2; have hfz108_3 := blk_frozen BK414.out 3; obtain ⟨Ao109, co109, eo109⟩ := Kd.R_slice HO412.out; subst eo109) | ((with_reducible refine gate_callee (f := 33) rfl ?_); refine goesL_ (some 23) rfl rfl Try.func33 (by kernel_rfl) rfl #[.agg #[.int .i64 t407, .int .i64 t408, .int .i64 t409, .slice Ao109 t410.length co109], .int .i64 t413] rfl (by (try simp only [m3]); first | done | rfl | (simp only [d2]; rfl)) ?_; (with_reducible refine (impl_AutoReach.calls k t407 t408 t409 _ _ t410 t413 t415 _ ?side1 ?side2 A5.out).mono ?_); (case side1 => refine (Kd.R_reads' (e := 68) (base := w.heap.size) (ok := fun k_ => True) (n := t410.length) (c := co109) ?_).2.2; exact (zR (xF4 HO412 BK414))); (case side2 => exact (Kd.R_reads' HO412.out).2.1); rintro e w110 ⟨rfl, hb⟩; refine ⟨_, rfl, ?_⟩; replace HO412 := Aside0.mk (Kd.R_below (zR (xF4 HO412 BK414)) hb); replace BK414 := Aside0.mk (blk_below (g := gb414) (o := .cells #[.int .i64 t407, .int .i64 t408, .int .i64 t409, .slice Ao109 t410.length co109] 24 (0, 0)) (xP4 BK414.out) hb); replace HB := xS HB hb; (try clear hb); (try clear hb2); (try clear hk); (try clear hi); have hcz111_0 : w110.cell? ⟨gb414, 0, none⟩ = some (.int .i64 t407) := b1 BK414 0; have hcz111_1 : w110.cell? ⟨gb414, 1, none⟩ = some (.int .i64 t408) := b1 BK414 1; have hcz111_2 : w110.cell? ⟨gb414, 2, none⟩ = some (.int .i64 t409) := b1 BK414 2; have hcz111_3 : w110.cell? ⟨gb414, 3, none⟩ = some (.slice Ao109 t410.length co109) := b1 BK414 3; have hfz111_0 := blk_frozen BK414.out 0; have hfz111_1 := blk_frozen BK414.out 1; have hfz111_2 := blk_frozen BK414.out 2; have hfz111_3 := blk_frozen BK414.out 3) | ((with_reducible refine gate_callee (f := 32) rfl ?_); refine goesL_ (some 27) rfl rfl Try.func32 (by kernel_rfl) rfl #[.agg #[.int .i64 t407, .int .i64 t408, .int .i64 t409, .slice Ao109 t410.length co109], .int .i64 t413] rfl (by (try simp only [m3]); first | done | rfl | (simp only [d2]; rfl)) ?_; (with_reducible refine (spec_AutoReach.calls k t407 t408 t409 _ _ t410 t413 t416 _ ?side1 ?side2 A6.out).mono ?_); (case side1 => exact zC (Kd.R_reads' HO412.out).2.2); (case side2 => exact (Kd.R_reads' HO412.out).2.1); rintro e w112 ⟨rfl, hb⟩; refine ⟨_, rfl, ?_⟩; replace HO412 := xR HO412 hb; replace BK414 := xB BK414 hb; replace HB := xS HB hb; (try clear hb); (try clear hb2); (try clear hk); (try clear hi)))
   go_ret; exact ⟨by first | rfl | (simp [errW_none, errW_some] <;> rfl) | (simp [*, errW_none, errW_some] <;> rfl), by repeat (first | (with_reducible first | exact HB.out | apply below_alloc | apply pw_below_drewN | apply below_drew1 | refine below_set ?_ GE414.out) | exact HB.out)⟩

/-- THE ONE PURE STATEMENT of laws_FnReach4. -/
def laws_FnReach4.Pure : Prop := ∀ (l0 : List Int), l0.length ≤ 9223372036854775807 → (∀ x ∈ l0, (Lit.int .u8 x).wf = true) → ∃ k, laws_FnReach4.f k l0 = some true

end Go.Proofs.Ytlallflpicgcmaa.MFnReach4
