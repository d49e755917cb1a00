-- Written by a program of this session, out of Lean's print of the translation. Not trusted: Lean checks it.
import Derived.Test.YtlallflpicgcmaaMFnExactRunOkx0
import Derived.Test.YtlallflpicgcmaaMFnExactRunOkx5
import Derived.Test.YtlallflpicgcmaaMFnExactRunOkx6
import Derived.Test.YtlallflpicgcmaaMFnExactRunOkx7
namespace Go.Proofs.Ytlallflpicgcmaa.MFnExactRunOk
open Go.RowKit Go.Proofs.YtlallflpicgcmaaW.PrintWords Go.Proofs.YtlallflpicgcmaaW.PrintLast Go.Proofs.YtlallflpicgcmaaW.PrintMore Go.Proofs.Ytlallflpicgcmaa.Short4
attribute [local go_sem] max2_int min2_int max_two min_two max_three min_three max_four min_four   -- for this text's walks alone
set_option linter.unusedVariables false
set_option linter.unusedSimpArgs false

section
open Go.Proofs.Ytlallflpicgcmaa.Short2.T
abbrev impl_RunOk.bl0 : Array Bool := #[f, f, f, f, f, f, f, f, f, f, f, f, f, f, f, f, f, f, f, f, f, f, f, f, f, f, f, f, f, f, f, f, f]
abbrev impl_RunOk.bl1 : Array Bool := #[t, f, f, f, f, f, f, f, f, f, f, f, f, f, f, f, f, f, f, f, f, f, f, f, f, f, f, f, f, f, f, f, f]
abbrev impl_RunOk.bl2 : Array Bool := #[t, f, t, f, f, f, f, f, f, f, f, f, f, f, f, f, f, f, f, f, f, f, f, f, f, f, f, f, f, f, f, f, f]
abbrev impl_RunOk.bl3 : Array Bool := #[t, t, t, f, f, f, f, f, f, f, f, f, f, f, f, f, f, f, f, f, f, f, f, f, f, f, f, f, f, f, f, f, f]
abbrev impl_RunOk.bl4 : Array Bool := #[t, t, t, t, f, f, f, f, f, f, f, f, f, f, f, f, f, f, f, f, f, f, f, f, f, f, f, f, f, f, f, f, f]
abbrev impl_RunOk.bl5 : Array Bool := #[t, t, t, t, t, f, f, f, f, f, f, f, f, f, f, f, f, f, f, f, f, f, f, f, f, f, f, f, f, f, f, f, f]
abbrev impl_RunOk.bl6 : Array Bool := #[t, t, t, t, t, t, f, f, f, f, f, f, f, f, f, f, f, f, f, f, f, f, f, f, f, f, f, f, f, f, f, f, f]
abbrev impl_RunOk.bl7 : Array Bool := #[t, t, t, t, t, t, t, f, f, f, f, f, f, f, f, f, f, f, f, f, f, f, f, f, f, f, f, f, f, f, f, f, f]
abbrev impl_RunOk.bl8 : Array Bool := #[t, t, t, t, t, t, t, t, f, f, f, f, f, f, f, f, f, f, f, f, f, f, f, f, f, f, f, f, f, f, f, f, f]
abbrev impl_RunOk.bl9 : Array Bool := #[t, t, t, t, t, t, t, t, t, f, f, f, f, f, f, f, f, f, f, f, f, f, f, f, f, f, f, f, f, f, f, f, f]
abbrev impl_RunOk.bl10 : Array Bool := #[t, t, t, t, t, t, t, t, t, t, f, f, f, f, f, f, f, f, f, f, f, f, f, f, f, f, f, f, f, f, f, f, f]
abbrev impl_RunOk.bl11 : Array Bool := #[t, t, t, t, t, t, t, t, t, t, t, f, f, f, f, f, f, f, f, f, f, f, f, f, f, f, f, f, f, f, f, f, f]
abbrev impl_RunOk.bl12 : Array Bool := #[t, t, t, t, t, t, t, t, t, t, t, f, f, t, f, f, f, f, f, f, f, f, f, f, f, f, f, f, f, f, f, f, f]
abbrev impl_RunOk.bl13 : Array Bool := #[t, t, t, t, t, t, t, t, t, t, t, t, f, t, f, f, f, f, f, f, f, f, f, f, f, f, f, f, f, f, f, f, f]
abbrev impl_RunOk.bl14 : Array Bool := #[t, t, t, t, t, t, t, t, t, t, t, t, t, t, f, f, f, f, f, f, f, f, f, f, f, f, f, f, f, f, f, f, f]
abbrev impl_RunOk.bl15 : Array Bool := #[t, t, t, t, t, t, t, t, t, t, t, t, t, t, t, f, f, f, f, f, f, f, f, f, f, f, f, f, f, f, f, f, f]
abbrev impl_RunOk.bl16 : Array Bool := #[t, t, t, t, t, t, t, t, t, t, t, t, t, t, t, t, f, f, f, f, f, f, f, f, f, f, f, f, f, f, f, f, f]
abbrev impl_RunOk.bl17 : Array Bool := #[t, t, t, t, t, t, t, t, t, t, t, t, t, t, t, t, t, f, f, f, f, f, f, f, f, f, f, f, f, f, f, f, f]
abbrev impl_RunOk.bl18 : Array Bool := #[t, t, t, t, t, t, t, t, t, t, t, t, t, t, t, t, t, t, f, f, f, f, f, f, f, f, f, f, f, f, f, f, f]
abbrev impl_RunOk.bl19 : Array Bool := #[t, t, t, t, t, t, t, t, t, t, t, t, t, t, t, t, t, t, t, f, f, f, f, f, f, f, f, f, f, f, f, f, f]
abbrev impl_RunOk.bl20 : Array Bool := #[t, t, t, t, t, t, t, t, t, t, t, t, t, t, t, t, t, t, t, t, f, f, f, f, f, f, f, f, f, f, f, f, f]
abbrev impl_RunOk.bl21 : Array Bool := #[t, t, t, t, t, t, t, t, t, t, t, t, t, t, t, t, t, t, t, t, t, f, f, f, f, f, f, f, f, f, f, f, f]
abbrev impl_RunOk.bl22 : Array Bool := #[t, t, t, t, t, t, t, t, t, t, t, t, t, t, t, t, t, t, t, t, t, f, t, f, f, f, f, f, f, f, f, f, f]
abbrev impl_RunOk.bl23 : Array Bool := #[t, t, t, t, t, t, t, t, t, t, t, t, t, t, t, t, t, t, t, t, t, f, t, f, f, f, t, f, f, f, f, f, f]
abbrev impl_RunOk.bl24 : Array Bool := #[t, t, t, t, t, t, t, t, t, t, t, t, t, t, t, t, t, t, t, t, t, f, t, f, f, f, t, f, t, f, f, f, f]
abbrev impl_RunOk.bl25 : Array Bool := #[t, t, t, t, t, t, t, t, t, t, t, t, t, t, t, t, t, t, t, t, t, t, t, f, f, f, t, f, t, f, f, f, f]
abbrev impl_RunOk.bl26 : Array Bool := #[t, t, t, t, t, t, t, t, t, t, t, t, t, t, t, t, t, t, t, t, t, t, t, t, f, f, t, f, t, f, f, f, f]
abbrev impl_RunOk.bl27 : Array Bool := #[t, t, t, t, t, t, t, t, t, t, t, t, t, t, t, t, t, t, t, t, t, t, t, t, t, f, t, f, t, f, f, f, f]
abbrev impl_RunOk.bl28 : Array Bool := #[t, t, t, t, t, t, t, t, t, t, t, t, t, t, t, t, t, t, t, t, t, t, t, t, t, t, t, f, t, f, f, f, f]
abbrev impl_RunOk.bl29 : Array Bool := #[t, t, t, t, t, t, t, t, t, t, t, t, t, t, t, t, t, t, t, t, t, t, t, t, t, t, t, t, t, f, f, f, f]
abbrev impl_RunOk.bl30 : Array Bool := #[t, t, t, t, t, t, t, t, t, t, t, t, t, t, t, t, t, t, t, t, t, t, t, t, t, t, t, t, t, t, f, f, f]
abbrev impl_RunOk.bl31 : Array Bool := #[t, t, t, t, t, t, t, t, t, t, t, t, t, t, t, t, t, t, t, t, t, t, t, t, t, t, t, t, t, t, t, f, f]
abbrev impl_RunOk.bl32 : Array Bool := #[t, t, t, t, t, t, t, t, t, t, t, t, t, t, t, t, t, t, t, t, t, t, t, t, t, t, t, t, t, t, t, t, f]
abbrev impl_RunOk.bl33 : Array Bool := #[t, t, t, t, t, t, t, t, t, t, t, t, t, t, t, t, t, t, t, t, t, t, t, t, t, t, t, t, t, t, t, t, t]
abbrev impl_RunOk.bl34 : Array Bool := #[t, t, t, t, t, t, t, t, t, t, t, t, t, t, t, t, t, t, t, t, t, t, f, f, f, f, f, f, f, f, f, f, f]
abbrev impl_RunOk.bl35 : Array Bool := #[t, t, t, t, t, t, t, t, t, t, t, t, t, t, t, t, t, t, t, t, t, t, t, f, f, f, f, f, f, f, f, f, f]
abbrev impl_RunOk.bl36 : Array Bool := #[t, t, t, t, t, t, t, t, t, t, t, t, t, t, t, t, t, t, t, t, t, t, t, t, f, f, f, f, f, f, f, f, f]
abbrev impl_RunOk.bl37 : Array Bool := #[t, t, t, t, t, t, t, t, t, t, t, t, t, t, t, t, t, t, t, t, t, t, t, t, t, f, f, f, f, f, f, f, f]
abbrev impl_RunOk.bl38 : Array Bool := #[t, t, t, t, t, t, t, t, t, t, t, t, t, t, t, t, t, t, t, t, t, t, t, t, t, t, f, f, f, f, f, f, f]
abbrev impl_RunOk.bl39 : Array Bool := #[t, t, t, t, t, t, t, t, t, t, t, t, t, t, t, t, t, t, t, t, t, t, t, t, t, t, t, f, f, f, f, f, f]
abbrev impl_RunOk.bl40 : Array Bool := #[t, t, t, t, t, t, t, t, t, t, t, t, t, t, t, t, t, t, t, t, t, t, t, t, t, t, t, t, f, f, f, f, f]
abbrev impl_RunOk.bl41 : Array Bool := #[t, t, t, t, t, t, t, t, t, t, t, t, f, f, f, f, f, f, f, f, f, f, f, f, f, f, f, f, f, f, f, f, f]
abbrev impl_RunOk.bl42 : Array Bool := #[t, t, t, t, t, t, t, t, t, t, t, t, t, f, f, f, f, f, f, f, f, f, f, f, f, f, f, f, f, f, f, f, f]
abbrev impl_RunOk.bl43 : Array Bool := #[f, f, f, f, f, f, f, f, f, f, f, f, f, f, f, f, f, f, f, f, f]
abbrev impl_RunOk.bl44 : Array Bool := #[f, t, f, f, f, f, f, f, f, f, f, f, f, f, f, f, f, f, f, f, f]
abbrev impl_RunOk.bl45 : Array Bool := #[f, t, f, t, f, f, f, f, f, f, f, f, f, f, f, f, f, f, f, f, f]
abbrev impl_RunOk.bl46 : Array Bool := #[f, t, f, t, f, f, t, f, f, f, f, f, f, f, f, f, f, f, f, f, f]
abbrev impl_RunOk.bl47 : Array Bool := #[f, t, f, t, f, f, t, f, f, t, f, f, f, f, f, f, f, f, f, f, f]
abbrev impl_RunOk.bl48 : Array Bool := #[f, t, f, t, f, f, t, f, f, t, f, t, f, f, f, f, f, f, f, f, f]
abbrev impl_RunOk.bl49 : Array Bool := #[f, t, f, t, f, f, t, f, f, t, f, t, t, f, f, f, f, f, f, f, f]
abbrev impl_RunOk.bl50 : Array Bool := #[t, t, f, t, f, f, t, f, f, t, f, t, t, f, f, f, f, f, f, f, f]
abbrev impl_RunOk.bl51 : Array Bool := #[t, t, t, t, f, f, t, f, f, t, f, t, t, f, f, f, f, f, f, f, f]
abbrev impl_RunOk.bl52 : Array Bool := #[t, t, t, t, t, f, t, f, f, t, f, t, t, f, f, f, f, f, f, f, f]
abbrev impl_RunOk.bl53 : Array Bool := #[t, t, t, t, t, t, t, f, f, t, f, t, t, f, f, f, f, f, f, f, f]
abbrev impl_RunOk.bl54 : Array Bool := #[t, t, t, t, t, t, t, f, f, t, t, t, t, f, f, f, f, f, f, f, f]
abbrev impl_RunOk.bl55 : Array Bool := #[t, t, t, t, t, t, t, f, f, t, t, t, t, t, f, f, f, f, f, f, f]
abbrev impl_RunOk.bl56 : Array Bool := #[t, t, t, t, t, t, t, f, f, t, t, t, t, t, t, f, f, f, f, f, f]
abbrev impl_RunOk.bl57 : Array Bool := #[t, t, t, t, t, t, t, t, f, t, t, t, t, t, t, f, f, f, f, f, f]
abbrev impl_RunOk.bl58 : Array Bool := #[t, t, t, t, t, t, t, t, t, t, t, t, t, t, t, f, f, f, f, f, f]
abbrev impl_RunOk.bl59 : Array Bool := #[t, t, t, t, t, t, t, t, t, t, t, t, t, t, t, t, f, f, f, f, f]
abbrev impl_RunOk.bl60 : Array Bool := #[t, t, t, t, t, t, t, t, t, t, t, t, t, t, t, t, t, f, f, f, f]
abbrev impl_RunOk.bl61 : Array Bool := #[t, t, t, t, t, t, t, t, t, t, t, t, t, t, t, t, t, t, f, f, f]
abbrev impl_RunOk.bl62 : Array Bool := #[t, t, t, t, t, t, t, t, t, t, t, t, t, t, t, t, t, t, t, f, f]
abbrev impl_RunOk.bl63 : Array Bool := #[t, t, t, t, t, t, t, t, t, t, t, t, t, t, t, t, t, t, t, t, f]
abbrev impl_RunOk.bl64 : Array Bool := #[t, t, t, t, t, t, t, t, t, t, t, t, t, t, t, t, t, t, t, t, t]
end
/-! ### impl_RunOk: function 55 -/
mutual
def impl_RunOk.j0 : Nat → Int → Bool → Int → Int → Int → List (S68) → List Int → List Int → List Int → Int → Option (Bool)
 | 0, _, _, _, _, _, _, _, _, _, _ => none
 | k + 1, x7, x41, x244000, x244001, x244002, x244003, x245000, x245001, x246000, x246001 => if x41 = true then (some false) else (if 0 < (x246000.length : Int) then ((impl_SetHas.f x244002 (rd x246000 0)).bind fun t251 => (if t251 = true then (if (x245001.length : Int) = 0 then (none) else (if (Int.tmod (wrap64 (x7 - x246001)) (x245001.length : Int)) = 0 then (if 0 ≤ x246001 then (if x246001 < (x246000.length : Int) then (if 0 ≤ x7 then (if x7 < (x246000.length : Int) then (impl_RunOk.j1 k x7 ((rd x246000 x246001) != (rd x246000 x7)) x244000 x244001 x244002 x244003 x245000 x245001 x246000 x246001) else (none)) else (none)) else (none)) else (none)) else (impl_RunOk.j1 k x7 true x244000 x244001 x244002 x244003 x245000 x245001 x246000 x246001))) else (impl_RunOk.j1 k x7 true x244000 x244001 x244002 x244003 x245000 x245001 x246000 x246001))) else (none))
def impl_RunOk.j1 : Nat → Int → Bool → Int → Int → Int → List (S68) → List Int → List Int → List Int → Int → Option (Bool)
 | 0, _, _, _, _, _, _, _, _, _, _ => none
 | k + 1, x7, x74, x244000, x244001, x244002, x244003, x245000, x245001, x246000, x246001 => if x74 = true then (some false) else (impl_RunOk.l0 k false x7 0 x244000 x244001 x244002 x244003 x245000 x245001 x246000 x246001)
def impl_RunOk.l0 : Nat → Bool → Int → Int → Int → Int → Int → List (S68) → List Int → List Int → List Int → Int → Option (Bool)
 | 0, _, _, _, _, _, _, _, _, _, _, _ => none
 | k + 1, x8, x75, x76, x244000, x244001, x244002, x244003, x245000, x245001, x246000, x246001 => if x76 < x75 then (if 0 ≤ x76 then (if x76 < (x246000.length : Int) then ((impl_Word_placeOf.f x245000 x245001 x76).bind fun t255 => ((impl_Word_letter.f x245000 x245001 t255).bind fun t256 => (if 0 ≤ (wrap64 (x76 + 1)) then (if (wrap64 (x76 + 1)) < (x246000.length : Int) then ((impl_AutoEdge.f k x244000 x244001 x244002 x244003 (rd x246000 x76) t256 (rd x246000 (wrap64 (x76 + 1)))).bind fun bt258 => (if bt258.2 = true then (if x8 = true then (impl_RunOk.l0 k true x75 (wrap64 (x76 + 1)) x244000 x244001 x244002 x244003 x245000 x245001 x246000 x246001) else (if bt258.1 = true then (impl_RunOk.l0 k (decide (x76 ≥ x246001)) x75 (wrap64 (x76 + 1)) x244000 x244001 x244002 x244003 x245000 x245001 x246000 x246001) else (impl_RunOk.l0 k false x75 (wrap64 (x76 + 1)) x244000 x244001 x244002 x244003 x245000 x245001 x246000 x246001))) else (some false))) else (none)) else (none)))) else (none)) else (none)) else (some x8)
end
def impl_RunOk.f (k : Nat) (a0_0 : Int) (a0_1 : Int) (a0_2 : Int) (l0_3 : List (S68)) (l1_0 : List Int) (l1_1 : List Int) (l2_0 : List Int) (a2_1 : Int) : Option (Bool) := (impl_AutoOk.f k a0_0 a0_1 a0_2 l0_3).bind fun t246 => (if t246 = true then ((impl_WordOk.f k l1_0 l1_1 a0_0).bind fun t247 => (if t247 = true then ((impl_inRange.f (wrap64 ((l2_0.length : Int) - 1)) 1 5999).bind fun t248 => (if t248 = true then ((impl_inRange.f a2_1 (l1_0.length : Int) (wrap64 ((wrap64 ((l2_0.length : Int) - 1)) - 1))).bind fun t249 => (impl_RunOk.j0 k (wrap64 ((l2_0.length : Int) - 1)) (!t249) a0_0 a0_1 a0_2 l0_3 l1_0 l1_1 l2_0 a2_1)) else (impl_RunOk.j0 k (wrap64 ((l2_0.length : Int) - 1)) true a0_0 a0_1 a0_2 l0_3 l1_0 l1_1 l2_0 a2_1))) else (impl_RunOk.j0 k (wrap64 ((l2_0.length : Int) - 1)) true a0_0 a0_1 a0_2 l0_3 l1_0 l1_1 l2_0 a2_1))) else (impl_RunOk.j0 k (wrap64 ((l2_0.length : Int) - 1)) true a0_0 a0_1 a0_2 l0_3 l1_0 l1_1 l2_0 a2_1))
theorem impl_RunOk.mono_l : ∀ k, (∀ y0 y1 y2 y3 y4 y5 y6 y7 y8 y9, LeO (impl_RunOk.j0 k y0 y1 y2 y3 y4 y5 y6 y7 y8 y9) (impl_RunOk.j0 (k + 1) y0 y1 y2 y3 y4 y5 y6 y7 y8 y9)) ∧ (∀ y0 y1 y2 y3 y4 y5 y6 y7 y8 y9, LeO (impl_RunOk.j1 k y0 y1 y2 y3 y4 y5 y6 y7 y8 y9) (impl_RunOk.j1 (k + 1) y0 y1 y2 y3 y4 y5 y6 y7 y8 y9)) ∧ (∀ y0 y1 y2 y3 y4 y5 y6 y7 y8 y9 y10, LeO (impl_RunOk.l0 k y0 y1 y2 y3 y4 y5 y6 y7 y8 y9 y10) (impl_RunOk.l0 (k + 1) y0 y1 y2 y3 y4 y5 y6 y7 y8 y9 y10))
 | 0 => ⟨fun _ _ _ _ _ _ _ _ _ _ r h => by simp [impl_RunOk.j0] at h, fun _ _ _ _ _ _ _ _ _ _ r h => by simp [impl_RunOk.j1] at h, fun _ _ _ _ _ _ _ _ _ _ _ r h => by simp [impl_RunOk.l0] at h⟩
 | k + 1 => by
  obtain ⟨ih0, ih1, ih2⟩ := impl_RunOk.mono_l k
  refine ⟨?_, ?_, ?_⟩
  ·intro y0 y1 y2 y3 y4 y5 y6 y7 y8 y9
   unfold impl_RunOk.j0
   repeat' first
   | (with_reducible exact ih0 _ _ _ _ _ _ _ _ _ _)
   | (with_reducible exact ih1 _ _ _ _ _ _ _ _ _ _)
   | (with_reducible exact ih2 _ _ _ _ _ _ _ _ _ _ _)
   | (with_reducible exact impl_AutoEdge.mono _ _ _ _ _ _ _ _)
   | (with_reducible exact impl_AutoOk.mono _ _ _ _ _)
   | (with_reducible exact impl_WordOk.mono _ _ _ _)
   | (with_reducible exact LeO.refl _)
   | (with_reducible exact LeO.none _)
   | (with_reducible refine LeO.ite ?_ ?_)
   | (with_reducible refine LeO.bind ?_ (fun _ => ?_))
   | exact ih0 _ _ _ _ _ _ _ _ _ _
   | exact ih1 _ _ _ _ _ _ _ _ _ _
   | exact ih2 _ _ _ _ _ _ _ _ _ _ _
   | exact impl_AutoEdge.mono _ _ _ _ _ _ _ _
   | exact impl_AutoOk.mono _ _ _ _ _
   | exact impl_WordOk.mono _ _ _ _
   | exact LeO.none _
   | refine LeO.ite ?_ ?_
   | refine LeO.bind ?_ (fun _ => ?_)
  ·intro y0 y1 y2 y3 y4 y5 y6 y7 y8 y9
   unfold impl_RunOk.j1
   repeat' first
   | (with_reducible exact ih0 _ _ _ _ _ _ _ _ _ _)
   | (with_reducible exact ih1 _ _ _ _ _ _ _ _ _ _)
   | (with_reducible exact ih2 _ _ _ _ _ _ _ _ _ _ _)
   | (with_reducible exact impl_AutoEdge.mono _ _ _ _ _ _ _ _)
   | (with_reducible exact impl_AutoOk.mono _ _ _ _ _)
   | (with_reducible exact impl_WordOk.mono _ _ _ _)
   | (with_reducible exact LeO.refl _)
   | (with_reducible exact LeO.none _)
   | (with_reducible refine LeO.ite ?_ ?_)
   | (with_reducible refine LeO.bind ?_ (fun _ => ?_))
   | exact ih0 _ _ _ _ _ _ _ _ _ _
   | exact ih1 _ _ _ _ _ _ _ _ _ _
   | exact ih2 _ _ _ _ _ _ _ _ _ _ _
   | exact impl_AutoEdge.mono _ _ _ _ _ _ _ _
   | exact impl_AutoOk.mono _ _ _ _ _
   | exact impl_WordOk.mono _ _ _ _
   | exact LeO.none _
   | refine LeO.ite ?_ ?_
   | refine LeO.bind ?_ (fun _ => ?_)
  ·intro y0 y1 y2 y3 y4 y5 y6 y7 y8 y9 y10
   unfold impl_RunOk.l0
   repeat' first
   | (with_reducible exact ih0 _ _ _ _ _ _ _ _ _ _)
   | (with_reducible exact ih1 _ _ _ _ _ _ _ _ _ _)
   | (with_reducible exact ih2 _ _ _ _ _ _ _ _ _ _ _)
   | (with_reducible exact impl_AutoEdge.mono _ _ _ _ _ _ _ _)
   | (with_reducible exact impl_AutoOk.mono _ _ _ _ _)
   | (with_reducible exact impl_WordOk.mono _ _ _ _)
   | (with_reducible exact LeO.refl _)
   | (with_reducible exact LeO.none _)
   | (with_reducible refine LeO.ite ?_ ?_)
   | (with_reducible refine LeO.bind ?_ (fun _ => ?_))
   | exact ih0 _ _ _ _ _ _ _ _ _ _
   | exact ih1 _ _ _ _ _ _ _ _ _ _
   | exact ih2 _ _ _ _ _ _ _ _ _ _ _
   | exact impl_AutoEdge.mono _ _ _ _ _ _ _ _
   | exact impl_AutoOk.mono _ _ _ _ _
   | exact impl_WordOk.mono _ _ _ _
   | exact LeO.none _
   | refine LeO.ite ?_ ?_
   | refine LeO.bind ?_ (fun _ => ?_)
theorem impl_RunOk.mono : ∀ a0 a1 a2 a3 a4 a5 a6 a7 k, LeO (impl_RunOk.f k a0 a1 a2 a3 a4 a5 a6 a7) (impl_RunOk.f (k + 1) a0 a1 a2 a3 a4 a5 a6 a7) := by
 intro a0 a1 a2 a3 a4 a5 a6 a7 k
 obtain ⟨ih0, ih1, ih2⟩ := impl_RunOk.mono_l k
 unfold impl_RunOk.f
 repeat' first
   | (with_reducible exact ih0 _ _ _ _ _ _ _ _ _ _)
   | (with_reducible exact ih1 _ _ _ _ _ _ _ _ _ _)
   | (with_reducible exact ih2 _ _ _ _ _ _ _ _ _ _ _)
   | (with_reducible exact impl_AutoEdge.mono _ _ _ _ _ _ _ _)
   | (with_reducible exact impl_AutoOk.mono _ _ _ _ _)
   | (with_reducible exact impl_WordOk.mono _ _ _ _)
   | (with_reducible exact LeO.refl _)
   | (with_reducible exact LeO.none _)
   | (with_reducible refine LeO.ite ?_ ?_)
   | (with_reducible refine LeO.bind ?_ (fun _ => ?_))
   | exact ih0 _ _ _ _ _ _ _ _ _ _
   | exact ih1 _ _ _ _ _ _ _ _ _ _
   | exact ih2 _ _ _ _ _ _ _ _ _ _ _
   | exact impl_AutoEdge.mono _ _ _ _ _ _ _ _
   | exact impl_AutoOk.mono _ _ _ _ _
   | exact impl_WordOk.mono _ _ _ _
   | exact LeO.none _
   | refine LeO.ite ?_ ?_
   | refine LeO.bind ?_ (fun _ => ?_)
def impl_RunOk.T4 : Bool × List (List Nat × List Nat) := (true, [([], []), ([0], [0]), ([], []), ([2], [2]), ([3], [3]), ([4], [4]), ([1, 5], [1, 5]), ([6], [6]), ([7, 6], [7]), ([8], [8]), ([8], [8]), ([10, 8], [8, 10]), ([9, 11, 8], [8, 9, 11]), ([8], [8]), ([13, 8], [8, 13]), ([14, 8], [8, 14]), ([12, 15, 8], [8, 12, 15]), ([16, 8], [8, 16]), ([8, 17], [8, 17]), ([18, 8], [18]), ([19], [19]), ([20, 19], [19, 20]), ([19], [19]), ([22, 19], [19, 22]), ([21, 23, 19], [19, 21, 23]), ([24, 19], [19, 24]), ([19], [19]), ([26, 19], [19, 26]), ([19], [19]), ([27, 28, 19], [19, 27, 28]), ([29, 19], [19, 29]), ([25, 30, 19], [19, 25, 30]), ([19, 31], [19, 31])])
def impl_RunOk.B4 : List Nat := [0, 1, 0, 4, 12, 28, 63, 127, 255, 511, 511, 1535, 4095, 511, 8703, 25087, 65535, 131071, 262143, 524287, 1048575, 2097151, 1048575, 5242879, 16777215, 33554431, 1048575, 68157439, 1048575, 470810623, 1007681535, 2147483647, 4294967295]
theorem impl_RunOk.tab4 : rtab .any (opsOf Try.f55 4) = impl_RunOk.T4 := by kernel_rfl
theorem impl_RunOk.bits4 : waitsOk impl_RunOk.T4.2 impl_RunOk.B4 = true := by kernel_rfl
def impl_RunOk.T10 : Bool × List (List Nat × List Nat) := (true, [([], []), ([], []), ([1], [1]), ([], []), ([2, 3], [2, 3]), ([4], [4]), ([], []), ([6], [6]), ([7, 7], [7]), ([], []), ([9], [9]), ([], []), ([11], [11]), ([10, 12], [10, 12]), ([13], [13]), ([0, 5, 8, 14, 8], [0, 5, 8, 14]), ([15], [15]), ([16], [16]), ([16], [16]), ([17, 15, 0, 1, 2, 3, 4, 5, 6, 7, 8, 9, 10, 11, 12, 13, 14, 15, 16, 17], [17]), ([18, 19, 0, 1, 2, 3, 4, 5, 6, 7, 8, 9, 10, 11, 12, 13, 14, 15, 16, 17, 18, 19], [18])])
def impl_RunOk.B10 : List Nat := [0, 0, 2, 0, 14, 30, 0, 64, 192, 0, 512, 0, 2048, 7680, 15872, 32767, 65535, 131071, 131071, 262143, 1048575]
theorem impl_RunOk.tab10 : rtab .any (opsOf Try.f55 10) = impl_RunOk.T10 := by kernel_rfl
theorem impl_RunOk.bits10 : waitsOk impl_RunOk.T10.2 impl_RunOk.B10 = true := by kernel_rfl
open Go.Proofs.Ytlallflpicgcmaa.Short2 in
set_option maxHeartbeats 8000000 in
set_option maxRecDepth 100000 in
theorem impl_RunOk.calls (k : Nat) (a0_0 : Int) (a0_1 : Int) (a0_2 : Int) (A0_3 : Option Addr) (c0_3 : Nat) (l0_3 : List (S68)) (A1_0 : Option Addr) (c1_0 : Nat) (l1_0 : List Int) (A1_1 : Option Addr) (c1_1 : Nat) (l1_1 : List Int) (A2_0 : Option Addr) (c2_0 : Nat) (l2_0 : List Int) (a2_1 : Int) (r : Bool) (w : World) (hr0_3 : Kd.C k68 w A0_3 l0_3.length l0_3) (hc0_3 : l0_3.length ≤ c0_3) (hr1_0 : Kd.C (Kd.int .i64) w A1_0 l1_0.length l1_0) (hc1_0 : l1_0.length ≤ c1_0) (hr1_1 : Kd.C (Kd.int .i64) w A1_1 l1_1.length l1_1) (hc1_1 : l1_1.length ≤ c1_1) (hr2_0 : Kd.C (Kd.int .i64) w A2_0 l2_0.length l2_0) (hc2_0 : l2_0.length ≤ c2_0) (h : impl_RunOk.f k a0_0 a0_1 a0_2 l0_3 l1_0 l1_1 l2_0 a2_1 = some r) :
  Calls Try.prog 55 #[.agg #[.int .i64 a0_0, .int .i64 a0_1, .int .i64 a0_2, .slice A0_3 l0_3.length c0_3], .agg #[.slice A1_0 l1_0.length c1_0, .slice A1_1 l1_1.length c1_1], .agg #[.slice A2_0 l2_0.length c2_0, .int .i64 a2_1]] w fun e w' => e = .returned (.bool r) ∧ Below w.heap.size w w' := by
 have hu24 := Try.underlying24; have hu78 := Try.underlying78; have hu80 := Try.underlying80; have HR0_3 := Aside0.mk hr0_3; have HC0_3 := Aside0.mk hc0_3; clear hr0_3 hc0_3; have HR1_0 := Aside0.mk hr1_0; have HC1_0 := Aside0.mk hc1_0; clear hr1_0 hc1_0; have HR1_1 := Aside0.mk hr1_1; have HC1_1 := Aside0.mk hc1_1; clear hr1_1 hc1_1; have HR2_0 := Aside0.mk hr2_0; have HC2_0 := Aside0.mk hc2_0; clear hr2_0 hc2_0; have HB := Aside0.mk (Below.refl w.heap.size w); have H : ((impl_AutoOk.f k a0_0 a0_1 a0_2 l0_3).bind fun t246 => (if t246 = true then ((impl_WordOk.f k l1_0 l1_1 a0_0).bind fun t247 => (if t247 = true then ((impl_inRange.f (wrap64 ((l2_0.length : Int) - 1)) 1 5999).bind fun t248 => (if t248 = true then ((impl_inRange.f a2_1 (l1_0.length : Int) (wrap64 ((wrap64 ((l2_0.length : Int) - 1)) - 1))).bind fun t249 => (impl_RunOk.j0 k (wrap64 ((l2_0.length : Int) - 1)) (!t249) a0_0 a0_1 a0_2 l0_3 l1_0 l1_1 l2_0 a2_1)) else (impl_RunOk.j0 k (wrap64 ((l2_0.length : Int) - 1)) true a0_0 a0_1 a0_2 l0_3 l1_0 l1_1 l2_0 a2_1))) else (impl_RunOk.j0 k (wrap64 ((l2_0.length : Int) - 1)) true a0_0 a0_1 a0_2 l0_3 l1_0 l1_1 l2_0 a2_1))) else (impl_RunOk.j0 k (wrap64 ((l2_0.length : Int) - 1)) true a0_0 a0_1 a0_2 l0_3 l1_0 l1_1 l2_0 a2_1))) = some r := h; clear h; have HC4 := Aside0.mk H; clear H
 go_enter Try.func55, Try.ntmps55
 go_upto_region 2 with (first | ((with_reducible refine gate_dst (N := 3) rfl ?_); (try (refine gate_guard (by rfl) ?_; dsimp only)); refine box_event ?hg (N := 3) ?hd (cs := #[.int .i64 a0_0, .int .i64 a0_1, .int .i64 a0_2, .slice A0_3 l0_3.length c0_3]) (t := 24) ?hr ?_; (case hd => rfl); (case hg => rfl); (case hr => first | (go_simp; done) | (go_simp; rfl)); intro gb243 hg w5 hbox hb; have BK243 := Aside0.mk (hbox); have GW243 := xG HB hg; have GE243 := xG HB hg; replace HB := xS HB hb; clear hb hbox hg) | ((with_reducible refine gate_dst (N := 4) rfl ?_); (try (refine gate_guard (by rfl) ?_; dsimp only)); refine box_event ?hg (N := 4) ?hd (cs := #[.slice A1_0 l1_0.length c1_0, .slice A1_1 l1_1.length c1_1]) (t := 78) ?hr ?_; (case hd => rfl); (case hg => rfl); (case hr => first | (go_simp; done) | (go_simp; rfl)); intro gb244 hg w6 hbox hb; have BK244 := Aside0.mk (hbox); have GW244 := xG HB hg; have GE244 := xG HB hg; replace HB := xS HB hb; have NB243_244 := xN BK243 hg; have NB244_243 := xM BK243 hg; replace BK243 := xB BK243 hb; clear hb hbox hg) | ((with_reducible refine gate_dst (N := 5) rfl ?_); (try (refine gate_guard (by rfl) ?_; dsimp only)); refine box_event ?hg (N := 5) ?hd (cs := #[.slice A2_0 l2_0.length c2_0, .int .i64 a2_1]) (t := 80) ?hr ?_; (case hd => rfl); (case hg => rfl); (case hr => first | (go_simp; done) | (go_simp; rfl)); intro gb245 hg w7 hbox hb; have BK245 := Aside0.mk (hbox); have GW245 := xG HB hg; have GE245 := xG HB hg; replace HB := xS HB hb; have NB243_245 := xN BK243 hg; have NB245_243 := xM BK243 hg; replace BK243 := xB BK243 hb; have NB244_245 := xN BK244 hg; have NB245_244 := xM BK244 hg; replace BK244 := xB BK244 hb; clear hb hbox hg; have hnb8 := NB245_243.out; have hnc8 := NB243_245.out; have hnb9 := NB245_244.out; have hnc9 := NB244_245.out; have hcz10_0 : w7.cell? ⟨gb245, 0, none⟩ = some (.slice A2_0 l2_0.length c2_0) := b1 BK245 0; have hcz10_1 : w7.cell? ⟨gb245, 1, none⟩ = some (.int .i64 a2_1) := b1 BK245 1; have hfz10_0 := blk_frozen BK245.out 0; have hfz10_1 := blk_frozen BK245.out 1))
 (try simp only [Act.put, q3])
 go_cut [41] (fun v41 wc => ∃ (kq : Nat) (x41_3 : Bool), v41 = .bool x41_3 ∧ Aside0 (impl_RunOk.j0 kq (wrap64 ((l2_0.length : Int) - 1)) x41_3 a0_0 a0_1 a0_2 l0_3 l1_0 l1_1 l2_0 a2_1 = some r) ∧ Aside0 (kq ≤ k) ∧ Aside0 (wc.heap[gb243]? = some (.cells #[.int .i64 a0_0, .int .i64 a0_1, .int .i64 a0_2, (.slice A0_3 l0_3.length c0_3)] 24 (0, 0))) ∧ Aside0 (wc.heap[gb244]? = some (.cells #[(.slice A1_0 l1_0.length c1_0), (.slice A1_1 l1_1.length c1_1)] 78 (0, 0))) ∧ Aside0 (wc.heap[gb245]? = some (.cells #[(.slice A2_0 l2_0.length c2_0), .int .i64 a2_1] 80 (0, 0))) ∧ Aside0 (Below w.heap.size w wc))
 case first =>
  have H := HC4.out; clear HC4; replace H := Option.bind_eq_some_iff.mp H; obtain ⟨t246, A110, H⟩ := H; replace H : (if t246 = true then ((impl_WordOk.f k l1_0 l1_1 a0_0).bind fun t247 => (if t247 = true then ((impl_inRange.f (wrap64 ((l2_0.length : Int) - 1)) 1 5999).bind fun t248 => (if t248 = true then ((impl_inRange.f a2_1 (l1_0.length : Int) (wrap64 ((wrap64 ((l2_0.length : Int) - 1)) - 1))).bind fun t249 => (impl_RunOk.j0 k (wrap64 ((l2_0.length : Int) - 1)) (!t249) a0_0 a0_1 a0_2 l0_3 l1_0 l1_1 l2_0 a2_1)) else (impl_RunOk.j0 k (wrap64 ((l2_0.length : Int) - 1)) true a0_0 a0_1 a0_2 l0_3 l1_0 l1_1 l2_0 a2_1))) else (impl_RunOk.j0 k (wrap64 ((l2_0.length : Int) - 1)) true a0_0 a0_1 a0_2 l0_3 l1_0 l1_1 l2_0 a2_1))) else (impl_RunOk.j0 k (wrap64 ((l2_0.length : Int) - 1)) true a0_0 a0_1 a0_2 l0_3 l1_0 l1_1 l2_0 a2_1)) = some r := H; have A11 := Aside0.mk A110; clear A110
  by_cases c12 : t246 = true
  ·subst c12
   have H1 : ((impl_WordOk.f k l1_0 l1_1 a0_0).bind fun t247 => (if t247 = true then ((impl_inRange.f (wrap64 ((l2_0.length : Int) - 1)) 1 5999).bind fun t248 => (if t248 = true then ((impl_inRange.f a2_1 (l1_0.length : Int) (wrap64 ((wrap64 ((l2_0.length : Int) - 1)) - 1))).bind fun t249 => (impl_RunOk.j0 k (wrap64 ((l2_0.length : Int) - 1)) (!t249) a0_0 a0_1 a0_2 l0_3 l1_0 l1_1 l2_0 a2_1)) else (impl_RunOk.j0 k (wrap64 ((l2_0.length : Int) - 1)) true a0_0 a0_1 a0_2 l0_3 l1_0 l1_1 l2_0 a2_1))) else (impl_RunOk.j0 k (wrap64 ((l2_0.length : Int) - 1)) true a0_0 a0_1 a0_2 l0_3 l1_0 l1_1 l2_0 a2_1))) = some r := by rw [if_pos rfl] at H; exact H
   clear H; have H := H1; clear H1; replace H := Option.bind_eq_some_iff.mp H; obtain ⟨t247, A130, H⟩ := H; replace H : (if t247 = true then ((impl_inRange.f (wrap64 ((l2_0.length : Int) - 1)) 1 5999).bind fun t248 => (if t248 = true then ((impl_inRange.f a2_1 (l1_0.length : Int) (wrap64 ((wrap64 ((l2_0.length : Int) - 1)) - 1))).bind fun t249 => (impl_RunOk.j0 k (wrap64 ((l2_0.length : Int) - 1)) (!t249) a0_0 a0_1 a0_2 l0_3 l1_0 l1_1 l2_0 a2_1)) else (impl_RunOk.j0 k (wrap64 ((l2_0.length : Int) - 1)) true a0_0 a0_1 a0_2 l0_3 l1_0 l1_1 l2_0 a2_1))) else (impl_RunOk.j0 k (wrap64 ((l2_0.length : Int) - 1)) true a0_0 a0_1 a0_2 l0_3 l1_0 l1_1 l2_0 a2_1)) = some r := H; have A13 := Aside0.mk A130; clear A130
   by_cases c14 : t247 = true
   ·subst c14
    have H1 : ((impl_inRange.f (wrap64 ((l2_0.length : Int) - 1)) 1 5999).bind fun t248 => (if t248 = true then ((impl_inRange.f a2_1 (l1_0.length : Int) (wrap64 ((wrap64 ((l2_0.length : Int) - 1)) - 1))).bind fun t249 => (impl_RunOk.j0 k (wrap64 ((l2_0.length : Int) - 1)) (!t249) a0_0 a0_1 a0_2 l0_3 l1_0 l1_1 l2_0 a2_1)) else (impl_RunOk.j0 k (wrap64 ((l2_0.length : Int) - 1)) true a0_0 a0_1 a0_2 l0_3 l1_0 l1_1 l2_0 a2_1))) = some r := by rw [if_pos rfl] at H; exact H
    clear H; have H := H1; clear H1; replace H := Option.bind_eq_some_iff.mp H; obtain ⟨t248, A150, H⟩ := H; replace H : (if t248 = true then ((impl_inRange.f a2_1 (l1_0.length : Int) (wrap64 ((wrap64 ((l2_0.length : Int) - 1)) - 1))).bind fun t249 => (impl_RunOk.j0 k (wrap64 ((l2_0.length : Int) - 1)) (!t249) a0_0 a0_1 a0_2 l0_3 l1_0 l1_1 l2_0 a2_1)) else (impl_RunOk.j0 k (wrap64 ((l2_0.length : Int) - 1)) true a0_0 a0_1 a0_2 l0_3 l1_0 l1_1 l2_0 a2_1)) = some r := H; have A15 := Aside0.mk A150; clear A150
    by_cases c16 : t248 = true
    ·subst c16
     have H1 : ((impl_inRange.f a2_1 (l1_0.length : Int) (wrap64 ((wrap64 ((l2_0.length : Int) - 1)) - 1))).bind fun t249 => (impl_RunOk.j0 k (wrap64 ((l2_0.length : Int) - 1)) (!t249) a0_0 a0_1 a0_2 l0_3 l1_0 l1_1 l2_0 a2_1)) = some r := by rw [if_pos rfl] at H; exact H
     clear H; have H := H1; clear H1; replace H := Option.bind_eq_some_iff.mp H; obtain ⟨t249, A170, H⟩ := H; replace H : (impl_RunOk.j0 k (wrap64 ((l2_0.length : Int) - 1)) (!t249) a0_0 a0_1 a0_2 l0_3 l1_0 l1_1 l2_0 a2_1) = some r := H; have A17 := Aside0.mk A170; clear A170; have H' := Aside0.mk H; clear H; have hnb18 := NB243_244.out; have hnc18 := NB244_243.out; have hnb19 := NB243_245.out; have hnc19 := NB245_243.out; have hcz20_0 : w7.cell? ⟨gb243, 0, none⟩ = some (.int .i64 a0_0) := b1 BK243 0; have hcz20_1 : w7.cell? ⟨gb243, 1, none⟩ = some (.int .i64 a0_1) := b1 BK243 1; have hcz20_2 : w7.cell? ⟨gb243, 2, none⟩ = some (.int .i64 a0_2) := b1 BK243 2; have hcz20_3 : w7.cell? ⟨gb243, 3, none⟩ = some (.slice A0_3 l0_3.length c0_3) := b1 BK243 3; have hfz20_0 := blk_frozen BK243.out 0; have hfz20_1 := blk_frozen BK243.out 1; have hfz20_2 := blk_frozen BK243.out 2; have hfz20_3 := blk_frozen BK243.out 3
     go_wp2_with (first | ((with_reducible refine gate_callee (f := 22) rfl ?_); refine goesL_ (some 17) rfl rfl Try.func22 (by kernel_rfl) rfl #[.agg #[.int .i64 a0_0, .int .i64 a0_1, .int .i64 a0_2, .slice A0_3 l0_3.length c0_3]] rfl (by (try simp only [m3]); first | done | rfl | (simp only [d2]; rfl)) ?_; (with_reducible refine (impl_AutoOk.calls k a0_0 a0_1 a0_2 _ _ l0_3 true _ ?side1 ?side2 A11.out).mono ?_); (case side1 => exact zC (Kd.C_below HR0_3.out HB.out)); (case side2 => exact HC0_3.out); rintro e w21 ⟨rfl, hb⟩; refine ⟨_, rfl, ?_⟩; replace BK243 := xB BK243 hb; replace BK244 := xB BK244 hb; replace BK245 := xB BK245 hb; replace HB := xS HB hb; (try clear hb); (try clear hb2); (try clear hk); (try clear hi); have hnb22 := NB244_245.out; have hnc22 := NB245_244.out; have hcz23_0 : w21.cell? ⟨gb244, 0, none⟩ = some (.slice A1_0 l1_0.length c1_0) := b1 BK244 0; have hcz23_1 : w21.cell? ⟨gb244, 1, none⟩ = some (.slice A1_1 l1_1.length c1_1) := b1 BK244 1; have hfz23_0 := blk_frozen BK244.out 0; have hfz23_1 := blk_frozen BK244.out 1; have hcz24_0 : w21.cell? ⟨gb243, 0, none⟩ = some (.int .i64 a0_0) := b1 BK243 0; have hcz24_1 : w21.cell? ⟨gb243, 1, none⟩ = some (.int .i64 a0_1) := b1 BK243 1; have hcz24_2 : w21.cell? ⟨gb243, 2, none⟩ = some (.int .i64 a0_2) := b1 BK243 2; have hcz24_3 : w21.cell? ⟨gb243, 3, none⟩ = some (.slice A0_3 l0_3.length c0_3) := b1 BK243 3; have hfz24_0 := blk_frozen BK243.out 0; have hfz24_1 := blk_frozen BK243.out 1; have hfz24_2 := blk_frozen BK243.out 2; have hfz24_3 := blk_frozen BK243.out 3) | (go_at_call 99; (with_reducible refine (impl_WordOk.calls k _ _ l1_0 _ _ l1_1 a0_0 true _ ?side1 ?side2 ?side3 ?side4 A13.out).mono ?_); (case side1 => exact zC (Kd.C_below HR1_0.out HB.out)); (case side2 => exact HC1_0.out); (case side3 => exact zC (Kd.C_below HR1_1.out HB.out)); (case side4 => exact HC1_1.out); rintro e w25 ⟨rfl, hb⟩; replace BK243 := xB BK243 hb; replace BK244 := xB BK244 hb; replace BK245 := xB BK245 hb; replace HB := xS HB hb; (try clear hb); (try clear hb2); (try clear hk); (try clear hi)) | (go_at_call 69; (with_reducible refine (impl_inRange.calls (wrap64 ((l2_0.length : Int) - 1)) 1 5999 true _ A15.out).mono ?_); rintro e w' ⟨rfl, ⟨nd, rfl⟩⟩; have hcz26_0 : w25.cell? ⟨gb245, 0, none⟩ = some (.slice A2_0 l2_0.length c2_0) := b1 BK245 0; have hcz26_1 : w25.cell? ⟨gb245, 1, none⟩ = some (.int .i64 a2_1) := b1 BK245 1; have hfz26_0 := blk_frozen BK245.out 0; have hfz26_1 := blk_frozen BK245.out 1; have hcz27_0 : w25.cell? ⟨gb244, 0, none⟩ = some (.slice A1_0 l1_0.length c1_0) := b1 BK244 0; have hcz27_1 : w25.cell? ⟨gb244, 1, none⟩ = some (.slice A1_1 l1_1.length c1_1) := b1 BK244 1; have hfz27_0 := blk_frozen BK244.out 0; have hfz27_1 := blk_frozen BK244.out 1) | (go_at_call 69; (with_reducible refine (impl_inRange.calls a2_1 (l1_0.length : Int) (wrap64 ((wrap64 ((l2_0.length : Int) - 1)) - 1)) t249 _ A17.out).mono ?_); rintro e w' ⟨rfl, ⟨nd, rfl⟩⟩))
     go_meet
     case rel => exact ⟨_, (!t249), (by first | rfl | (simp; done) | (simp [*]; done) | (rw [Int.tmod_eq_emod_of_nonneg (Int.natCast_nonneg _)]; done)), H', ⟨by first | omega | exact Nat.le_refl _⟩, ⟨zB BK243.out⟩, ⟨zB BK244.out⟩, ⟨zB BK245.out⟩, ⟨zS HB.out⟩⟩
    ·replace c16 := Bool.eq_false_iff.mpr c16; subst c16
     have H1 : (impl_RunOk.j0 k (wrap64 ((l2_0.length : Int) - 1)) true a0_0 a0_1 a0_2 l0_3 l1_0 l1_1 l2_0 a2_1) = some r := by rw [if_neg (show ¬ (false = true) by decide)] at H; exact H
     clear H; have H := H1; clear H1; have H' := Aside0.mk H; clear H; have hnb28 := NB243_244.out; have hnc28 := NB244_243.out; have hnb29 := NB243_245.out; have hnc29 := NB245_243.out; have hcz30_0 : w7.cell? ⟨gb243, 0, none⟩ = some (.int .i64 a0_0) := b1 BK243 0; have hcz30_1 : w7.cell? ⟨gb243, 1, none⟩ = some (.int .i64 a0_1) := b1 BK243 1; have hcz30_2 : w7.cell? ⟨gb243, 2, none⟩ = some (.int .i64 a0_2) := b1 BK243 2; have hcz30_3 : w7.cell? ⟨gb243, 3, none⟩ = some (.slice A0_3 l0_3.length c0_3) := b1 BK243 3; have hfz30_0 := blk_frozen BK243.out 0; have hfz30_1 := blk_frozen BK243.out 1; have hfz30_2 := blk_frozen BK243.out 2; have hfz30_3 := blk_frozen BK243.out 3
     go_wp2_with (first | ((with_reducible refine gate_callee (f := 22) rfl ?_); refine goesL_ (some 17) rfl rfl Try.func22 (by kernel_rfl) rfl #[.agg #[.int .i64 a0_0, .int .i64 a0_1, .int .i64 a0_2, .slice A0_3 l0_3.length c0_3]] rfl (by (try simp only [m3]); first | done | rfl | (simp only [d2]; rfl)) ?_; (with_reducible refine (impl_AutoOk.calls k a0_0 a0_1 a0_2 _ _ l0_3 true _ ?side1 ?side2 A11.out).mono ?_); (case side1 => exact zC (Kd.C_below HR0_3.out HB.out)); (case side2 => exact HC0_3.out); rintro e w31 ⟨rfl, hb⟩; refine ⟨_, rfl, ?_⟩; replace BK243 := xB BK243 hb; replace BK244 := xB BK244 hb; replace BK245 := xB BK245 hb; replace HB := xS HB hb; (try clear hb); (try clear hb2); (try clear hk); (try clear hi); have hnb32 := NB244_245.out; have hnc32 := NB245_244.out; have hcz33_0 : w31.cell? ⟨gb244, 0, none⟩ = some (.slice A1_0 l1_0.length c1_0) := b1 BK244 0; have hcz33_1 : w31.cell? ⟨gb244, 1, none⟩ = some (.slice A1_1 l1_1.length c1_1) := b1 BK244 1; have hfz33_0 := blk_frozen BK244.out 0; have hfz33_1 := blk_frozen BK244.out 1; have hcz34_0 : w31.cell? ⟨gb243, 0, none⟩ = some (.int .i64 a0_0) := b1 BK243 0; have hcz34_1 : w31.cell? ⟨gb243, 1, none⟩ = some (.int .i64 a0_1) := b1 BK243 1; have hcz34_2 : w31.cell? ⟨gb243, 2, none⟩ = some (.int .i64 a0_2) := b1 BK243 2; have hcz34_3 : w31.cell? ⟨gb243, 3, none⟩ = some (.slice A0_3 l0_3.length c0_3) := b1 BK243 3; have hfz34_0 := blk_frozen BK243.out 0; have hfz34_1 := blk_frozen BK243.out 1; have hfz34_2 := blk_frozen BK243.out 2; have hfz34_3 := blk_frozen BK243.out 3) | (go_at_call 99; (with_reducible refine (impl_WordOk.calls k _ _ l1_0 _ _ l1_1 a0_0 true _ ?side1 ?side2 ?side3 ?side4 A13.out).mono ?_); (case side1 => exact zC (Kd.C_below HR1_0.out HB.out)); (case side2 => exact HC1_0.out); (case side3 => exact zC (Kd.C_below HR1_1.out HB.out)); (case side4 => exact HC1_1.out); rintro e w35 ⟨rfl, hb⟩; replace BK243 := xB BK243 hb; replace BK244 := xB BK244 hb; replace BK245 := xB BK245 hb; replace HB := xS HB hb; (try clear hb); (try clear hb2); (try clear hk); (try clear hi)) | (go_at_call 69; (with_reducible refine (impl_inRange.calls (wrap64 ((l2_0.length : Int) - 1)) 1 5999 false _ A15.out).mono ?_); rintro e w' ⟨rfl, ⟨nd, rfl⟩⟩))
     go_meet
     case rel => exact ⟨_, (true), (by first | rfl | (simp; done) | (simp [*]; done) | (rw [Int.tmod_eq_emod_of_nonneg (Int.natCast_nonneg _)]; done)), H', ⟨by first | omega | exact Nat.le_refl _⟩, ⟨zB BK243.out⟩, ⟨zB BK244.out⟩, ⟨zB BK245.out⟩, ⟨zS HB.out⟩⟩
   ·replace c14 := Bool.eq_false_iff.mpr c14; subst c14
    have H1 : (impl_RunOk.j0 k (wrap64 ((l2_0.length : Int) - 1)) true a0_0 a0_1 a0_2 l0_3 l1_0 l1_1 l2_0 a2_1) = some r := by rw [if_neg (show ¬ (false = true) by decide)] at H; exact H
    clear H; have H := H1; clear H1; have H' := Aside0.mk H; clear H; have hnb36 := NB243_244.out; have hnc36 := NB244_243.out; have hnb37 := NB243_245.out; have hnc37 := NB245_243.out; have hcz38_0 : w7.cell? ⟨gb243, 0, none⟩ = some (.int .i64 a0_0) := b1 BK243 0; have hcz38_1 : w7.cell? ⟨gb243, 1, none⟩ = some (.int .i64 a0_1) := b1 BK243 1; have hcz38_2 : w7.cell? ⟨gb243, 2, none⟩ = some (.int .i64 a0_2) := b1 BK243 2; have hcz38_3 : w7.cell? ⟨gb243, 3, none⟩ = some (.slice A0_3 l0_3.length c0_3) := b1 BK243 3; have hfz38_0 := blk_frozen BK243.out 0; have hfz38_1 := blk_frozen BK243.out 1; have hfz38_2 := blk_frozen BK243.out 2; have hfz38_3 := blk_frozen BK243.out 3
    go_wp2_with (first | ((with_reducible refine gate_callee (f := 22) rfl ?_); refine goesL_ (some 17) rfl rfl Try.func22 (by kernel_rfl) rfl #[.agg #[.int .i64 a0_0, .int .i64 a0_1, .int .i64 a0_2, .slice A0_3 l0_3.length c0_3]] rfl (by (try simp only [m3]); first | done | rfl | (simp only [d2]; rfl)) ?_; (with_reducible refine (impl_AutoOk.calls k a0_0 a0_1 a0_2 _ _ l0_3 true _ ?side1 ?side2 A11.out).mono ?_); (case side1 => exact zC (Kd.C_below HR0_3.out HB.out)); (case side2 => exact HC0_3.out); rintro e w39 ⟨rfl, hb⟩; refine ⟨_, rfl, ?_⟩; replace BK243 := xB BK243 hb; replace BK244 := xB BK244 hb; replace BK245 := xB BK245 hb; replace HB := xS HB hb; (try clear hb); (try clear hb2); (try clear hk); (try clear hi); have hnb40 := NB244_245.out; have hnc40 := NB245_244.out; have hcz41_0 : w39.cell? ⟨gb244, 0, none⟩ = some (.slice A1_0 l1_0.length c1_0) := b1 BK244 0; have hcz41_1 : w39.cell? ⟨gb244, 1, none⟩ = some (.slice A1_1 l1_1.length c1_1) := b1 BK244 1; have hfz41_0 := blk_frozen BK244.out 0; have hfz41_1 := blk_frozen BK244.out 1; have hcz42_0 : w39.cell? ⟨gb243, 0, none⟩ = some (.int .i64 a0_0) := b1 BK243 0; have hcz42_1 : w39.cell? ⟨gb243, 1, none⟩ = some (.int .i64 a0_1) := b1 BK243 1; have hcz42_2 : w39.cell? ⟨gb243, 2, none⟩ = some (.int .i64 a0_2) := b1 BK243 2; have hcz42_3 : w39.cell? ⟨gb243, 3, none⟩ = some (.slice A0_3 l0_3.length c0_3) := b1 BK243 3; have hfz42_0 := blk_frozen BK243.out 0; have hfz42_1 := blk_frozen BK243.out 1; have hfz42_2 := blk_frozen BK243.out 2; have hfz42_3 := blk_frozen BK243.out 3) | (go_at_call 99; (with_reducible refine (impl_WordOk.calls k _ _ l1_0 _ _ l1_1 a0_0 false _ ?side1 ?side2 ?side3 ?side4 A13.out).mono ?_); (case side1 => exact zC (Kd.C_below HR1_0.out HB.out)); (case side2 => exact HC1_0.out); (case side3 => exact zC (Kd.C_below HR1_1.out HB.out)); (case side4 => exact HC1_1.out); rintro e w43 ⟨rfl, hb⟩; replace BK243 := xB BK243 hb; replace BK244 := xB BK244 hb; replace BK245 := xB BK245 hb; replace HB := xS HB hb; (try clear hb); (try clear hb2); (try clear hk); (try clear hi)))
    go_meet
    case rel => exact ⟨_, (true), (by first | rfl | (simp; done) | (simp [*]; done) | (rw [Int.tmod_eq_emod_of_nonneg (Int.natCast_nonneg _)]; done)), H', ⟨by first | omega | exact Nat.le_refl _⟩, ⟨zB BK243.out⟩, ⟨zB BK244.out⟩, ⟨zB BK245.out⟩, ⟨zS HB.out⟩⟩
  ·replace c12 := Bool.eq_false_iff.mpr c12; subst c12
   have H1 : (impl_RunOk.j0 k (wrap64 ((l2_0.length : Int) - 1)) true a0_0 a0_1 a0_2 l0_3 l1_0 l1_1 l2_0 a2_1) = some r := by rw [if_neg (show ¬ (false = true) by decide)] at H; exact H
   clear H; have H := H1; clear H1; have H' := Aside0.mk H; clear H; have hnb44 := NB243_244.out; have hnc44 := NB244_243.out; have hnb45 := NB243_245.out; have hnc45 := NB245_243.out; have hcz46_0 : w7.cell? ⟨gb243, 0, none⟩ = some (.int .i64 a0_0) := b1 BK243 0; have hcz46_1 : w7.cell? ⟨gb243, 1, none⟩ = some (.int .i64 a0_1) := b1 BK243 1; have hcz46_2 : w7.cell? ⟨gb243, 2, none⟩ = some (.int .i64 a0_2) := b1 BK243 2; have hcz46_3 : w7.cell? ⟨gb243, 3, none⟩ = some (.slice A0_3 l0_3.length c0_3) := b1 BK243 3; have hfz46_0 := blk_frozen BK243.out 0; have hfz46_1 := blk_frozen BK243.out 1; have hfz46_2 := blk_frozen BK243.out 2; have hfz46_3 := blk_frozen BK243.out 3
   go_wp2_with (first | ((with_reducible refine gate_callee (f := 22) rfl ?_); refine goesL_ (some 17) rfl rfl Try.func22 (by kernel_rfl) rfl #[.agg #[.int .i64 a0_0, .int .i64 a0_1, .int .i64 a0_2, .slice A0_3 l0_3.length c0_3]] rfl (by (try simp only [m3]); first | done | rfl | (simp only [d2]; rfl)) ?_; (with_reducible refine (impl_AutoOk.calls k a0_0 a0_1 a0_2 _ _ l0_3 false _ ?side1 ?side2 A11.out).mono ?_); (case side1 => exact zC (Kd.C_below HR0_3.out HB.out)); (case side2 => exact HC0_3.out); rintro e w47 ⟨rfl, hb⟩; refine ⟨_, rfl, ?_⟩; replace BK243 := xB BK243 hb; replace BK244 := xB BK244 hb; replace BK245 := xB BK245 hb; replace HB := xS HB hb; (try clear hb); (try clear hb2); (try clear hk); (try clear hi)))
   go_meet
   case rel => exact ⟨_, (true), (by first | rfl | (simp; done) | (simp [*]; done) | (rw [Int.tmod_eq_emod_of_nonneg (Int.natCast_nonneg _)]; done)), H', ⟨by first | omega | exact Nat.le_refl _⟩, ⟨zB BK243.out⟩, ⟨zB BK244.out⟩, ⟨zB BK245.out⟩, ⟨zS HB.out⟩⟩
 case rest =>
  clear HC4
  try clear c1
  try clear c2
  try clear p2
  try clear c3
  try clear c4
  try clear c5
  try clear p6
  try clear c8
  try clear c9
  try clear c12
  try clear c14
  try clear c16
  try clear c18
  try clear c19
  try clear c22
  try clear c28
  try clear c29
  try clear c32
  try clear c36
  try clear c37
  try clear c40
  try clear c44
  try clear c45
  try clear hcz10_0
  try clear hcz10_1
  try clear hcz20_0
  try clear hcz20_1
  try clear hcz20_2
  try clear hcz20_3
  try clear hcz23_0
  try clear hcz23_1
  try clear hcz24_0
  try clear hcz24_1
  try clear hcz24_2
  try clear hcz24_3
  try clear hcz26_0
  try clear hcz26_1
  try clear hcz27_0
  try clear hcz27_1
  try clear hcz30_0
  try clear hcz30_1
  try clear hcz30_2
  try clear hcz30_3
  try clear hcz33_0
  try clear hcz33_1
  try clear hcz34_0
  try clear hcz34_1
  try clear hcz34_2
  try clear hcz34_3
  try clear hcz38_0
  try clear hcz38_1
  try clear hcz38_2
  try clear hcz38_3
  try clear hcz41_0
  try clear hcz41_1
  try clear hcz42_0
  try clear hcz42_1
  try clear hcz42_2
  try clear hcz42_3
  try clear hcz46_0
  try clear hcz46_1
  try clear hcz46_2
  try clear hcz46_3
  try clear hfz10_0
  try clear hfz10_1
  try clear hfz20_0
  try clear hfz20_1
  try clear hfz20_2
  try clear hfz20_3
  try clear hfz23_0
  try clear hfz23_1
  try clear hfz24_0
  try clear hfz24_1
  try clear hfz24_2
  try clear hfz24_3
  try clear hfz26_0
  try clear hfz26_1
  try clear hfz27_0
  try clear hfz27_1
  try clear hfz30_0
  try clear hfz30_1
  try clear hfz30_2
  try clear hfz30_3
  try clear hfz33_0
  try clear hfz33_1
  try clear hfz34_0
  try clear hfz34_1
  try clear hfz34_2
  try clear hfz34_3
  try clear hfz38_0
  try clear hfz38_1
  try clear hfz38_2
  try clear hfz38_3
  try clear hfz41_0
  try clear hfz41_1
  try clear hfz42_0
  try clear hfz42_1
  try clear hfz42_2
  try clear hfz42_3
  try clear hfz46_0
  try clear hfz46_1
  try clear hfz46_2
  try clear hfz46_3
  obtain ⟨kq, x41_3, rfl, HA, HJ3, BK243, BK244, BK245, HB⟩ := hcut
  cases kq with
  | zero => exact absurd HA.out (by simp [impl_RunOk.j0])
  | succ kj3 =>
   have H := HA.out; clear HA; simp only [impl_RunOk.j0] at H
   by_cases c48 : x41_3 = true
   ·subst c48
    have H1 : (some false) = some r := by rw [if_pos rfl] at H; exact H
    clear H; have H := H1; clear H1; obtain rfl := Option.some.inj H
    go_wp2
    go_ret; exact ⟨by first | rfl | (simp [errW_none, errW_some] <;> rfl) | (simp [*, errW_none, errW_some] <;> rfl), by repeat (first | (with_reducible first | exact HB.out | apply below_alloc | apply pw_below_drewN | apply below_drew1 | refine below_set ?_ GE243.out | refine below_set ?_ GE244.out | refine below_set ?_ GE245.out) | exact HB.out)⟩
   ·replace c48 := Bool.eq_false_iff.mpr c48; subst c48
    have H1 : (if 0 < (l2_0.length : Int) then ((impl_SetHas.f a0_2 (rd l2_0 0)).bind fun t251 => (if t251 = true then (if (l1_1.length : Int) = 0 then (none) else (if (Int.tmod (wrap64 ((wrap64 ((l2_0.length : Int) - 1)) - a2_1)) (l1_1.length : Int)) = 0 then (if 0 ≤ a2_1 then (if a2_1 < (l2_0.length : Int) then (if 0 ≤ (wrap64 ((l2_0.length : Int) - 1)) then (if (wrap64 ((l2_0.length : Int) - 1)) < (l2_0.length : Int) then (impl_RunOk.j1 kj3 (wrap64 ((l2_0.length : Int) - 1)) ((rd l2_0 a2_1) != (rd l2_0 (wrap64 ((l2_0.length : Int) - 1)))) a0_0 a0_1 a0_2 l0_3 l1_0 l1_1 l2_0 a2_1) else (none)) else (none)) else (none)) else (none)) else (impl_RunOk.j1 kj3 (wrap64 ((l2_0.length : Int) - 1)) true a0_0 a0_1 a0_2 l0_3 l1_0 l1_1 l2_0 a2_1))) else (impl_RunOk.j1 kj3 (wrap64 ((l2_0.length : Int) - 1)) true a0_0 a0_1 a0_2 l0_3 l1_0 l1_1 l2_0 a2_1))) else (none)) = some r := by rw [if_neg (show ¬ (false = true) by decide)] at H; exact H
    clear H; have H := H1; clear H1; have HC49 := Aside0.mk H; clear H
    go_upto_region 4 with (fail)
    go_cut [74] (fun v74 wc => ∃ (kq : Nat) (x74_48 : Bool), v74 = .bool x74_48 ∧ Aside0 (impl_RunOk.j1 kq (wrap64 ((l2_0.length : Int) - 1)) x74_48 a0_0 a0_1 a0_2 l0_3 l1_0 l1_1 l2_0 a2_1 = some r) ∧ Aside0 (kq ≤ kj3) ∧ Aside0 (wc.heap[gb243]? = some (.cells #[.int .i64 a0_0, .int .i64 a0_1, .int .i64 a0_2, (.slice A0_3 l0_3.length c0_3)] 24 (0, 0))) ∧ Aside0 (wc.heap[gb244]? = some (.cells #[(.slice A1_0 l1_0.length c1_0), (.slice A1_1 l1_1.length c1_1)] 78 (0, 0))) ∧ Aside0 (wc.heap[gb245]? = some (.cells #[(.slice A2_0 l2_0.length c2_0), .int .i64 a2_1] 80 (0, 0))) ∧ Aside0 (Below w.heap.size w wc))
    case first =>
     have H := HC49.out; clear HC49
     by_cases c50 : 0 < (l2_0.length : Int)
     ·rw [if_pos c50] at H; have c50b0 : decide (0 < (l2_0.length : Int)) = true := decide_eq_true c50; have c50b1 : decide (0 < l2_0.length) = true := decide_eq_true (by omega); clear c50
      (first | rw [c50b0] | (simp only [i64_w, i32_w]; rw [c50b0]) | skip)
      replace H := Option.bind_eq_some_iff.mp H; obtain ⟨t251, A510, H⟩ := H; replace H : (if t251 = true then (if (l1_1.length : Int) = 0 then (none) else (if (Int.tmod (wrap64 ((wrap64 ((l2_0.length : Int) - 1)) - a2_1)) (l1_1.length : Int)) = 0 then (if 0 ≤ a2_1 then (if a2_1 < (l2_0.length : Int) then (if 0 ≤ (wrap64 ((l2_0.length : Int) - 1)) then (if (wrap64 ((l2_0.length : Int) - 1)) < (l2_0.length : Int) then (impl_RunOk.j1 kj3 (wrap64 ((l2_0.length : Int) - 1)) ((rd l2_0 a2_1) != (rd l2_0 (wrap64 ((l2_0.length : Int) - 1)))) a0_0 a0_1 a0_2 l0_3 l1_0 l1_1 l2_0 a2_1) else (none)) else (none)) else (none)) else (none)) else (impl_RunOk.j1 kj3 (wrap64 ((l2_0.length : Int) - 1)) true a0_0 a0_1 a0_2 l0_3 l1_0 l1_1 l2_0 a2_1))) else (impl_RunOk.j1 kj3 (wrap64 ((l2_0.length : Int) - 1)) true a0_0 a0_1 a0_2 l0_3 l1_0 l1_1 l2_0 a2_1)) = some r := H; have A51 := Aside0.mk A510; clear A510
      by_cases c52 : t251 = true
      ·subst c52
       have H1 : (if (l1_1.length : Int) = 0 then (none) else (if (Int.tmod (wrap64 ((wrap64 ((l2_0.length : Int) - 1)) - a2_1)) (l1_1.length : Int)) = 0 then (if 0 ≤ a2_1 then (if a2_1 < (l2_0.length : Int) then (if 0 ≤ (wrap64 ((l2_0.length : Int) - 1)) then (if (wrap64 ((l2_0.length : Int) - 1)) < (l2_0.length : Int) then (impl_RunOk.j1 kj3 (wrap64 ((l2_0.length : Int) - 1)) ((rd l2_0 a2_1) != (rd l2_0 (wrap64 ((l2_0.length : Int) - 1)))) a0_0 a0_1 a0_2 l0_3 l1_0 l1_1 l2_0 a2_1) else (none)) else (none)) else (none)) else (none)) else (impl_RunOk.j1 kj3 (wrap64 ((l2_0.length : Int) - 1)) true a0_0 a0_1 a0_2 l0_3 l1_0 l1_1 l2_0 a2_1))) = some r := by rw [if_pos rfl] at H; exact H
       clear H; have H := H1; clear H1
       by_cases c53 : (l1_1.length : Int) = 0
       ·rw [if_pos c53] at H; exact absurd H (by simp)
       ·rw [if_neg c53] at H; have c53b0 : ((l1_1.length : Int) == 0) = false := beq_eq_false_iff_ne.mpr c53; have c53b1 : ((l1_1.length : Int) != 0) = true := bne_iff_ne.mpr c53; have c53b2 : ¬ (l1_1 = []) := fun h_ => c53 (by rw [h_]; rfl)
        by_cases c54 : (Int.tmod (wrap64 ((wrap64 ((l2_0.length : Int) - 1)) - a2_1)) (l1_1.length : Int)) = 0
        ·rw [if_pos c54] at H; have c54b0 : ((Int.tmod (wrap64 ((wrap64 ((l2_0.length : Int) - 1)) - a2_1)) (l1_1.length : Int)) == 0) = true := beq_iff_eq.mpr c54; have c54b1 : ((Int.tmod (wrap64 ((wrap64 ((l2_0.length : Int) - 1)) - a2_1)) (l1_1.length : Int)) != 0) = false := bne_eq_false_iff_eq.mpr c54; clear c54
         by_cases c55 : 0 ≤ a2_1
         ·rw [if_pos c55] at H; have c55b0 : decide (0 ≤ a2_1) = true := decide_eq_true c55; clear c55
          by_cases c56 : a2_1 < (l2_0.length : Int)
          ·rw [if_pos c56] at H; have c56b0 : decide (a2_1 < (l2_0.length : Int)) = true := decide_eq_true c56; clear c56; obtain ⟨ji57, hji57⟩ : ∃ j_ : Int, (wrap64 ((l2_0.length : Int) - 1)) = j_ := ⟨_, rfl⟩
           replace H : (if 0 ≤ (ji57) then (if (ji57) < (l2_0.length : Int) then (impl_RunOk.j1 kj3 (ji57) ((rd l2_0 a2_1) != (rd l2_0 (ji57))) a0_0 a0_1 a0_2 l0_3 l1_0 l1_1 l2_0 a2_1) else (none)) else (none)) = some r := by first | (rw [hji57] at H; exact H) | (simp only [hji57] at H ⊢; exact H)
           (try rw [hji57] at c54b0)
           (try rw [hji57] at c54b1)
           (try rw [hji57] at A51)
           have hji57w : (IntKind.i64.wrap ((l2_0.length : Int) - 1)) = ji57 := (i64_w _).trans hji57
           by_cases c58 : 0 ≤ (ji57)
           ·rw [if_pos c58] at H; have c58b0 : decide (0 ≤ (ji57)) = true := decide_eq_true c58; clear c58
            by_cases c59 : (ji57) < (l2_0.length : Int)
            ·rw [if_pos c59] at H; have c59b0 : decide ((ji57) < (l2_0.length : Int)) = true := decide_eq_true c59; clear c59; have H' := Aside0.mk H; clear H
             try go_wp2
             replace BK243 := Aside0.mk (blk_drew BK243.out); replace BK244 := Aside0.mk (blk_drew BK244.out); replace BK245 := Aside0.mk (blk_drew BK245.out); replace HB := Aside0.mk (below_drew1 HB.out); have p250 : 0 ≤ (0 : Int) := (by omega); have q250 : 0 < (l2_0.length : Int) := oD; obtain ⟨ad250, e250, hx250_0⟩ := Kd.at_int HR2_0.out 0 p250 q250; have hw250_0 := hx250_0
             (try rw [show ((0 : Int)).toNat = 0 from rfl] at hw250_0)
             (try rw [show 0 * 1 = 0 from rfl] at hw250_0)
             (try rw [Addr.add_zero'] at hw250_0)
             cases e250
             have qi250 : (0 < l2_0.length) = True := eq_true (by omega)
             (try rw [show ((0 : Int)).toNat = 0 from rfl] at hx250_0)
             (try rw [Addr.add_zero'] at hx250_0)
             replace hx250_0 := cT HB hx250_0; replace p250 := eq_true p250; replace q250 := eq_true q250; have p252 : 0 ≤ (a2_1 : Int) := oD; have q252 : a2_1 < (l2_0.length : Int) := oD; obtain ⟨ad252, e252, hx252_0⟩ := Kd.at_int HR2_0.out a2_1 p252 q252; have hw252_0 := hx252_0; obtain rfl : ad250 = ad252 := (by injection e252); replace hx252_0 := cT HB hx252_0; replace p252 := eq_true p252; replace q252 := eq_true q252; have p253 : 0 ≤ ((ji57) : Int) := oD; have q253 : (ji57) < (l2_0.length : Int) := oD; obtain ⟨ad253, e253, hx253_0⟩ := Kd.at_int HR2_0.out (ji57) p253 q253; have hw253_0 := hx253_0; obtain rfl : ad250 = ad253 := (by injection e253); replace hx253_0 := cT HB hx253_0; replace p253 := eq_true p253; replace q253 := eq_true q253; refine start_ (n := 33) (S := fun w' => w'.cell? ⟨gb243, 0, none⟩ = some (.int .i64 a0_0) ∧ w'.cell? ⟨gb243, 1, none⟩ = some (.int .i64 a0_1) ∧ w'.cell? ⟨gb243, 2, none⟩ = some (.int .i64 a0_2) ∧ w'.cell? ⟨gb243, 3, none⟩ = some (.slice A0_3 l0_3.length c0_3) ∧ w'.cell? ⟨gb245, 0, none⟩ = some (.slice (some ad250) l2_0.length c2_0) ∧ w'.cell? ⟨gb245, 1, none⟩ = some (.int .i64 a2_1) ∧ w'.cell? ⟨gb244, 0, none⟩ = some (.slice A1_0 l1_0.length c1_0) ∧ w'.cell? ⟨gb244, 1, none⟩ = some (.slice A1_1 l1_1.length c1_1) ∧ w'.cell? ad250 = some (.int .i64 (rd l2_0 0)) ∧ w'.cell? (ad250.add (a2_1).toNat) = some (.int .i64 (rd l2_0 a2_1)) ∧ w'.cell? (ad250.add ((ji57)).toNat) = some (.int .i64 (rd l2_0 (ji57)))) (ds := []) bl0 (by kernel_rfl) rfl rfl ⟨b1 BK243 0, b1 BK243 1, b1 BK243 2, b1 BK243 3, b1 BK245 0, b1 BK245 1, b1 BK244 0, b1 BK244 1, ((HB.out.cell (World.block_lt_of_cell? w _ hw250_0)).trans hw250_0), ((HB.out.cell (World.block_lt_of_cell? w _ hw252_0)).trans hw252_0), ((HB.out.cell (World.block_lt_of_cell? w _ hw253_0)).trans hw253_0)⟩ (fun hHeld => ?_); refine with_tabW impl_RunOk.tab4 impl_RunOk.bits4 (fun HT_ HW_ => ?_); generalize wc.drew = w60 at BK243 BK244 BK245 HB hx250_0 hx252_0 hx253_0 hHeld ⊢
             refine pu 0 (some 42) bl1 HT_ ?_ rfl rfl (.inl ⟨by rfl, ?_⟩) ?_ ?_ ?_; rotate_left; (intro w'; go_simp; with_reducible rfl); rotate_left; (simp only [Act.put, q5]; rfl)
             refine pu 2 (some 44) bl2 HT_ ?_ rfl rfl (.inl ⟨by rfl, ?_⟩) ?_ ?_ ?_; rotate_left; (intro w'; go_simp; with_reducible rfl); rotate_left; (simp only [Act.put, q5]; rfl)
             refine take_ (i := 1) (N := some 43) (v := ?_) (a' := ?_) bl3 rfl rfl (take_ofW HT_.out HW_.out (by kernel_rfl)) (fun _ _ _ h => h) (Or.inl ⟨by rfl, ?_⟩) hHeld ?_ ?_; rotate_left
             ·rintro w' ⟨s0, s1, s2, s3, s4, s5, s6, s7, s8, s9, s10⟩; go_simp; with_reducible rfl
             rotate_left
             ·simp only [Act.put, q5]; rfl
             refine take_ (i := 3) (N := some 45) (v := ?_) (a' := ?_) bl4 rfl rfl (take_ofW HT_.out HW_.out (by kernel_rfl)) (fun _ _ _ h => h) (Or.inl ⟨by rfl, ?_⟩) hHeld ?_ ?_; rotate_left
             ·rintro w' ⟨s0, s1, s2, s3, s4, s5, s6, s7, s8, s9, s10⟩; go_simp; with_reducible rfl
             rotate_left
             ·simp only [Act.put, q5]; rfl
             refine pu 4 (some 46) bl5 HT_ ?_ rfl rfl (.inl ⟨by rfl, ?_⟩) ?_ ?_ ?_; rotate_left; (intro w'; go_simp; with_reducible rfl); rotate_left; (simp only [Act.put, q5]; rfl)
             refine take_ (i := 5) (N := some 47) (v := ?_) (a' := ?_) bl6 rfl rfl (take_ofW HT_.out HW_.out (by kernel_rfl)) (fun _ _ _ h => h) (Or.inl ⟨by rfl, ?_⟩) hHeld ?_ ?_; rotate_left
             ·rintro w' ⟨s0, s1, s2, s3, s4, s5, s6, s7, s8, s9, s10⟩; go_simp; with_reducible rfl
             rotate_left
             ·simp only [Act.put, q5]; rfl
             refine one_ (i := 6) (N := some 48) bl7 rfl rfl (one_of HT_.out (by kernel_rfl)) (by decide) (fun K hK => ?_); refine goes_ Try.func100 (by kernel_rfl) rfl #[.int .i64 a0_2, .int .i64 (rd l2_0 0)] (by rfl) rfl rfl (by (try simp only [m3]); first | done | rfl | (simp only [d2]; rfl)) ?_
             with_reducible refine (impl_SetHas.calls a0_2 (rd l2_0 0) true _ A51.out).mono ?_
             rintro e w' ⟨rfl, ⟨nd, rfl⟩⟩; refine ⟨_, rfl, ?_⟩; refine hK.out _ _ ⟨b1 BK243 0, b1 BK243 1, b1 BK243 2, b1 BK243 3, b1 BK245 0, b1 BK245 1, b1 BK244 0, b1 BK244 1, ((HB.out.cell (World.block_lt_of_cell? w _ hw250_0)).trans hw250_0), ((HB.out.cell (World.block_lt_of_cell? w _ hw252_0)).trans hw252_0), ((HB.out.cell (World.block_lt_of_cell? w _ hw253_0)).trans hw253_0)⟩ (fun hHeld => ?_); clear hK K; refine norm_ (a' := ?_) ?_ ?_; rotate_left
             ·show Act.put _ (some 48) _ = _; simp only [Act.put, q5]; rfl
             refine pu 7 (some 49) bl8 HT_ ?_ rfl rfl (.inl ⟨by rfl, ?_⟩) ?_ ?_ ?_; rotate_left; (intro w'; go_simp; with_reducible rfl); rotate_left; (simp only [Act.put, q5]; rfl)
             refine pu 8 (some 50) bl9 HT_ ?_ rfl rfl (.inl ⟨by rfl, ?_⟩) ?_ ?_ ?_; rotate_left; (intro w'; go_simp; with_reducible rfl); rotate_left; (simp only [Act.put, q5]; rfl)
             refine pu 9 (some 51) bl10 HT_ ?_ rfl rfl (.inl ⟨by rfl, ?_⟩) ?_ ?_ ?_; rotate_left; (intro w'; go_simp; with_reducible rfl); rotate_left; (simp only [Act.put, q5]; rfl)
             refine pu 10 (some 52) bl11 HT_ ?_ rfl rfl (.inl ⟨by rfl, ?_⟩) ?_ ?_ ?_; rotate_left; (intro w'; go_simp; with_reducible rfl); rotate_left; (simp only [Act.put, q5]; rfl)
             refine pu 13 (some 55) bl12 HT_ ?_ rfl rfl (.inl ⟨by rfl, ?_⟩) ?_ ?_ ?_; rotate_left; (intro w'; go_simp; with_reducible rfl); rotate_left; (simp only [Act.put, q5]; rfl)
             refine take_ (i := 11) (N := some 53) (v := ?_) (a' := ?_) bl13 rfl rfl (take_ofW HT_.out HW_.out (by kernel_rfl)) (fun _ _ _ h => h) (Or.inl ⟨by rfl, ?_⟩) hHeld ?_ ?_; rotate_left
             ·rintro w' ⟨s0, s1, s2, s3, s4, s5, s6, s7, s8, s9, s10⟩; go_simp; with_reducible rfl
             rotate_left
             ·simp only [Act.put, q5]; rfl
             refine pu 12 (some 54) bl14 HT_ ?_ rfl rfl (.inl ⟨by rfl, ?_⟩) ?_ ?_ ?_; rotate_left; (intro w'; go_simp; with_reducible rfl); rotate_left; (simp only [Act.put, q5]; rfl)
             refine take_ (i := 14) (N := some 56) (v := ?_) (a' := ?_) bl15 rfl rfl (take_ofW HT_.out HW_.out (by kernel_rfl)) (fun _ _ _ h => h) (Or.inl ⟨by rfl, ?_⟩) hHeld ?_ ?_; rotate_left
             ·rintro w' ⟨s0, s1, s2, s3, s4, s5, s6, s7, s8, s9, s10⟩; go_simp; with_reducible rfl
             rotate_left
             ·simp only [Act.put, q5]; rfl
             refine pu 15 (some 57) bl16 HT_ ?_ rfl rfl (.inl ⟨by rfl, ?_⟩) ?_ ?_ ?_; rotate_left; (intro w'; go_simp; with_reducible rfl); rotate_left; (simp only [Act.put, q5]; rfl)
             refine pu 16 (some 58) bl17 HT_ ?_ rfl rfl (.inl ⟨by rfl, ?_⟩) ?_ ?_ ?_; rotate_left; (intro w'; go_simp; with_reducible rfl); rotate_left; (simp only [Act.put, q5]; rfl)
             refine pu 17 (some 59) bl18 HT_ ?_ rfl rfl (.inl ⟨by rfl, ?_⟩) ?_ ?_ ?_; rotate_left; (intro w'; go_simp; with_reducible rfl); rotate_left; (simp only [Act.put, q5]; rfl)
             refine pu 18 (some 60) bl19 HT_ ?_ rfl rfl (.inl ⟨by rfl, ?_⟩) ?_ ?_ ?_; rotate_left; (intro w'; go_simp; with_reducible rfl); rotate_left; (simp only [Act.put, q5]; rfl)
             refine pu 19 (some 61) bl20 HT_ ?_ rfl rfl (.inl ⟨by rfl, ?_⟩) ?_ ?_ ?_; rotate_left; (intro w'; go_simp; with_reducible rfl); rotate_left; (simp only [Act.put, q5]; rfl)
             refine pu 20 (some 62) bl21 HT_ ?_ rfl rfl (.inl ⟨by rfl, ?_⟩) ?_ ?_ ?_; rotate_left; (intro w'; go_simp; with_reducible rfl); rotate_left; (simp only [Act.put, q5]; rfl)
             refine pu 22 (some 64) bl22 HT_ ?_ rfl rfl (.inl ⟨by rfl, ?_⟩) ?_ ?_ ?_; rotate_left; (intro w'; go_simp; with_reducible rfl); rotate_left; (simp only [Act.put, q5]; rfl)
             refine pu 26 (some 68) bl23 HT_ ?_ rfl rfl (.inl ⟨by rfl, ?_⟩) ?_ ?_ ?_; rotate_left; (intro w'; go_simp; with_reducible rfl); rotate_left; (simp only [Act.put, q5]; rfl)
             refine pu 28 (some 70) bl24 HT_ ?_ rfl rfl (.inl ⟨by rfl, ?_⟩) ?_ ?_ ?_; rotate_left; (intro w'; go_simp; with_reducible rfl); rotate_left; (simp only [Act.put, q5]; rfl)
             refine take_ (i := 21) (N := some 63) (v := ?_) (a' := ?_) bl25 rfl rfl (take_ofW HT_.out HW_.out (by kernel_rfl)) (fun _ _ _ h => h) (Or.inl ⟨by rfl, ?_⟩) hHeld ?_ ?_; rotate_left
             ·rintro w' ⟨s0, s1, s2, s3, s4, s5, s6, s7, s8, s9, s10⟩; go_simp; with_reducible rfl
             rotate_left
             ·simp only [Act.put, q5]; rfl
             refine take_ (i := 23) (N := some 65) (v := ?_) (a' := ?_) bl26 rfl rfl (take_ofW HT_.out HW_.out (by kernel_rfl)) (fun _ _ _ h => h) (Or.inl ⟨by rfl, ?_⟩) hHeld ?_ ?_; rotate_left
             ·rintro w' ⟨s0, s1, s2, s3, s4, s5, s6, s7, s8, s9, s10⟩; go_simp; with_reducible rfl
             rotate_left
             ·simp only [Act.put, q5]; rfl
             refine pu 24 (some 66) bl27 HT_ ?_ rfl rfl (.inl ⟨by rfl, ?_⟩) ?_ ?_ ?_; rotate_left; (intro w'; go_simp; with_reducible rfl); rotate_left; (simp only [Act.put, q5]; rfl)
             refine take_ (i := 25) (N := some 67) (v := ?_) (a' := ?_) bl28 rfl rfl (take_ofW HT_.out HW_.out (by kernel_rfl)) (fun _ _ _ h => h) (Or.inl ⟨by rfl, ?_⟩) hHeld ?_ ?_; rotate_left
             ·rintro w' ⟨s0, s1, s2, s3, s4, s5, s6, s7, s8, s9, s10⟩; go_simp; with_reducible rfl
             rotate_left
             ·simp only [Act.put, q5]; rfl
             refine take_ (i := 27) (N := some 69) (v := ?_) (a' := ?_) bl29 rfl rfl (take_ofW HT_.out HW_.out (by kernel_rfl)) (fun _ _ _ h => h) (Or.inl ⟨by rfl, ?_⟩) hHeld ?_ ?_; rotate_left
             ·rintro w' ⟨s0, s1, s2, s3, s4, s5, s6, s7, s8, s9, s10⟩; go_simp; with_reducible rfl
             rotate_left
             ·simp only [Act.put, q5]; rfl
             refine pu 29 (some 71) bl30 HT_ ?_ rfl rfl (.inl ⟨by rfl, ?_⟩) ?_ ?_ ?_; rotate_left; (intro w'; go_simp; with_reducible rfl); rotate_left; (simp only [Act.put, q5]; rfl)
             refine take_ (i := 30) (N := some 72) (v := ?_) (a' := ?_) bl31 rfl rfl (take_ofW HT_.out HW_.out (by kernel_rfl)) (fun _ _ _ h => h) (Or.inl ⟨by rfl, ?_⟩) hHeld ?_ ?_; rotate_left
             ·rintro w' ⟨s0, s1, s2, s3, s4, s5, s6, s7, s8, s9, s10⟩; go_simp; with_reducible rfl
             rotate_left
             ·simp only [Act.put, q5]; rfl
             refine pu 31 (some 73) bl32 HT_ ?_ rfl rfl (.inl ⟨by rfl, ?_⟩) ?_ ?_ ?_; rotate_left; (intro w'; go_simp; with_reducible rfl); rotate_left; (simp only [Act.put, q5]; rfl)
             refine pu 32 (some 74) bl33 HT_ ?_ rfl rfl (.inl ⟨by rfl, ?_⟩) ?_ ?_ ?_; rotate_left; (intro w'; go_simp; with_reducible rfl); rotate_left; (simp only [Act.put, q5]; rfl)
             refine done_ (done_of HT_.out (by kernel_rfl)) ?_
             try go_wp2
             (first | go_meet | ((try simp only [← hji57]); go_meet))
             case rel => exact ⟨_, (((rd l2_0 a2_1) != (rd l2_0 (ji57)))), (by first | rfl | (simp; done) | (simp only [← hji57] <;> (first | rfl | simp)) | (simp [*]; done)), (by first | exact H' | (have h_ := H'; (try simp only [← hji57] at h_); (try simp only [← hji57]); exact h_)), ⟨by have := HJ3.out; first | omega | exact Nat.le_refl _⟩, ⟨zB BK243.out⟩, ⟨zB BK244.out⟩, ⟨zB BK245.out⟩, ⟨zS HB.out⟩⟩
            ·rw [if_neg c59] at H; exact absurd H (by simp)
           ·rw [if_neg c58] at H; exact absurd H (by simp)
          ·rw [if_neg c56] at H; exact absurd H (by simp)
         ·rw [if_neg c55] at H; exact absurd H (by simp)
        ·rw [if_neg c54] at H; have c54b0 : ((Int.tmod (wrap64 ((wrap64 ((l2_0.length : Int) - 1)) - a2_1)) (l1_1.length : Int)) == 0) = false := beq_eq_false_iff_ne.mpr c54; have c54b1 : ((Int.tmod (wrap64 ((wrap64 ((l2_0.length : Int) - 1)) - a2_1)) (l1_1.length : Int)) != 0) = true := bne_iff_ne.mpr c54; have H' := Aside0.mk H; clear H
         try go_wp2
         replace BK243 := Aside0.mk (blk_drew BK243.out); replace BK244 := Aside0.mk (blk_drew BK244.out); replace BK245 := Aside0.mk (blk_drew BK245.out); replace HB := Aside0.mk (below_drew1 HB.out); have p250 : 0 ≤ (0 : Int) := (by omega); have q250 : 0 < (l2_0.length : Int) := oD; obtain ⟨ad250, e250, hx250_0⟩ := Kd.at_int HR2_0.out 0 p250 q250; have hw250_0 := hx250_0
         (try rw [show ((0 : Int)).toNat = 0 from rfl] at hw250_0)
         (try rw [show 0 * 1 = 0 from rfl] at hw250_0)
         (try rw [Addr.add_zero'] at hw250_0)
         cases e250
         have qi250 : (0 < l2_0.length) = True := eq_true (by omega)
         (try rw [show ((0 : Int)).toNat = 0 from rfl] at hx250_0)
         (try rw [Addr.add_zero'] at hx250_0)
         replace hx250_0 := cT HB hx250_0; replace p250 := eq_true p250; replace q250 := eq_true q250; refine start_ (n := 33) (S := fun w' => w'.cell? ⟨gb243, 0, none⟩ = some (.int .i64 a0_0) ∧ w'.cell? ⟨gb243, 1, none⟩ = some (.int .i64 a0_1) ∧ w'.cell? ⟨gb243, 2, none⟩ = some (.int .i64 a0_2) ∧ w'.cell? ⟨gb243, 3, none⟩ = some (.slice A0_3 l0_3.length c0_3) ∧ w'.cell? ⟨gb245, 0, none⟩ = some (.slice (some ad250) l2_0.length c2_0) ∧ w'.cell? ⟨gb245, 1, none⟩ = some (.int .i64 a2_1) ∧ w'.cell? ⟨gb244, 0, none⟩ = some (.slice A1_0 l1_0.length c1_0) ∧ w'.cell? ⟨gb244, 1, none⟩ = some (.slice A1_1 l1_1.length c1_1) ∧ w'.cell? ad250 = some (.int .i64 (rd l2_0 0))) (ds := []) bl0 (by kernel_rfl) rfl rfl ⟨b1 BK243 0, b1 BK243 1, b1 BK243 2, b1 BK243 3, b1 BK245 0, b1 BK245 1, b1 BK244 0, b1 BK244 1, ((HB.out.cell (World.block_lt_of_cell? w _ hw250_0)).trans hw250_0)⟩ (fun hHeld => ?_); refine with_tabW impl_RunOk.tab4 impl_RunOk.bits4 (fun HT_ HW_ => ?_); generalize wc.drew = w61 at BK243 BK244 BK245 HB hx250_0 hHeld ⊢
         refine pu 0 (some 42) bl1 HT_ ?_ rfl rfl (.inl ⟨by rfl, ?_⟩) ?_ ?_ ?_; rotate_left; (intro w'; go_simp; with_reducible rfl); rotate_left; (simp only [Act.put, q5]; rfl)
         refine pu 2 (some 44) bl2 HT_ ?_ rfl rfl (.inl ⟨by rfl, ?_⟩) ?_ ?_ ?_; rotate_left; (intro w'; go_simp; with_reducible rfl); rotate_left; (simp only [Act.put, q5]; rfl)
         refine take_ (i := 1) (N := some 43) (v := ?_) (a' := ?_) bl3 rfl rfl (take_ofW HT_.out HW_.out (by kernel_rfl)) (fun _ _ _ h => h) (Or.inl ⟨by rfl, ?_⟩) hHeld ?_ ?_; rotate_left
         ·rintro w' ⟨s0, s1, s2, s3, s4, s5, s6, s7, s8⟩; go_simp; with_reducible rfl
         rotate_left
         ·simp only [Act.put, q5]; rfl
         refine take_ (i := 3) (N := some 45) (v := ?_) (a' := ?_) bl4 rfl rfl (take_ofW HT_.out HW_.out (by kernel_rfl)) (fun _ _ _ h => h) (Or.inl ⟨by rfl, ?_⟩) hHeld ?_ ?_; rotate_left
         ·rintro w' ⟨s0, s1, s2, s3, s4, s5, s6, s7, s8⟩; go_simp; with_reducible rfl
         rotate_left
         ·simp only [Act.put, q5]; rfl
         refine pu 4 (some 46) bl5 HT_ ?_ rfl rfl (.inl ⟨by rfl, ?_⟩) ?_ ?_ ?_; rotate_left; (intro w'; go_simp; with_reducible rfl); rotate_left; (simp only [Act.put, q5]; rfl)
         refine take_ (i := 5) (N := some 47) (v := ?_) (a' := ?_) bl6 rfl rfl (take_ofW HT_.out HW_.out (by kernel_rfl)) (fun _ _ _ h => h) (Or.inl ⟨by rfl, ?_⟩) hHeld ?_ ?_; rotate_left
         ·rintro w' ⟨s0, s1, s2, s3, s4, s5, s6, s7, s8⟩; go_simp; with_reducible rfl
         rotate_left
         ·simp only [Act.put, q5]; rfl
         refine one_ (i := 6) (N := some 48) bl7 rfl rfl (one_of HT_.out (by kernel_rfl)) (by decide) (fun K hK => ?_); refine goes_ Try.func100 (by kernel_rfl) rfl #[.int .i64 a0_2, .int .i64 (rd l2_0 0)] (by rfl) rfl rfl (by (try simp only [m3]); first | done | rfl | (simp only [d2]; rfl)) ?_
         with_reducible refine (impl_SetHas.calls a0_2 (rd l2_0 0) true _ A51.out).mono ?_
         rintro e w' ⟨rfl, ⟨nd, rfl⟩⟩; refine ⟨_, rfl, ?_⟩; refine hK.out _ _ ⟨b1 BK243 0, b1 BK243 1, b1 BK243 2, b1 BK243 3, b1 BK245 0, b1 BK245 1, b1 BK244 0, b1 BK244 1, ((HB.out.cell (World.block_lt_of_cell? w _ hw250_0)).trans hw250_0)⟩ (fun hHeld => ?_); clear hK K; refine norm_ (a' := ?_) ?_ ?_; rotate_left
         ·show Act.put _ (some 48) _ = _; simp only [Act.put, q5]; rfl
         refine pu 7 (some 49) bl8 HT_ ?_ rfl rfl (.inl ⟨by rfl, ?_⟩) ?_ ?_ ?_; rotate_left; (intro w'; go_simp; with_reducible rfl); rotate_left; (simp only [Act.put, q5]; rfl)
         refine pu 8 (some 50) bl9 HT_ ?_ rfl rfl (.inl ⟨by rfl, ?_⟩) ?_ ?_ ?_; rotate_left; (intro w'; go_simp; with_reducible rfl); rotate_left; (simp only [Act.put, q5]; rfl)
         refine pu 9 (some 51) bl10 HT_ ?_ rfl rfl (.inl ⟨by rfl, ?_⟩) ?_ ?_ ?_; rotate_left; (intro w'; go_simp; with_reducible rfl); rotate_left; (simp only [Act.put, q5]; rfl)
         refine pu 10 (some 52) bl11 HT_ ?_ rfl rfl (.inl ⟨by rfl, ?_⟩) ?_ ?_ ?_; rotate_left; (intro w'; go_simp; with_reducible rfl); rotate_left; (simp only [Act.put, q5]; rfl)
         refine pu 13 (some 55) bl12 HT_ ?_ rfl rfl (.inl ⟨by rfl, ?_⟩) ?_ ?_ ?_; rotate_left; (intro w'; go_simp; with_reducible rfl); rotate_left; (simp only [Act.put, q5]; rfl)
         refine take_ (i := 11) (N := some 53) (v := ?_) (a' := ?_) bl13 rfl rfl (take_ofW HT_.out HW_.out (by kernel_rfl)) (fun _ _ _ h => h) (Or.inl ⟨by rfl, ?_⟩) hHeld ?_ ?_; rotate_left
         ·rintro w' ⟨s0, s1, s2, s3, s4, s5, s6, s7, s8⟩; go_simp; with_reducible rfl
         rotate_left
         ·simp only [Act.put, q5]; rfl
         refine pu 12 (some 54) bl14 HT_ ?_ rfl rfl (.inl ⟨by rfl, ?_⟩) ?_ ?_ ?_; rotate_left; (intro w'; go_simp; with_reducible rfl); rotate_left; (simp only [Act.put, q5]; rfl)
         refine take_ (i := 14) (N := some 56) (v := ?_) (a' := ?_) bl15 rfl rfl (take_ofW HT_.out HW_.out (by kernel_rfl)) (fun _ _ _ h => h) (Or.inl ⟨by rfl, ?_⟩) hHeld ?_ ?_; rotate_left
         ·rintro w' ⟨s0, s1, s2, s3, s4, s5, s6, s7, s8⟩; go_simp; with_reducible rfl
         rotate_left
         ·simp only [Act.put, q5]; rfl
         refine pu 15 (some 57) bl16 HT_ ?_ rfl rfl (.inl ⟨by rfl, ?_⟩) ?_ ?_ ?_; rotate_left; (intro w'; go_simp; with_reducible rfl); rotate_left; (simp only [Act.put, q5]; rfl)
         refine pu 16 (some 58) bl17 HT_ ?_ rfl rfl (.inl ⟨by rfl, ?_⟩) ?_ ?_ ?_; rotate_left; (intro w'; go_simp; with_reducible rfl); rotate_left; (simp only [Act.put, q5]; rfl)
         refine pu 17 (some 59) bl18 HT_ ?_ rfl rfl (.inl ⟨by rfl, ?_⟩) ?_ ?_ ?_; rotate_left; (intro w'; go_simp; with_reducible rfl); rotate_left; (simp only [Act.put, q5]; rfl)
         refine pu 18 (some 60) bl19 HT_ ?_ rfl rfl (.inl ⟨by rfl, ?_⟩) ?_ ?_ ?_; rotate_left; (intro w'; go_simp; with_reducible rfl); rotate_left; (simp only [Act.put, q5]; rfl)
         refine pu 19 (some 61) bl20 HT_ ?_ rfl rfl (.inl ⟨by rfl, ?_⟩) ?_ ?_ ?_; rotate_left; (intro w'; go_simp; with_reducible rfl); rotate_left; (simp only [Act.put, q5]; rfl)
         refine pu 20 (some 62) bl21 HT_ undef rfl rfl (.inr ⟨by rfl, rfl⟩) ?_ ?_ ?_; rotate_left; (simp only [Act.put, q5]; rfl)
         refine pu 21 (some 63) bl34 HT_ undef rfl rfl (.inr ⟨by rfl, rfl⟩) ?_ ?_ ?_; rotate_left; (simp only [Act.put, q5]; rfl)
         refine pu 22 (some 64) bl35 HT_ undef rfl rfl (.inr ⟨by rfl, rfl⟩) ?_ ?_ ?_; rotate_left; (simp only [Act.put, q5]; rfl)
         refine pu 23 (some 65) bl36 HT_ undef rfl rfl (.inr ⟨by rfl, rfl⟩) ?_ ?_ ?_; rotate_left; (simp only [Act.put, q5]; rfl)
         refine pu 24 (some 66) bl37 HT_ undef rfl rfl (.inr ⟨by rfl, rfl⟩) ?_ ?_ ?_; rotate_left; (simp only [Act.put, q5]; rfl)
         refine pu 25 (some 67) bl38 HT_ undef rfl rfl (.inr ⟨by rfl, rfl⟩) ?_ ?_ ?_; rotate_left; (simp only [Act.put, q5]; rfl)
         refine pu 26 (some 68) bl39 HT_ undef rfl rfl (.inr ⟨by rfl, rfl⟩) ?_ ?_ ?_; rotate_left; (simp only [Act.put, q5]; rfl)
         refine pu 27 (some 69) bl40 HT_ undef rfl rfl (.inr ⟨by rfl, rfl⟩) ?_ ?_ ?_; rotate_left; (simp only [Act.put, q5]; rfl)
         refine pu 28 (some 70) bl29 HT_ undef rfl rfl (.inr ⟨by rfl, rfl⟩) ?_ ?_ ?_; rotate_left; (simp only [Act.put, q5]; rfl)
         refine pu 29 (some 71) bl30 HT_ undef rfl rfl (.inr ⟨by rfl, rfl⟩) ?_ ?_ ?_; rotate_left; (simp only [Act.put, q5]; rfl)
         refine pu 30 (some 72) bl31 HT_ undef rfl rfl (.inr ⟨by rfl, rfl⟩) ?_ ?_ ?_; rotate_left; (simp only [Act.put, q5]; rfl)
         refine pu 31 (some 73) bl32 HT_ undef rfl rfl (.inr ⟨by rfl, rfl⟩) ?_ ?_ ?_; rotate_left; (simp only [Act.put, q5]; rfl)
         refine pu 32 (some 74) bl33 HT_ ?_ rfl rfl (.inl ⟨by rfl, ?_⟩) ?_ ?_ ?_; rotate_left; (intro w'; go_simp; with_reducible rfl); rotate_left; (simp only [Act.put, q5]; rfl)
         refine done_ (done_of HT_.out (by kernel_rfl)) ?_
         try go_wp2
         go_meet
         case rel => exact ⟨_, (true), (by first | rfl | (simp; done) | (simp [*]; done) | (rw [Int.tmod_eq_emod_of_nonneg (Int.natCast_nonneg _)]; done)), H', ⟨by have := HJ3.out; first | omega | exact Nat.le_refl _⟩, ⟨zB BK243.out⟩, ⟨zB BK244.out⟩, ⟨zB BK245.out⟩, ⟨zS HB.out⟩⟩
      ·replace c52 := Bool.eq_false_iff.mpr c52; subst c52
       have H1 : (impl_RunOk.j1 kj3 (wrap64 ((l2_0.length : Int) - 1)) true a0_0 a0_1 a0_2 l0_3 l1_0 l1_1 l2_0 a2_1) = some r := by rw [if_neg (show ¬ (false = true) by decide)] at H; exact H
       clear H; have H := H1; clear H1; have H' := Aside0.mk H; clear H
       try go_wp2
       replace BK243 := Aside0.mk (blk_drew BK243.out); replace BK244 := Aside0.mk (blk_drew BK244.out); replace BK245 := Aside0.mk (blk_drew BK245.out); replace HB := Aside0.mk (below_drew1 HB.out); have p250 : 0 ≤ (0 : Int) := (by omega); have q250 : 0 < (l2_0.length : Int) := oD; obtain ⟨ad250, e250, hx250_0⟩ := Kd.at_int HR2_0.out 0 p250 q250; have hw250_0 := hx250_0
       (try rw [show ((0 : Int)).toNat = 0 from rfl] at hw250_0)
       (try rw [show 0 * 1 = 0 from rfl] at hw250_0)
       (try rw [Addr.add_zero'] at hw250_0)
       cases e250
       have qi250 : (0 < l2_0.length) = True := eq_true (by omega)
       (try rw [show ((0 : Int)).toNat = 0 from rfl] at hx250_0)
       (try rw [Addr.add_zero'] at hx250_0)
       replace hx250_0 := cT HB hx250_0; replace p250 := eq_true p250; replace q250 := eq_true q250; refine start_ (n := 33) (S := fun w' => w'.cell? ⟨gb243, 0, none⟩ = some (.int .i64 a0_0) ∧ w'.cell? ⟨gb243, 1, none⟩ = some (.int .i64 a0_1) ∧ w'.cell? ⟨gb243, 2, none⟩ = some (.int .i64 a0_2) ∧ w'.cell? ⟨gb243, 3, none⟩ = some (.slice A0_3 l0_3.length c0_3) ∧ w'.cell? ⟨gb245, 0, none⟩ = some (.slice (some ad250) l2_0.length c2_0) ∧ w'.cell? ⟨gb245, 1, none⟩ = some (.int .i64 a2_1) ∧ w'.cell? ad250 = some (.int .i64 (rd l2_0 0))) (ds := []) bl0 (by kernel_rfl) rfl rfl ⟨b1 BK243 0, b1 BK243 1, b1 BK243 2, b1 BK243 3, b1 BK245 0, b1 BK245 1, ((HB.out.cell (World.block_lt_of_cell? w _ hw250_0)).trans hw250_0)⟩ (fun hHeld => ?_); refine with_tabW impl_RunOk.tab4 impl_RunOk.bits4 (fun HT_ HW_ => ?_); generalize wc.drew = w62 at BK243 BK244 BK245 HB hx250_0 hHeld ⊢
       refine pu 0 (some 42) bl1 HT_ ?_ rfl rfl (.inl ⟨by rfl, ?_⟩) ?_ ?_ ?_; rotate_left; (intro w'; go_simp; with_reducible rfl); rotate_left; (simp only [Act.put, q5]; rfl)
       refine pu 2 (some 44) bl2 HT_ ?_ rfl rfl (.inl ⟨by rfl, ?_⟩) ?_ ?_ ?_; rotate_left; (intro w'; go_simp; with_reducible rfl); rotate_left; (simp only [Act.put, q5]; rfl)
       refine take_ (i := 1) (N := some 43) (v := ?_) (a' := ?_) bl3 rfl rfl (take_ofW HT_.out HW_.out (by kernel_rfl)) (fun _ _ _ h => h) (Or.inl ⟨by rfl, ?_⟩) hHeld ?_ ?_; rotate_left
       ·rintro w' ⟨s0, s1, s2, s3, s4, s5, s6⟩; go_simp; with_reducible rfl
       rotate_left
       ·simp only [Act.put, q5]; rfl
       refine take_ (i := 3) (N := some 45) (v := ?_) (a' := ?_) bl4 rfl rfl (take_ofW HT_.out HW_.out (by kernel_rfl)) (fun _ _ _ h => h) (Or.inl ⟨by rfl, ?_⟩) hHeld ?_ ?_; rotate_left
       ·rintro w' ⟨s0, s1, s2, s3, s4, s5, s6⟩; go_simp; with_reducible rfl
       rotate_left
       ·simp only [Act.put, q5]; rfl
       refine pu 4 (some 46) bl5 HT_ ?_ rfl rfl (.inl ⟨by rfl, ?_⟩) ?_ ?_ ?_; rotate_left; (intro w'; go_simp; with_reducible rfl); rotate_left; (simp only [Act.put, q5]; rfl)
       refine take_ (i := 5) (N := some 47) (v := ?_) (a' := ?_) bl6 rfl rfl (take_ofW HT_.out HW_.out (by kernel_rfl)) (fun _ _ _ h => h) (Or.inl ⟨by rfl, ?_⟩) hHeld ?_ ?_; rotate_left
       ·rintro w' ⟨s0, s1, s2, s3, s4, s5, s6⟩; go_simp; with_reducible rfl
       rotate_left
       ·simp only [Act.put, q5]; rfl
       refine one_ (i := 6) (N := some 48) bl7 rfl rfl (one_of HT_.out (by kernel_rfl)) (by decide) (fun K hK => ?_); refine goes_ Try.func100 (by kernel_rfl) rfl #[.int .i64 a0_2, .int .i64 (rd l2_0 0)] (by rfl) rfl rfl (by (try simp only [m3]); first | done | rfl | (simp only [d2]; rfl)) ?_
       with_reducible refine (impl_SetHas.calls a0_2 (rd l2_0 0) false _ A51.out).mono ?_
       rintro e w' ⟨rfl, ⟨nd, rfl⟩⟩; refine ⟨_, rfl, ?_⟩; refine hK.out _ _ ⟨b1 BK243 0, b1 BK243 1, b1 BK243 2, b1 BK243 3, b1 BK245 0, b1 BK245 1, ((HB.out.cell (World.block_lt_of_cell? w _ hw250_0)).trans hw250_0)⟩ (fun hHeld => ?_); clear hK K; refine norm_ (a' := ?_) ?_ ?_; rotate_left
       ·show Act.put _ (some 48) _ = _; simp only [Act.put, q5]; rfl
       refine pu 7 (some 49) bl8 HT_ ?_ rfl rfl (.inl ⟨by rfl, ?_⟩) ?_ ?_ ?_; rotate_left; (intro w'; go_simp; with_reducible rfl); rotate_left; (simp only [Act.put, q5]; rfl)
       refine pu 8 (some 50) bl9 HT_ ?_ rfl rfl (.inl ⟨by rfl, ?_⟩) ?_ ?_ ?_; rotate_left; (intro w'; go_simp; with_reducible rfl); rotate_left; (simp only [Act.put, q5]; rfl)
       refine pu 9 (some 51) bl10 HT_ undef rfl rfl (.inr ⟨by rfl, rfl⟩) ?_ ?_ ?_; rotate_left; (simp only [Act.put, q5]; rfl)
       refine pu 10 (some 52) bl11 HT_ undef rfl rfl (.inr ⟨by rfl, rfl⟩) ?_ ?_ ?_; rotate_left; (simp only [Act.put, q5]; rfl)
       refine pu 11 (some 53) bl41 HT_ undef rfl rfl (.inr ⟨by rfl, rfl⟩) ?_ ?_ ?_; rotate_left; (simp only [Act.put, q5]; rfl)
       refine pu 12 (some 54) bl42 HT_ undef rfl rfl (.inr ⟨by rfl, rfl⟩) ?_ ?_ ?_; rotate_left; (simp only [Act.put, q5]; rfl)
       refine pu 13 (some 55) bl14 HT_ undef rfl rfl (.inr ⟨by rfl, rfl⟩) ?_ ?_ ?_; rotate_left; (simp only [Act.put, q5]; rfl)
       refine pu 14 (some 56) bl15 HT_ undef rfl rfl (.inr ⟨by rfl, rfl⟩) ?_ ?_ ?_; rotate_left; (simp only [Act.put, q5]; rfl)
       refine pu 15 (some 57) bl16 HT_ undef rfl rfl (.inr ⟨by rfl, rfl⟩) ?_ ?_ ?_; rotate_left; (simp only [Act.put, q5]; rfl)
       refine pu 16 (some 58) bl17 HT_ undef rfl rfl (.inr ⟨by rfl, rfl⟩) ?_ ?_ ?_; rotate_left; (simp only [Act.put, q5]; rfl)
       refine pu 17 (some 59) bl18 HT_ undef rfl rfl (.inr ⟨by rfl, rfl⟩) ?_ ?_ ?_; rotate_left; (simp only [Act.put, q5]; rfl)
       refine pu 18 (some 60) bl19 HT_ ?_ rfl rfl (.inl ⟨by rfl, ?_⟩) ?_ ?_ ?_; rotate_left; (intro w'; go_simp; with_reducible rfl); rotate_left; (simp only [Act.put, q5]; rfl)
       refine pu 19 (some 61) bl20 HT_ ?_ rfl rfl (.inl ⟨by rfl, ?_⟩) ?_ ?_ ?_; rotate_left; (intro w'; go_simp; with_reducible rfl); rotate_left; (simp only [Act.put, q5]; rfl)
       refine pu 20 (some 62) bl21 HT_ undef rfl rfl (.inr ⟨by rfl, rfl⟩) ?_ ?_ ?_; rotate_left; (simp only [Act.put, q5]; rfl)
       refine pu 21 (some 63) bl34 HT_ undef rfl rfl (.inr ⟨by rfl, rfl⟩) ?_ ?_ ?_; rotate_left; (simp only [Act.put, q5]; rfl)
       refine pu 22 (some 64) bl35 HT_ undef rfl rfl (.inr ⟨by rfl, rfl⟩) ?_ ?_ ?_; rotate_left; (simp only [Act.put, q5]; rfl)
       refine pu 23 (some 65) bl36 HT_ undef rfl rfl (.inr ⟨by rfl, rfl⟩) ?_ ?_ ?_; rotate_left; (simp only [Act.put, q5]; rfl)
       refine pu 24 (some 66) bl37 HT_ undef rfl rfl (.inr ⟨by rfl, rfl⟩) ?_ ?_ ?_; rotate_left; (simp only [Act.put, q5]; rfl)
       refine pu 25 (some 67) bl38 HT_ undef rfl rfl (.inr ⟨by rfl, rfl⟩) ?_ ?_ ?_; rotate_left; (simp only [Act.put, q5]; rfl)
       refine pu 26 (some 68) bl39 HT_ undef rfl rfl (.inr ⟨by rfl, rfl⟩) ?_ ?_ ?_; rotate_left; (simp only [Act.put, q5]; rfl)
       refine pu 27 (some 69) bl40 HT_ undef rfl rfl (.inr ⟨by rfl, rfl⟩) ?_ ?_ ?_; rotate_left; (simp only [Act.put, q5]; rfl)
       refine pu 28 (some 70) bl29 HT_ undef rfl rfl (.inr ⟨by rfl, rfl⟩) ?_ ?_ ?_; rotate_left; (simp only [Act.put, q5]; rfl)
       refine pu 29 (some 71) bl30 HT_ undef rfl rfl (.inr ⟨by rfl, rfl⟩) ?_ ?_ ?_; rotate_left; (simp only [Act.put, q5]; rfl)
       refine pu 30 (some 72) bl31 HT_ undef rfl rfl (.inr ⟨by rfl, rfl⟩) ?_ ?_ ?_; rotate_left; (simp only [Act.put, q5]; rfl)
       refine pu 31 (some 73) bl32 HT_ undef rfl rfl (.inr ⟨by rfl, rfl⟩) ?_ ?_ ?_; rotate_left; (simp only [Act.put, q5]; rfl)
       refine pu 32 (some 74) bl33 HT_ ?_ rfl rfl (.inl ⟨by rfl, ?_⟩) ?_ ?_ ?_; rotate_left; (intro w'; go_simp; with_reducible rfl); rotate_left; (simp only [Act.put, q5]; rfl)
       refine done_ (done_of HT_.out (by kernel_rfl)) ?_
       try go_wp2
       go_meet
       case rel => exact ⟨_, (true), (by first | rfl | (simp; done) | (simp [*]; done) | (rw [Int.tmod_eq_emod_of_nonneg (Int.natCast_nonneg _)]; done)), H', ⟨by have := HJ3.out; first | omega | exact Nat.le_refl _⟩, ⟨zB BK243.out⟩, ⟨zB BK244.out⟩, ⟨zB BK245.out⟩, ⟨zS HB.out⟩⟩
     ·rw [if_neg c50] at H; exact absurd H (by simp)
    case rest =>
     clear HC49
     try clear c1
     try clear c2
     try clear p2
     try clear q2
     try clear hx2
     try clear qi2
     try clear c5
     try clear p6
     try clear c10
     try clear p25
     try clear q25
     try clear hx25
     try clear qi25
     try clear c50
     try clear c52
     try clear c54
     try clear c54b0
     try clear c54b1
     try clear c55
     try clear c56
     try clear c58
     try clear c59
     try clear hx250_0
     try clear p250
     try clear q250
     obtain ⟨kq, x74_48, rfl, HA, HJ48, BK243, BK244, BK245, HB⟩ := hcut
     cases kq with
     | zero => exact absurd HA.out (by simp [impl_RunOk.j1])
     | succ kj48 =>
      have H := HA.out; clear HA; simp only [impl_RunOk.j1] at H
      by_cases c63 : x74_48 = true
      ·subst c63
       have H1 : (some false) = some r := by rw [if_pos rfl] at H; exact H
       clear H; have H := H1; clear H1; obtain rfl := Option.some.inj H
       go_wp2
       go_ret; exact ⟨by first | rfl | (simp [errW_none, errW_some] <;> rfl) | (simp [*, errW_none, errW_some] <;> rfl), by repeat (first | (with_reducible first | exact HB.out | apply below_alloc | apply pw_below_drewN | apply below_drew1 | refine below_set ?_ GE243.out | refine below_set ?_ GE244.out | refine below_set ?_ GE245.out) | exact HB.out)⟩
      ·replace c63 := Bool.eq_false_iff.mpr c63; subst c63
       have H1 : (impl_RunOk.l0 kj48 false (wrap64 ((l2_0.length : Int) - 1)) 0 a0_0 a0_1 a0_2 l0_3 l1_0 l1_1 l2_0 a2_1) = some r := by rw [if_neg (show ¬ (false = true) by decide)] at H; exact H
       clear H; have H := H1; clear H1; have H' := Aside0.mk H; clear H; have HI244 := Aside0.mk (show IsS78 w wc gb244 l1_0 l1_1 from ⟨A1_0, c1_0, A1_1, c1_1, BK244.out, GW244.out, HR1_0.out, HR1_1.out⟩); clear BK244
       go_wp2
       go_loopg [8, 76] kj48 (fun kq v8 v76 w' => ∃ (x8_3 : Bool) (x76_3 : Int), v8 = .bool x8_3 ∧ v76 = .int .i64 x76_3 ∧ Aside0 (impl_RunOk.l0 kq x8_3 (wrap64 ((l2_0.length : Int) - 1)) x76_3 a0_0 a0_1 a0_2 l0_3 l1_0 l1_1 l2_0 a2_1 = some r) ∧ Aside0 (kq ≤ kj48) ∧ Aside0 (w'.heap[gb243]? = some (.cells #[.int .i64 a0_0, .int .i64 a0_1, .int .i64 a0_2, (.slice A0_3 l0_3.length c0_3)] 24 (0, 0))) ∧ Aside0 (w'.heap[gb245]? = some (.cells #[(.slice A2_0 l2_0.length c2_0), .int .i64 a2_1] 80 (0, 0))) ∧ Aside0 (IsS78 w w' gb244 l1_0 l1_1) ∧ Aside0 (Below w.heap.size w w'))
       case atStart => exact ⟨(false), (0), (by first | rfl | (simp; done) | (simp [*]; done) | (rw [Int.tmod_eq_emod_of_nonneg (Int.natCast_nonneg _)]; done)), (by first | rfl | (simp; done) | (simp [*]; done) | (rw [Int.tmod_eq_emod_of_nonneg (Int.natCast_nonneg _)]; done)), H', ⟨Nat.le_refl _⟩, ⟨zB BK243.out⟩, ⟨zB BK245.out⟩, ⟨by repeat (first | (with_reducible first | exact HI244.out | apply IsS78.alloc | apply IsS78.drewN | apply IsS78.drew | refine IsS78.far ?_ NB244_243.out _ | refine IsS78.far ?_ NB244_245.out _) | exact HI244.out)⟩, ⟨by repeat (first | (with_reducible first | exact HB.out | apply below_alloc | apply pw_below_drewN | apply below_drew1 | refine below_set ?_ (IsS78.ge HI244.out) | refine below_set ?_ GE243.out | refine below_set ?_ GE245.out) | exact HB.out)⟩⟩
       case round =>
        clear H'
        try clear c1
        try clear c2
        try clear p2
        try clear q2
        try clear hx2
        try clear qi2
        try clear c5
        try clear c6
        try clear p6
        try clear c10
        try clear p25
        try clear q25
        try clear hx25
        try clear qi25
        try clear c50
        try clear c52
        try clear c54
        try clear c54b0
        try clear c54b1
        try clear c55
        try clear c56
        try clear c58
        try clear c59
        try clear c63
        try clear hx250_0
        try clear p2
        try clear p25
        try clear p250
        try clear p6
        try clear q2
        try clear q25
        try clear q250
        obtain ⟨x8_3, x76_3, rfl, rfl, HA, HK3, BK243, BK245, HI244, HB⟩ := hrel
        cases gk with
        | zero => exact absurd HA.out (by simp [impl_RunOk.l0])
        | succ k3 =>
         have H := HA.out; clear HA; simp only [impl_RunOk.l0] at H
         by_cases c64 : x76_3 < (wrap64 ((l2_0.length : Int) - 1))
         ·rw [if_pos c64] at H; have c64b0 : decide (x76_3 < (wrap64 ((l2_0.length : Int) - 1))) = true := decide_eq_true c64; clear c64
          by_cases c65 : 0 ≤ x76_3
          ·rw [if_pos c65] at H; have c65b0 : decide (0 ≤ x76_3) = true := decide_eq_true c65; clear c65
           by_cases c66 : x76_3 < (l2_0.length : Int)
           ·rw [if_pos c66] at H; have c66b0 : decide (x76_3 < (l2_0.length : Int)) = true := decide_eq_true c66; clear c66; replace H := Option.bind_eq_some_iff.mp H; obtain ⟨t255, A670, H⟩ := H; replace H : ((impl_Word_letter.f l1_0 l1_1 t255).bind fun t256 => (if 0 ≤ (wrap64 (x76_3 + 1)) then (if (wrap64 (x76_3 + 1)) < (l2_0.length : Int) then ((impl_AutoEdge.f k3 a0_0 a0_1 a0_2 l0_3 (rd l2_0 x76_3) t256 (rd l2_0 (wrap64 (x76_3 + 1)))).bind fun bt258 => (if bt258.2 = true then (if x8_3 = true then (impl_RunOk.l0 k3 true (wrap64 ((l2_0.length : Int) - 1)) (wrap64 (x76_3 + 1)) a0_0 a0_1 a0_2 l0_3 l1_0 l1_1 l2_0 a2_1) else (if bt258.1 = true then (impl_RunOk.l0 k3 (decide (x76_3 ≥ a2_1)) (wrap64 ((l2_0.length : Int) - 1)) (wrap64 (x76_3 + 1)) a0_0 a0_1 a0_2 l0_3 l1_0 l1_1 l2_0 a2_1) else (impl_RunOk.l0 k3 false (wrap64 ((l2_0.length : Int) - 1)) (wrap64 (x76_3 + 1)) a0_0 a0_1 a0_2 l0_3 l1_0 l1_1 l2_0 a2_1))) else (some false))) else (none)) else (none))) = some r := H; have A67 := Aside0.mk A670; clear A670; replace H := Option.bind_eq_some_iff.mp H; obtain ⟨t256, A680, H⟩ := H; replace H : (if 0 ≤ (wrap64 (x76_3 + 1)) then (if (wrap64 (x76_3 + 1)) < (l2_0.length : Int) then ((impl_AutoEdge.f k3 a0_0 a0_1 a0_2 l0_3 (rd l2_0 x76_3) t256 (rd l2_0 (wrap64 (x76_3 + 1)))).bind fun bt258 => (if bt258.2 = true then (if x8_3 = true then (impl_RunOk.l0 k3 true (wrap64 ((l2_0.length : Int) - 1)) (wrap64 (x76_3 + 1)) a0_0 a0_1 a0_2 l0_3 l1_0 l1_1 l2_0 a2_1) else (if bt258.1 = true then (impl_RunOk.l0 k3 (decide (x76_3 ≥ a2_1)) (wrap64 ((l2_0.length : Int) - 1)) (wrap64 (x76_3 + 1)) a0_0 a0_1 a0_2 l0_3 l1_0 l1_1 l2_0 a2_1) else (impl_RunOk.l0 k3 false (wrap64 ((l2_0.length : Int) - 1)) (wrap64 (x76_3 + 1)) a0_0 a0_1 a0_2 l0_3 l1_0 l1_1 l2_0 a2_1))) else (some false))) else (none)) else (none)) = some r := H; have A68 := Aside0.mk A680; clear A680; obtain ⟨ji69, hji69⟩ : ∃ j_ : Int, (wrap64 (x76_3 + 1)) = j_ := ⟨_, rfl⟩
            replace H : (if 0 ≤ (ji69) then (if (ji69) < (l2_0.length : Int) then ((impl_AutoEdge.f k3 a0_0 a0_1 a0_2 l0_3 (rd l2_0 x76_3) t256 (rd l2_0 (ji69))).bind fun bt258 => (if bt258.2 = true then (if x8_3 = true then (impl_RunOk.l0 k3 true (wrap64 ((l2_0.length : Int) - 1)) ji69 a0_0 a0_1 a0_2 l0_3 l1_0 l1_1 l2_0 a2_1) else (if bt258.1 = true then (impl_RunOk.l0 k3 (decide (x76_3 ≥ a2_1)) (wrap64 ((l2_0.length : Int) - 1)) ji69 a0_0 a0_1 a0_2 l0_3 l1_0 l1_1 l2_0 a2_1) else (impl_RunOk.l0 k3 false (wrap64 ((l2_0.length : Int) - 1)) ji69 a0_0 a0_1 a0_2 l0_3 l1_0 l1_1 l2_0 a2_1))) else (some false))) else (none)) else (none)) = some r := by first | (rw [hji69] at H; exact H) | (simp only [hji69] at H ⊢; exact H)
            (try rw [hji69] at A67)
            (try rw [hji69] at A68)
            have hji69w : (IntKind.i64.wrap (x76_3 + 1)) = ji69 := (i64_w _).trans hji69
            by_cases c70 : 0 ≤ (ji69)
            ·rw [if_pos c70] at H; have c70b0 : decide (0 ≤ (ji69)) = true := decide_eq_true c70; clear c70
             by_cases c71 : (ji69) < (l2_0.length : Int)
             ·rw [if_pos c71] at H; have c71b0 : decide ((ji69) < (l2_0.length : Int)) = true := decide_eq_true c71; clear c71; replace H := Option.bind_eq_some_iff.mp H; obtain ⟨⟨t258, t259⟩, A720, H⟩ := H; replace H : (if t259 = true then (if x8_3 = true then (impl_RunOk.l0 k3 true (wrap64 ((l2_0.length : Int) - 1)) ji69 a0_0 a0_1 a0_2 l0_3 l1_0 l1_1 l2_0 a2_1) else (if t258 = true then (impl_RunOk.l0 k3 (decide (x76_3 ≥ a2_1)) (wrap64 ((l2_0.length : Int) - 1)) ji69 a0_0 a0_1 a0_2 l0_3 l1_0 l1_1 l2_0 a2_1) else (impl_RunOk.l0 k3 false (wrap64 ((l2_0.length : Int) - 1)) ji69 a0_0 a0_1 a0_2 l0_3 l1_0 l1_1 l2_0 a2_1))) else (some false)) = some r := H; have A72 := Aside0.mk A720; clear A720
              by_cases c73 : t259 = true
              ·subst c73
               have H1 : (if x8_3 = true then (impl_RunOk.l0 k3 true (wrap64 ((l2_0.length : Int) - 1)) ji69 a0_0 a0_1 a0_2 l0_3 l1_0 l1_1 l2_0 a2_1) else (if t258 = true then (impl_RunOk.l0 k3 (decide (x76_3 ≥ a2_1)) (wrap64 ((l2_0.length : Int) - 1)) ji69 a0_0 a0_1 a0_2 l0_3 l1_0 l1_1 l2_0 a2_1) else (impl_RunOk.l0 k3 false (wrap64 ((l2_0.length : Int) - 1)) ji69 a0_0 a0_1 a0_2 l0_3 l1_0 l1_1 l2_0 a2_1))) = some r := by rw [if_pos rfl] at H; exact H
               clear H; have H := H1; clear H1
               by_cases c74 : x8_3 = true
               ·subst c74
                have H1 : (impl_RunOk.l0 k3 true (wrap64 ((l2_0.length : Int) - 1)) ji69 a0_0 a0_1 a0_2 l0_3 l1_0 l1_1 l2_0 a2_1) = some r := by rw [if_pos rfl] at H; exact H
                clear H; have H := H1; clear H1; have H' := Aside0.mk H; clear H
                try go_wp2
                have n0_ := Aside0.mk (blk_drew BK243.out); have n1_ := Aside0.mk (blk_drew BK245.out); have n2_ := Aside0.mk (IsS78.drew HI244.out); have n3_ := Aside0.mk (below_drew1 HB.out); clear BK243; clear BK245; clear HI244; clear HB; have BK243 := n0_; have BK245 := n1_; have HI244 := n2_; have HB := n3_; clear n0_ n1_ n2_ n3_; have p254 : 0 ≤ (x76_3 : Int) := oD; have q254 : x76_3 < (l2_0.length : Int) := oD; obtain ⟨ad254, e254, hx254_0⟩ := Kd.at_int HR2_0.out x76_3 p254 q254; have hw254_0 := hx254_0
                cases e254
                replace hx254_0 := cT HB hx254_0; replace p254 := eq_true p254; replace q254 := eq_true q254; have p257 : 0 ≤ ((ji69) : Int) := oD; have q257 : (ji69) < (l2_0.length : Int) := oD; obtain ⟨ad257, e257, hx257_0⟩ := Kd.at_int HR2_0.out (ji69) p257 q257; have hw257_0 := hx257_0; obtain rfl : ad254 = ad257 := (by injection e257); replace hx257_0 := cT HB hx257_0; replace p257 := eq_true p257; replace q257 := eq_true q257
                refine start_ (n := 21) (S := fun w' => w'.cell? ⟨gb243, 0, none⟩ = some (.int .i64 a0_0) ∧ w'.cell? ⟨gb243, 1, none⟩ = some (.int .i64 a0_1) ∧ w'.cell? ⟨gb243, 2, none⟩ = some (.int .i64 a0_2) ∧ w'.cell? ⟨gb243, 3, none⟩ = some (.slice A0_3 l0_3.length c0_3) ∧ w'.cell? ⟨gb245, 0, none⟩ = some (.slice (some ad254) l2_0.length c2_0) ∧ w'.cell? ⟨gb245, 1, none⟩ = some (.int .i64 a2_1) ∧ w'.cell? (ad254.add (x76_3).toNat) = some (.int .i64 (rd l2_0 x76_3)) ∧ w'.cell? (ad254.add ((ji69)).toNat) = some (.int .i64 (rd l2_0 (ji69)))) (ds := []) bl43 (by kernel_rfl) rfl rfl ⟨b1 BK243 0, b1 BK243 1, b1 BK243 2, b1 BK243 3, b1 BK245 0, b1 BK245 1, ((HB.out.cell (World.block_lt_of_cell? w _ hw254_0)).trans hw254_0), ((HB.out.cell (World.block_lt_of_cell? w _ hw257_0)).trans hw257_0)⟩ (fun hHeld => ?_); refine with_tabW impl_RunOk.tab10 impl_RunOk.bits10 (fun HT_ HW_ => ?_)
                generalize wr.drew = w75 at BK243 BK245 HI244 HB hx254_0 hx257_0 hHeld ⊢
                refine pu 1 (some 81) bl44 HT_ ?_ rfl rfl (.inl ⟨by rfl, ?_⟩) ?_ ?_ ?_; rotate_left; (intro w'; go_simp; with_reducible rfl); rotate_left; (simp only [Act.put, q5]; rfl)
                refine pu 3 (some 83) bl45 HT_ ?_ rfl rfl (.inl ⟨by rfl, ?_⟩) ?_ ?_ ?_; rotate_left; (intro w'; go_simp; with_reducible rfl); rotate_left; (simp only [Act.put, q5]; rfl)
                refine pu 6 (some 86) bl46 HT_ ?_ rfl rfl (.inl ⟨by rfl, ?_⟩) ?_ ?_ ?_; rotate_left; (intro w'; go_simp; with_reducible rfl); rotate_left; (simp only [Act.put, q5]; rfl)
                refine pu 9 (some 89) bl47 HT_ ?_ rfl rfl (.inl ⟨by rfl, ?_⟩) ?_ ?_ ?_; rotate_left; (intro w'; go_simp; with_reducible rfl); rotate_left; (simp only [Act.put, q5]; rfl)
                refine pu 11 (some 91) bl48 HT_ ?_ rfl rfl (.inl ⟨by rfl, ?_⟩) ?_ ?_ ?_; rotate_left; (intro w'; go_simp; with_reducible rfl); rotate_left; (simp only [Act.put, q5]; rfl)
                refine pu 12 (some 92) bl49 HT_ ?_ rfl rfl (.inl ⟨by rfl, ?_⟩) ?_ ?_ ?_; rotate_left; (intro w'; go_simp; with_reducible rfl); rotate_left; (simp only [Act.put, q5]; rfl)
                refine take_ (i := 0) (N := some 80) (v := ?_) (a' := ?_) bl50 rfl rfl (take_ofW HT_.out HW_.out (by kernel_rfl)) (fun _ _ _ h => h) (Or.inl ⟨by rfl, ?_⟩) hHeld ?_ ?_; rotate_left
                ·rintro w' ⟨s0, s1, s2, s3, s4, s5, s6, s7⟩; go_simp; with_reducible rfl
                rotate_left
                ·simp only [Act.put, q5]; rfl
                refine take_ (i := 2) (N := some 82) (v := ?_) (a' := ?_) bl51 rfl rfl (take_ofW HT_.out HW_.out (by kernel_rfl)) (fun _ _ _ h => h) (Or.inl ⟨by rfl, ?_⟩) hHeld ?_ ?_; rotate_left
                ·rintro w' ⟨s0, s1, s2, s3, s4, s5, s6, s7⟩; go_simp; with_reducible rfl
                rotate_left
                ·simp only [Act.put, q5]; rfl
                refine pu 4 (some 84) bl52 HT_ ?_ rfl rfl (.inl ⟨by rfl, ?_⟩) ?_ ?_ ?_; rotate_left; (intro w'; go_simp; with_reducible rfl); rotate_left; (simp only [Act.put, q5]; rfl)
                refine take_ (i := 5) (N := some 85) (v := ?_) (a' := ?_) bl53 rfl rfl (take_ofW HT_.out HW_.out (by kernel_rfl)) (fun _ _ _ h => h) (Or.inl ⟨by rfl, ?_⟩) hHeld ?_ ?_; rotate_left
                ·rintro w' ⟨s0, s1, s2, s3, s4, s5, s6, s7⟩; go_simp; with_reducible rfl
                rotate_left
                ·simp only [Act.put, q5]; rfl
                refine take_ (i := 10) (N := some 90) (v := ?_) (a' := ?_) bl54 rfl rfl (take_ofW HT_.out HW_.out (by kernel_rfl)) (fun _ _ _ h => h) (Or.inl ⟨by rfl, ?_⟩) hHeld ?_ ?_; rotate_left
                ·rintro w' ⟨s0, s1, s2, s3, s4, s5, s6, s7⟩; go_simp; with_reducible rfl
                rotate_left
                ·simp only [Act.put, q5]; rfl
                refine pu 13 (some 93) bl55 HT_ ?_ rfl rfl (.inl ⟨by rfl, ?_⟩) ?_ ?_ ?_; rotate_left; (intro w'; go_simp; with_reducible rfl); rotate_left; (simp only [Act.put, q5]; rfl)
                refine take_ (i := 14) (N := some 94) (v := ?_) (a' := ?_) bl56 rfl rfl (take_ofW HT_.out HW_.out (by kernel_rfl)) (fun _ _ _ h => h) (Or.inl ⟨by rfl, ?_⟩) hHeld ?_ ?_; rotate_left
                ·rintro w' ⟨s0, s1, s2, s3, s4, s5, s6, s7⟩; go_simp; with_reducible rfl
                rotate_left
                ·simp only [Act.put, q5]; rfl
                refine one_ (i := 7) (N := some 87) bl57 rfl rfl (one_of HT_.out (by kernel_rfl)) (by decide) (fun K hK => ?_); refine goes_ Try.func102 (by kernel_rfl) rfl #[.pointer (some ⟨gb244, 0, none⟩), .int .i64 x76_3] (by rfl) rfl rfl (by (try simp only [m3]); first | done | rfl | (simp only [d2]; rfl)) ?_
                with_reducible refine (impl_Word_placeOf.calls gb244 l1_0 l1_1 x76_3 t255 w _ ?side1 ?side2 A67.out).mono ?_
                (case side1 => repeat (first | (with_reducible first | exact HI244.out | apply IsS78.alloc | apply IsS78.drewN | apply IsS78.drew | refine IsS78.far ?_ NB244_243.out _ | refine IsS78.far ?_ NB244_245.out _) | exact HI244.out))
                (case side2 => repeat (first | (with_reducible first | exact HB.out | apply below_alloc | apply pw_below_drewN | apply below_drew1 | refine below_set ?_ (IsS78.ge HI244.out) | refine below_set ?_ GE243.out | refine below_set ?_ GE245.out) | exact HB.out))
                rintro e w76 ⟨rfl, hi, hb, hk⟩; refine ⟨_, rfl, ?_⟩; have n0_ := Aside0.mk (KeepBut.blk hk (g' := gb243) (o := .cells #[.int .i64 a0_0, .int .i64 a0_1, .int .i64 a0_2, .slice A0_3 l0_3.length c0_3] 24 (0, 0)) (zB BK243.out) NB243_244.out (by simp)); have n1_ := Aside0.mk (KeepBut.blk hk (g' := gb245) (o := .cells #[.slice (some ad254) l2_0.length c2_0, .int .i64 a2_1] 80 (0, 0)) (zB BK245.out) NB245_244.out (by simp)); have n2_ := Aside0.mk (hb); have n3_ := Aside0.mk (hi); clear BK243; clear BK245; clear HB; clear HI244; have BK243 := n0_; have BK245 := n1_; have HB := n2_; have HI244 := n3_; clear n0_ n1_ n2_ n3_
                (try clear hb)
                (try clear hb2)
                (try clear hk)
                (try clear hi)
                refine hK.out _ _ ⟨b1 BK243 0, b1 BK243 1, b1 BK243 2, b1 BK243 3, b1 BK245 0, b1 BK245 1, ((HB.out.cell (World.block_lt_of_cell? w _ hw254_0)).trans hw254_0), ((HB.out.cell (World.block_lt_of_cell? w _ hw257_0)).trans hw257_0)⟩ (fun hHeld => ?_); clear hK K; refine norm_ (a' := ?_) ?_ ?_; rotate_left
                ·show Act.put _ (some 87) _ = _; simp only [Act.put, q5]; rfl
                refine one_ (i := 8) (N := some 88) bl58 rfl rfl (one_of HT_.out (by kernel_rfl)) (by decide) (fun K hK => ?_); refine goes_ Try.func101 (by kernel_rfl) rfl #[.pointer (some ⟨gb244, 0, none⟩), .int .i64 t255] (by rfl) rfl rfl (by (try simp only [m3]); first | done | rfl | (simp only [d2]; rfl)) ?_
                with_reducible refine (impl_Word_letter.calls gb244 l1_0 l1_1 t255 t256 w _ ?side1 ?side2 A68.out).mono ?_
                (case side1 => repeat (first | (with_reducible first | exact HI244.out | apply IsS78.alloc | apply IsS78.drewN | apply IsS78.drew | refine IsS78.far ?_ NB244_243.out _ | refine IsS78.far ?_ NB244_245.out _) | exact HI244.out))
                (case side2 => repeat (first | (with_reducible first | exact HB.out | apply below_alloc | apply pw_below_drewN | apply below_drew1 | refine below_set ?_ (IsS78.ge HI244.out) | refine below_set ?_ GE243.out | refine below_set ?_ GE245.out) | exact HB.out))
                rintro e w77 ⟨rfl, hi, hb, hk⟩; refine ⟨_, rfl, ?_⟩; have n0_ := Aside0.mk (KeepBut.blk hk (g' := gb243) (o := .cells #[.int .i64 a0_0, .int .i64 a0_1, .int .i64 a0_2, .slice A0_3 l0_3.length c0_3] 24 (0, 0)) (zB BK243.out) NB243_244.out (by simp)); have n1_ := Aside0.mk (KeepBut.blk hk (g' := gb245) (o := .cells #[.slice (some ad254) l2_0.length c2_0, .int .i64 a2_1] 80 (0, 0)) (zB BK245.out) NB245_244.out (by simp)); have n2_ := Aside0.mk (hb); have n3_ := Aside0.mk (hi); clear BK243; clear BK245; clear HB; clear HI244; have BK243 := n0_; have BK245 := n1_; have HB := n2_; have HI244 := n3_; clear n0_ n1_ n2_ n3_
                (try clear hb)
                (try clear hb2)
                (try clear hk)
                (try clear hi)
                refine hK.out _ _ ⟨b1 BK243 0, b1 BK243 1, b1 BK243 2, b1 BK243 3, b1 BK245 0, b1 BK245 1, ((HB.out.cell (World.block_lt_of_cell? w _ hw254_0)).trans hw254_0), ((HB.out.cell (World.block_lt_of_cell? w _ hw257_0)).trans hw257_0)⟩ (fun hHeld => ?_); clear hK K; refine norm_ (a' := ?_) ?_ ?_; rotate_left
                ·show Act.put _ (some 88) _ = _; simp only [Act.put, q5]; rfl
                refine one_ (i := 15) (N := some 95) bl59 rfl rfl (one_of HT_.out (by kernel_rfl)) (by decide) (fun K hK => ?_); refine goes_ Try.func29 (by kernel_rfl) rfl #[.agg #[.int .i64 a0_0, .int .i64 a0_1, .int .i64 a0_2, .slice A0_3 l0_3.length c0_3], .int .i64 (rd l2_0 x76_3), .int .i64 t256, .int .i64 (rd l2_0 (ji69))] (by rfl) rfl rfl (by (try simp only [m3]); first | done | (simp only [hji69]; rfl) | rfl | (simp only [d2]; rfl)) ?_
                with_reducible refine (impl_AutoEdge.calls k3 a0_0 a0_1 a0_2 _ _ l0_3 (rd l2_0 x76_3) t256 (rd l2_0 (ji69)) t258 true _ ?side1 ?side2 A72.out).mono ?_
                (case side1 => exact zC (Kd.C_below HR0_3.out HB.out))
                (case side2 => exact HC0_3.out)
                rintro e w78 ⟨rfl, hb⟩; refine ⟨_, rfl, ?_⟩; have n0_ := xB BK243 hb; have n1_ := xB BK245 hb; have n2_ := Aside0.mk (IsS78.below (by repeat (first | (with_reducible first | exact HI244.out | apply IsS78.alloc | apply IsS78.drewN | apply IsS78.drew | refine IsS78.far ?_ NB244_243.out _ | refine IsS78.far ?_ NB244_245.out _) | exact HI244.out)) hb); have n3_ := Aside0.mk (below_step (by repeat (first | (with_reducible first | exact HB.out | apply below_alloc | apply pw_below_drewN | apply below_drew1 | refine below_set ?_ (IsS78.ge HI244.out) | refine below_set ?_ GE243.out | refine below_set ?_ GE245.out) | exact HB.out)) hb); clear BK243; clear BK245; clear HI244; clear HB; have BK243 := n0_; have BK245 := n1_; have HI244 := n2_; have HB := n3_; clear n0_ n1_ n2_ n3_
                (try clear hb)
                (try clear hb2)
                (try clear hk)
                (try clear hi)
                refine hK.out _ _ ⟨b1 BK243 0, b1 BK243 1, b1 BK243 2, b1 BK243 3, b1 BK245 0, b1 BK245 1, ((HB.out.cell (World.block_lt_of_cell? w _ hw254_0)).trans hw254_0), ((HB.out.cell (World.block_lt_of_cell? w _ hw257_0)).trans hw257_0)⟩ (fun hHeld => ?_); clear hK K; refine norm_ (a' := ?_) ?_ ?_; rotate_left
                ·show Act.put _ (some 95) _ = _; simp only [Act.put, q5]; rfl
                refine pu 16 (some 79) bl60 HT_ ?_ rfl rfl (.inl ⟨by rfl, ?_⟩) ?_ ?_ ?_; rotate_left; (intro w'; go_simp; with_reducible rfl); rotate_left; (simp only [Act.put, q5]; rfl)
                refine pu 17 (some 96) bl61 HT_ ?_ rfl rfl (.inl ⟨by rfl, ?_⟩) ?_ ?_ ?_; rotate_left; (intro w'; go_simp; with_reducible rfl); rotate_left; (simp only [Act.put, q5]; rfl)
                refine pu 18 (some 97) bl62 HT_ ?_ rfl rfl (.inl ⟨by rfl, ?_⟩) ?_ ?_ ?_; rotate_left; (intro w'; go_simp; with_reducible rfl); rotate_left; (simp only [Act.put, q5]; rfl)
                refine pu 19 (some 10) bl63 HT_ ?_ rfl rfl (.inl ⟨by rfl, ?_⟩) ?_ ?_ ?_; rotate_left; (intro w'; go_simp; with_reducible rfl); rotate_left; (simp only [Act.put, q5]; rfl)
                refine pu 20 (some 11) bl64 HT_ ?_ rfl rfl (.inl ⟨by rfl, ?_⟩) ?_ ?_ ?_; rotate_left; (intro w'; go_simp; with_reducible rfl); rotate_left; (simp only [Act.put, q5]; rfl)
                refine done_ (done_of HT_.out (by kernel_rfl)) ?_
                try go_wp2
                (first | go_roundg k3 | ((try simp only [← hji69]); go_roundg k3))
                case measure => have := HJ3.out; have := HJ48.out; have := HK3.out; omega
                case rel => exact ⟨(true), (ji69), (by first | rfl | (simp; done) | (simp [*]; done) | (rw [Int.tmod_eq_emod_of_nonneg (Int.natCast_nonneg _)]; done)), (by first | rfl | (simp; done) | (simp only [← hji69] <;> (first | rfl | simp)) | (simp [*]; done)), (by first | exact H' | (have h_ := H'; (try simp only [← hji69] at h_); (try simp only [← hji69]); exact h_)), ⟨by have := HJ3.out; have := HJ48.out; have := HK3.out; omega⟩, ⟨zB BK243.out⟩, ⟨zB BK245.out⟩, ⟨by repeat (first | (with_reducible first | exact HI244.out | apply IsS78.alloc | apply IsS78.drewN | apply IsS78.drew | refine IsS78.far ?_ NB244_243.out _ | refine IsS78.far ?_ NB244_245.out _) | exact HI244.out)⟩, ⟨by repeat (first | (with_reducible first | exact HB.out | apply below_alloc | apply pw_below_drewN | apply below_drew1 | refine below_set ?_ (IsS78.ge HI244.out) | refine below_set ?_ GE243.out | refine below_set ?_ GE245.out) | exact HB.out)⟩⟩
               ·replace c74 := Bool.eq_false_iff.mpr c74; subst c74
                have H1 : (if t258 = true then (impl_RunOk.l0 k3 (decide (x76_3 ≥ a2_1)) (wrap64 ((l2_0.length : Int) - 1)) ji69 a0_0 a0_1 a0_2 l0_3 l1_0 l1_1 l2_0 a2_1) else (impl_RunOk.l0 k3 false (wrap64 ((l2_0.length : Int) - 1)) ji69 a0_0 a0_1 a0_2 l0_3 l1_0 l1_1 l2_0 a2_1)) = some r := by rw [if_neg (show ¬ (false = true) by decide)] at H; exact H
                clear H; have H := H1; clear H1
                by_cases c79 : t258 = true
                ·subst c79
                 have H1 : (impl_RunOk.l0 k3 (decide (x76_3 ≥ a2_1)) (wrap64 ((l2_0.length : Int) - 1)) ji69 a0_0 a0_1 a0_2 l0_3 l1_0 l1_1 l2_0 a2_1) = some r := by rw [if_pos rfl] at H; exact H
                 clear H; have H := H1; clear H1; have H' := Aside0.mk H; clear H
                 try go_wp2
                 have n0_ := Aside0.mk (blk_drew BK243.out); have n1_ := Aside0.mk (blk_drew BK245.out); have n2_ := Aside0.mk (IsS78.drew HI244.out); have n3_ := Aside0.mk (below_drew1 HB.out); clear BK243; clear BK245; clear HI244; clear HB; have BK243 := n0_; have BK245 := n1_; have HI244 := n2_; have HB := n3_; clear n0_ n1_ n2_ n3_; have p254 : 0 ≤ (x76_3 : Int) := oD; have q254 : x76_3 < (l2_0.length : Int) := oD; obtain ⟨ad254, e254, hx254_0⟩ := Kd.at_int HR2_0.out x76_3 p254 q254; have hw254_0 := hx254_0
                 cases e254
                 replace hx254_0 := cT HB hx254_0; replace p254 := eq_true p254; replace q254 := eq_true q254; have p257 : 0 ≤ ((ji69) : Int) := oD; have q257 : (ji69) < (l2_0.length : Int) := oD; obtain ⟨ad257, e257, hx257_0⟩ := Kd.at_int HR2_0.out (ji69) p257 q257; have hw257_0 := hx257_0; obtain rfl : ad254 = ad257 := (by injection e257); replace hx257_0 := cT HB hx257_0; replace p257 := eq_true p257; replace q257 := eq_true q257
                 refine start_ (n := 21) (S := fun w' => w'.cell? ⟨gb243, 0, none⟩ = some (.int .i64 a0_0) ∧ w'.cell? ⟨gb243, 1, none⟩ = some (.int .i64 a0_1) ∧ w'.cell? ⟨gb243, 2, none⟩ = some (.int .i64 a0_2) ∧ w'.cell? ⟨gb243, 3, none⟩ = some (.slice A0_3 l0_3.length c0_3) ∧ w'.cell? ⟨gb245, 0, none⟩ = some (.slice (some ad254) l2_0.length c2_0) ∧ w'.cell? ⟨gb245, 1, none⟩ = some (.int .i64 a2_1) ∧ w'.cell? (ad254.add (x76_3).toNat) = some (.int .i64 (rd l2_0 x76_3)) ∧ w'.cell? (ad254.add ((ji69)).toNat) = some (.int .i64 (rd l2_0 (ji69)))) (ds := []) bl43 (by kernel_rfl) rfl rfl ⟨b1 BK243 0, b1 BK243 1, b1 BK243 2, b1 BK243 3, b1 BK245 0, b1 BK245 1, ((HB.out.cell (World.block_lt_of_cell? w _ hw254_0)).trans hw254_0), ((HB.out.cell (World.block_lt_of_cell? w _ hw257_0)).trans hw257_0)⟩ (fun hHeld => ?_); refine with_tabW impl_RunOk.tab10 impl_RunOk.bits10 (fun HT_ HW_ => ?_)
                 generalize wr.drew = w80 at BK243 BK245 HI244 HB hx254_0 hx257_0 hHeld ⊢
                 refine pu 1 (some 81) bl44 HT_ ?_ rfl rfl (.inl ⟨by rfl, ?_⟩) ?_ ?_ ?_; rotate_left; (intro w'; go_simp; with_reducible rfl); rotate_left; (simp only [Act.put, q5]; rfl)
                 refine pu 3 (some 83) bl45 HT_ ?_ rfl rfl (.inl ⟨by rfl, ?_⟩) ?_ ?_ ?_; rotate_left; (intro w'; go_simp; with_reducible rfl); rotate_left; (simp only [Act.put, q5]; rfl)
                 refine pu 6 (some 86) bl46 HT_ ?_ rfl rfl (.inl ⟨by rfl, ?_⟩) ?_ ?_ ?_; rotate_left; (intro w'; go_simp; with_reducible rfl); rotate_left; (simp only [Act.put, q5]; rfl)
                 refine pu 9 (some 89) bl47 HT_ ?_ rfl rfl (.inl ⟨by rfl, ?_⟩) ?_ ?_ ?_; rotate_left; (intro w'; go_simp; with_reducible rfl); rotate_left; (simp only [Act.put, q5]; rfl)
                 refine pu 11 (some 91) bl48 HT_ ?_ rfl rfl (.inl ⟨by rfl, ?_⟩) ?_ ?_ ?_; rotate_left; (intro w'; go_simp; with_reducible rfl); rotate_left; (simp only [Act.put, q5]; rfl)
                 refine pu 12 (some 92) bl49 HT_ ?_ rfl rfl (.inl ⟨by rfl, ?_⟩) ?_ ?_ ?_; rotate_left; (intro w'; go_simp; with_reducible rfl); rotate_left; (simp only [Act.put, q5]; rfl)
                 refine take_ (i := 0) (N := some 80) (v := ?_) (a' := ?_) bl50 rfl rfl (take_ofW HT_.out HW_.out (by kernel_rfl)) (fun _ _ _ h => h) (Or.inl ⟨by rfl, ?_⟩) hHeld ?_ ?_; rotate_left
                 ·rintro w' ⟨s0, s1, s2, s3, s4, s5, s6, s7⟩; go_simp; with_reducible rfl
                 rotate_left
                 ·simp only [Act.put, q5]; rfl
                 refine take_ (i := 2) (N := some 82) (v := ?_) (a' := ?_) bl51 rfl rfl (take_ofW HT_.out HW_.out (by kernel_rfl)) (fun _ _ _ h => h) (Or.inl ⟨by rfl, ?_⟩) hHeld ?_ ?_; rotate_left
                 ·rintro w' ⟨s0, s1, s2, s3, s4, s5, s6, s7⟩; go_simp; with_reducible rfl
                 rotate_left
                 ·simp only [Act.put, q5]; rfl
                 refine pu 4 (some 84) bl52 HT_ ?_ rfl rfl (.inl ⟨by rfl, ?_⟩) ?_ ?_ ?_; rotate_left; (intro w'; go_simp; with_reducible rfl); rotate_left; (simp only [Act.put, q5]; rfl)
                 refine take_ (i := 5) (N := some 85) (v := ?_) (a' := ?_) bl53 rfl rfl (take_ofW HT_.out HW_.out (by kernel_rfl)) (fun _ _ _ h => h) (Or.inl ⟨by rfl, ?_⟩) hHeld ?_ ?_; rotate_left
                 ·rintro w' ⟨s0, s1, s2, s3, s4, s5, s6, s7⟩; go_simp; with_reducible rfl
                 rotate_left
                 ·simp only [Act.put, q5]; rfl
                 refine take_ (i := 10) (N := some 90) (v := ?_) (a' := ?_) bl54 rfl rfl (take_ofW HT_.out HW_.out (by kernel_rfl)) (fun _ _ _ h => h) (Or.inl ⟨by rfl, ?_⟩) hHeld ?_ ?_; rotate_left
                 ·rintro w' ⟨s0, s1, s2, s3, s4, s5, s6, s7⟩; go_simp; with_reducible rfl
                 rotate_left
                 ·simp only [Act.put, q5]; rfl
                 refine pu 13 (some 93) bl55 HT_ ?_ rfl rfl (.inl ⟨by rfl, ?_⟩) ?_ ?_ ?_; rotate_left; (intro w'; go_simp; with_reducible rfl); rotate_left; (simp only [Act.put, q5]; rfl)
                 refine take_ (i := 14) (N := some 94) (v := ?_) (a' := ?_) bl56 rfl rfl (take_ofW HT_.out HW_.out (by kernel_rfl)) (fun _ _ _ h => h) (Or.inl ⟨by rfl, ?_⟩) hHeld ?_ ?_; rotate_left
                 ·rintro w' ⟨s0, s1, s2, s3, s4, s5, s6, s7⟩; go_simp; with_reducible rfl
                 rotate_left
                 ·simp only [Act.put, q5]; rfl
                 refine one_ (i := 7) (N := some 87) bl57 rfl rfl (one_of HT_.out (by kernel_rfl)) (by decide) (fun K hK => ?_); refine goes_ Try.func102 (by kernel_rfl) rfl #[.pointer (some ⟨gb244, 0, none⟩), .int .i64 x76_3] (by rfl) rfl rfl (by (try simp only [m3]); first | done | rfl | (simp only [d2]; rfl)) ?_
                 with_reducible refine (impl_Word_placeOf.calls gb244 l1_0 l1_1 x76_3 t255 w _ ?side1 ?side2 A67.out).mono ?_
                 (case side1 => repeat (first | (with_reducible first | exact HI244.out | apply IsS78.alloc | apply IsS78.drewN | apply IsS78.drew | refine IsS78.far ?_ NB244_243.out _ | refine IsS78.far ?_ NB244_245.out _) | exact HI244.out))
                 (case side2 => repeat (first | (with_reducible first | exact HB.out | apply below_alloc | apply pw_below_drewN | apply below_drew1 | refine below_set ?_ (IsS78.ge HI244.out) | refine below_set ?_ GE243.out | refine below_set ?_ GE245.out) | exact HB.out))
                 rintro e w81 ⟨rfl, hi, hb, hk⟩; refine ⟨_, rfl, ?_⟩; have n0_ := Aside0.mk (KeepBut.blk hk (g' := gb243) (o := .cells #[.int .i64 a0_0, .int .i64 a0_1, .int .i64 a0_2, .slice A0_3 l0_3.length c0_3] 24 (0, 0)) (zB BK243.out) NB243_244.out (by simp)); have n1_ := Aside0.mk (KeepBut.blk hk (g' := gb245) (o := .cells #[.slice (some ad254) l2_0.length c2_0, .int .i64 a2_1] 80 (0, 0)) (zB BK245.out) NB245_244.out (by simp)); have n2_ := Aside0.mk (hb); have n3_ := Aside0.mk (hi); clear BK243; clear BK245; clear HB; clear HI244; have BK243 := n0_; have BK245 := n1_; have HB := n2_; have HI244 := n3_; clear n0_ n1_ n2_ n3_
                 (try clear hb)
                 (try clear hb2)
                 (try clear hk)
                 (try clear hi)
                 refine hK.out _ _ ⟨b1 BK243 0, b1 BK243 1, b1 BK243 2, b1 BK243 3, b1 BK245 0, b1 BK245 1, ((HB.out.cell (World.block_lt_of_cell? w _ hw254_0)).trans hw254_0), ((HB.out.cell (World.block_lt_of_cell? w _ hw257_0)).trans hw257_0)⟩ (fun hHeld => ?_); clear hK K; refine norm_ (a' := ?_) ?_ ?_; rotate_left
                 ·show Act.put _ (some 87) _ = _; simp only [Act.put, q5]; rfl
                 refine one_ (i := 8) (N := some 88) bl58 rfl rfl (one_of HT_.out (by kernel_rfl)) (by decide) (fun K hK => ?_); refine goes_ Try.func101 (by kernel_rfl) rfl #[.pointer (some ⟨gb244, 0, none⟩), .int .i64 t255] (by rfl) rfl rfl (by (try simp only [m3]); first | done | rfl | (simp only [d2]; rfl)) ?_
                 with_reducible refine (impl_Word_letter.calls gb244 l1_0 l1_1 t255 t256 w _ ?side1 ?side2 A68.out).mono ?_
                 (case side1 => repeat (first | (with_reducible first | exact HI244.out | apply IsS78.alloc | apply IsS78.drewN | apply IsS78.drew | refine IsS78.far ?_ NB244_243.out _ | refine IsS78.far ?_ NB244_245.out _) | exact HI244.out))
                 (case side2 => repeat (first | (with_reducible first | exact HB.out | apply below_alloc | apply pw_below_drewN | apply below_drew1 | refine below_set ?_ (IsS78.ge HI244.out) | refine below_set ?_ GE243.out | refine below_set ?_ GE245.out) | exact HB.out))
                 rintro e w82 ⟨rfl, hi, hb, hk⟩; refine ⟨_, rfl, ?_⟩; have n0_ := Aside0.mk (KeepBut.blk hk (g' := gb243) (o := .cells #[.int .i64 a0_0, .int .i64 a0_1, .int .i64 a0_2, .slice A0_3 l0_3.length c0_3] 24 (0, 0)) (zB BK243.out) NB243_244.out (by simp)); have n1_ := Aside0.mk (KeepBut.blk hk (g' := gb245) (o := .cells #[.slice (some ad254) l2_0.length c2_0, .int .i64 a2_1] 80 (0, 0)) (zB BK245.out) NB245_244.out (by simp)); have n2_ := Aside0.mk (hb); have n3_ := Aside0.mk (hi); clear BK243; clear BK245; clear HB; clear HI244; have BK243 := n0_; have BK245 := n1_; have HB := n2_; have HI244 := n3_; clear n0_ n1_ n2_ n3_
                 (try clear hb)
                 (try clear hb2)
                 (try clear hk)
                 (try clear hi)
                 refine hK.out _ _ ⟨b1 BK243 0, b1 BK243 1, b1 BK243 2, b1 BK243 3, b1 BK245 0, b1 BK245 1, ((HB.out.cell (World.block_lt_of_cell? w _ hw254_0)).trans hw254_0), ((HB.out.cell (World.block_lt_of_cell? w _ hw257_0)).trans hw257_0)⟩ (fun hHeld => ?_); clear hK K; refine norm_ (a' := ?_) ?_ ?_; rotate_left
                 ·show Act.put _ (some 88) _ = _; simp only [Act.put, q5]; rfl
                 refine one_ (i := 15) (N := some 95) bl59 rfl rfl (one_of HT_.out (by kernel_rfl)) (by decide) (fun K hK => ?_); refine goes_ Try.func29 (by kernel_rfl) rfl #[.agg #[.int .i64 a0_0, .int .i64 a0_1, .int .i64 a0_2, .slice A0_3 l0_3.length c0_3], .int .i64 (rd l2_0 x76_3), .int .i64 t256, .int .i64 (rd l2_0 (ji69))] (by rfl) rfl rfl (by (try simp only [m3]); first | done | (simp only [hji69]; rfl) | rfl | (simp only [d2]; rfl)) ?_
                 with_reducible refine (impl_AutoEdge.calls k3 a0_0 a0_1 a0_2 _ _ l0_3 (rd l2_0 x76_3) t256 (rd l2_0 (ji69)) true true _ ?side1 ?side2 A72.out).mono ?_
                 (case side1 => exact zC (Kd.C_below HR0_3.out HB.out))
                 (case side2 => exact HC0_3.out)
                 rintro e w83 ⟨rfl, hb⟩; refine ⟨_, rfl, ?_⟩; have n0_ := xB BK243 hb; have n1_ := xB BK245 hb; have n2_ := Aside0.mk (IsS78.below (by repeat (first | (with_reducible first | exact HI244.out | apply IsS78.alloc | apply IsS78.drewN | apply IsS78.drew | refine IsS78.far ?_ NB244_243.out _ | refine IsS78.far ?_ NB244_245.out _) | exact HI244.out)) hb); have n3_ := Aside0.mk (below_step (by repeat (first | (with_reducible first | exact HB.out | apply below_alloc | apply pw_below_drewN | apply below_drew1 | refine below_set ?_ (IsS78.ge HI244.out) | refine below_set ?_ GE243.out | refine below_set ?_ GE245.out) | exact HB.out)) hb); clear BK243; clear BK245; clear HI244; clear HB; have BK243 := n0_; have BK245 := n1_; have HI244 := n2_; have HB := n3_; clear n0_ n1_ n2_ n3_
                 (try clear hb)
                 (try clear hb2)
                 (try clear hk)
                 (try clear hi)
                 refine hK.out _ _ ⟨b1 BK243 0, b1 BK243 1, b1 BK243 2, b1 BK243 3, b1 BK245 0, b1 BK245 1, ((HB.out.cell (World.block_lt_of_cell? w _ hw254_0)).trans hw254_0), ((HB.out.cell (World.block_lt_of_cell? w _ hw257_0)).trans hw257_0)⟩ (fun hHeld => ?_); clear hK K; refine norm_ (a' := ?_) ?_ ?_; rotate_left
                 ·show Act.put _ (some 95) _ = _; simp only [Act.put, q5]; rfl
                 refine pu 16 (some 79) bl60 HT_ ?_ rfl rfl (.inl ⟨by rfl, ?_⟩) ?_ ?_ ?_; rotate_left; (intro w'; go_simp; with_reducible rfl); rotate_left; (simp only [Act.put, q5]; rfl)
                 refine pu 17 (some 96) bl61 HT_ ?_ rfl rfl (.inl ⟨by rfl, ?_⟩) ?_ ?_ ?_; rotate_left; (intro w'; go_simp; with_reducible rfl); rotate_left; (simp only [Act.put, q5]; rfl)
                 refine pu 18 (some 97) bl62 HT_ ?_ rfl rfl (.inl ⟨by rfl, ?_⟩) ?_ ?_ ?_; rotate_left; (intro w'; go_simp; with_reducible rfl); rotate_left; (simp only [Act.put, q5]; rfl)
                 refine pu 19 (some 10) bl63 HT_ ?_ rfl rfl (.inl ⟨by rfl, ?_⟩) ?_ ?_ ?_; rotate_left; (intro w'; go_simp; with_reducible rfl); rotate_left; (simp only [Act.put, q5]; rfl)
                 refine pu 20 (some 11) bl64 HT_ ?_ rfl rfl (.inl ⟨by rfl, ?_⟩) ?_ ?_ ?_; rotate_left; (intro w'; go_simp; with_reducible rfl); rotate_left; (simp only [Act.put, q5]; rfl)
                 refine done_ (done_of HT_.out (by kernel_rfl)) ?_; have hnb84 := NB245_243.out; have hnc84 := NB243_245.out; have hnb85 := NB245_244.out; have hnc85 := NB244_245.out; have hcz86_0 : w83.cell? ⟨gb245, 0, none⟩ = some (.slice (some ad254) l2_0.length c2_0) := b1 BK245 0; have hcz86_1 : w83.cell? ⟨gb245, 1, none⟩ = some (.int .i64 a2_1) := b1 BK245 1; have hfz86_0 := blk_frozen BK245.out 0; have hfz86_1 := blk_frozen BK245.out 1
                 try go_wp2
                 (first | go_roundg k3 | ((try simp only [← hji69]); go_roundg k3))
                 case measure => have := HJ3.out; have := HJ48.out; have := HK3.out; omega
                 case rel => exact ⟨(decide (x76_3 ≥ a2_1)), (ji69), (by first | rfl | (simp; done) | (simp [*]; done) | (rw [Int.tmod_eq_emod_of_nonneg (Int.natCast_nonneg _)]; done)), (by first | rfl | (simp; done) | (simp only [← hji69] <;> (first | rfl | simp)) | (simp [*]; done)), (by first | exact H' | (have h_ := H'; (try simp only [← hji69] at h_); (try simp only [← hji69]); exact h_)), ⟨by have := HJ3.out; have := HJ48.out; have := HK3.out; omega⟩, ⟨zB BK243.out⟩, ⟨zB BK245.out⟩, ⟨by repeat (first | (with_reducible first | exact HI244.out | apply IsS78.alloc | apply IsS78.drewN | apply IsS78.drew | refine IsS78.far ?_ NB244_243.out _ | refine IsS78.far ?_ NB244_245.out _) | exact HI244.out)⟩, ⟨by repeat (first | (with_reducible first | exact HB.out | apply below_alloc | apply pw_below_drewN | apply below_drew1 | refine below_set ?_ (IsS78.ge HI244.out) | refine below_set ?_ GE243.out | refine below_set ?_ GE245.out) | exact HB.out)⟩⟩
                ·replace c79 := Bool.eq_false_iff.mpr c79; subst c79
                 have H1 : (impl_RunOk.l0 k3 false (wrap64 ((l2_0.length : Int) - 1)) ji69 a0_0 a0_1 a0_2 l0_3 l1_0 l1_1 l2_0 a2_1) = some r := by rw [if_neg (show ¬ (false = true) by decide)] at H; exact H
                 clear H; have H := H1; clear H1; have H' := Aside0.mk H; clear H
                 try go_wp2
                 have n0_ := Aside0.mk (blk_drew BK243.out); have n1_ := Aside0.mk (blk_drew BK245.out); have n2_ := Aside0.mk (IsS78.drew HI244.out); have n3_ := Aside0.mk (below_drew1 HB.out); clear BK243; clear BK245; clear HI244; clear HB; have BK243 := n0_; have BK245 := n1_; have HI244 := n2_; have HB := n3_; clear n0_ n1_ n2_ n3_; have p254 : 0 ≤ (x76_3 : Int) := oD; have q254 : x76_3 < (l2_0.length : Int) := oD; obtain ⟨ad254, e254, hx254_0⟩ := Kd.at_int HR2_0.out x76_3 p254 q254; have hw254_0 := hx254_0
                 cases e254
                 replace hx254_0 := cT HB hx254_0; replace p254 := eq_true p254; replace q254 := eq_true q254; have p257 : 0 ≤ ((ji69) : Int) := oD; have q257 : (ji69) < (l2_0.length : Int) := oD; obtain ⟨ad257, e257, hx257_0⟩ := Kd.at_int HR2_0.out (ji69) p257 q257; have hw257_0 := hx257_0; obtain rfl : ad254 = ad257 := (by injection e257); replace hx257_0 := cT HB hx257_0; replace p257 := eq_true p257; replace q257 := eq_true q257
                 refine start_ (n := 21) (S := fun w' => w'.cell? ⟨gb243, 0, none⟩ = some (.int .i64 a0_0) ∧ w'.cell? ⟨gb243, 1, none⟩ = some (.int .i64 a0_1) ∧ w'.cell? ⟨gb243, 2, none⟩ = some (.int .i64 a0_2) ∧ w'.cell? ⟨gb243, 3, none⟩ = some (.slice A0_3 l0_3.length c0_3) ∧ w'.cell? ⟨gb245, 0, none⟩ = some (.slice (some ad254) l2_0.length c2_0) ∧ w'.cell? ⟨gb245, 1, none⟩ = some (.int .i64 a2_1) ∧ w'.cell? (ad254.add (x76_3).toNat) = some (.int .i64 (rd l2_0 x76_3)) ∧ w'.cell? (ad254.add ((ji69)).toNat) = some (.int .i64 (rd l2_0 (ji69)))) (ds := []) bl43 (by kernel_rfl) rfl rfl ⟨b1 BK243 0, b1 BK243 1, b1 BK243 2, b1 BK243 3, b1 BK245 0, b1 BK245 1, ((HB.out.cell (World.block_lt_of_cell? w _ hw254_0)).trans hw254_0), ((HB.out.cell (World.block_lt_of_cell? w _ hw257_0)).trans hw257_0)⟩ (fun hHeld => ?_); refine with_tabW impl_RunOk.tab10 impl_RunOk.bits10 (fun HT_ HW_ => ?_)
                 generalize wr.drew = w87 at BK243 BK245 HI244 HB hx254_0 hx257_0 hHeld ⊢
                 refine pu 1 (some 81) bl44 HT_ ?_ rfl rfl (.inl ⟨by rfl, ?_⟩) ?_ ?_ ?_; rotate_left; (intro w'; go_simp; with_reducible rfl); rotate_left; (simp only [Act.put, q5]; rfl)
                 refine pu 3 (some 83) bl45 HT_ ?_ rfl rfl (.inl ⟨by rfl, ?_⟩) ?_ ?_ ?_; rotate_left; (intro w'; go_simp; with_reducible rfl); rotate_left; (simp only [Act.put, q5]; rfl)
                 refine pu 6 (some 86) bl46 HT_ ?_ rfl rfl (.inl ⟨by rfl, ?_⟩) ?_ ?_ ?_; rotate_left; (intro w'; go_simp; with_reducible rfl); rotate_left; (simp only [Act.put, q5]; rfl)
                 refine pu 9 (some 89) bl47 HT_ ?_ rfl rfl (.inl ⟨by rfl, ?_⟩) ?_ ?_ ?_; rotate_left; (intro w'; go_simp; with_reducible rfl); rotate_left; (simp only [Act.put, q5]; rfl)
                 refine pu 11 (some 91) bl48 HT_ ?_ rfl rfl (.inl ⟨by rfl, ?_⟩) ?_ ?_ ?_; rotate_left; (intro w'; go_simp; with_reducible rfl); rotate_left; (simp only [Act.put, q5]; rfl)
                 refine pu 12 (some 92) bl49 HT_ ?_ rfl rfl (.inl ⟨by rfl, ?_⟩) ?_ ?_ ?_; rotate_left; (intro w'; go_simp; with_reducible rfl); rotate_left; (simp only [Act.put, q5]; rfl)
                 refine take_ (i := 0) (N := some 80) (v := ?_) (a' := ?_) bl50 rfl rfl (take_ofW HT_.out HW_.out (by kernel_rfl)) (fun _ _ _ h => h) (Or.inl ⟨by rfl, ?_⟩) hHeld ?_ ?_; rotate_left
                 ·rintro w' ⟨s0, s1, s2, s3, s4, s5, s6, s7⟩; go_simp; with_reducible rfl
                 rotate_left
                 ·simp only [Act.put, q5]; rfl
                 refine take_ (i := 2) (N := some 82) (v := ?_) (a' := ?_) bl51 rfl rfl (take_ofW HT_.out HW_.out (by kernel_rfl)) (fun _ _ _ h => h) (Or.inl ⟨by rfl, ?_⟩) hHeld ?_ ?_; rotate_left
                 ·rintro w' ⟨s0, s1, s2, s3, s4, s5, s6, s7⟩; go_simp; with_reducible rfl
                 rotate_left
                 ·simp only [Act.put, q5]; rfl
                 refine pu 4 (some 84) bl52 HT_ ?_ rfl rfl (.inl ⟨by rfl, ?_⟩) ?_ ?_ ?_; rotate_left; (intro w'; go_simp; with_reducible rfl); rotate_left; (simp only [Act.put, q5]; rfl)
                 refine take_ (i := 5) (N := some 85) (v := ?_) (a' := ?_) bl53 rfl rfl (take_ofW HT_.out HW_.out (by kernel_rfl)) (fun _ _ _ h => h) (Or.inl ⟨by rfl, ?_⟩) hHeld ?_ ?_; rotate_left
                 ·rintro w' ⟨s0, s1, s2, s3, s4, s5, s6, s7⟩; go_simp; with_reducible rfl
                 rotate_left
                 ·simp only [Act.put, q5]; rfl
                 refine take_ (i := 10) (N := some 90) (v := ?_) (a' := ?_) bl54 rfl rfl (take_ofW HT_.out HW_.out (by kernel_rfl)) (fun _ _ _ h => h) (Or.inl ⟨by rfl, ?_⟩) hHeld ?_ ?_; rotate_left
                 ·rintro w' ⟨s0, s1, s2, s3, s4, s5, s6, s7⟩; go_simp; with_reducible rfl
                 rotate_left
                 ·simp only [Act.put, q5]; rfl
                 refine pu 13 (some 93) bl55 HT_ ?_ rfl rfl (.inl ⟨by rfl, ?_⟩) ?_ ?_ ?_; rotate_left; (intro w'; go_simp; with_reducible rfl); rotate_left; (simp only [Act.put, q5]; rfl)
                 refine take_ (i := 14) (N := some 94) (v := ?_) (a' := ?_) bl56 rfl rfl (take_ofW HT_.out HW_.out (by kernel_rfl)) (fun _ _ _ h => h) (Or.inl ⟨by rfl, ?_⟩) hHeld ?_ ?_; rotate_left
                 ·rintro w' ⟨s0, s1, s2, s3, s4, s5, s6, s7⟩; go_simp; with_reducible rfl
                 rotate_left
                 ·simp only [Act.put, q5]; rfl
                 refine one_ (i := 7) (N := some 87) bl57 rfl rfl (one_of HT_.out (by kernel_rfl)) (by decide) (fun K hK => ?_); refine goes_ Try.func102 (by kernel_rfl) rfl #[.pointer (some ⟨gb244, 0, none⟩), .int .i64 x76_3] (by rfl) rfl rfl (by (try simp only [m3]); first | done | rfl | (simp only [d2]; rfl)) ?_
                 with_reducible refine (impl_Word_placeOf.calls gb244 l1_0 l1_1 x76_3 t255 w _ ?side1 ?side2 A67.out).mono ?_
                 (case side1 => repeat (first | (with_reducible first | exact HI244.out | apply IsS78.alloc | apply IsS78.drewN | apply IsS78.drew | refine IsS78.far ?_ NB244_243.out _ | refine IsS78.far ?_ NB244_245.out _) | exact HI244.out))
                 (case side2 => repeat (first | (with_reducible first | exact HB.out | apply below_alloc | apply pw_below_drewN | apply below_drew1 | refine below_set ?_ (IsS78.ge HI244.out) | refine below_set ?_ GE243.out | refine below_set ?_ GE245.out) | exact HB.out))
                 rintro e w88 ⟨rfl, hi, hb, hk⟩; refine ⟨_, rfl, ?_⟩; have n0_ := Aside0.mk (KeepBut.blk hk (g' := gb243) (o := .cells #[.int .i64 a0_0, .int .i64 a0_1, .int .i64 a0_2, .slice A0_3 l0_3.length c0_3] 24 (0, 0)) (zB BK243.out) NB243_244.out (by simp)); have n1_ := Aside0.mk (KeepBut.blk hk (g' := gb245) (o := .cells #[.slice (some ad254) l2_0.length c2_0, .int .i64 a2_1] 80 (0, 0)) (zB BK245.out) NB245_244.out (by simp)); have n2_ := Aside0.mk (hb); have n3_ := Aside0.mk (hi); clear BK243; clear BK245; clear HB; clear HI244; have BK243 := n0_; have BK245 := n1_; have HB := n2_; have HI244 := n3_; clear n0_ n1_ n2_ n3_
                 (try clear hb)
                 (try clear hb2)
                 (try clear hk)
                 (try clear hi)
                 refine hK.out _ _ ⟨b1 BK243 0, b1 BK243 1, b1 BK243 2, b1 BK243 3, b1 BK245 0, b1 BK245 1, ((HB.out.cell (World.block_lt_of_cell? w _ hw254_0)).trans hw254_0), ((HB.out.cell (World.block_lt_of_cell? w _ hw257_0)).trans hw257_0)⟩ (fun hHeld => ?_); clear hK K; refine norm_ (a' := ?_) ?_ ?_; rotate_left
                 ·show Act.put _ (some 87) _ = _; simp only [Act.put, q5]; rfl
                 refine one_ (i := 8) (N := some 88) bl58 rfl rfl (one_of HT_.out (by kernel_rfl)) (by decide) (fun K hK => ?_); refine goes_ Try.func101 (by kernel_rfl) rfl #[.pointer (some ⟨gb244, 0, none⟩), .int .i64 t255] (by rfl) rfl rfl (by (try simp only [m3]); first | done | rfl | (simp only [d2]; rfl)) ?_
                 with_reducible refine (impl_Word_letter.calls gb244 l1_0 l1_1 t255 t256 w _ ?side1 ?side2 A68.out).mono ?_
                 (case side1 => repeat (first | (with_reducible first | exact HI244.out | apply IsS78.alloc | apply IsS78.drewN | apply IsS78.drew | refine IsS78.far ?_ NB244_243.out _ | refine IsS78.far ?_ NB244_245.out _) | exact HI244.out))
                 (case side2 => repeat (first | (with_reducible first | exact HB.out | apply below_alloc | apply pw_below_drewN | apply below_drew1 | refine below_set ?_ (IsS78.ge HI244.out) | refine below_set ?_ GE243.out | refine below_set ?_ GE245.out) | exact HB.out))
                 rintro e w89 ⟨rfl, hi, hb, hk⟩; refine ⟨_, rfl, ?_⟩; have n0_ := Aside0.mk (KeepBut.blk hk (g' := gb243) (o := .cells #[.int .i64 a0_0, .int .i64 a0_1, .int .i64 a0_2, .slice A0_3 l0_3.length c0_3] 24 (0, 0)) (zB BK243.out) NB243_244.out (by simp)); have n1_ := Aside0.mk (KeepBut.blk hk (g' := gb245) (o := .cells #[.slice (some ad254) l2_0.length c2_0, .int .i64 a2_1] 80 (0, 0)) (zB BK245.out) NB245_244.out (by simp)); have n2_ := Aside0.mk (hb); have n3_ := Aside0.mk (hi); clear BK243; clear BK245; clear HB; clear HI244; have BK243 := n0_; have BK245 := n1_; have HB := n2_; have HI244 := n3_; clear n0_ n1_ n2_ n3_
                 (try clear hb)
                 (try clear hb2)
                 (try clear hk)
                 (try clear hi)
                 refine hK.out _ _ ⟨b1 BK243 0, b1 BK243 1, b1 BK243 2, b1 BK243 3, b1 BK245 0, b1 BK245 1, ((HB.out.cell (World.block_lt_of_cell? w _ hw254_0)).trans hw254_0), ((HB.out.cell (World.block_lt_of_cell? w _ hw257_0)).trans hw257_0)⟩ (fun hHeld => ?_); clear hK K; refine norm_ (a' := ?_) ?_ ?_; rotate_left
                 ·show Act.put _ (some 88) _ = _; simp only [Act.put, q5]; rfl
                 refine one_ (i := 15) (N := some 95) bl59 rfl rfl (one_of HT_.out (by kernel_rfl)) (by decide) (fun K hK => ?_); refine goes_ Try.func29 (by kernel_rfl) rfl #[.agg #[.int .i64 a0_0, .int .i64 a0_1, .int .i64 a0_2, .slice A0_3 l0_3.length c0_3], .int .i64 (rd l2_0 x76_3), .int .i64 t256, .int .i64 (rd l2_0 (ji69))] (by rfl) rfl rfl (by (try simp only [m3]); first | done | (simp only [hji69]; rfl) | rfl | (simp only [d2]; rfl)) ?_
                 with_reducible refine (impl_AutoEdge.calls k3 a0_0 a0_1 a0_2 _ _ l0_3 (rd l2_0 x76_3) t256 (rd l2_0 (ji69)) false true _ ?side1 ?side2 A72.out).mono ?_
                 (case side1 => exact zC (Kd.C_below HR0_3.out HB.out))
                 (case side2 => exact HC0_3.out)
                 rintro e w90 ⟨rfl, hb⟩; refine ⟨_, rfl, ?_⟩; have n0_ := xB BK243 hb; have n1_ := xB BK245 hb; have n2_ := Aside0.mk (IsS78.below (by repeat (first | (with_reducible first | exact HI244.out | apply IsS78.alloc | apply IsS78.drewN | apply IsS78.drew | refine IsS78.far ?_ NB244_243.out _ | refine IsS78.far ?_ NB244_245.out _) | exact HI244.out)) hb); have n3_ := Aside0.mk (below_step (by repeat (first | (with_reducible first | exact HB.out | apply below_alloc | apply pw_below_drewN | apply below_drew1 | refine below_set ?_ (IsS78.ge HI244.out) | refine below_set ?_ GE243.out | refine below_set ?_ GE245.out) | exact HB.out)) hb); clear BK243; clear BK245; clear HI244; clear HB; have BK243 := n0_; have BK245 := n1_; have HI244 := n2_; have HB := n3_; clear n0_ n1_ n2_ n3_
                 (try clear hb)
                 (try clear hb2)
                 (try clear hk)
                 (try clear hi)
                 refine hK.out _ _ ⟨b1 BK243 0, b1 BK243 1, b1 BK243 2, b1 BK243 3, b1 BK245 0, b1 BK245 1, ((HB.out.cell (World.block_lt_of_cell? w _ hw254_0)).trans hw254_0), ((HB.out.cell (World.block_lt_of_cell? w _ hw257_0)).trans hw257_0)⟩ (fun hHeld => ?_); clear hK K; refine norm_ (a' := ?_) ?_ ?_; rotate_left
                 ·show Act.put _ (some 95) _ = _; simp only [Act.put, q5]; rfl
                 refine pu 16 (some 79) bl60 HT_ ?_ rfl rfl (.inl ⟨by rfl, ?_⟩) ?_ ?_ ?_; rotate_left; (intro w'; go_simp; with_reducible rfl); rotate_left; (simp only [Act.put, q5]; rfl)
                 refine pu 17 (some 96) bl61 HT_ ?_ rfl rfl (.inl ⟨by rfl, ?_⟩) ?_ ?_ ?_; rotate_left; (intro w'; go_simp; with_reducible rfl); rotate_left; (simp only [Act.put, q5]; rfl)
                 refine pu 18 (some 97) bl62 HT_ ?_ rfl rfl (.inl ⟨by rfl, ?_⟩) ?_ ?_ ?_; rotate_left; (intro w'; go_simp; with_reducible rfl); rotate_left; (simp only [Act.put, q5]; rfl)
                 refine pu 19 (some 10) bl63 HT_ ?_ rfl rfl (.inl ⟨by rfl, ?_⟩) ?_ ?_ ?_; rotate_left; (intro w'; go_simp; with_reducible rfl); rotate_left; (simp only [Act.put, q5]; rfl)
                 refine pu 20 (some 11) bl64 HT_ ?_ rfl rfl (.inl ⟨by rfl, ?_⟩) ?_ ?_ ?_; rotate_left; (intro w'; go_simp; with_reducible rfl); rotate_left; (simp only [Act.put, q5]; rfl)
                 refine done_ (done_of HT_.out (by kernel_rfl)) ?_
                 try go_wp2
                 (first | go_roundg k3 | ((try simp only [← hji69]); go_roundg k3))
                 case measure => have := HJ3.out; have := HJ48.out; have := HK3.out; omega
                 case rel => exact ⟨(false), (ji69), (by first | rfl | (simp; done) | (simp [*]; done) | (rw [Int.tmod_eq_emod_of_nonneg (Int.natCast_nonneg _)]; done)), (by first | rfl | (simp; done) | (simp only [← hji69] <;> (first | rfl | simp)) | (simp [*]; done)), (by first | exact H' | (have h_ := H'; (try simp only [← hji69] at h_); (try simp only [← hji69]); exact h_)), ⟨by have := HJ3.out; have := HJ48.out; have := HK3.out; omega⟩, ⟨zB BK243.out⟩, ⟨zB BK245.out⟩, ⟨by repeat (first | (with_reducible first | exact HI244.out | apply IsS78.alloc | apply IsS78.drewN | apply IsS78.drew | refine IsS78.far ?_ NB244_243.out _ | refine IsS78.far ?_ NB244_245.out _) | exact HI244.out)⟩, ⟨by repeat (first | (with_reducible first | exact HB.out | apply below_alloc | apply pw_below_drewN | apply below_drew1 | refine below_set ?_ (IsS78.ge HI244.out) | refine below_set ?_ GE243.out | refine below_set ?_ GE245.out) | exact HB.out)⟩⟩
              ·replace c73 := Bool.eq_false_iff.mpr c73; subst c73
               have H1 : (some false) = some r := by rw [if_neg (show ¬ (false = true) by decide)] at H; exact H
               clear H; have H := H1; clear H1; obtain rfl := Option.some.inj H
               try go_wp2
               have n0_ := Aside0.mk (blk_drew BK243.out); have n1_ := Aside0.mk (blk_drew BK245.out); have n2_ := Aside0.mk (IsS78.drew HI244.out); have n3_ := Aside0.mk (below_drew1 HB.out); clear BK243; clear BK245; clear HI244; clear HB; have BK243 := n0_; have BK245 := n1_; have HI244 := n2_; have HB := n3_; clear n0_ n1_ n2_ n3_; have p254 : 0 ≤ (x76_3 : Int) := oD; have q254 : x76_3 < (l2_0.length : Int) := oD; obtain ⟨ad254, e254, hx254_0⟩ := Kd.at_int HR2_0.out x76_3 p254 q254; have hw254_0 := hx254_0
               cases e254
               replace hx254_0 := cT HB hx254_0; replace p254 := eq_true p254; replace q254 := eq_true q254; have p257 : 0 ≤ ((ji69) : Int) := oD; have q257 : (ji69) < (l2_0.length : Int) := oD; obtain ⟨ad257, e257, hx257_0⟩ := Kd.at_int HR2_0.out (ji69) p257 q257; have hw257_0 := hx257_0; obtain rfl : ad254 = ad257 := (by injection e257); replace hx257_0 := cT HB hx257_0; replace p257 := eq_true p257; replace q257 := eq_true q257
               refine start_ (n := 21) (S := fun w' => w'.cell? ⟨gb243, 0, none⟩ = some (.int .i64 a0_0) ∧ w'.cell? ⟨gb243, 1, none⟩ = some (.int .i64 a0_1) ∧ w'.cell? ⟨gb243, 2, none⟩ = some (.int .i64 a0_2) ∧ w'.cell? ⟨gb243, 3, none⟩ = some (.slice A0_3 l0_3.length c0_3) ∧ w'.cell? ⟨gb245, 0, none⟩ = some (.slice (some ad254) l2_0.length c2_0) ∧ w'.cell? ⟨gb245, 1, none⟩ = some (.int .i64 a2_1) ∧ w'.cell? (ad254.add (x76_3).toNat) = some (.int .i64 (rd l2_0 x76_3)) ∧ w'.cell? (ad254.add ((ji69)).toNat) = some (.int .i64 (rd l2_0 (ji69)))) (ds := []) bl43 (by kernel_rfl) rfl rfl ⟨b1 BK243 0, b1 BK243 1, b1 BK243 2, b1 BK243 3, b1 BK245 0, b1 BK245 1, ((HB.out.cell (World.block_lt_of_cell? w _ hw254_0)).trans hw254_0), ((HB.out.cell (World.block_lt_of_cell? w _ hw257_0)).trans hw257_0)⟩ (fun hHeld => ?_); refine with_tabW impl_RunOk.tab10 impl_RunOk.bits10 (fun HT_ HW_ => ?_)
               generalize wr.drew = w91 at BK243 BK245 HI244 HB hx254_0 hx257_0 hHeld ⊢
               refine pu 1 (some 81) bl44 HT_ ?_ rfl rfl (.inl ⟨by rfl, ?_⟩) ?_ ?_ ?_; rotate_left; (intro w'; go_simp; with_reducible rfl); rotate_left; (simp only [Act.put, q5]; rfl)
               refine pu 3 (some 83) bl45 HT_ ?_ rfl rfl (.inl ⟨by rfl, ?_⟩) ?_ ?_ ?_; rotate_left; (intro w'; go_simp; with_reducible rfl); rotate_left; (simp only [Act.put, q5]; rfl)
               refine pu 6 (some 86) bl46 HT_ ?_ rfl rfl (.inl ⟨by rfl, ?_⟩) ?_ ?_ ?_; rotate_left; (intro w'; go_simp; with_reducible rfl); rotate_left; (simp only [Act.put, q5]; rfl)
               refine pu 9 (some 89) bl47 HT_ ?_ rfl rfl (.inl ⟨by rfl, ?_⟩) ?_ ?_ ?_; rotate_left; (intro w'; go_simp; with_reducible rfl); rotate_left; (simp only [Act.put, q5]; rfl)
               refine pu 11 (some 91) bl48 HT_ ?_ rfl rfl (.inl ⟨by rfl, ?_⟩) ?_ ?_ ?_; rotate_left; (intro w'; go_simp; with_reducible rfl); rotate_left; (simp only [Act.put, q5]; rfl)
               refine pu 12 (some 92) bl49 HT_ ?_ rfl rfl (.inl ⟨by rfl, ?_⟩) ?_ ?_ ?_; rotate_left; (intro w'; go_simp; with_reducible rfl); rotate_left; (simp only [Act.put, q5]; rfl)
               refine take_ (i := 0) (N := some 80) (v := ?_) (a' := ?_) bl50 rfl rfl (take_ofW HT_.out HW_.out (by kernel_rfl)) (fun _ _ _ h => h) (Or.inl ⟨by rfl, ?_⟩) hHeld ?_ ?_; rotate_left
               ·rintro w' ⟨s0, s1, s2, s3, s4, s5, s6, s7⟩; go_simp; with_reducible rfl
               rotate_left
               ·simp only [Act.put, q5]; rfl
               refine take_ (i := 2) (N := some 82) (v := ?_) (a' := ?_) bl51 rfl rfl (take_ofW HT_.out HW_.out (by kernel_rfl)) (fun _ _ _ h => h) (Or.inl ⟨by rfl, ?_⟩) hHeld ?_ ?_; rotate_left
               ·rintro w' ⟨s0, s1, s2, s3, s4, s5, s6, s7⟩; go_simp; with_reducible rfl
               rotate_left
               ·simp only [Act.put, q5]; rfl
               refine pu 4 (some 84) bl52 HT_ ?_ rfl rfl (.inl ⟨by rfl, ?_⟩) ?_ ?_ ?_; rotate_left; (intro w'; go_simp; with_reducible rfl); rotate_left; (simp only [Act.put, q5]; rfl)
               refine take_ (i := 5) (N := some 85) (v := ?_) (a' := ?_) bl53 rfl rfl (take_ofW HT_.out HW_.out (by kernel_rfl)) (fun _ _ _ h => h) (Or.inl ⟨by rfl, ?_⟩) hHeld ?_ ?_; rotate_left
               ·rintro w' ⟨s0, s1, s2, s3, s4, s5, s6, s7⟩; go_simp; with_reducible rfl
               rotate_left
               ·simp only [Act.put, q5]; rfl
               refine take_ (i := 10) (N := some 90) (v := ?_) (a' := ?_) bl54 rfl rfl (take_ofW HT_.out HW_.out (by kernel_rfl)) (fun _ _ _ h => h) (Or.inl ⟨by rfl, ?_⟩) hHeld ?_ ?_; rotate_left
               ·rintro w' ⟨s0, s1, s2, s3, s4, s5, s6, s7⟩; go_simp; with_reducible rfl
               rotate_left
               ·simp only [Act.put, q5]; rfl
               refine pu 13 (some 93) bl55 HT_ ?_ rfl rfl (.inl ⟨by rfl, ?_⟩) ?_ ?_ ?_; rotate_left; (intro w'; go_simp; with_reducible rfl); rotate_left; (simp only [Act.put, q5]; rfl)
               refine take_ (i := 14) (N := some 94) (v := ?_) (a' := ?_) bl56 rfl rfl (take_ofW HT_.out HW_.out (by kernel_rfl)) (fun _ _ _ h => h) (Or.inl ⟨by rfl, ?_⟩) hHeld ?_ ?_; rotate_left
               ·rintro w' ⟨s0, s1, s2, s3, s4, s5, s6, s7⟩; go_simp; with_reducible rfl
               rotate_left
               ·simp only [Act.put, q5]; rfl
               refine one_ (i := 7) (N := some 87) bl57 rfl rfl (one_of HT_.out (by kernel_rfl)) (by decide) (fun K hK => ?_); refine goes_ Try.func102 (by kernel_rfl) rfl #[.pointer (some ⟨gb244, 0, none⟩), .int .i64 x76_3] (by rfl) rfl rfl (by (try simp only [m3]); first | done | rfl | (simp only [d2]; rfl)) ?_
               with_reducible refine (impl_Word_placeOf.calls gb244 l1_0 l1_1 x76_3 t255 w _ ?side1 ?side2 A67.out).mono ?_
               (case side1 => repeat (first | (with_reducible first | exact HI244.out | apply IsS78.alloc | apply IsS78.drewN | apply IsS78.drew | refine IsS78.far ?_ NB244_243.out _ | refine IsS78.far ?_ NB244_245.out _) | exact HI244.out))
               (case side2 => repeat (first | (with_reducible first | exact HB.out | apply below_alloc | apply pw_below_drewN | apply below_drew1 | refine below_set ?_ (IsS78.ge HI244.out) | refine below_set ?_ GE243.out | refine below_set ?_ GE245.out) | exact HB.out))
               rintro e w92 ⟨rfl, hi, hb, hk⟩; refine ⟨_, rfl, ?_⟩; have n0_ := Aside0.mk (KeepBut.blk hk (g' := gb243) (o := .cells #[.int .i64 a0_0, .int .i64 a0_1, .int .i64 a0_2, .slice A0_3 l0_3.length c0_3] 24 (0, 0)) (zB BK243.out) NB243_244.out (by simp)); have n1_ := Aside0.mk (KeepBut.blk hk (g' := gb245) (o := .cells #[.slice (some ad254) l2_0.length c2_0, .int .i64 a2_1] 80 (0, 0)) (zB BK245.out) NB245_244.out (by simp)); have n2_ := Aside0.mk (hb); have n3_ := Aside0.mk (hi); clear BK243; clear BK245; clear HB; clear HI244; have BK243 := n0_; have BK245 := n1_; have HB := n2_; have HI244 := n3_; clear n0_ n1_ n2_ n3_
               (try clear hb)
               (try clear hb2)
               (try clear hk)
               (try clear hi)
               refine hK.out _ _ ⟨b1 BK243 0, b1 BK243 1, b1 BK243 2, b1 BK243 3, b1 BK245 0, b1 BK245 1, ((HB.out.cell (World.block_lt_of_cell? w _ hw254_0)).trans hw254_0), ((HB.out.cell (World.block_lt_of_cell? w _ hw257_0)).trans hw257_0)⟩ (fun hHeld => ?_); clear hK K; refine norm_ (a' := ?_) ?_ ?_; rotate_left
               ·show Act.put _ (some 87) _ = _; simp only [Act.put, q5]; rfl
               refine one_ (i := 8) (N := some 88) bl58 rfl rfl (one_of HT_.out (by kernel_rfl)) (by decide) (fun K hK => ?_); refine goes_ Try.func101 (by kernel_rfl) rfl #[.pointer (some ⟨gb244, 0, none⟩), .int .i64 t255] (by rfl) rfl rfl (by (try simp only [m3]); first | done | rfl | (simp only [d2]; rfl)) ?_
               with_reducible refine (impl_Word_letter.calls gb244 l1_0 l1_1 t255 t256 w _ ?side1 ?side2 A68.out).mono ?_
               (case side1 => repeat (first | (with_reducible first | exact HI244.out | apply IsS78.alloc | apply IsS78.drewN | apply IsS78.drew | refine IsS78.far ?_ NB244_243.out _ | refine IsS78.far ?_ NB244_245.out _) | exact HI244.out))
               (case side2 => repeat (first | (with_reducible first | exact HB.out | apply below_alloc | apply pw_below_drewN | apply below_drew1 | refine below_set ?_ (IsS78.ge HI244.out) | refine below_set ?_ GE243.out | refine below_set ?_ GE245.out) | exact HB.out))
               rintro e w93 ⟨rfl, hi, hb, hk⟩; refine ⟨_, rfl, ?_⟩; have n0_ := Aside0.mk (KeepBut.blk hk (g' := gb243) (o := .cells #[.int .i64 a0_0, .int .i64 a0_1, .int .i64 a0_2, .slice A0_3 l0_3.length c0_3] 24 (0, 0)) (zB BK243.out) NB243_244.out (by simp)); have n1_ := Aside0.mk (KeepBut.blk hk (g' := gb245) (o := .cells #[.slice (some ad254) l2_0.length c2_0, .int .i64 a2_1] 80 (0, 0)) (zB BK245.out) NB245_244.out (by simp)); have n2_ := Aside0.mk (hb); have n3_ := Aside0.mk (hi); clear BK243; clear BK245; clear HB; clear HI244; have BK243 := n0_; have BK245 := n1_; have HB := n2_; have HI244 := n3_; clear n0_ n1_ n2_ n3_
               (try clear hb)
               (try clear hb2)
               (try clear hk)
               (try clear hi)
               refine hK.out _ _ ⟨b1 BK243 0, b1 BK243 1, b1 BK243 2, b1 BK243 3, b1 BK245 0, b1 BK245 1, ((HB.out.cell (World.block_lt_of_cell? w _ hw254_0)).trans hw254_0), ((HB.out.cell (World.block_lt_of_cell? w _ hw257_0)).trans hw257_0)⟩ (fun hHeld => ?_); clear hK K; refine norm_ (a' := ?_) ?_ ?_; rotate_left
               ·show Act.put _ (some 88) _ = _; simp only [Act.put, q5]; rfl
               refine one_ (i := 15) (N := some 95) bl59 rfl rfl (one_of HT_.out (by kernel_rfl)) (by decide) (fun K hK => ?_); refine goes_ Try.func29 (by kernel_rfl) rfl #[.agg #[.int .i64 a0_0, .int .i64 a0_1, .int .i64 a0_2, .slice A0_3 l0_3.length c0_3], .int .i64 (rd l2_0 x76_3), .int .i64 t256, .int .i64 (rd l2_0 (ji69))] (by rfl) rfl rfl (by (try simp only [m3]); first | done | (simp only [hji69]; rfl) | rfl | (simp only [d2]; rfl)) ?_
               with_reducible refine (impl_AutoEdge.calls k3 a0_0 a0_1 a0_2 _ _ l0_3 (rd l2_0 x76_3) t256 (rd l2_0 (ji69)) t258 false _ ?side1 ?side2 A72.out).mono ?_
               (case side1 => exact zC (Kd.C_below HR0_3.out HB.out))
               (case side2 => exact HC0_3.out)
               rintro e w94 ⟨rfl, hb⟩; refine ⟨_, rfl, ?_⟩; have n0_ := xB BK243 hb; have n1_ := xB BK245 hb; have n2_ := Aside0.mk (IsS78.below (by repeat (first | (with_reducible first | exact HI244.out | apply IsS78.alloc | apply IsS78.drewN | apply IsS78.drew | refine IsS78.far ?_ NB244_243.out _ | refine IsS78.far ?_ NB244_245.out _) | exact HI244.out)) hb); have n3_ := Aside0.mk (below_step (by repeat (first | (with_reducible first | exact HB.out | apply below_alloc | apply pw_below_drewN | apply below_drew1 | refine below_set ?_ (IsS78.ge HI244.out) | refine below_set ?_ GE243.out | refine below_set ?_ GE245.out) | exact HB.out)) hb); clear BK243; clear BK245; clear HI244; clear HB; have BK243 := n0_; have BK245 := n1_; have HI244 := n2_; have HB := n3_; clear n0_ n1_ n2_ n3_
               (try clear hb)
               (try clear hb2)
               (try clear hk)
               (try clear hi)
               refine hK.out _ _ ⟨b1 BK243 0, b1 BK243 1, b1 BK243 2, b1 BK243 3, b1 BK245 0, b1 BK245 1, ((HB.out.cell (World.block_lt_of_cell? w _ hw254_0)).trans hw254_0), ((HB.out.cell (World.block_lt_of_cell? w _ hw257_0)).trans hw257_0)⟩ (fun hHeld => ?_); clear hK K; refine norm_ (a' := ?_) ?_ ?_; rotate_left
               ·show Act.put _ (some 95) _ = _; simp only [Act.put, q5]; rfl
               refine pu 16 (some 79) bl60 HT_ ?_ rfl rfl (.inl ⟨by rfl, ?_⟩) ?_ ?_ ?_; rotate_left; (intro w'; go_simp; with_reducible rfl); rotate_left; (simp only [Act.put, q5]; rfl)
               refine pu 17 (some 96) bl61 HT_ ?_ rfl rfl (.inl ⟨by rfl, ?_⟩) ?_ ?_ ?_; rotate_left; (intro w'; go_simp; with_reducible rfl); rotate_left; (simp only [Act.put, q5]; rfl)
               refine pu 18 (some 97) bl62 HT_ ?_ rfl rfl (.inl ⟨by rfl, ?_⟩) ?_ ?_ ?_; rotate_left; (intro w'; go_simp; with_reducible rfl); rotate_left; (simp only [Act.put, q5]; rfl)
               refine pu 19 (some 10) bl63 HT_ ?_ rfl rfl (.inl ⟨by rfl, ?_⟩) ?_ ?_ ?_; rotate_left; (intro w'; go_simp; with_reducible rfl); rotate_left; (simp only [Act.put, q5]; rfl)
               refine pu 20 (some 11) bl64 HT_ ?_ rfl rfl (.inl ⟨by rfl, ?_⟩) ?_ ?_ ?_; rotate_left; (intro w'; go_simp; with_reducible rfl); rotate_left; (simp only [Act.put, q5]; rfl)
               refine done_ (done_of HT_.out (by kernel_rfl)) ?_
               try go_wp2
               go_ret; exact ⟨by first | rfl | (simp [errW_none, errW_some] <;> rfl) | (simp only [← hji69]; first | rfl | (simp [errW_none, errW_some] <;> rfl)) | (simp [*, errW_none, errW_some] <;> rfl), by repeat (first | (with_reducible first | exact HB.out | apply below_alloc | apply pw_below_drewN | apply below_drew1 | refine below_set ?_ (IsS78.ge HI244.out) | refine below_set ?_ GE243.out | refine below_set ?_ GE245.out) | exact HB.out)⟩
             ·rw [if_neg c71] at H; exact absurd H (by simp)
            ·rw [if_neg c70] at H; exact absurd H (by simp)
           ·rw [if_neg c66] at H; exact absurd H (by simp)
          ·rw [if_neg c65] at H; exact absurd H (by simp)
         ·rw [if_neg c64] at H; have c64b0 : decide (x76_3 < (wrap64 ((l2_0.length : Int) - 1))) = false := decide_eq_false c64; clear c64; obtain rfl := Option.some.inj H
          go_wp2
          go_ret; exact ⟨by first | rfl | (simp [errW_none, errW_some] <;> rfl) | (simp [*, errW_none, errW_some] <;> rfl), by repeat (first | (with_reducible first | exact HB.out | apply below_alloc | apply pw_below_drewN | apply below_drew1 | refine below_set ?_ (IsS78.ge HI244.out) | refine below_set ?_ GE243.out | refine below_set ?_ GE245.out) | exact HB.out)⟩

end Go.Proofs.Ytlallflpicgcmaa.MFnExactRunOk
