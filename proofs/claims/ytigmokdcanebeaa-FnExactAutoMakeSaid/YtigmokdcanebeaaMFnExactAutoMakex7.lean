-- Written by a program of this session, out of Lean's print of the translation. Not trusted: Lean checks it.
import Derived.Test.YtigmokdcanebeaaMFnExactAutoMakex0
import Derived.Test.YtigmokdcanebeaaMFnExactAutoMakex2
import Derived.Test.YtigmokdcanebeaaMFnExactAutoMakex5
import Derived.Test.YtigmokdcanebeaaMFnExactAutoMakex6
namespace Go.Proofs.Ytigmokdcanebeaa.MFnExactAutoMake
open Go.RowKit Go.Proofs.YtigmokdcanebeaaW.PrintWords Go.Proofs.YtigmokdcanebeaaW.PrintLast Go.Proofs.YtigmokdcanebeaaW.PrintMore
attribute [local go_sem] max2_int min2_int max_two min_two max_three min_three max_four min_four   -- for this text's walks alone
set_option linter.unusedVariables false
set_option linter.unusedSimpArgs false


/-! ### laws_FnExactAutoMake: function 4 -/
mutual
def laws_FnExactAutoMake.j0 : Nat → Int → Int → Int → List (S57) → Bool → List (S33) → Bool → Bool → Int → Int → Int → List (S33) → Int → Int → Int → List (S33) → Option (Bool)
 | 0, _, _, _, _, _, _, _, _, _, _, _, _, _, _, _, _ => none
 | k + 1, x0, x1, x2, x3, x11, x12, x14, x52, x243000, x243001, x243002, x243003, x254000, x254001, x254002, x254003 => if x52 = true then (some false) else ((laws_toEdgeS.f k x3).bind fun t255 => ((laws_eqEdgeS.f k x12 t255).bind fun t258 => (if t258 = true then ((laws_markEdgeS.f k x12 1).bind fun bt259 => (if bt259.1 < 0 then (laws_FnExactAutoMake.j1 k x0 x1 x2 x3 x11 true x243000 x243001 x243002 x243003 x254000 x254001 x254002 x254003) else ((laws_eqAuto.f k x254000 x254001 x254002 x254003 x243000 x243001 x243002 x243003).bind fun t261 => (if t261 = true then (laws_FnExactAutoMake.j1 k x0 x1 x2 x3 x11 (x14 != x11) x243000 x243001 x243002 x243003 x254000 x254001 x254002 x254003) else (laws_FnExactAutoMake.j1 k x0 x1 x2 x3 x11 true x243000 x243001 x243002 x243003 x254000 x254001 x254002 x254003))))) else (some false))))
def laws_FnExactAutoMake.j1 : Nat → Int → Int → Int → List (S57) → Bool → Bool → Int → Int → Int → List (S33) → Int → Int → Int → List (S33) → Option (Bool)
 | 0, _, _, _, _, _, _, _, _, _, _, _, _, _, _ => none
 | k + 1, x0, x1, x2, x3, x11, x73, x243000, x243001, x243002, x243003, x254000, x254001, x254002, x254003 => if x73 = true then (some false) else ((laws_markAuto.f k x254000 x254001 x254002 x254003 1).bind fun bt262 => ((laws_heldAuto.f k x254000 x254001 x254002 bt262.2 1).bind fun t264 => (if t264 < 0 then (some false) else (if t264 = bt262.1 then ((laws_toEdgeS.f k x3).bind fun t265 => ((impl_AutoMake.f k x0 x1 x2 t265).bind fun bt268 => ((laws_eqAuto.f k bt268.1 bt268.2.1 bt268.2.2.1 bt268.2.2.2.1 x243000 x243001 x243002 x243003).bind fun t276 => (if t276 = true then (laws_FnExactAutoMake.j2 k bt262.1 (bt268.2.2.2.2 != x11) x254000 x254001 x254002 bt262.2) else (laws_FnExactAutoMake.j2 k bt262.1 true x254000 x254001 x254002 bt262.2))))) else (some false)))))
def laws_FnExactAutoMake.j2 : Nat → Int → Bool → Int → Int → Int → List (S33) → Option (Bool)
 | 0, _, _, _, _, _, _ => none
 | k + 1, x16, x102, x254000, x254001, x254002, x254003 => if x102 = true then (some false) else ((laws_heldAuto.f k x254000 x254001 x254002 x254003 1).bind fun t277 => (if t277 < 0 then (some false) else (if t277 = x16 then (some true) else (some false))))
end
def laws_FnExactAutoMake.f (k : Nat) (a0 : Int) (a1 : Int) (a2 : Int) (l3 : List (S57)) : Option (Bool) := (laws_szEdgeS.f l3 1048576).bind fun t231 => (if t231 < 0 then (some true) else ((laws_toEdgeS.f k l3).bind fun t232 => ((spec_AutoMake.f k a0 a1 a2 t232).bind fun bt235 => ((laws_toEdgeS.f k l3).bind fun t243 => ((impl_AutoMake.f k a0 a1 a2 t243).bind fun bt246 => ((laws_eqAuto.f k bt246.1 bt246.2.1 bt246.2.2.1 bt246.2.2.2.1 bt235.1 bt235.2.1 bt235.2.2.1 bt235.2.2.2.1).bind fun t254 => (if t254 = true then (laws_FnExactAutoMake.j0 k a0 a1 a2 l3 bt235.2.2.2.2 t243 bt246.2.2.2.2 (bt246.2.2.2.2 != bt235.2.2.2.2) bt235.1 bt235.2.1 bt235.2.2.1 bt235.2.2.2.1 bt246.1 bt246.2.1 bt246.2.2.1 bt246.2.2.2.1) else (laws_FnExactAutoMake.j0 k a0 a1 a2 l3 bt235.2.2.2.2 t243 bt246.2.2.2.2 true bt235.1 bt235.2.1 bt235.2.2.1 bt235.2.2.2.1 bt246.1 bt246.2.1 bt246.2.2.1 bt246.2.2.2.1))))))))
theorem laws_FnExactAutoMake.mono_l : ∀ k, (∀ y0 y1 y2 y3 y4 y5 y6 y7 y8 y9 y10 y11 y12 y13 y14 y15, LeO (laws_FnExactAutoMake.j0 k y0 y1 y2 y3 y4 y5 y6 y7 y8 y9 y10 y11 y12 y13 y14 y15) (laws_FnExactAutoMake.j0 (k + 1) y0 y1 y2 y3 y4 y5 y6 y7 y8 y9 y10 y11 y12 y13 y14 y15)) ∧ (∀ y0 y1 y2 y3 y4 y5 y6 y7 y8 y9 y10 y11 y12 y13, LeO (laws_FnExactAutoMake.j1 k y0 y1 y2 y3 y4 y5 y6 y7 y8 y9 y10 y11 y12 y13) (laws_FnExactAutoMake.j1 (k + 1) y0 y1 y2 y3 y4 y5 y6 y7 y8 y9 y10 y11 y12 y13)) ∧ (∀ y0 y1 y2 y3 y4 y5, LeO (laws_FnExactAutoMake.j2 k y0 y1 y2 y3 y4 y5) (laws_FnExactAutoMake.j2 (k + 1) y0 y1 y2 y3 y4 y5))
 | 0 => ⟨fun _ _ _ _ _ _ _ _ _ _ _ _ _ _ _ _ r h => by simp [laws_FnExactAutoMake.j0] at h, fun _ _ _ _ _ _ _ _ _ _ _ _ _ _ r h => by simp [laws_FnExactAutoMake.j1] at h, fun _ _ _ _ _ _ r h => by simp [laws_FnExactAutoMake.j2] at h⟩
 | k + 1 => by
  obtain ⟨ih0, ih1, ih2⟩ := laws_FnExactAutoMake.mono_l k
  refine ⟨?_, ?_, ?_⟩
  ·intro y0 y1 y2 y3 y4 y5 y6 y7 y8 y9 y10 y11 y12 y13 y14 y15
   unfold laws_FnExactAutoMake.j0
   repeat' first
   | (with_reducible exact ih0 _ _ _ _ _ _ _ _ _ _ _ _ _ _ _ _)
   | (with_reducible exact ih1 _ _ _ _ _ _ _ _ _ _ _ _ _ _)
   | (with_reducible exact ih2 _ _ _ _ _ _)
   | (with_reducible exact impl_AutoMake.mono _ _ _ _ _)
   | (with_reducible exact laws_eqAuto.mono _ _ _ _ _ _ _ _ _)
   | (with_reducible exact laws_eqEdgeS.mono _ _ _)
   | (with_reducible exact laws_heldAuto.mono _ _ _ _ _ _)
   | (with_reducible exact laws_markAuto.mono _ _ _ _ _ _)
   | (with_reducible exact laws_markEdgeS.mono _ _ _)
   | (with_reducible exact laws_toEdgeS.mono _ _)
   | (with_reducible exact spec_AutoMake.mono _ _ _ _ _)
   | (with_reducible exact LeO.refl _)
   | (with_reducible exact LeO.none _)
   | (with_reducible refine LeO.ite ?_ ?_)
   | (with_reducible refine LeO.bind ?_ (fun _ => ?_))
   | exact ih0 _ _ _ _ _ _ _ _ _ _ _ _ _ _ _ _
   | exact ih1 _ _ _ _ _ _ _ _ _ _ _ _ _ _
   | exact ih2 _ _ _ _ _ _
   | exact impl_AutoMake.mono _ _ _ _ _
   | exact laws_eqAuto.mono _ _ _ _ _ _ _ _ _
   | exact laws_eqEdgeS.mono _ _ _
   | exact laws_heldAuto.mono _ _ _ _ _ _
   | exact laws_markAuto.mono _ _ _ _ _ _
   | exact laws_markEdgeS.mono _ _ _
   | exact laws_toEdgeS.mono _ _
   | exact spec_AutoMake.mono _ _ _ _ _
   | exact LeO.none _
   | refine LeO.ite ?_ ?_
   | refine LeO.bind ?_ (fun _ => ?_)
  ·intro y0 y1 y2 y3 y4 y5 y6 y7 y8 y9 y10 y11 y12 y13
   unfold laws_FnExactAutoMake.j1
   repeat' first
   | (with_reducible exact ih0 _ _ _ _ _ _ _ _ _ _ _ _ _ _ _ _)
   | (with_reducible exact ih1 _ _ _ _ _ _ _ _ _ _ _ _ _ _)
   | (with_reducible exact ih2 _ _ _ _ _ _)
   | (with_reducible exact impl_AutoMake.mono _ _ _ _ _)
   | (with_reducible exact laws_eqAuto.mono _ _ _ _ _ _ _ _ _)
   | (with_reducible exact laws_eqEdgeS.mono _ _ _)
   | (with_reducible exact laws_heldAuto.mono _ _ _ _ _ _)
   | (with_reducible exact laws_markAuto.mono _ _ _ _ _ _)
   | (with_reducible exact laws_markEdgeS.mono _ _ _)
   | (with_reducible exact laws_toEdgeS.mono _ _)
   | (with_reducible exact spec_AutoMake.mono _ _ _ _ _)
   | (with_reducible exact LeO.refl _)
   | (with_reducible exact LeO.none _)
   | (with_reducible refine LeO.ite ?_ ?_)
   | (with_reducible refine LeO.bind ?_ (fun _ => ?_))
   | exact ih0 _ _ _ _ _ _ _ _ _ _ _ _ _ _ _ _
   | exact ih1 _ _ _ _ _ _ _ _ _ _ _ _ _ _
   | exact ih2 _ _ _ _ _ _
   | exact impl_AutoMake.mono _ _ _ _ _
   | exact laws_eqAuto.mono _ _ _ _ _ _ _ _ _
   | exact laws_eqEdgeS.mono _ _ _
   | exact laws_heldAuto.mono _ _ _ _ _ _
   | exact laws_markAuto.mono _ _ _ _ _ _
   | exact laws_markEdgeS.mono _ _ _
   | exact laws_toEdgeS.mono _ _
   | exact spec_AutoMake.mono _ _ _ _ _
   | exact LeO.none _
   | refine LeO.ite ?_ ?_
   | refine LeO.bind ?_ (fun _ => ?_)
  ·intro y0 y1 y2 y3 y4 y5
   unfold laws_FnExactAutoMake.j2
   repeat' first
   | (with_reducible exact ih0 _ _ _ _ _ _ _ _ _ _ _ _ _ _ _ _)
   | (with_reducible exact ih1 _ _ _ _ _ _ _ _ _ _ _ _ _ _)
   | (with_reducible exact ih2 _ _ _ _ _ _)
   | (with_reducible exact impl_AutoMake.mono _ _ _ _ _)
   | (with_reducible exact laws_eqAuto.mono _ _ _ _ _ _ _ _ _)
   | (with_reducible exact laws_eqEdgeS.mono _ _ _)
   | (with_reducible exact laws_heldAuto.mono _ _ _ _ _ _)
   | (with_reducible exact laws_markAuto.mono _ _ _ _ _ _)
   | (with_reducible exact laws_markEdgeS.mono _ _ _)
   | (with_reducible exact laws_toEdgeS.mono _ _)
   | (with_reducible exact spec_AutoMake.mono _ _ _ _ _)
   | (with_reducible exact LeO.refl _)
   | (with_reducible exact LeO.none _)
   | (with_reducible refine LeO.ite ?_ ?_)
   | (with_reducible refine LeO.bind ?_ (fun _ => ?_))
   | exact ih0 _ _ _ _ _ _ _ _ _ _ _ _ _ _ _ _
   | exact ih1 _ _ _ _ _ _ _ _ _ _ _ _ _ _
   | exact ih2 _ _ _ _ _ _
   | exact impl_AutoMake.mono _ _ _ _ _
   | exact laws_eqAuto.mono _ _ _ _ _ _ _ _ _
   | exact laws_eqEdgeS.mono _ _ _
   | exact laws_heldAuto.mono _ _ _ _ _ _
   | exact laws_markAuto.mono _ _ _ _ _ _
   | exact laws_markEdgeS.mono _ _ _
   | exact laws_toEdgeS.mono _ _
   | exact spec_AutoMake.mono _ _ _ _ _
   | exact LeO.none _
   | refine LeO.ite ?_ ?_
   | refine LeO.bind ?_ (fun _ => ?_)
theorem laws_FnExactAutoMake.mono : ∀ a0 a1 a2 a3 k, LeO (laws_FnExactAutoMake.f k a0 a1 a2 a3) (laws_FnExactAutoMake.f (k + 1) a0 a1 a2 a3) := by
 intro a0 a1 a2 a3 k
 obtain ⟨ih0, ih1, ih2⟩ := laws_FnExactAutoMake.mono_l k
 unfold laws_FnExactAutoMake.f
 repeat' first
   | (with_reducible exact ih0 _ _ _ _ _ _ _ _ _ _ _ _ _ _ _ _)
   | (with_reducible exact ih1 _ _ _ _ _ _ _ _ _ _ _ _ _ _)
   | (with_reducible exact ih2 _ _ _ _ _ _)
   | (with_reducible exact impl_AutoMake.mono _ _ _ _ _)
   | (with_reducible exact laws_eqAuto.mono _ _ _ _ _ _ _ _ _)
   | (with_reducible exact laws_eqEdgeS.mono _ _ _)
   | (with_reducible exact laws_heldAuto.mono _ _ _ _ _ _)
   | (with_reducible exact laws_markAuto.mono _ _ _ _ _ _)
   | (with_reducible exact laws_markEdgeS.mono _ _ _)
   | (with_reducible exact laws_toEdgeS.mono _ _)
   | (with_reducible exact spec_AutoMake.mono _ _ _ _ _)
   | (with_reducible exact LeO.refl _)
   | (with_reducible exact LeO.none _)
   | (with_reducible refine LeO.ite ?_ ?_)
   | (with_reducible refine LeO.bind ?_ (fun _ => ?_))
   | exact ih0 _ _ _ _ _ _ _ _ _ _ _ _ _ _ _ _
   | exact ih1 _ _ _ _ _ _ _ _ _ _ _ _ _ _
   | exact ih2 _ _ _ _ _ _
   | exact impl_AutoMake.mono _ _ _ _ _
   | exact laws_eqAuto.mono _ _ _ _ _ _ _ _ _
   | exact laws_eqEdgeS.mono _ _ _
   | exact laws_heldAuto.mono _ _ _ _ _ _
   | exact laws_markAuto.mono _ _ _ _ _ _
   | exact laws_markEdgeS.mono _ _ _
   | exact laws_toEdgeS.mono _ _
   | exact spec_AutoMake.mono _ _ _ _ _
   | exact LeO.none _
   | refine LeO.ite ?_ ?_
   | refine LeO.bind ?_ (fun _ => ?_)
open Go.Proofs.Ytigmokdcanebeaa.Short2 in
set_option maxHeartbeats 8000000 in
set_option maxRecDepth 100000 in
theorem laws_FnExactAutoMake.calls (k : Nat) (a0 : Int) (a1 : Int) (a2 : Int) (A3 : Option Addr) (c3 : Nat) (l3 : List (S57)) (r : Bool) (w : World) (hr3 : Kd.C k57 w A3 l3.length l3) (hc3 : l3.length ≤ c3) (h : laws_FnExactAutoMake.f k a0 a1 a2 l3 = some r) :
  Calls Try.prog 4 #[.int .i64 a0, .int .i64 a1, .int .i64 a2, .slice A3 l3.length c3] w fun e w' => e = .returned (.bool r) ∧ Below w.heap.size w w' := by
 have hu28 := Try.underlying28; have HR3 := Aside0.mk hr3; have HC3 := Aside0.mk hc3; clear hr3 hc3; have HB := Aside0.mk (Below.refl w.heap.size w); have H : ((laws_szEdgeS.f l3 1048576).bind fun t231 => (if t231 < 0 then (some true) else ((laws_toEdgeS.f k l3).bind fun t232 => ((spec_AutoMake.f k a0 a1 a2 t232).bind fun bt235 => ((laws_toEdgeS.f k l3).bind fun t243 => ((impl_AutoMake.f k a0 a1 a2 t243).bind fun bt246 => ((laws_eqAuto.f k bt246.1 bt246.2.1 bt246.2.2.1 bt246.2.2.2.1 bt235.1 bt235.2.1 bt235.2.2.1 bt235.2.2.2.1).bind fun t254 => (if t254 = true then (laws_FnExactAutoMake.j0 k a0 a1 a2 l3 bt235.2.2.2.2 t243 bt246.2.2.2.2 (bt246.2.2.2.2 != bt235.2.2.2.2) bt235.1 bt235.2.1 bt235.2.2.1 bt235.2.2.2.1 bt246.1 bt246.2.1 bt246.2.2.1 bt246.2.2.2.1) else (laws_FnExactAutoMake.j0 k a0 a1 a2 l3 bt235.2.2.2.2 t243 bt246.2.2.2.2 true bt235.1 bt235.2.1 bt235.2.2.1 bt235.2.2.2.1 bt246.1 bt246.2.1 bt246.2.2.1 bt246.2.2.2.1))))))))) = some r := h; clear h; replace H := Option.bind_eq_some_iff.mp H; obtain ⟨t231, A50, H⟩ := H; replace H : (if t231 < 0 then (some true) else ((laws_toEdgeS.f k l3).bind fun t232 => ((spec_AutoMake.f k a0 a1 a2 t232).bind fun bt235 => ((laws_toEdgeS.f k l3).bind fun t243 => ((impl_AutoMake.f k a0 a1 a2 t243).bind fun bt246 => ((laws_eqAuto.f k bt246.1 bt246.2.1 bt246.2.2.1 bt246.2.2.2.1 bt235.1 bt235.2.1 bt235.2.2.1 bt235.2.2.2.1).bind fun t254 => (if t254 = true then (laws_FnExactAutoMake.j0 k a0 a1 a2 l3 bt235.2.2.2.2 t243 bt246.2.2.2.2 (bt246.2.2.2.2 != bt235.2.2.2.2) bt235.1 bt235.2.1 bt235.2.2.1 bt235.2.2.2.1 bt246.1 bt246.2.1 bt246.2.2.1 bt246.2.2.2.1) else (laws_FnExactAutoMake.j0 k a0 a1 a2 l3 bt235.2.2.2.2 t243 bt246.2.2.2.2 true bt235.1 bt235.2.1 bt235.2.2.1 bt235.2.2.2.1 bt246.1 bt246.2.1 bt246.2.2.1 bt246.2.2.2.1)))))))) = some r := H; have A5 := Aside0.mk A50; clear A50
 by_cases c6 : t231 < 0
 ·rw [if_pos c6] at H; have c6b0 : decide (t231 < 0) = true := decide_eq_true c6; clear c6; obtain rfl := Option.some.inj H
  go_enter Try.func4, Try.ntmps4
  go_wp2_with (first | ((with_reducible refine gate_callee (f := 11) rfl ?_); refine goesL_ (some 22) rfl rfl Try.func11 (by kernel_rfl) rfl #[.slice A3 l3.length c3, .int .i64 1048576] rfl (by (try simp only [m3]); first | done | rfl | (simp only [d2]; rfl)) ?_; (with_reducible refine (laws_szEdgeS.calls _ _ l3 1048576 t231 _ ?side1 ?side2 A5.out).mono ?_); (case side1 => repeat (first | exact HR3.out | (with_reducible refine Kd.C_alloc ?_ _) | (with_reducible refine Kd.C_drewN ?_ _) | (with_reducible refine Kd.C_drew ?_))); (case side2 => exact HC3.out); rintro e w' ⟨rfl, ⟨nd, rfl⟩⟩; refine ⟨_, rfl, ?_⟩))
  go_ret; exact ⟨by first | rfl | (simp [errW_none, errW_some] <;> rfl) | (simp [*, errW_none, errW_some] <;> rfl), by repeat (first | (with_reducible first | exact HB.out | apply below_alloc | apply pw_below_drewN | apply below_drew1) | exact HB.out)⟩
 ·rw [if_neg c6] at H; have c6b0 : decide (t231 < 0) = false := decide_eq_false c6; clear c6; replace H := Option.bind_eq_some_iff.mp H; obtain ⟨t232, A70, H⟩ := H; replace H : ((spec_AutoMake.f k a0 a1 a2 t232).bind fun bt235 => ((laws_toEdgeS.f k l3).bind fun t243 => ((impl_AutoMake.f k a0 a1 a2 t243).bind fun bt246 => ((laws_eqAuto.f k bt246.1 bt246.2.1 bt246.2.2.1 bt246.2.2.2.1 bt235.1 bt235.2.1 bt235.2.2.1 bt235.2.2.2.1).bind fun t254 => (if t254 = true then (laws_FnExactAutoMake.j0 k a0 a1 a2 l3 bt235.2.2.2.2 t243 bt246.2.2.2.2 (bt246.2.2.2.2 != bt235.2.2.2.2) bt235.1 bt235.2.1 bt235.2.2.1 bt235.2.2.2.1 bt246.1 bt246.2.1 bt246.2.2.1 bt246.2.2.2.1) else (laws_FnExactAutoMake.j0 k a0 a1 a2 l3 bt235.2.2.2.2 t243 bt246.2.2.2.2 true bt235.1 bt235.2.1 bt235.2.2.1 bt235.2.2.2.1 bt246.1 bt246.2.1 bt246.2.2.1 bt246.2.2.2.1)))))) = some r := H; have A7 := Aside0.mk A70; clear A70; replace H := Option.bind_eq_some_iff.mp H; obtain ⟨⟨t235, t236, t237, t238, t241⟩, A80, H⟩ := H; replace H : ((laws_toEdgeS.f k l3).bind fun t243 => ((impl_AutoMake.f k a0 a1 a2 t243).bind fun bt246 => ((laws_eqAuto.f k bt246.1 bt246.2.1 bt246.2.2.1 bt246.2.2.2.1 t235 t236 t237 t238).bind fun t254 => (if t254 = true then (laws_FnExactAutoMake.j0 k a0 a1 a2 l3 t241 t243 bt246.2.2.2.2 (bt246.2.2.2.2 != t241) t235 t236 t237 t238 bt246.1 bt246.2.1 bt246.2.2.1 bt246.2.2.2.1) else (laws_FnExactAutoMake.j0 k a0 a1 a2 l3 t241 t243 bt246.2.2.2.2 true t235 t236 t237 t238 bt246.1 bt246.2.1 bt246.2.2.1 bt246.2.2.2.1))))) = some r := H; have A8 := Aside0.mk A80; clear A80; replace H := Option.bind_eq_some_iff.mp H; obtain ⟨t243, A90, H⟩ := H; replace H : ((impl_AutoMake.f k a0 a1 a2 t243).bind fun bt246 => ((laws_eqAuto.f k bt246.1 bt246.2.1 bt246.2.2.1 bt246.2.2.2.1 t235 t236 t237 t238).bind fun t254 => (if t254 = true then (laws_FnExactAutoMake.j0 k a0 a1 a2 l3 t241 t243 bt246.2.2.2.2 (bt246.2.2.2.2 != t241) t235 t236 t237 t238 bt246.1 bt246.2.1 bt246.2.2.1 bt246.2.2.2.1) else (laws_FnExactAutoMake.j0 k a0 a1 a2 l3 t241 t243 bt246.2.2.2.2 true t235 t236 t237 t238 bt246.1 bt246.2.1 bt246.2.2.1 bt246.2.2.2.1)))) = some r := H; have A9 := Aside0.mk A90; clear A90; replace H := Option.bind_eq_some_iff.mp H; obtain ⟨⟨t246, t247, t248, t249, t252⟩, A100, H⟩ := H; replace H : ((laws_eqAuto.f k t246 t247 t248 t249 t235 t236 t237 t238).bind fun t254 => (if t254 = true then (laws_FnExactAutoMake.j0 k a0 a1 a2 l3 t241 t243 t252 (t252 != t241) t235 t236 t237 t238 t246 t247 t248 t249) else (laws_FnExactAutoMake.j0 k a0 a1 a2 l3 t241 t243 t252 true t235 t236 t237 t238 t246 t247 t248 t249))) = some r := H; have A10 := Aside0.mk A100; clear A100; have HC11 := Aside0.mk H; clear H
  go_enter Try.func4, Try.ntmps4
  go_upto_region 8 with (first | ((with_reducible refine gate_callee (f := 11) rfl ?_); refine goesL_ (some 22) rfl rfl Try.func11 (by kernel_rfl) rfl #[.slice A3 l3.length c3, .int .i64 1048576] rfl (by (try simp only [m3]); first | done | rfl | (simp only [d2]; rfl)) ?_; (with_reducible refine (laws_szEdgeS.calls _ _ l3 1048576 t231 _ ?side1 ?side2 A5.out).mono ?_); (case side1 => repeat (first | exact HR3.out | (with_reducible refine Kd.C_alloc ?_ _) | (with_reducible refine Kd.C_drewN ?_ _) | (with_reducible refine Kd.C_drew ?_))); (case side2 => exact HC3.out); rintro e w' ⟨rfl, ⟨nd, rfl⟩⟩; refine ⟨_, rfl, ?_⟩) | ((with_reducible refine gate_callee (f := 12) rfl ?_); refine goesL_ (some 30) rfl rfl Try.func12 (by kernel_rfl) rfl #[.slice A3 l3.length c3] rfl (by (try simp only [m3]); first | done | rfl | (simp only [d2]; rfl)) ?_; (with_reducible refine (laws_toEdgeS.calls k _ _ l3 t232 _ ?side1 ?side2 A7.out).mono ?_); (case side1 => repeat (first | exact HR3.out | (with_reducible refine Kd.C_alloc ?_ _) | (with_reducible refine Kd.C_drewN ?_ _) | (with_reducible refine Kd.C_drew ?_))); (case side2 => exact HC3.out); rintro e w12 ⟨v233, rfl, ho0, hb⟩; refine ⟨_, rfl, ?_⟩; have HO234 := Aside0.mk (Kd.R_lower ho0 (below_size (zS HB.out))); replace HB := xS HB hb; (try clear hb); (try clear hb2); (try clear hk); (try clear hi); (try clear ho0); obtain ⟨Ao13, co13, eo13⟩ := Kd.R_slice HO234.out; subst eo13) | ((with_reducible refine gate_callee (f := 8) rfl ?_); refine goesL_ (some 31) rfl rfl Try.func8 (by kernel_rfl) rfl #[.int .i64 a0, .int .i64 a1, .int .i64 a2, .slice Ao13 t232.length co13] rfl (by (try simp only [m3]); first | done | rfl | (simp only [d2]; rfl)) ?_; (with_reducible refine (spec_AutoMake.calls k a0 a1 a2 _ _ t232 t235 t236 t237 t238 t241 _ ?side1 ?side2 A8.out).mono ?_); (case side1 => exact zC (Kd.R_reads' HO234.out).2.2); (case side2 => exact (Kd.R_reads' HO234.out).2.1); rintro e w14 ⟨v239, rfl, ho0, hb⟩; refine ⟨_, rfl, ?_⟩; have HO240 := Aside0.mk (Kd.R_lower (Kd.R_new' ho0 (Kd.R_lt (zR HO234.out))) (below_size (zS HB.out))); replace HO234 := xE HO234 ho0 hb; replace HB := xS HB hb; (try clear hb); (try clear hb2); (try clear hk); (try clear hi); (try clear ho0)) | ((with_reducible refine gate_dst (N := 10) rfl ?_); refine box_event ?hg (N := 10) ?hd (cs := #[.int .i64 0, .int .i64 0, .int .i64 0, .slice none 0 0]) (t := 28) ?hr ?_; (case hd => rfl); (case hg => rfl); (case hr => first | (go_simp; done) | (go_simp; rfl)); intro gb242 hg w15 hbox hb; replace HO234 := xR HO234 hb; replace HO240 := xR HO240 hb; have BK242 := Aside0.mk (hbox); have GW242 := xG HB hg; have GE242 := xG HB hg; replace HB := xS HB hb; clear hb hbox hg; have hcz16_0 : w15.cell? ⟨gb242, 0, none⟩ = some (.int .i64 0) := b1 BK242 0; have hcz16_1 : w15.cell? ⟨gb242, 1, none⟩ = some (.int .i64 0) := b1 BK242 1; have hcz16_2 : w15.cell? ⟨gb242, 2, none⟩ = some (.int .i64 0) := b1 BK242 2; have hcz16_3 : w15.cell? ⟨gb242, 3, none⟩ = some (.slice none 0 0) := b1 BK242 3; have hfz16_0 := blk_frozen BK242.out 0; have hfz16_1 := blk_frozen BK242.out 1; have hfz16_2 := blk_frozen BK242.out 2; have hfz16_3 := blk_frozen BK242.out 3; obtain ⟨Ao17, co17, eo17⟩ := Kd.R_slice HO240.out; subst eo17) | ((with_reducible refine gate_callee (f := 12) rfl ?_); refine goesL_ (some 35) rfl rfl Try.func12 (by kernel_rfl) rfl #[.slice A3 l3.length c3] rfl (by (try simp only [m3]); first | done | rfl | (simp only [d2]; rfl)) ?_; (with_reducible refine (laws_toEdgeS.calls k _ _ l3 t243 _ ?side1 ?side2 A9.out).mono ?_); (case side1 => exact Kd.C_below HR3.out (zS HB.out)); (case side2 => exact HC3.out); rintro e w18 ⟨v244, rfl, ho0, hb⟩; refine ⟨_, rfl, ?_⟩; have HO245 := Aside0.mk (Kd.R_lower (Kd.R_new' (Kd.R_new' ho0 (Kd.R_lt (zR (xF4 HO234 BK242)))) (Kd.R_lt (zR (xF4 HO240 BK242)))) (below_size (zS HB.out))); replace HO234 := Aside0.mk (Kd.R_elder' (zR (xF4 HO234 BK242)) (Kd.R_base ho0) hb); replace HO240 := Aside0.mk (Kd.R_elder' (zR (xF4 HO240 BK242)) (Kd.R_base ho0) hb); replace BK242 := Aside0.mk (blk_below (g := gb242) (o := .cells #[.int .i64 t235, .int .i64 t236, .int .i64 t237, .slice Ao17 t238.length co17] 28 (0, 0)) (xP4 BK242.out) hb); replace HB := xS HB hb; (try clear hb); (try clear hb2); (try clear hk); (try clear hi); (try clear ho0); obtain ⟨Ao19, co19, eo19⟩ := Kd.R_slice HO245.out; subst eo19) | ((with_reducible refine gate_callee (f := 7) rfl ?_); refine goesL_ (some 41) rfl rfl Try.func7 (by kernel_rfl) rfl #[.int .i64 a0, .int .i64 a1, .int .i64 a2, .slice Ao19 t243.length co19] rfl (by (try simp only [m3]); first | done | rfl | (simp only [d2]; rfl)) ?_; (with_reducible refine (impl_AutoMake.calls k a0 a1 a2 _ _ t243 t246 t247 t248 t249 t252 _ ?side1 ?side2 A10.out).mono ?_); (case side1 => exact zC (Kd.R_reads' HO245.out).2.2); (case side2 => exact (Kd.R_reads' HO245.out).2.1); rintro e w20 ⟨v250, rfl, ho0, hb⟩; refine ⟨_, rfl, ?_⟩; have HO251 := Aside0.mk (Kd.R_lower (Kd.R_new' (Kd.R_new' (Kd.R_new' ho0 (Kd.R_lt (zR HO234.out))) (Kd.R_lt (zR HO240.out))) (Kd.R_lt (zR HO245.out))) (below_size (zS HB.out))); replace HO234 := xE HO234 ho0 hb; replace HO240 := xE HO240 ho0 hb; replace HO245 := xE HO245 ho0 hb; replace BK242 := xB BK242 hb; replace HB := xS HB hb; (try clear hb); (try clear hb2); (try clear hk); (try clear hi); (try clear ho0)) | ((with_reducible refine gate_dst (N := 13) rfl ?_); refine box_event ?hg (N := 13) ?hd (cs := #[.int .i64 0, .int .i64 0, .int .i64 0, .slice none 0 0]) (t := 28) ?hr ?_; (case hd => rfl); (case hg => rfl); (case hr => first | (go_simp; done) | (go_simp; rfl)); intro gb253 hg w21 hbox hb; replace HO234 := xR HO234 hb; replace HO240 := xR HO240 hb; replace HO245 := xR HO245 hb; replace HO251 := xR HO251 hb; have BK253 := Aside0.mk (hbox); have GW253 := xG HB hg; have GE253 := xG HB hg; replace HB := xS HB hb; have NB242_253 := xN BK242 hg; have NB253_242 := xM BK242 hg; replace BK242 := xB BK242 hb; clear hb hbox hg; have hnb22 := NB253_242.out; have hnc22 := NB242_253.out; have hcz23_0 : w21.cell? ⟨gb253, 0, none⟩ = some (.int .i64 0) := b1 BK253 0; have hcz23_1 : w21.cell? ⟨gb253, 1, none⟩ = some (.int .i64 0) := b1 BK253 1; have hcz23_2 : w21.cell? ⟨gb253, 2, none⟩ = some (.int .i64 0) := b1 BK253 2; have hcz23_3 : w21.cell? ⟨gb253, 3, none⟩ = some (.slice none 0 0) := b1 BK253 3; have hfz23_0 := blk_frozen BK253.out 0; have hfz23_1 := blk_frozen BK253.out 1; have hfz23_2 := blk_frozen BK253.out 2; have hfz23_3 := blk_frozen BK253.out 3; obtain ⟨Ao24, co24, eo24⟩ := Kd.R_slice HO251.out; subst eo24))
  (try simp only [Act.put, q3])
  go_cut [52] (fun v52 wc => ∃ (kq : Nat) (x52_10 : Bool), v52 = .bool x52_10 ∧ Aside0 (laws_FnExactAutoMake.j0 kq a0 a1 a2 l3 t241 t243 t252 x52_10 t235 t236 t237 t238 t246 t247 t248 t249 = some r) ∧ Aside0 (kq ≤ k) ∧ Aside0 (Kd.R k33 33 wc w.heap.size (fun k_ => some k_ ≠ ((.slice Ao17 t238.length co17) : Value).ownBlock ∧ some k_ ≠ ((.slice Ao24 t249.length co24) : Value).ownBlock) (.slice Ao19 t243.length co19) t243) ∧ Aside0 (Kd.R k33 33 wc w.heap.size (fun k_ => some k_ ≠ ((.slice Ao19 t243.length co19) : Value).ownBlock ∧ some k_ ≠ ((.slice Ao24 t249.length co24) : Value).ownBlock) (.slice Ao17 t238.length co17) t238) ∧ Aside0 (Kd.R k33 33 wc w.heap.size (fun k_ => some k_ ≠ ((.slice Ao19 t243.length co19) : Value).ownBlock ∧ some k_ ≠ ((.slice Ao17 t238.length co17) : Value).ownBlock) (.slice Ao24 t249.length co24) t249) ∧ Aside0 (wc.heap[gb242]? = some (.cells #[.int .i64 t235, .int .i64 t236, .int .i64 t237, (.slice Ao17 t238.length co17)] 28 (0, 0))) ∧ Aside0 (wc.heap[gb253]? = some (.cells #[.int .i64 t246, .int .i64 t247, .int .i64 t248, (.slice Ao24 t249.length co24)] 28 (0, 0))) ∧ Aside0 (Below w.heap.size w wc))
  case first =>
   have H := HC11.out; clear HC11; replace H := Option.bind_eq_some_iff.mp H; obtain ⟨t254, A250, H⟩ := H; replace H : (if t254 = true then (laws_FnExactAutoMake.j0 k a0 a1 a2 l3 t241 t243 t252 (t252 != t241) t235 t236 t237 t238 t246 t247 t248 t249) else (laws_FnExactAutoMake.j0 k a0 a1 a2 l3 t241 t243 t252 true t235 t236 t237 t238 t246 t247 t248 t249)) = some r := H; have A25 := Aside0.mk A250; clear A250
   by_cases c26 : t254 = true
   ·subst c26
    have H1 : (laws_FnExactAutoMake.j0 k a0 a1 a2 l3 t241 t243 t252 (t252 != t241) t235 t236 t237 t238 t246 t247 t248 t249) = some r := by rw [if_pos rfl] at H; exact H
    clear H; have H := H1; clear H1; have H' := Aside0.mk H; clear H; have hnb27 := NB253_242.out; have hnc27 := NB242_253.out; have hcz28_0 : w21.cell? ⟨gb253, 0, none⟩ = some (.int .i64 0) := b1 BK253 0; have hcz28_1 : w21.cell? ⟨gb253, 1, none⟩ = some (.int .i64 0) := b1 BK253 1; have hcz28_2 : w21.cell? ⟨gb253, 2, none⟩ = some (.int .i64 0) := b1 BK253 2; have hcz28_3 : w21.cell? ⟨gb253, 3, none⟩ = some (.slice none 0 0) := b1 BK253 3; have hfz28_0 := blk_frozen BK253.out 0; have hfz28_1 := blk_frozen BK253.out 1; have hfz28_2 := blk_frozen BK253.out 2; have hfz28_3 := blk_frozen BK253.out 3; have hcz29_0 : w21.cell? ⟨gb242, 0, none⟩ = some (.int .i64 t235) := b1 BK242 0; have hcz29_1 : w21.cell? ⟨gb242, 1, none⟩ = some (.int .i64 t236) := b1 BK242 1; have hcz29_2 : w21.cell? ⟨gb242, 2, none⟩ = some (.int .i64 t237) := b1 BK242 2; have hcz29_3 : w21.cell? ⟨gb242, 3, none⟩ = some (.slice Ao17 t238.length co17) := b1 BK242 3; have hfz29_0 := blk_frozen BK242.out 0; have hfz29_1 := blk_frozen BK242.out 1; have hfz29_2 := blk_frozen BK242.out 2; have hfz29_3 := blk_frozen BK242.out 3
    go_wp2_with (first | ((with_reducible refine gate_callee (f := 13) rfl ?_); refine goesL_ (some 46) rfl rfl Try.func13 (by kernel_rfl) rfl #[.agg #[.int .i64 t246, .int .i64 t247, .int .i64 t248, .slice Ao24 t249.length co24], .agg #[.int .i64 t235, .int .i64 t236, .int .i64 t237, .slice Ao17 t238.length co17]] rfl (by (try simp only [m3]); first | done | rfl | (simp only [d2]; rfl)) ?_; (with_reducible refine (laws_eqAuto.calls k t246 t247 t248 _ _ t249 t235 t236 t237 _ _ t238 true _ ?side1 ?side2 ?side3 ?side4 A25.out).mono ?_); (case side1 => refine (Kd.R_reads' (e := 33) (base := w.heap.size) (ok := fun k_ => (((True ∧ some k_ ≠ (.slice Ao13 t232.length co13 : Value).ownBlock) ∧ some k_ ≠ (.slice Ao17 t238.length co17 : Value).ownBlock) ∧ some k_ ≠ (.slice Ao19 t243.length co19 : Value).ownBlock)) (n := t249.length) (c := co24) ?_).2.2; exact (zR (xF4 HO251 BK253))); (case side2 => exact (Kd.R_reads' HO251.out).2.1); (case side3 => refine (Kd.R_reads' (e := 33) (base := w.heap.size) (ok := fun k_ => (((True ∧ some k_ ≠ (.slice Ao13 t232.length co13 : Value).ownBlock) ∧ some k_ ≠ (.slice Ao19 t243.length co19 : Value).ownBlock) ∧ some k_ ≠ (.slice Ao24 t249.length co24 : Value).ownBlock)) (n := t238.length) (c := co17) ?_).2.2; exact (zR (xF4 HO240 BK253))); (case side4 => exact (Kd.R_reads' HO240.out).2.1); rintro e w30 ⟨rfl, hb⟩; refine ⟨_, rfl, ?_⟩; replace HO234 := Aside0.mk (Kd.R_below (zR (xF4 HO234 BK253)) hb); replace HO240 := Aside0.mk (Kd.R_below (zR (xF4 HO240 BK253)) hb); replace HO245 := Aside0.mk (Kd.R_below (zR (xF4 HO245 BK253)) hb); replace HO251 := Aside0.mk (Kd.R_below (zR (xF4 HO251 BK253)) hb); replace BK242 := xB BK242 hb; replace BK253 := Aside0.mk (blk_below (g := gb253) (o := .cells #[.int .i64 t246, .int .i64 t247, .int .i64 t248, .slice Ao24 t249.length co24] 28 (0, 0)) (xP4 BK253.out) hb); replace HB := xS HB hb; (try clear hb); (try clear hb2); (try clear hk); (try clear hi)))
    go_meet
    case rel => exact ⟨_, ((t252 != t241)), (by first | rfl | (simp; done) | (simp [*]; done) | (rw [Int.tmod_eq_emod_of_nonneg (Int.natCast_nonneg _)]; done)), H', ⟨by first | omega | exact Nat.le_refl _⟩, ⟨by (with_reducible repeat (first | apply Kd.R_alloc | apply Kd.R_drewN | apply Kd.R_drew)); exact Kd.R_mono HO245.out (fun _ hk => ⟨hk.1.2, hk.2⟩)⟩, ⟨by (with_reducible repeat (first | apply Kd.R_alloc | apply Kd.R_drewN | apply Kd.R_drew)); exact Kd.R_mono HO240.out (fun _ hk => ⟨hk.1.2, hk.2⟩)⟩, ⟨by (with_reducible repeat (first | apply Kd.R_alloc | apply Kd.R_drewN | apply Kd.R_drew)); exact Kd.R_mono HO251.out (fun _ hk => ⟨hk.2, hk.1.2⟩)⟩, ⟨zB BK242.out⟩, ⟨zB BK253.out⟩, ⟨zS HB.out⟩⟩
   ·replace c26 := Bool.eq_false_iff.mpr c26; subst c26
    have H1 : (laws_FnExactAutoMake.j0 k a0 a1 a2 l3 t241 t243 t252 true t235 t236 t237 t238 t246 t247 t248 t249) = some r := by rw [if_neg (show ¬ (false = true) by decide)] at H; exact H
    clear H; have H := H1; clear H1; have H' := Aside0.mk H; clear H; have hnb31 := NB253_242.out; have hnc31 := NB242_253.out; have hcz32_0 : w21.cell? ⟨gb253, 0, none⟩ = some (.int .i64 0) := b1 BK253 0; have hcz32_1 : w21.cell? ⟨gb253, 1, none⟩ = some (.int .i64 0) := b1 BK253 1; have hcz32_2 : w21.cell? ⟨gb253, 2, none⟩ = some (.int .i64 0) := b1 BK253 2; have hcz32_3 : w21.cell? ⟨gb253, 3, none⟩ = some (.slice none 0 0) := b1 BK253 3; have hfz32_0 := blk_frozen BK253.out 0; have hfz32_1 := blk_frozen BK253.out 1; have hfz32_2 := blk_frozen BK253.out 2; have hfz32_3 := blk_frozen BK253.out 3; have hcz33_0 : w21.cell? ⟨gb242, 0, none⟩ = some (.int .i64 t235) := b1 BK242 0; have hcz33_1 : w21.cell? ⟨gb242, 1, none⟩ = some (.int .i64 t236) := b1 BK242 1; have hcz33_2 : w21.cell? ⟨gb242, 2, none⟩ = some (.int .i64 t237) := b1 BK242 2; have hcz33_3 : w21.cell? ⟨gb242, 3, none⟩ = some (.slice Ao17 t238.length co17) := b1 BK242 3; have hfz33_0 := blk_frozen BK242.out 0; have hfz33_1 := blk_frozen BK242.out 1; have hfz33_2 := blk_frozen BK242.out 2; have hfz33_3 := blk_frozen BK242.out 3
    go_wp2_with (first | ((with_reducible refine gate_callee (f := 13) rfl ?_); refine goesL_ (some 46) rfl rfl Try.func13 (by kernel_rfl) rfl #[.agg #[.int .i64 t246, .int .i64 t247, .int .i64 t248, .slice Ao24 t249.length co24], .agg #[.int .i64 t235, .int .i64 t236, .int .i64 t237, .slice Ao17 t238.length co17]] rfl (by (try simp only [m3]); first | done | rfl | (simp only [d2]; rfl)) ?_; (with_reducible refine (laws_eqAuto.calls k t246 t247 t248 _ _ t249 t235 t236 t237 _ _ t238 false _ ?side1 ?side2 ?side3 ?side4 A25.out).mono ?_); (case side1 => refine (Kd.R_reads' (e := 33) (base := w.heap.size) (ok := fun k_ => (((True ∧ some k_ ≠ (.slice Ao13 t232.length co13 : Value).ownBlock) ∧ some k_ ≠ (.slice Ao17 t238.length co17 : Value).ownBlock) ∧ some k_ ≠ (.slice Ao19 t243.length co19 : Value).ownBlock)) (n := t249.length) (c := co24) ?_).2.2; exact (zR (xF4 HO251 BK253))); (case side2 => exact (Kd.R_reads' HO251.out).2.1); (case side3 => refine (Kd.R_reads' (e := 33) (base := w.heap.size) (ok := fun k_ => (((True ∧ some k_ ≠ (.slice Ao13 t232.length co13 : Value).ownBlock) ∧ some k_ ≠ (.slice Ao19 t243.length co19 : Value).ownBlock) ∧ some k_ ≠ (.slice Ao24 t249.length co24 : Value).ownBlock)) (n := t238.length) (c := co17) ?_).2.2; exact (zR (xF4 HO240 BK253))); (case side4 => exact (Kd.R_reads' HO240.out).2.1); rintro e w34 ⟨rfl, hb⟩; refine ⟨_, rfl, ?_⟩; replace HO234 := Aside0.mk (Kd.R_below (zR (xF4 HO234 BK253)) hb); replace HO240 := Aside0.mk (Kd.R_below (zR (xF4 HO240 BK253)) hb); replace HO245 := Aside0.mk (Kd.R_below (zR (xF4 HO245 BK253)) hb); replace HO251 := Aside0.mk (Kd.R_below (zR (xF4 HO251 BK253)) hb); replace BK242 := xB BK242 hb; replace BK253 := Aside0.mk (blk_below (g := gb253) (o := .cells #[.int .i64 t246, .int .i64 t247, .int .i64 t248, .slice Ao24 t249.length co24] 28 (0, 0)) (xP4 BK253.out) hb); replace HB := xS HB hb; (try clear hb); (try clear hb2); (try clear hk); (try clear hi)))
    go_meet
    case rel => exact ⟨_, (true), (by first | rfl | (simp; done) | (simp [*]; done) | (rw [Int.tmod_eq_emod_of_nonneg (Int.natCast_nonneg _)]; done)), H', ⟨by first | omega | exact Nat.le_refl _⟩, ⟨by (with_reducible repeat (first | apply Kd.R_alloc | apply Kd.R_drewN | apply Kd.R_drew)); exact Kd.R_mono HO245.out (fun _ hk => ⟨hk.1.2, hk.2⟩)⟩, ⟨by (with_reducible repeat (first | apply Kd.R_alloc | apply Kd.R_drewN | apply Kd.R_drew)); exact Kd.R_mono HO240.out (fun _ hk => ⟨hk.1.2, hk.2⟩)⟩, ⟨by (with_reducible repeat (first | apply Kd.R_alloc | apply Kd.R_drewN | apply Kd.R_drew)); exact Kd.R_mono HO251.out (fun _ hk => ⟨hk.2, hk.1.2⟩)⟩, ⟨zB BK242.out⟩, ⟨zB BK253.out⟩, ⟨zS HB.out⟩⟩
  case rest =>
   clear HC11
   try clear c1
   try clear c2
   try clear p2
   try clear c3
   try clear c4
   try clear c6
   try clear c6b0
   try clear c7
   try clear c8
   try clear c11
   try clear c12
   try clear c13
   try clear c22
   try clear c26
   try clear c27
   try clear c31
   try clear hcz16_0
   try clear hcz16_1
   try clear hcz16_2
   try clear hcz16_3
   try clear hcz23_0
   try clear hcz23_1
   try clear hcz23_2
   try clear hcz23_3
   try clear hcz28_0
   try clear hcz28_1
   try clear hcz28_2
   try clear hcz28_3
   try clear hcz29_0
   try clear hcz29_1
   try clear hcz29_2
   try clear hcz29_3
   try clear hcz32_0
   try clear hcz32_1
   try clear hcz32_2
   try clear hcz32_3
   try clear hcz33_0
   try clear hcz33_1
   try clear hcz33_2
   try clear hcz33_3
   try clear hfz16_0
   try clear hfz16_1
   try clear hfz16_2
   try clear hfz16_3
   try clear hfz23_0
   try clear hfz23_1
   try clear hfz23_2
   try clear hfz23_3
   try clear hfz28_0
   try clear hfz28_1
   try clear hfz28_2
   try clear hfz28_3
   try clear hfz29_0
   try clear hfz29_1
   try clear hfz29_2
   try clear hfz29_3
   try clear hfz32_0
   try clear hfz32_1
   try clear hfz32_2
   try clear hfz32_3
   try clear hfz33_0
   try clear hfz33_1
   try clear hfz33_2
   try clear hfz33_3
   obtain ⟨kq, x52_10, rfl, HA, HJ10, HO_12, HO_243003, HO_254003, BK242, BK253, HB⟩ := hcut
   cases kq with
   | zero => exact absurd HA.out (by simp [laws_FnExactAutoMake.j0])
   | succ kj10 =>
    have H := HA.out; clear HA; simp only [laws_FnExactAutoMake.j0] at H
    by_cases c35 : x52_10 = true
    ·subst c35
     have H1 : (some false) = some r := by rw [if_pos rfl] at H; exact H
     clear H; have H := H1; clear H1; obtain rfl := Option.some.inj H
     go_wp2
     go_ret; exact ⟨by first | rfl | (simp [errW_none, errW_some] <;> rfl) | (simp [*, errW_none, errW_some] <;> rfl), by repeat (first | (with_reducible first | exact HB.out | apply below_alloc | apply pw_below_drewN | apply below_drew1 | refine below_set ?_ GE242.out | refine below_set ?_ GE253.out) | exact HB.out)⟩
    ·replace c35 := Bool.eq_false_iff.mpr c35; subst c35
     have H1 : ((laws_toEdgeS.f kj10 l3).bind fun t255 => ((laws_eqEdgeS.f kj10 t243 t255).bind fun t258 => (if t258 = true then ((laws_markEdgeS.f kj10 t243 1).bind fun bt259 => (if bt259.1 < 0 then (laws_FnExactAutoMake.j1 kj10 a0 a1 a2 l3 t241 true t235 t236 t237 t238 t246 t247 t248 t249) else ((laws_eqAuto.f kj10 t246 t247 t248 t249 t235 t236 t237 t238).bind fun t261 => (if t261 = true then (laws_FnExactAutoMake.j1 kj10 a0 a1 a2 l3 t241 (t252 != t241) t235 t236 t237 t238 t246 t247 t248 t249) else (laws_FnExactAutoMake.j1 kj10 a0 a1 a2 l3 t241 true t235 t236 t237 t238 t246 t247 t248 t249))))) else (some false)))) = some r := by rw [if_neg (show ¬ (false = true) by decide)] at H; exact H
     clear H; have H := H1; clear H1; replace H := Option.bind_eq_some_iff.mp H; obtain ⟨t255, A360, H⟩ := H; replace H : ((laws_eqEdgeS.f kj10 t243 t255).bind fun t258 => (if t258 = true then ((laws_markEdgeS.f kj10 t243 1).bind fun bt259 => (if bt259.1 < 0 then (laws_FnExactAutoMake.j1 kj10 a0 a1 a2 l3 t241 true t235 t236 t237 t238 t246 t247 t248 t249) else ((laws_eqAuto.f kj10 t246 t247 t248 t249 t235 t236 t237 t238).bind fun t261 => (if t261 = true then (laws_FnExactAutoMake.j1 kj10 a0 a1 a2 l3 t241 (t252 != t241) t235 t236 t237 t238 t246 t247 t248 t249) else (laws_FnExactAutoMake.j1 kj10 a0 a1 a2 l3 t241 true t235 t236 t237 t238 t246 t247 t248 t249))))) else (some false))) = some r := H; have A36 := Aside0.mk A360; clear A360; replace H := Option.bind_eq_some_iff.mp H; obtain ⟨t258, A370, H⟩ := H; replace H : (if t258 = true then ((laws_markEdgeS.f kj10 t243 1).bind fun bt259 => (if bt259.1 < 0 then (laws_FnExactAutoMake.j1 kj10 a0 a1 a2 l3 t241 true t235 t236 t237 t238 t246 t247 t248 t249) else ((laws_eqAuto.f kj10 t246 t247 t248 t249 t235 t236 t237 t238).bind fun t261 => (if t261 = true then (laws_FnExactAutoMake.j1 kj10 a0 a1 a2 l3 t241 (t252 != t241) t235 t236 t237 t238 t246 t247 t248 t249) else (laws_FnExactAutoMake.j1 kj10 a0 a1 a2 l3 t241 true t235 t236 t237 t238 t246 t247 t248 t249))))) else (some false)) = some r := H; have A37 := Aside0.mk A370; clear A370
     by_cases c38 : t258 = true
     ·subst c38
      have H1 : ((laws_markEdgeS.f kj10 t243 1).bind fun bt259 => (if bt259.1 < 0 then (laws_FnExactAutoMake.j1 kj10 a0 a1 a2 l3 t241 true t235 t236 t237 t238 t246 t247 t248 t249) else ((laws_eqAuto.f kj10 t246 t247 t248 t249 t235 t236 t237 t238).bind fun t261 => (if t261 = true then (laws_FnExactAutoMake.j1 kj10 a0 a1 a2 l3 t241 (t252 != t241) t235 t236 t237 t238 t246 t247 t248 t249) else (laws_FnExactAutoMake.j1 kj10 a0 a1 a2 l3 t241 true t235 t236 t237 t238 t246 t247 t248 t249))))) = some r := by rw [if_pos rfl] at H; exact H
      clear H; have H := H1; clear H1; replace H := Option.bind_eq_some_iff.mp H; obtain ⟨⟨t259, t260⟩, A390, H⟩ := H; replace H : (if t259 < 0 then (laws_FnExactAutoMake.j1 kj10 a0 a1 a2 l3 t241 true t235 t236 t237 t238 t246 t247 t248 t249) else ((laws_eqAuto.f kj10 t246 t247 t248 t249 t235 t236 t237 t238).bind fun t261 => (if t261 = true then (laws_FnExactAutoMake.j1 kj10 a0 a1 a2 l3 t241 (t252 != t241) t235 t236 t237 t238 t246 t247 t248 t249) else (laws_FnExactAutoMake.j1 kj10 a0 a1 a2 l3 t241 true t235 t236 t237 t238 t246 t247 t248 t249)))) = some r := H; have A39 := Aside0.mk A390; clear A390; have HC40 := Aside0.mk H; clear H
      go_upto_region 14 with (first | ((with_reducible refine gate_callee (f := 12) rfl ?_); refine goesL_ (some 55) rfl rfl Try.func12 (by kernel_rfl) rfl #[.slice A3 l3.length c3] rfl (by (try simp only [m3]); first | done | rfl | (simp only [d2]; rfl)) ?_; (with_reducible refine (laws_toEdgeS.calls kj10 _ _ l3 t255 _ ?side1 ?side2 A36.out).mono ?_); (case side1 => exact zC (Kd.C_below HR3.out HB.out)); (case side2 => exact HC3.out); rintro e w41 ⟨v256, rfl, ho0, hb⟩; refine ⟨_, rfl, ?_⟩; have HO257 := Aside0.mk (Kd.R_lower (Kd.R_new' (Kd.R_new' (Kd.R_new' ho0 (Kd.R_lt (zR HO_12.out))) (Kd.R_lt (zR HO_243003.out))) (Kd.R_lt (zR HO_254003.out))) (below_size (zS HB.out))); replace HO_12 := xE HO_12 ho0 hb; replace HO_243003 := xE HO_243003 ho0 hb; replace HO_254003 := xE HO_254003 ho0 hb; replace BK242 := xB BK242 hb; replace BK253 := xB BK253 hb; replace HB := xS HB hb; (try clear hb); (try clear hb2); (try clear hk); (try clear hi); (try clear ho0); obtain ⟨Ao42, co42, eo42⟩ := Kd.R_slice HO257.out; subst eo42) | ((with_reducible refine gate_callee (f := 14) rfl ?_); refine goesL_ (some 56) rfl rfl Try.func14 (by kernel_rfl) rfl #[.slice Ao19 t243.length co19, .slice Ao42 t255.length co42] rfl (by (try simp only [m3]); first | done | rfl | (simp only [d2]; rfl)) ?_; (with_reducible refine (laws_eqEdgeS.calls kj10 _ _ t243 _ _ t255 true _ ?side1 ?side2 ?side3 ?side4 A37.out).mono ?_); (case side1 => exact zC (Kd.R_reads' HO_12.out).2.2); (case side2 => exact (Kd.R_reads' HO_12.out).2.1); (case side3 => exact zC (Kd.R_reads' HO257.out).2.2); (case side4 => exact (Kd.R_reads' HO257.out).2.1); rintro e w43 ⟨rfl, hb⟩; refine ⟨_, rfl, ?_⟩; replace HO_12 := xR HO_12 hb; replace HO_243003 := xR HO_243003 hb; replace HO_254003 := xR HO_254003 hb; replace HO257 := xR HO257 hb; replace BK242 := xB BK242 hb; replace BK253 := xB BK253 hb; replace HB := xS HB hb; (try clear hb); (try clear hb2); (try clear hk); (try clear hi)) | ((with_reducible refine gate_callee (f := 15) rfl ?_); refine goesL_ (some 60) rfl rfl Try.func15 (by kernel_rfl) rfl #[.slice Ao19 t243.length co19, .int .i64 1] rfl (by (try simp only [m3]); first | done | rfl | (simp only [d2]; rfl)) ?_; (with_reducible refine (laws_markEdgeS.calls kj10 (fun k_ => some k_ = (.slice Ao19 t243.length co19 : Value).ownBlock) (.slice Ao19 t243.length co19) t243 1 t259 t260 w _ ?side1 ?side2 A39.out).mono ?_); (case side1 => repeat (first | (with_reducible first | exact HB.out | apply below_alloc | apply pw_below_drewN | apply below_drew1 | refine below_set ?_ GE242.out | refine below_set ?_ GE253.out) | exact HB.out)); (case side2 => exact Kd.R_tight rfl HO_12.out); rintro e w44 ⟨rfl, hy0, hb, hkp⟩; refine ⟨_, rfl, ?_⟩; replace HO_243003 := Aside0.mk (Kd.R_mono (ok' := fun k_ => some k_ ≠ (.slice Ao19 t243.length co19 : Value).ownBlock ∧ some k_ ≠ (.slice Ao24 t249.length co24 : Value).ownBlock ∧ some k_ ≠ (.slice Ao42 t255.length co42 : Value).ownBlock) (Kd.R_keptB (HO_243003.out) hkp (fun k_ hk_ hs_ => (hk_.1.1) hs_)) (fun k_ hk_ => ⟨hk_.1.1.1, hk_.1.1.2, hk_.1.2⟩)); replace HO_254003 := Aside0.mk (Kd.R_mono (ok' := fun k_ => some k_ ≠ (.slice Ao19 t243.length co19 : Value).ownBlock ∧ some k_ ≠ (.slice Ao17 t238.length co17 : Value).ownBlock ∧ some k_ ≠ (.slice Ao42 t255.length co42 : Value).ownBlock) (Kd.R_keptB (HO_254003.out) hkp (fun k_ hk_ hs_ => (hk_.1.1) hs_)) (fun k_ hk_ => ⟨hk_.1.1.1, hk_.1.1.2, hk_.1.2⟩)); replace BK242 := Aside0.mk (blk_kept (zB BK242.out) hkp (fun hs_ => (fun e_ => (Kd.R_ne HO_12.out BK242.out (by decide)) e_) hs_)); replace BK253 := Aside0.mk (blk_kept (zB BK253.out) hkp (fun hs_ => (fun e_ => (Kd.R_ne HO_12.out BK253.out (by decide)) e_) hs_)); replace HO_12 := Aside0.mk (Kd.R_reok rfl hy0 (fun k_ e_ => HO_12.out.1 k_ e_)); replace HO257 := Aside0.mk (Kd.R_mono (ok' := fun k_ => some k_ ≠ (.slice Ao19 t243.length co19 : Value).ownBlock ∧ some k_ ≠ (.slice Ao17 t238.length co17 : Value).ownBlock ∧ some k_ ≠ (.slice Ao24 t249.length co24 : Value).ownBlock) (Kd.R_keptB (HO257.out) hkp (fun k_ hk_ hs_ => (hk_.1.1.2) hs_)) (fun k_ hk_ => ⟨hk_.1.1.1.2, hk_.1.1.2, hk_.1.2⟩)); replace HB := Aside0.mk (hb); (try clear hb); (try clear hkp); (try clear hy0)))
      (try simp only [Act.put, q3])
      go_cut [73] (fun v73 wc => ∃ (kq : Nat) (x73_39 : Bool), v73 = .bool x73_39 ∧ Aside0 (laws_FnExactAutoMake.j1 kq a0 a1 a2 l3 t241 x73_39 t235 t236 t237 t238 t246 t247 t248 t249 = some r) ∧ Aside0 (kq ≤ kj10) ∧ Aside0 (Kd.R k33 33 wc w.heap.size (fun k_ => some k_ ≠ ((.slice Ao24 t249.length co24) : Value).ownBlock) (.slice Ao17 t238.length co17) t238) ∧ Aside0 (Kd.R k33 33 wc w.heap.size (fun k_ => some k_ ≠ ((.slice Ao17 t238.length co17) : Value).ownBlock) (.slice Ao24 t249.length co24) t249) ∧ Aside0 (wc.heap[gb242]? = some (.cells #[.int .i64 t235, .int .i64 t236, .int .i64 t237, (.slice Ao17 t238.length co17)] 28 (0, 0))) ∧ Aside0 (wc.heap[gb253]? = some (.cells #[.int .i64 t246, .int .i64 t247, .int .i64 t248, (.slice Ao24 t249.length co24)] 28 (0, 0))) ∧ Aside0 (Below w.heap.size w wc))
      case first =>
       have H := HC40.out; clear HC40
       by_cases c45 : t259 < 0
       ·rw [if_pos c45] at H; have c45b0 : decide (t259 < 0) = true := decide_eq_true c45; clear c45
        (first | rw [c45b0] | (simp only [i64_w, i32_w]; rw [c45b0]) | skip)
        have H' := Aside0.mk H; clear H
        go_wp2
        go_meet
        case rel => exact ⟨_, (true), (by first | rfl | (simp; done) | (simp [*]; done) | (rw [Int.tmod_eq_emod_of_nonneg (Int.natCast_nonneg _)]; done)), H', ⟨by have := HJ10.out; first | omega | exact Nat.le_refl _⟩, ⟨by (with_reducible repeat (first | apply Kd.R_alloc | apply Kd.R_drewN | apply Kd.R_drew)); exact Kd.R_mono HO_243003.out (fun _ hk => hk.2.1)⟩, ⟨by (with_reducible repeat (first | apply Kd.R_alloc | apply Kd.R_drewN | apply Kd.R_drew)); exact Kd.R_mono HO_254003.out (fun _ hk => hk.2.1)⟩, ⟨zB BK242.out⟩, ⟨zB BK253.out⟩, ⟨zS HB.out⟩⟩
       ·rw [if_neg c45] at H; have c45b0 : decide (t259 < 0) = false := decide_eq_false c45; clear c45
        (first | rw [c45b0] | (simp only [i64_w, i32_w]; rw [c45b0]) | skip)
        replace H := Option.bind_eq_some_iff.mp H; obtain ⟨t261, A460, H⟩ := H; replace H : (if t261 = true then (laws_FnExactAutoMake.j1 kj10 a0 a1 a2 l3 t241 (t252 != t241) t235 t236 t237 t238 t246 t247 t248 t249) else (laws_FnExactAutoMake.j1 kj10 a0 a1 a2 l3 t241 true t235 t236 t237 t238 t246 t247 t248 t249)) = some r := H; have A46 := Aside0.mk A460; clear A460
        by_cases c47 : t261 = true
        ·subst c47
         have H1 : (laws_FnExactAutoMake.j1 kj10 a0 a1 a2 l3 t241 (t252 != t241) t235 t236 t237 t238 t246 t247 t248 t249) = some r := by rw [if_pos rfl] at H; exact H
         clear H; have H := H1; clear H1; have H' := Aside0.mk H; clear H; have hnb48 := NB253_242.out; have hnc48 := NB242_253.out; have hcz49_0 : w44.cell? ⟨gb253, 0, none⟩ = some (.int .i64 t246) := b1 BK253 0; have hcz49_1 : w44.cell? ⟨gb253, 1, none⟩ = some (.int .i64 t247) := b1 BK253 1; have hcz49_2 : w44.cell? ⟨gb253, 2, none⟩ = some (.int .i64 t248) := b1 BK253 2; have hcz49_3 : w44.cell? ⟨gb253, 3, none⟩ = some (.slice Ao24 t249.length co24) := b1 BK253 3; have hfz49_0 := blk_frozen BK253.out 0; have hfz49_1 := blk_frozen BK253.out 1; have hfz49_2 := blk_frozen BK253.out 2; have hfz49_3 := blk_frozen BK253.out 3; have hcz50_0 : w44.cell? ⟨gb242, 0, none⟩ = some (.int .i64 t235) := b1 BK242 0; have hcz50_1 : w44.cell? ⟨gb242, 1, none⟩ = some (.int .i64 t236) := b1 BK242 1; have hcz50_2 : w44.cell? ⟨gb242, 2, none⟩ = some (.int .i64 t237) := b1 BK242 2; have hcz50_3 : w44.cell? ⟨gb242, 3, none⟩ = some (.slice Ao17 t238.length co17) := b1 BK242 3; have hfz50_0 := blk_frozen BK242.out 0; have hfz50_1 := blk_frozen BK242.out 1; have hfz50_2 := blk_frozen BK242.out 2; have hfz50_3 := blk_frozen BK242.out 3
         go_wp2_with (first | (go_at_call 13; (with_reducible refine (laws_eqAuto.calls kj10 t246 t247 t248 _ _ t249 t235 t236 t237 _ _ t238 true _ ?side1 ?side2 ?side3 ?side4 A46.out).mono ?_); (case side1 => exact zC (Kd.R_reads' HO_254003.out).2.2); (case side2 => exact (Kd.R_reads' HO_254003.out).2.1); (case side3 => exact zC (Kd.R_reads' HO_243003.out).2.2); (case side4 => exact (Kd.R_reads' HO_243003.out).2.1); rintro e w51 ⟨rfl, hb⟩; replace HO_12 := xR HO_12 hb; replace HO_243003 := xR HO_243003 hb; replace HO_254003 := xR HO_254003 hb; replace HO257 := xR HO257 hb; replace BK242 := xB BK242 hb; replace BK253 := xB BK253 hb; replace HB := xS HB hb; (try clear hb); (try clear hb2); (try clear hk); (try clear hi)))
         go_meet
         case rel => exact ⟨_, ((t252 != t241)), (by first | rfl | (simp; done) | (simp [*]; done) | (rw [Int.tmod_eq_emod_of_nonneg (Int.natCast_nonneg _)]; done)), H', ⟨by have := HJ10.out; first | omega | exact Nat.le_refl _⟩, ⟨by (with_reducible repeat (first | apply Kd.R_alloc | apply Kd.R_drewN | apply Kd.R_drew)); exact Kd.R_mono HO_243003.out (fun _ hk => hk.2.1)⟩, ⟨by (with_reducible repeat (first | apply Kd.R_alloc | apply Kd.R_drewN | apply Kd.R_drew)); exact Kd.R_mono HO_254003.out (fun _ hk => hk.2.1)⟩, ⟨zB BK242.out⟩, ⟨zB BK253.out⟩, ⟨zS HB.out⟩⟩
        ·replace c47 := Bool.eq_false_iff.mpr c47; subst c47
         have H1 : (laws_FnExactAutoMake.j1 kj10 a0 a1 a2 l3 t241 true t235 t236 t237 t238 t246 t247 t248 t249) = some r := by rw [if_neg (show ¬ (false = true) by decide)] at H; exact H
         clear H; have H := H1; clear H1; have H' := Aside0.mk H; clear H; have hnb52 := NB253_242.out; have hnc52 := NB242_253.out; have hcz53_0 : w44.cell? ⟨gb253, 0, none⟩ = some (.int .i64 t246) := b1 BK253 0; have hcz53_1 : w44.cell? ⟨gb253, 1, none⟩ = some (.int .i64 t247) := b1 BK253 1; have hcz53_2 : w44.cell? ⟨gb253, 2, none⟩ = some (.int .i64 t248) := b1 BK253 2; have hcz53_3 : w44.cell? ⟨gb253, 3, none⟩ = some (.slice Ao24 t249.length co24) := b1 BK253 3; have hfz53_0 := blk_frozen BK253.out 0; have hfz53_1 := blk_frozen BK253.out 1; have hfz53_2 := blk_frozen BK253.out 2; have hfz53_3 := blk_frozen BK253.out 3; have hcz54_0 : w44.cell? ⟨gb242, 0, none⟩ = some (.int .i64 t235) := b1 BK242 0; have hcz54_1 : w44.cell? ⟨gb242, 1, none⟩ = some (.int .i64 t236) := b1 BK242 1; have hcz54_2 : w44.cell? ⟨gb242, 2, none⟩ = some (.int .i64 t237) := b1 BK242 2; have hcz54_3 : w44.cell? ⟨gb242, 3, none⟩ = some (.slice Ao17 t238.length co17) := b1 BK242 3; have hfz54_0 := blk_frozen BK242.out 0; have hfz54_1 := blk_frozen BK242.out 1; have hfz54_2 := blk_frozen BK242.out 2; have hfz54_3 := blk_frozen BK242.out 3
         go_wp2_with (first | (go_at_call 13; (with_reducible refine (laws_eqAuto.calls kj10 t246 t247 t248 _ _ t249 t235 t236 t237 _ _ t238 false _ ?side1 ?side2 ?side3 ?side4 A46.out).mono ?_); (case side1 => exact zC (Kd.R_reads' HO_254003.out).2.2); (case side2 => exact (Kd.R_reads' HO_254003.out).2.1); (case side3 => exact zC (Kd.R_reads' HO_243003.out).2.2); (case side4 => exact (Kd.R_reads' HO_243003.out).2.1); rintro e w55 ⟨rfl, hb⟩; replace HO_12 := xR HO_12 hb; replace HO_243003 := xR HO_243003 hb; replace HO_254003 := xR HO_254003 hb; replace HO257 := xR HO257 hb; replace BK242 := xB BK242 hb; replace BK253 := xB BK253 hb; replace HB := xS HB hb; (try clear hb); (try clear hb2); (try clear hk); (try clear hi)))
         go_meet
         case rel => exact ⟨_, (true), (by first | rfl | (simp; done) | (simp [*]; done) | (rw [Int.tmod_eq_emod_of_nonneg (Int.natCast_nonneg _)]; done)), H', ⟨by have := HJ10.out; first | omega | exact Nat.le_refl _⟩, ⟨by (with_reducible repeat (first | apply Kd.R_alloc | apply Kd.R_drewN | apply Kd.R_drew)); exact Kd.R_mono HO_243003.out (fun _ hk => hk.2.1)⟩, ⟨by (with_reducible repeat (first | apply Kd.R_alloc | apply Kd.R_drewN | apply Kd.R_drew)); exact Kd.R_mono HO_254003.out (fun _ hk => hk.2.1)⟩, ⟨zB BK242.out⟩, ⟨zB BK253.out⟩, ⟨zS HB.out⟩⟩
      case rest =>
       clear HC40
       try clear c1
       try clear c2
       try clear p2
       try clear c3
       try clear c4
       try clear c5
       try clear c6
       try clear c6b0
       try clear c7
       try clear c8
       try clear c11
       try clear c12
       try clear c13
       try clear c14
       try clear c15
       try clear c22
       try clear c26
       try clear c27
       try clear c31
       try clear c35
       try clear c38
       try clear c45
       try clear c45b0
       try clear c47
       try clear c48
       try clear c52
       try clear hcz16_0
       try clear hcz16_1
       try clear hcz16_2
       try clear hcz16_3
       try clear hcz23_0
       try clear hcz23_1
       try clear hcz23_2
       try clear hcz23_3
       try clear hcz28_0
       try clear hcz28_1
       try clear hcz28_2
       try clear hcz28_3
       try clear hcz29_0
       try clear hcz29_1
       try clear hcz29_2
       try clear hcz29_3
       try clear hcz32_0
       try clear hcz32_1
       try clear hcz32_2
       try clear hcz32_3
       try clear hcz33_0
       try clear hcz33_1
       try clear hcz33_2
       try clear hcz33_3
       try clear hcz49_0
       try clear hcz49_1
       try clear hcz49_2
       try clear hcz49_3
       try clear hcz50_0
       try clear hcz50_1
       try clear hcz50_2
       try clear hcz50_3
       try clear hcz53_0
       try clear hcz53_1
       try clear hcz53_2
       try clear hcz53_3
       try clear hcz54_0
       try clear hcz54_1
       try clear hcz54_2
       try clear hcz54_3
       try clear hfz16_0
       try clear hfz16_1
       try clear hfz16_2
       try clear hfz16_3
       try clear hfz23_0
       try clear hfz23_1
       try clear hfz23_2
       try clear hfz23_3
       try clear hfz28_0
       try clear hfz28_1
       try clear hfz28_2
       try clear hfz28_3
       try clear hfz29_0
       try clear hfz29_1
       try clear hfz29_2
       try clear hfz29_3
       try clear hfz32_0
       try clear hfz32_1
       try clear hfz32_2
       try clear hfz32_3
       try clear hfz33_0
       try clear hfz33_1
       try clear hfz33_2
       try clear hfz33_3
       try clear hfz49_0
       try clear hfz49_1
       try clear hfz49_2
       try clear hfz49_3
       try clear hfz50_0
       try clear hfz50_1
       try clear hfz50_2
       try clear hfz50_3
       try clear hfz53_0
       try clear hfz53_1
       try clear hfz53_2
       try clear hfz53_3
       try clear hfz54_0
       try clear hfz54_1
       try clear hfz54_2
       try clear hfz54_3
       try clear p2
       obtain ⟨kq, x73_39, rfl, HA, HJ39, HO_243003, HO_254003, BK242, BK253, HB⟩ := hcut
       cases kq with
       | zero => exact absurd HA.out (by simp [laws_FnExactAutoMake.j1])
       | succ kj39 =>
        have H := HA.out; clear HA; simp only [laws_FnExactAutoMake.j1] at H
        by_cases c56 : x73_39 = true
        ·subst c56
         have H1 : (some false) = some r := by rw [if_pos rfl] at H; exact H
         clear H; have H := H1; clear H1; obtain rfl := Option.some.inj H
         go_wp2
         go_ret; exact ⟨by first | rfl | (simp [errW_none, errW_some] <;> rfl) | (simp [*, errW_none, errW_some] <;> rfl), by repeat (first | (with_reducible first | exact HB.out | apply below_alloc | apply pw_below_drewN | apply below_drew1 | refine below_set ?_ GE242.out | refine below_set ?_ GE253.out) | exact HB.out)⟩
        ·replace c56 := Bool.eq_false_iff.mpr c56; subst c56
         have H1 : ((laws_markAuto.f kj39 t246 t247 t248 t249 1).bind fun bt262 => ((laws_heldAuto.f kj39 t246 t247 t248 bt262.2 1).bind fun t264 => (if t264 < 0 then (some false) else (if t264 = bt262.1 then ((laws_toEdgeS.f kj39 l3).bind fun t265 => ((impl_AutoMake.f kj39 a0 a1 a2 t265).bind fun bt268 => ((laws_eqAuto.f kj39 bt268.1 bt268.2.1 bt268.2.2.1 bt268.2.2.2.1 t235 t236 t237 t238).bind fun t276 => (if t276 = true then (laws_FnExactAutoMake.j2 kj39 bt262.1 (bt268.2.2.2.2 != t241) t246 t247 t248 bt262.2) else (laws_FnExactAutoMake.j2 kj39 bt262.1 true t246 t247 t248 bt262.2))))) else (some false))))) = some r := by rw [if_neg (show ¬ (false = true) by decide)] at H; exact H
         clear H; have H := H1; clear H1; replace H := Option.bind_eq_some_iff.mp H; obtain ⟨⟨t262, t263⟩, A570, H⟩ := H; replace H : ((laws_heldAuto.f kj39 t246 t247 t248 t263 1).bind fun t264 => (if t264 < 0 then (some false) else (if t264 = t262 then ((laws_toEdgeS.f kj39 l3).bind fun t265 => ((impl_AutoMake.f kj39 a0 a1 a2 t265).bind fun bt268 => ((laws_eqAuto.f kj39 bt268.1 bt268.2.1 bt268.2.2.1 bt268.2.2.2.1 t235 t236 t237 t238).bind fun t276 => (if t276 = true then (laws_FnExactAutoMake.j2 kj39 t262 (bt268.2.2.2.2 != t241) t246 t247 t248 t263) else (laws_FnExactAutoMake.j2 kj39 t262 true t246 t247 t248 t263))))) else (some false)))) = some r := H; have A57 := Aside0.mk A570; clear A570; replace H := Option.bind_eq_some_iff.mp H; obtain ⟨t264, A580, H⟩ := H; replace H : (if t264 < 0 then (some false) else (if t264 = t262 then ((laws_toEdgeS.f kj39 l3).bind fun t265 => ((impl_AutoMake.f kj39 a0 a1 a2 t265).bind fun bt268 => ((laws_eqAuto.f kj39 bt268.1 bt268.2.1 bt268.2.2.1 bt268.2.2.2.1 t235 t236 t237 t238).bind fun t276 => (if t276 = true then (laws_FnExactAutoMake.j2 kj39 t262 (bt268.2.2.2.2 != t241) t246 t247 t248 t263) else (laws_FnExactAutoMake.j2 kj39 t262 true t246 t247 t248 t263))))) else (some false))) = some r := H; have A58 := Aside0.mk A580; clear A580
         by_cases c59 : t264 < 0
         ·rw [if_pos c59] at H; have c59b0 : decide (t264 < 0) = true := decide_eq_true c59; clear c59; obtain rfl := Option.some.inj H; have hnb60 := NB253_242.out; have hnc60 := NB242_253.out; have hcz61_0 : wc.cell? ⟨gb253, 0, none⟩ = some (.int .i64 t246) := b1 BK253 0; have hcz61_1 : wc.cell? ⟨gb253, 1, none⟩ = some (.int .i64 t247) := b1 BK253 1; have hcz61_2 : wc.cell? ⟨gb253, 2, none⟩ = some (.int .i64 t248) := b1 BK253 2; have hcz61_3 : wc.cell? ⟨gb253, 3, none⟩ = some (.slice Ao24 t249.length co24) := b1 BK253 3; have hfz61_0 := blk_frozen BK253.out 0; have hfz61_1 := blk_frozen BK253.out 1; have hfz61_2 := blk_frozen BK253.out 2; have hfz61_3 := blk_frozen BK253.out 3
          go_wp2_with (first | ((with_reducible refine gate_callee (f := 16) rfl ?_); refine goesL_ (some 76) rfl rfl Try.func16 (by kernel_rfl) rfl #[.agg #[.int .i64 t246, .int .i64 t247, .int .i64 t248, .slice Ao24 t249.length co24], .int .i64 1] rfl (by (try simp only [m3]); first | done | rfl | (simp only [d2]; rfl)) ?_; (with_reducible refine (laws_markAuto.calls kj39 t246 t247 t248 (fun k_ => some k_ = (.slice Ao24 t249.length co24 : Value).ownBlock) (.slice Ao24 t249.length co24) t249 1 t262 t263 w _ ?side1 ?side2 A57.out).mono ?_); (case side1 => repeat (first | (with_reducible first | exact HB.out | apply below_alloc | apply pw_below_drewN | apply below_drew1 | refine below_set ?_ GE242.out | refine below_set ?_ GE253.out) | exact HB.out)); (case side2 => exact Kd.R_tight rfl HO_254003.out); rintro e w62 ⟨rfl, hy0, hb, hkp⟩; refine ⟨_, rfl, ?_⟩; replace HO_243003 := Aside0.mk (Kd.R_mono (ok' := fun k_ => some k_ ≠ (.slice Ao24 t249.length co24 : Value).ownBlock) (Kd.R_keptB (HO_243003.out) hkp (fun k_ hk_ hs_ => (hk_) hs_)) (fun k_ hk_ => hk_.1)); replace BK242 := Aside0.mk (blk_kept (zB BK242.out) hkp (fun hs_ => (fun e_ => (Kd.R_ne HO_254003.out BK242.out (by decide)) e_) hs_)); replace BK253 := Aside0.mk (blk_kept (zB BK253.out) hkp (fun hs_ => (fun e_ => (Kd.R_ne HO_254003.out BK253.out (by decide)) e_) hs_)); replace HO_254003 := Aside0.mk (Kd.R_reok rfl hy0 (fun k_ e_ => HO_254003.out.1 k_ e_)); replace HB := Aside0.mk (hb); (try clear hb); (try clear hkp); (try clear hy0); have hcz63_0 : w62.cell? ⟨gb253, 0, none⟩ = some (.int .i64 t246) := b1 BK253 0; have hcz63_1 : w62.cell? ⟨gb253, 1, none⟩ = some (.int .i64 t247) := b1 BK253 1; have hcz63_2 : w62.cell? ⟨gb253, 2, none⟩ = some (.int .i64 t248) := b1 BK253 2; have hcz63_3 : w62.cell? ⟨gb253, 3, none⟩ = some (.slice Ao24 t249.length co24) := b1 BK253 3; have hfz63_0 := blk_frozen BK253.out 0; have hfz63_1 := blk_frozen BK253.out 1; have hfz63_2 := blk_frozen BK253.out 2; have hfz63_3 := blk_frozen BK253.out 3) | ((with_reducible refine gate_callee (f := 17) rfl ?_); refine goesL_ (some 79) rfl rfl Try.func17 (by kernel_rfl) rfl #[.agg #[.int .i64 t246, .int .i64 t247, .int .i64 t248, .slice Ao24 t263.length co24], .int .i64 1] rfl (by (try simp only [m3]); first | done | (rw [show t263.length = t249.length from (Kd.R_reads' HO_254003.out).1.symm] <;> rfl) | rfl | (simp only [d2]; rfl)) ?_; (with_reducible refine (laws_heldAuto.calls kj39 t246 t247 t248 _ _ t263 1 t264 _ ?side1 ?side2 A58.out).mono ?_); (case side1 => exact zC (Kd.R_reads' HO_254003.out).2.2); (case side2 => rw [show t263.length = t249.length from (Kd.R_reads' HO_254003.out).1.symm]; exact (Kd.R_reads' HO_254003.out).2.1); rintro e w64 ⟨rfl, hb⟩; refine ⟨_, rfl, ?_⟩; replace HO_243003 := xR HO_243003 hb; replace HO_254003 := xR HO_254003 hb; replace BK242 := xB BK242 hb; replace BK253 := xB BK253 hb; replace HB := xS HB hb; (try clear hb); (try clear hb2); (try clear hk); (try clear hi)))
          go_ret; exact ⟨by first | rfl | (simp [errW_none, errW_some] <;> rfl) | (simp [*, errW_none, errW_some] <;> rfl), by repeat (first | (with_reducible first | exact HB.out | apply below_alloc | apply pw_below_drewN | apply below_drew1 | refine below_set ?_ GE242.out | refine below_set ?_ GE253.out) | exact HB.out)⟩
         ·rw [if_neg c59] at H; have c59b0 : decide (t264 < 0) = false := decide_eq_false c59; clear c59
          by_cases c65 : t264 = t262
          ·rw [if_pos c65] at H; have c65b0 : (t264 == t262) = true := beq_iff_eq.mpr c65; have c65b1 : (t264 != t262) = false := bne_eq_false_iff_eq.mpr c65; clear c65; replace H := Option.bind_eq_some_iff.mp H; obtain ⟨t265, A660, H⟩ := H; replace H : ((impl_AutoMake.f kj39 a0 a1 a2 t265).bind fun bt268 => ((laws_eqAuto.f kj39 bt268.1 bt268.2.1 bt268.2.2.1 bt268.2.2.2.1 t235 t236 t237 t238).bind fun t276 => (if t276 = true then (laws_FnExactAutoMake.j2 kj39 t262 (bt268.2.2.2.2 != t241) t246 t247 t248 t263) else (laws_FnExactAutoMake.j2 kj39 t262 true t246 t247 t248 t263)))) = some r := H; have A66 := Aside0.mk A660; clear A660; replace H := Option.bind_eq_some_iff.mp H; obtain ⟨⟨t268, t269, t270, t271, t274⟩, A670, H⟩ := H; replace H : ((laws_eqAuto.f kj39 t268 t269 t270 t271 t235 t236 t237 t238).bind fun t276 => (if t276 = true then (laws_FnExactAutoMake.j2 kj39 t262 (t274 != t241) t246 t247 t248 t263) else (laws_FnExactAutoMake.j2 kj39 t262 true t246 t247 t248 t263))) = some r := H; have A67 := Aside0.mk A670; clear A670; have HC68 := Aside0.mk H; clear H; have hnb69 := NB253_242.out; have hnc69 := NB242_253.out; have hcz70_0 : wc.cell? ⟨gb253, 0, none⟩ = some (.int .i64 t246) := b1 BK253 0; have hcz70_1 : wc.cell? ⟨gb253, 1, none⟩ = some (.int .i64 t247) := b1 BK253 1; have hcz70_2 : wc.cell? ⟨gb253, 2, none⟩ = some (.int .i64 t248) := b1 BK253 2; have hcz70_3 : wc.cell? ⟨gb253, 3, none⟩ = some (.slice Ao24 t249.length co24) := b1 BK253 3; have hfz70_0 := blk_frozen BK253.out 0; have hfz70_1 := blk_frozen BK253.out 1; have hfz70_2 := blk_frozen BK253.out 2; have hfz70_3 := blk_frozen BK253.out 3
           go_upto_region 25 with (first | ((with_reducible refine gate_callee (f := 16) rfl ?_); refine goesL_ (some 76) rfl rfl Try.func16 (by kernel_rfl) rfl #[.agg #[.int .i64 t246, .int .i64 t247, .int .i64 t248, .slice Ao24 t249.length co24], .int .i64 1] rfl (by (try simp only [m3]); first | done | rfl | (simp only [d2]; rfl)) ?_; (with_reducible refine (laws_markAuto.calls kj39 t246 t247 t248 (fun k_ => some k_ = (.slice Ao24 t249.length co24 : Value).ownBlock) (.slice Ao24 t249.length co24) t249 1 t262 t263 w _ ?side1 ?side2 A57.out).mono ?_); (case side1 => repeat (first | (with_reducible first | exact HB.out | apply below_alloc | apply pw_below_drewN | apply below_drew1 | refine below_set ?_ GE242.out | refine below_set ?_ GE253.out) | exact HB.out)); (case side2 => exact Kd.R_tight rfl HO_254003.out); rintro e w71 ⟨rfl, hy0, hb, hkp⟩; refine ⟨_, rfl, ?_⟩; replace HO_243003 := Aside0.mk (Kd.R_mono (ok' := fun k_ => some k_ ≠ (.slice Ao24 t249.length co24 : Value).ownBlock) (Kd.R_keptB (HO_243003.out) hkp (fun k_ hk_ hs_ => (hk_) hs_)) (fun k_ hk_ => hk_.1)); replace BK242 := Aside0.mk (blk_kept (zB BK242.out) hkp (fun hs_ => (fun e_ => (Kd.R_ne HO_254003.out BK242.out (by decide)) e_) hs_)); replace BK253 := Aside0.mk (blk_kept (zB BK253.out) hkp (fun hs_ => (fun e_ => (Kd.R_ne HO_254003.out BK253.out (by decide)) e_) hs_)); replace HO_254003 := Aside0.mk (Kd.R_reok rfl hy0 (fun k_ e_ => HO_254003.out.1 k_ e_)); replace HB := Aside0.mk (hb); (try clear hb); (try clear hkp); (try clear hy0); have hcz72_0 : w71.cell? ⟨gb253, 0, none⟩ = some (.int .i64 t246) := b1 BK253 0; have hcz72_1 : w71.cell? ⟨gb253, 1, none⟩ = some (.int .i64 t247) := b1 BK253 1; have hcz72_2 : w71.cell? ⟨gb253, 2, none⟩ = some (.int .i64 t248) := b1 BK253 2; have hcz72_3 : w71.cell? ⟨gb253, 3, none⟩ = some (.slice Ao24 t249.length co24) := b1 BK253 3; have hfz72_0 := blk_frozen BK253.out 0; have hfz72_1 := blk_frozen BK253.out 1; have hfz72_2 := blk_frozen BK253.out 2; have hfz72_3 := blk_frozen BK253.out 3) | ((with_reducible refine gate_callee (f := 17) rfl ?_); refine goesL_ (some 79) rfl rfl Try.func17 (by kernel_rfl) rfl #[.agg #[.int .i64 t246, .int .i64 t247, .int .i64 t248, .slice Ao24 t263.length co24], .int .i64 1] rfl (by (try simp only [m3]); first | done | (rw [show t263.length = t249.length from (Kd.R_reads' HO_254003.out).1.symm] <;> rfl) | rfl | (simp only [d2]; rfl)) ?_; (with_reducible refine (laws_heldAuto.calls kj39 t246 t247 t248 _ _ t263 1 t264 _ ?side1 ?side2 A58.out).mono ?_); (case side1 => exact zC (Kd.R_reads' HO_254003.out).2.2); (case side2 => rw [show t263.length = t249.length from (Kd.R_reads' HO_254003.out).1.symm]; exact (Kd.R_reads' HO_254003.out).2.1); rintro e w73 ⟨rfl, hb⟩; refine ⟨_, rfl, ?_⟩; replace HO_243003 := xR HO_243003 hb; replace HO_254003 := xR HO_254003 hb; replace BK242 := xB BK242 hb; replace BK253 := xB BK253 hb; replace HB := xS HB hb; (try clear hb); (try clear hb2); (try clear hk); (try clear hi)) | ((with_reducible refine gate_callee (f := 12) rfl ?_); refine goesL_ (some 90) rfl rfl Try.func12 (by kernel_rfl) rfl #[.slice A3 l3.length c3] rfl (by (try simp only [m3]); first | done | rfl | (simp only [d2]; rfl)) ?_; (with_reducible refine (laws_toEdgeS.calls kj39 _ _ l3 t265 _ ?side1 ?side2 A66.out).mono ?_); (case side1 => exact zC (Kd.C_below HR3.out HB.out)); (case side2 => exact HC3.out); rintro e w74 ⟨v266, rfl, ho0, hb⟩; refine ⟨_, rfl, ?_⟩; have HO267 := Aside0.mk (Kd.R_lower (Kd.R_new' (Kd.R_new' ho0 (Kd.R_lt (zR HO_243003.out))) (Kd.R_lt (zR HO_254003.out))) (below_size (zS HB.out))); replace HO_243003 := xE HO_243003 ho0 hb; replace HO_254003 := xE HO_254003 ho0 hb; replace BK242 := xB BK242 hb; replace BK253 := xB BK253 hb; replace HB := xS HB hb; (try clear hb); (try clear hb2); (try clear hk); (try clear hi); (try clear ho0); obtain ⟨Ao75, co75, eo75⟩ := Kd.R_slice HO267.out; subst eo75) | ((with_reducible refine gate_callee (f := 7) rfl ?_); refine goesL_ (some 91) rfl rfl Try.func7 (by kernel_rfl) rfl #[.int .i64 a0, .int .i64 a1, .int .i64 a2, .slice Ao75 t265.length co75] rfl (by (try simp only [m3]); first | done | rfl | (simp only [d2]; rfl)) ?_; (with_reducible refine (impl_AutoMake.calls kj39 a0 a1 a2 _ _ t265 t268 t269 t270 t271 t274 _ ?side1 ?side2 A67.out).mono ?_); (case side1 => exact zC (Kd.R_reads' HO267.out).2.2); (case side2 => exact (Kd.R_reads' HO267.out).2.1); rintro e w76 ⟨v272, rfl, ho0, hb⟩; refine ⟨_, rfl, ?_⟩; have HO273 := Aside0.mk (Kd.R_lower (Kd.R_new' (Kd.R_new' (Kd.R_new' ho0 (Kd.R_lt (zR HO_243003.out))) (Kd.R_lt (zR HO_254003.out))) (Kd.R_lt (zR HO267.out))) (below_size (zS HB.out))); replace HO_243003 := xE HO_243003 ho0 hb; replace HO_254003 := xE HO_254003 ho0 hb; replace HO267 := xE HO267 ho0 hb; replace BK242 := xB BK242 hb; replace BK253 := xB BK253 hb; replace HB := xS HB hb; (try clear hb); (try clear hb2); (try clear hk); (try clear hi); (try clear ho0)) | ((with_reducible refine gate_dst (N := 18) rfl ?_); refine box_event ?hg (N := 18) ?hd (cs := #[.int .i64 0, .int .i64 0, .int .i64 0, .slice none 0 0]) (t := 28) ?hr ?_; (case hd => rfl); (case hg => rfl); (case hr => first | (go_simp; done) | (go_simp; rfl)); intro gb275 hg w77 hbox hb; replace HO_243003 := xR HO_243003 hb; replace HO_254003 := xR HO_254003 hb; replace HO267 := xR HO267 hb; replace HO273 := xR HO273 hb; have BK275 := Aside0.mk (hbox); have GW275 := xG HB hg; have GE275 := xG HB hg; replace HB := xS HB hb; have NB242_275 := xN BK242 hg; have NB275_242 := xM BK242 hg; replace BK242 := xB BK242 hb; have NB253_275 := xN BK253 hg; have NB275_253 := xM BK253 hg; replace BK253 := xB BK253 hb; clear hb hbox hg; have hnb78 := NB275_242.out; have hnc78 := NB242_275.out; have hnb79 := NB275_253.out; have hnc79 := NB253_275.out; have hcz80_0 : w77.cell? ⟨gb275, 0, none⟩ = some (.int .i64 0) := b1 BK275 0; have hcz80_1 : w77.cell? ⟨gb275, 1, none⟩ = some (.int .i64 0) := b1 BK275 1; have hcz80_2 : w77.cell? ⟨gb275, 2, none⟩ = some (.int .i64 0) := b1 BK275 2; have hcz80_3 : w77.cell? ⟨gb275, 3, none⟩ = some (.slice none 0 0) := b1 BK275 3; have hfz80_0 := blk_frozen BK275.out 0; have hfz80_1 := blk_frozen BK275.out 1; have hfz80_2 := blk_frozen BK275.out 2; have hfz80_3 := blk_frozen BK275.out 3; obtain ⟨Ao81, co81, eo81⟩ := Kd.R_slice HO273.out; subst eo81))
           (try simp only [Act.put, q3])
           go_cut [102] (fun v102 wc => ∃ (kq : Nat) (x102_67 : Bool), v102 = .bool x102_67 ∧ Aside0 (laws_FnExactAutoMake.j2 kq t262 x102_67 t246 t247 t248 t263 = some r) ∧ Aside0 (kq ≤ kj39) ∧ Aside0 (Kd.R k33 33 wc w.heap.size (fun k_ => some k_ ≠ ((.slice Ao24 t249.length co24) : Value).ownBlock ∧ some k_ ≠ ((.slice Ao81 t271.length co81) : Value).ownBlock) (.slice Ao17 t238.length co17) t238) ∧ Aside0 (Kd.R k33 33 wc w.heap.size (fun k_ => some k_ ≠ ((.slice Ao17 t238.length co17) : Value).ownBlock ∧ some k_ ≠ ((.slice Ao81 t271.length co81) : Value).ownBlock) (.slice Ao24 t249.length co24) t263) ∧ Aside0 (Kd.R k33 33 wc w.heap.size (fun k_ => some k_ ≠ ((.slice Ao17 t238.length co17) : Value).ownBlock ∧ some k_ ≠ ((.slice Ao24 t249.length co24) : Value).ownBlock) (.slice Ao81 t271.length co81) t271) ∧ Aside0 (wc.heap[gb242]? = some (.cells #[.int .i64 t235, .int .i64 t236, .int .i64 t237, (.slice Ao17 t238.length co17)] 28 (0, 0))) ∧ Aside0 (wc.heap[gb253]? = some (.cells #[.int .i64 t246, .int .i64 t247, .int .i64 t248, (.slice Ao24 t249.length co24)] 28 (0, 0))) ∧ Aside0 (wc.heap[gb275]? = some (.cells #[.int .i64 t268, .int .i64 t269, .int .i64 t270, (.slice Ao81 t271.length co81)] 28 (0, 0))) ∧ Aside0 (Below w.heap.size w wc))
           case first =>
            have H := HC68.out; clear HC68; replace H := Option.bind_eq_some_iff.mp H; obtain ⟨t276, A820, H⟩ := H; replace H : (if t276 = true then (laws_FnExactAutoMake.j2 kj39 t262 (t274 != t241) t246 t247 t248 t263) else (laws_FnExactAutoMake.j2 kj39 t262 true t246 t247 t248 t263)) = some r := H; have A82 := Aside0.mk A820; clear A820
            by_cases c83 : t276 = true
            ·subst c83
             have H1 : (laws_FnExactAutoMake.j2 kj39 t262 (t274 != t241) t246 t247 t248 t263) = some r := by rw [if_pos rfl] at H; exact H
             clear H; have H := H1; clear H1; have H' := Aside0.mk H; clear H; have hnb84 := NB275_242.out; have hnc84 := NB242_275.out; have hnb85 := NB275_253.out; have hnc85 := NB253_275.out; have hcz86_0 : w77.cell? ⟨gb275, 0, none⟩ = some (.int .i64 0) := b1 BK275 0; have hcz86_1 : w77.cell? ⟨gb275, 1, none⟩ = some (.int .i64 0) := b1 BK275 1; have hcz86_2 : w77.cell? ⟨gb275, 2, none⟩ = some (.int .i64 0) := b1 BK275 2; have hcz86_3 : w77.cell? ⟨gb275, 3, none⟩ = some (.slice none 0 0) := b1 BK275 3; have hfz86_0 := blk_frozen BK275.out 0; have hfz86_1 := blk_frozen BK275.out 1; have hfz86_2 := blk_frozen BK275.out 2; have hfz86_3 := blk_frozen BK275.out 3; have hnb87 := NB242_253.out; have hnc87 := NB253_242.out; have hcz88_0 : w77.cell? ⟨gb242, 0, none⟩ = some (.int .i64 t235) := b1 BK242 0; have hcz88_1 : w77.cell? ⟨gb242, 1, none⟩ = some (.int .i64 t236) := b1 BK242 1; have hcz88_2 : w77.cell? ⟨gb242, 2, none⟩ = some (.int .i64 t237) := b1 BK242 2; have hcz88_3 : w77.cell? ⟨gb242, 3, none⟩ = some (.slice Ao17 t238.length co17) := b1 BK242 3; have hfz88_0 := blk_frozen BK242.out 0; have hfz88_1 := blk_frozen BK242.out 1; have hfz88_2 := blk_frozen BK242.out 2; have hfz88_3 := blk_frozen BK242.out 3
             go_wp2_with (first | ((with_reducible refine gate_callee (f := 13) rfl ?_); refine goesL_ (some 96) rfl rfl Try.func13 (by kernel_rfl) rfl #[.agg #[.int .i64 t268, .int .i64 t269, .int .i64 t270, .slice Ao81 t271.length co81], .agg #[.int .i64 t235, .int .i64 t236, .int .i64 t237, .slice Ao17 t238.length co17]] rfl (by (try simp only [m3]); first | done | rfl | (simp only [d2]; rfl)) ?_; (with_reducible refine (laws_eqAuto.calls kj39 t268 t269 t270 _ _ t271 t235 t236 t237 _ _ t238 true _ ?side1 ?side2 ?side3 ?side4 A82.out).mono ?_); (case side1 => refine (Kd.R_reads' (e := 33) (base := w.heap.size) (ok := fun k_ => (((True ∧ some k_ ≠ (.slice Ao17 t238.length co17 : Value).ownBlock) ∧ some k_ ≠ (.slice Ao24 t249.length co24 : Value).ownBlock) ∧ some k_ ≠ (.slice Ao75 t265.length co75 : Value).ownBlock)) (n := t271.length) (c := co81) ?_).2.2; exact (zR (xF4 HO273 BK275))); (case side2 => exact (Kd.R_reads' HO273.out).2.1); (case side3 => refine (Kd.R_reads' (e := 33) (base := w.heap.size) (ok := fun k_ => ((some k_ ≠ (.slice Ao24 t249.length co24 : Value).ownBlock ∧ some k_ ≠ (.slice Ao75 t265.length co75 : Value).ownBlock) ∧ some k_ ≠ (.slice Ao81 t271.length co81 : Value).ownBlock)) (n := t238.length) (c := co17) ?_).2.2; exact (zR (xF4 HO_243003 BK275))); (case side4 => exact (Kd.R_reads' HO_243003.out).2.1); rintro e w89 ⟨rfl, hb⟩; refine ⟨_, rfl, ?_⟩; replace HO_243003 := Aside0.mk (Kd.R_below (zR (xF4 HO_243003 BK275)) hb); replace HO_254003 := Aside0.mk (Kd.R_below (zR (xF4 HO_254003 BK275)) hb); replace HO267 := Aside0.mk (Kd.R_below (zR (xF4 HO267 BK275)) hb); replace HO273 := Aside0.mk (Kd.R_below (zR (xF4 HO273 BK275)) hb); replace BK242 := xB BK242 hb; replace BK253 := xB BK253 hb; replace BK275 := Aside0.mk (blk_below (g := gb275) (o := .cells #[.int .i64 t268, .int .i64 t269, .int .i64 t270, .slice Ao81 t271.length co81] 28 (0, 0)) (xP4 BK275.out) hb); replace HB := xS HB hb; (try clear hb); (try clear hb2); (try clear hk); (try clear hi)))
             go_meet
             case rel => exact ⟨_, ((t274 != t241)), (by first | rfl | (simp; done) | (simp [*]; done) | (rw [Int.tmod_eq_emod_of_nonneg (Int.natCast_nonneg _)]; done)), H', ⟨by have := HJ10.out; have := HJ39.out; first | omega | exact Nat.le_refl _⟩, ⟨by (with_reducible repeat (first | apply Kd.R_alloc | apply Kd.R_drewN | apply Kd.R_drew)); exact Kd.R_mono HO_243003.out (fun _ hk => ⟨hk.1.1, hk.2⟩)⟩, ⟨by (with_reducible repeat (first | apply Kd.R_alloc | apply Kd.R_drewN | apply Kd.R_drew)); exact Kd.R_mono HO_254003.out (fun _ hk => ⟨hk.1.1, hk.2⟩)⟩, ⟨by (with_reducible repeat (first | apply Kd.R_alloc | apply Kd.R_drewN | apply Kd.R_drew)); exact Kd.R_mono HO273.out (fun _ hk => ⟨hk.1.1.2, hk.1.2⟩)⟩, ⟨zB BK242.out⟩, ⟨zB BK253.out⟩, ⟨zB BK275.out⟩, ⟨zS HB.out⟩⟩
            ·replace c83 := Bool.eq_false_iff.mpr c83; subst c83
             have H1 : (laws_FnExactAutoMake.j2 kj39 t262 true t246 t247 t248 t263) = some r := by rw [if_neg (show ¬ (false = true) by decide)] at H; exact H
             clear H; have H := H1; clear H1; have H' := Aside0.mk H; clear H; have hnb90 := NB275_242.out; have hnc90 := NB242_275.out; have hnb91 := NB275_253.out; have hnc91 := NB253_275.out; have hcz92_0 : w77.cell? ⟨gb275, 0, none⟩ = some (.int .i64 0) := b1 BK275 0; have hcz92_1 : w77.cell? ⟨gb275, 1, none⟩ = some (.int .i64 0) := b1 BK275 1; have hcz92_2 : w77.cell? ⟨gb275, 2, none⟩ = some (.int .i64 0) := b1 BK275 2; have hcz92_3 : w77.cell? ⟨gb275, 3, none⟩ = some (.slice none 0 0) := b1 BK275 3; have hfz92_0 := blk_frozen BK275.out 0; have hfz92_1 := blk_frozen BK275.out 1; have hfz92_2 := blk_frozen BK275.out 2; have hfz92_3 := blk_frozen BK275.out 3; have hnb93 := NB242_253.out; have hnc93 := NB253_242.out; have hcz94_0 : w77.cell? ⟨gb242, 0, none⟩ = some (.int .i64 t235) := b1 BK242 0; have hcz94_1 : w77.cell? ⟨gb242, 1, none⟩ = some (.int .i64 t236) := b1 BK242 1; have hcz94_2 : w77.cell? ⟨gb242, 2, none⟩ = some (.int .i64 t237) := b1 BK242 2; have hcz94_3 : w77.cell? ⟨gb242, 3, none⟩ = some (.slice Ao17 t238.length co17) := b1 BK242 3; have hfz94_0 := blk_frozen BK242.out 0; have hfz94_1 := blk_frozen BK242.out 1; have hfz94_2 := blk_frozen BK242.out 2; have hfz94_3 := blk_frozen BK242.out 3
             go_wp2_with (first | ((with_reducible refine gate_callee (f := 13) rfl ?_); refine goesL_ (some 96) rfl rfl Try.func13 (by kernel_rfl) rfl #[.agg #[.int .i64 t268, .int .i64 t269, .int .i64 t270, .slice Ao81 t271.length co81], .agg #[.int .i64 t235, .int .i64 t236, .int .i64 t237, .slice Ao17 t238.length co17]] rfl (by (try simp only [m3]); first | done | rfl | (simp only [d2]; rfl)) ?_; (with_reducible refine (laws_eqAuto.calls kj39 t268 t269 t270 _ _ t271 t235 t236 t237 _ _ t238 false _ ?side1 ?side2 ?side3 ?side4 A82.out).mono ?_); (case side1 => refine (Kd.R_reads' (e := 33) (base := w.heap.size) (ok := fun k_ => (((True ∧ some k_ ≠ (.slice Ao17 t238.length co17 : Value).ownBlock) ∧ some k_ ≠ (.slice Ao24 t249.length co24 : Value).ownBlock) ∧ some k_ ≠ (.slice Ao75 t265.length co75 : Value).ownBlock)) (n := t271.length) (c := co81) ?_).2.2; exact (zR (xF4 HO273 BK275))); (case side2 => exact (Kd.R_reads' HO273.out).2.1); (case side3 => refine (Kd.R_reads' (e := 33) (base := w.heap.size) (ok := fun k_ => ((some k_ ≠ (.slice Ao24 t249.length co24 : Value).ownBlock ∧ some k_ ≠ (.slice Ao75 t265.length co75 : Value).ownBlock) ∧ some k_ ≠ (.slice Ao81 t271.length co81 : Value).ownBlock)) (n := t238.length) (c := co17) ?_).2.2; exact (zR (xF4 HO_243003 BK275))); (case side4 => exact (Kd.R_reads' HO_243003.out).2.1); rintro e w95 ⟨rfl, hb⟩; refine ⟨_, rfl, ?_⟩; replace HO_243003 := Aside0.mk (Kd.R_below (zR (xF4 HO_243003 BK275)) hb); replace HO_254003 := Aside0.mk (Kd.R_below (zR (xF4 HO_254003 BK275)) hb); replace HO267 := Aside0.mk (Kd.R_below (zR (xF4 HO267 BK275)) hb); replace HO273 := Aside0.mk (Kd.R_below (zR (xF4 HO273 BK275)) hb); replace BK242 := xB BK242 hb; replace BK253 := xB BK253 hb; replace BK275 := Aside0.mk (blk_below (g := gb275) (o := .cells #[.int .i64 t268, .int .i64 t269, .int .i64 t270, .slice Ao81 t271.length co81] 28 (0, 0)) (xP4 BK275.out) hb); replace HB := xS HB hb; (try clear hb); (try clear hb2); (try clear hk); (try clear hi)))
             go_meet
             case rel => exact ⟨_, (true), (by first | rfl | (simp; done) | (simp [*]; done) | (rw [Int.tmod_eq_emod_of_nonneg (Int.natCast_nonneg _)]; done)), H', ⟨by have := HJ10.out; have := HJ39.out; first | omega | exact Nat.le_refl _⟩, ⟨by (with_reducible repeat (first | apply Kd.R_alloc | apply Kd.R_drewN | apply Kd.R_drew)); exact Kd.R_mono HO_243003.out (fun _ hk => ⟨hk.1.1, hk.2⟩)⟩, ⟨by (with_reducible repeat (first | apply Kd.R_alloc | apply Kd.R_drewN | apply Kd.R_drew)); exact Kd.R_mono HO_254003.out (fun _ hk => ⟨hk.1.1, hk.2⟩)⟩, ⟨by (with_reducible repeat (first | apply Kd.R_alloc | apply Kd.R_drewN | apply Kd.R_drew)); exact Kd.R_mono HO273.out (fun _ hk => ⟨hk.1.1.2, hk.1.2⟩)⟩, ⟨zB BK242.out⟩, ⟨zB BK253.out⟩, ⟨zB BK275.out⟩, ⟨zS HB.out⟩⟩
           case rest =>
            clear HC68
            try clear c1
            try clear c2
            try clear p2
            try clear c3
            try clear c4
            try clear c5
            try clear c6
            try clear c6b0
            try clear c7
            try clear c8
            try clear c9
            try clear c11
            try clear c12
            try clear c13
            try clear c14
            try clear c15
            try clear c16
            try clear c17
            try clear c22
            try clear c26
            try clear c27
            try clear c31
            try clear c35
            try clear c38
            try clear c45
            try clear c45b0
            try clear c47
            try clear c48
            try clear c52
            try clear c56
            try clear c59
            try clear c59b0
            try clear c60
            try clear c65
            try clear c65b0
            try clear c65b1
            try clear c69
            try clear c78
            try clear c79
            try clear c83
            try clear c84
            try clear c85
            try clear c87
            try clear c90
            try clear c91
            try clear c93
            try clear hcz16_0
            try clear hcz16_1
            try clear hcz16_2
            try clear hcz16_3
            try clear hcz23_0
            try clear hcz23_1
            try clear hcz23_2
            try clear hcz23_3
            try clear hcz28_0
            try clear hcz28_1
            try clear hcz28_2
            try clear hcz28_3
            try clear hcz29_0
            try clear hcz29_1
            try clear hcz29_2
            try clear hcz29_3
            try clear hcz32_0
            try clear hcz32_1
            try clear hcz32_2
            try clear hcz32_3
            try clear hcz33_0
            try clear hcz33_1
            try clear hcz33_2
            try clear hcz33_3
            try clear hcz49_0
            try clear hcz49_1
            try clear hcz49_2
            try clear hcz49_3
            try clear hcz50_0
            try clear hcz50_1
            try clear hcz50_2
            try clear hcz50_3
            try clear hcz53_0
            try clear hcz53_1
            try clear hcz53_2
            try clear hcz53_3
            try clear hcz54_0
            try clear hcz54_1
            try clear hcz54_2
            try clear hcz54_3
            try clear hcz61_0
            try clear hcz61_1
            try clear hcz61_2
            try clear hcz61_3
            try clear hcz63_0
            try clear hcz63_1
            try clear hcz63_2
            try clear hcz63_3
            try clear hcz70_0
            try clear hcz70_1
            try clear hcz70_2
            try clear hcz70_3
            try clear hcz72_0
            try clear hcz72_1
            try clear hcz72_2
            try clear hcz72_3
            try clear hcz80_0
            try clear hcz80_1
            try clear hcz80_2
            try clear hcz80_3
            try clear hcz86_0
            try clear hcz86_1
            try clear hcz86_2
            try clear hcz86_3
            try clear hcz88_0
            try clear hcz88_1
            try clear hcz88_2
            try clear hcz88_3
            try clear hcz92_0
            try clear hcz92_1
            try clear hcz92_2
            try clear hcz92_3
            try clear hcz94_0
            try clear hcz94_1
            try clear hcz94_2
            try clear hcz94_3
            try clear hfz16_0
            try clear hfz16_1
            try clear hfz16_2
            try clear hfz16_3
            try clear hfz23_0
            try clear hfz23_1
            try clear hfz23_2
            try clear hfz23_3
            try clear hfz28_0
            try clear hfz28_1
            try clear hfz28_2
            try clear hfz28_3
            try clear hfz29_0
            try clear hfz29_1
            try clear hfz29_2
            try clear hfz29_3
            try clear hfz32_0
            try clear hfz32_1
            try clear hfz32_2
            try clear hfz32_3
            try clear hfz33_0
            try clear hfz33_1
            try clear hfz33_2
            try clear hfz33_3
            try clear hfz49_0
            try clear hfz49_1
            try clear hfz49_2
            try clear hfz49_3
            try clear hfz50_0
            try clear hfz50_1
            try clear hfz50_2
            try clear hfz50_3
            try clear hfz53_0
            try clear hfz53_1
            try clear hfz53_2
            try clear hfz53_3
            try clear hfz54_0
            try clear hfz54_1
            try clear hfz54_2
            try clear hfz54_3
            try clear hfz61_0
            try clear hfz61_1
            try clear hfz61_2
            try clear hfz61_3
            try clear hfz63_0
            try clear hfz63_1
            try clear hfz63_2
            try clear hfz63_3
            try clear hfz70_0
            try clear hfz70_1
            try clear hfz70_2
            try clear hfz70_3
            try clear hfz72_0
            try clear hfz72_1
            try clear hfz72_2
            try clear hfz72_3
            try clear hfz80_0
            try clear hfz80_1
            try clear hfz80_2
            try clear hfz80_3
            try clear hfz86_0
            try clear hfz86_1
            try clear hfz86_2
            try clear hfz86_3
            try clear hfz88_0
            try clear hfz88_1
            try clear hfz88_2
            try clear hfz88_3
            try clear hfz92_0
            try clear hfz92_1
            try clear hfz92_2
            try clear hfz92_3
            try clear hfz94_0
            try clear hfz94_1
            try clear hfz94_2
            try clear hfz94_3
            try clear p2
            obtain ⟨kq, x102_67, rfl, HA, HJ67, HO_243003, HO_254003, HO_276003, BK242, BK253, BK275, HB⟩ := hcut; have hl254003_67 := (Kd.R_reads' HO_254003.out).1; rw [hl254003_67] at HO_254003
            (try simp only [hl254003_67])
            (try simp only [hl254003_67] at BK242)
            (try simp only [hl254003_67] at BK253)
            (try simp only [hl254003_67] at BK275)
            (try simp only [hl254003_67] at HO_243003)
            (try simp only [hl254003_67] at HO_276003)
            cases kq with
            | zero => exact absurd HA.out (by simp [laws_FnExactAutoMake.j2])
            | succ kj67 =>
             have H := HA.out; clear HA; simp only [laws_FnExactAutoMake.j2] at H
             by_cases c96 : x102_67 = true
             ·subst c96
              have H1 : (some false) = some r := by rw [if_pos rfl] at H; exact H
              clear H; have H := H1; clear H1; obtain rfl := Option.some.inj H
              go_wp2
              go_ret; exact ⟨by first | rfl | (simp [errW_none, errW_some] <;> rfl) | (simp [*, errW_none, errW_some] <;> rfl), by repeat (first | (with_reducible first | exact HB.out | apply below_alloc | apply pw_below_drewN | apply below_drew1 | refine below_set ?_ GE242.out | refine below_set ?_ GE253.out | refine below_set ?_ GE275.out) | exact HB.out)⟩
             ·replace c96 := Bool.eq_false_iff.mpr c96; subst c96
              have H1 : ((laws_heldAuto.f kj67 t246 t247 t248 t263 1).bind fun t277 => (if t277 < 0 then (some false) else (if t277 = t262 then (some true) else (some false)))) = some r := by rw [if_neg (show ¬ (false = true) by decide)] at H; exact H
              clear H; have H := H1; clear H1; replace H := Option.bind_eq_some_iff.mp H; obtain ⟨t277, A970, H⟩ := H; replace H : (if t277 < 0 then (some false) else (if t277 = t262 then (some true) else (some false))) = some r := H; have A97 := Aside0.mk A970; clear A970
              by_cases c98 : t277 < 0
              ·rw [if_pos c98] at H; have c98b0 : decide (t277 < 0) = true := decide_eq_true c98; clear c98; obtain rfl := Option.some.inj H; have hnb99 := NB253_242.out; have hnc99 := NB242_253.out; have hnb100 := NB253_275.out; have hnc100 := NB275_253.out; have hcz101_0 : wc.cell? ⟨gb253, 0, none⟩ = some (.int .i64 t246) := b1 BK253 0; have hcz101_1 : wc.cell? ⟨gb253, 1, none⟩ = some (.int .i64 t247) := b1 BK253 1; have hcz101_2 : wc.cell? ⟨gb253, 2, none⟩ = some (.int .i64 t248) := b1 BK253 2; have hcz101_3 : wc.cell? ⟨gb253, 3, none⟩ = some (.slice Ao24 t263.length co24) := b1 BK253 3; have hfz101_0 := blk_frozen BK253.out 0; have hfz101_1 := blk_frozen BK253.out 1; have hfz101_2 := blk_frozen BK253.out 2; have hfz101_3 := blk_frozen BK253.out 3
               go_wp2_with (first | ((with_reducible refine gate_callee (f := 17) rfl ?_); refine goesL_ (some 105) rfl rfl Try.func17 (by kernel_rfl) rfl #[.agg #[.int .i64 t246, .int .i64 t247, .int .i64 t248, .slice Ao24 t263.length co24], .int .i64 1] rfl (by (try simp only [m3]); first | done | rfl | (simp only [d2]; rfl)) ?_; (with_reducible refine (laws_heldAuto.calls kj67 t246 t247 t248 _ _ t263 1 t277 _ ?side1 ?side2 A97.out).mono ?_); (case side1 => exact zC (Kd.R_reads' HO_254003.out).2.2); (case side2 => exact (Kd.R_reads' HO_254003.out).2.1); rintro e w102 ⟨rfl, hb⟩; refine ⟨_, rfl, ?_⟩; replace HO_243003 := xR HO_243003 hb; replace HO_254003 := xR HO_254003 hb; replace HO_276003 := xR HO_276003 hb; replace BK242 := xB BK242 hb; replace BK253 := xB BK253 hb; replace BK275 := xB BK275 hb; replace HB := xS HB hb; (try clear hb); (try clear hb2); (try clear hk); (try clear hi)))
               go_ret; exact ⟨by first | rfl | (simp [errW_none, errW_some] <;> rfl) | (simp [*, errW_none, errW_some] <;> rfl), by repeat (first | (with_reducible first | exact HB.out | apply below_alloc | apply pw_below_drewN | apply below_drew1 | refine below_set ?_ GE242.out | refine below_set ?_ GE253.out | refine below_set ?_ GE275.out) | exact HB.out)⟩
              ·rw [if_neg c98] at H; have c98b0 : decide (t277 < 0) = false := decide_eq_false c98; clear c98
               by_cases c103 : t277 = t262
               ·rw [if_pos c103] at H; have c103b0 : (t277 == t262) = true := beq_iff_eq.mpr c103; have c103b1 : (t277 != t262) = false := bne_eq_false_iff_eq.mpr c103; clear c103; obtain rfl := Option.some.inj H; have hnb104 := NB253_242.out; have hnc104 := NB242_253.out; have hnb105 := NB253_275.out; have hnc105 := NB275_253.out; have hcz106_0 : wc.cell? ⟨gb253, 0, none⟩ = some (.int .i64 t246) := b1 BK253 0; have hcz106_1 : wc.cell? ⟨gb253, 1, none⟩ = some (.int .i64 t247) := b1 BK253 1; have hcz106_2 : wc.cell? ⟨gb253, 2, none⟩ = some (.int .i64 t248) := b1 BK253 2; have hcz106_3 : wc.cell? ⟨gb253, 3, none⟩ = some (.slice Ao24 t263.length co24) := b1 BK253 3; have hfz106_0 := blk_frozen BK253.out 0; have hfz106_1 := blk_frozen BK253.out 1; have hfz106_2 := blk_frozen BK253.out 2; have hfz106_3 := blk_frozen BK253.out 3
                go_wp2_with (first | ((with_reducible refine gate_callee (f := 17) rfl ?_); refine goesL_ (some 105) rfl rfl Try.func17 (by kernel_rfl) rfl #[.agg #[.int .i64 t246, .int .i64 t247, .int .i64 t248, .slice Ao24 t263.length co24], .int .i64 1] rfl (by (try simp only [m3]); first | done | rfl | (simp only [d2]; rfl)) ?_; (with_reducible refine (laws_heldAuto.calls kj67 t246 t247 t248 _ _ t263 1 t277 _ ?side1 ?side2 A97.out).mono ?_); (case side1 => exact zC (Kd.R_reads' HO_254003.out).2.2); (case side2 => exact (Kd.R_reads' HO_254003.out).2.1); rintro e w107 ⟨rfl, hb⟩; refine ⟨_, rfl, ?_⟩; replace HO_243003 := xR HO_243003 hb; replace HO_254003 := xR HO_254003 hb; replace HO_276003 := xR HO_276003 hb; replace BK242 := xB BK242 hb; replace BK253 := xB BK253 hb; replace BK275 := xB BK275 hb; replace HB := xS HB hb; (try clear hb); (try clear hb2); (try clear hk); (try clear hi)))
                go_ret; exact ⟨by first | rfl | (simp [errW_none, errW_some] <;> rfl) | (simp [*, errW_none, errW_some] <;> rfl), by repeat (first | (with_reducible first | exact HB.out | apply below_alloc | apply pw_below_drewN | apply below_drew1 | refine below_set ?_ GE242.out | refine below_set ?_ GE253.out | refine below_set ?_ GE275.out) | exact HB.out)⟩
               ·rw [if_neg c103] at H; have c103b0 : (t277 == t262) = false := beq_eq_false_iff_ne.mpr c103; have c103b1 : (t277 != t262) = true := bne_iff_ne.mpr c103; obtain rfl := Option.some.inj H; have hnb108 := NB253_242.out; have hnc108 := NB242_253.out; have hnb109 := NB253_275.out; have hnc109 := NB275_253.out; have hcz110_0 : wc.cell? ⟨gb253, 0, none⟩ = some (.int .i64 t246) := b1 BK253 0; have hcz110_1 : wc.cell? ⟨gb253, 1, none⟩ = some (.int .i64 t247) := b1 BK253 1; have hcz110_2 : wc.cell? ⟨gb253, 2, none⟩ = some (.int .i64 t248) := b1 BK253 2; have hcz110_3 : wc.cell? ⟨gb253, 3, none⟩ = some (.slice Ao24 t263.length co24) := b1 BK253 3; have hfz110_0 := blk_frozen BK253.out 0; have hfz110_1 := blk_frozen BK253.out 1; have hfz110_2 := blk_frozen BK253.out 2; have hfz110_3 := blk_frozen BK253.out 3
                go_wp2_with (first | ((with_reducible refine gate_callee (f := 17) rfl ?_); refine goesL_ (some 105) rfl rfl Try.func17 (by kernel_rfl) rfl #[.agg #[.int .i64 t246, .int .i64 t247, .int .i64 t248, .slice Ao24 t263.length co24], .int .i64 1] rfl (by (try simp only [m3]); first | done | rfl | (simp only [d2]; rfl)) ?_; (with_reducible refine (laws_heldAuto.calls kj67 t246 t247 t248 _ _ t263 1 t277 _ ?side1 ?side2 A97.out).mono ?_); (case side1 => exact zC (Kd.R_reads' HO_254003.out).2.2); (case side2 => exact (Kd.R_reads' HO_254003.out).2.1); rintro e w111 ⟨rfl, hb⟩; refine ⟨_, rfl, ?_⟩; replace HO_243003 := xR HO_243003 hb; replace HO_254003 := xR HO_254003 hb; replace HO_276003 := xR HO_276003 hb; replace BK242 := xB BK242 hb; replace BK253 := xB BK253 hb; replace BK275 := xB BK275 hb; replace HB := xS HB hb; (try clear hb); (try clear hb2); (try clear hk); (try clear hi)))
                go_ret; exact ⟨by first | rfl | (simp [errW_none, errW_some] <;> rfl) | (simp [*, errW_none, errW_some] <;> rfl), by repeat (first | (with_reducible first | exact HB.out | apply below_alloc | apply pw_below_drewN | apply below_drew1 | refine below_set ?_ GE242.out | refine below_set ?_ GE253.out | refine below_set ?_ GE275.out) | exact HB.out)⟩
          ·rw [if_neg c65] at H; have c65b0 : (t264 == t262) = false := beq_eq_false_iff_ne.mpr c65; have c65b1 : (t264 != t262) = true := bne_iff_ne.mpr c65; obtain rfl := Option.some.inj H; have hnb112 := NB253_242.out; have hnc112 := NB242_253.out; have hcz113_0 : wc.cell? ⟨gb253, 0, none⟩ = some (.int .i64 t246) := b1 BK253 0; have hcz113_1 : wc.cell? ⟨gb253, 1, none⟩ = some (.int .i64 t247) := b1 BK253 1; have hcz113_2 : wc.cell? ⟨gb253, 2, none⟩ = some (.int .i64 t248) := b1 BK253 2; have hcz113_3 : wc.cell? ⟨gb253, 3, none⟩ = some (.slice Ao24 t249.length co24) := b1 BK253 3; have hfz113_0 := blk_frozen BK253.out 0; have hfz113_1 := blk_frozen BK253.out 1; have hfz113_2 := blk_frozen BK253.out 2; have hfz113_3 := blk_frozen BK253.out 3
           go_wp2_with (first | ((with_reducible refine gate_callee (f := 16) rfl ?_); refine goesL_ (some 76) rfl rfl Try.func16 (by kernel_rfl) rfl #[.agg #[.int .i64 t246, .int .i64 t247, .int .i64 t248, .slice Ao24 t249.length co24], .int .i64 1] rfl (by (try simp only [m3]); first | done | rfl | (simp only [d2]; rfl)) ?_; (with_reducible refine (laws_markAuto.calls kj39 t246 t247 t248 (fun k_ => some k_ = (.slice Ao24 t249.length co24 : Value).ownBlock) (.slice Ao24 t249.length co24) t249 1 t262 t263 w _ ?side1 ?side2 A57.out).mono ?_); (case side1 => repeat (first | (with_reducible first | exact HB.out | apply below_alloc | apply pw_below_drewN | apply below_drew1 | refine below_set ?_ GE242.out | refine below_set ?_ GE253.out) | exact HB.out)); (case side2 => exact Kd.R_tight rfl HO_254003.out); rintro e w114 ⟨rfl, hy0, hb, hkp⟩; refine ⟨_, rfl, ?_⟩; replace HO_243003 := Aside0.mk (Kd.R_mono (ok' := fun k_ => some k_ ≠ (.slice Ao24 t249.length co24 : Value).ownBlock) (Kd.R_keptB (HO_243003.out) hkp (fun k_ hk_ hs_ => (hk_) hs_)) (fun k_ hk_ => hk_.1)); replace BK242 := Aside0.mk (blk_kept (zB BK242.out) hkp (fun hs_ => (fun e_ => (Kd.R_ne HO_254003.out BK242.out (by decide)) e_) hs_)); replace BK253 := Aside0.mk (blk_kept (zB BK253.out) hkp (fun hs_ => (fun e_ => (Kd.R_ne HO_254003.out BK253.out (by decide)) e_) hs_)); replace HO_254003 := Aside0.mk (Kd.R_reok rfl hy0 (fun k_ e_ => HO_254003.out.1 k_ e_)); replace HB := Aside0.mk (hb); (try clear hb); (try clear hkp); (try clear hy0); have hcz115_0 : w114.cell? ⟨gb253, 0, none⟩ = some (.int .i64 t246) := b1 BK253 0; have hcz115_1 : w114.cell? ⟨gb253, 1, none⟩ = some (.int .i64 t247) := b1 BK253 1; have hcz115_2 : w114.cell? ⟨gb253, 2, none⟩ = some (.int .i64 t248) := b1 BK253 2; have hcz115_3 : w114.cell? ⟨gb253, 3, none⟩ = some (.slice Ao24 t249.length co24) := b1 BK253 3; have hfz115_0 := blk_frozen BK253.out 0; have hfz115_1 := blk_frozen BK253.out 1; have hfz115_2 := blk_frozen BK253.out 2; have hfz115_3 := blk_frozen BK253.out 3) | ((with_reducible refine gate_callee (f := 17) rfl ?_); refine goesL_ (some 79) rfl rfl Try.func17 (by kernel_rfl) rfl #[.agg #[.int .i64 t246, .int .i64 t247, .int .i64 t248, .slice Ao24 t263.length co24], .int .i64 1] rfl (by (try simp only [m3]); first | done | (rw [show t263.length = t249.length from (Kd.R_reads' HO_254003.out).1.symm] <;> rfl) | rfl | (simp only [d2]; rfl)) ?_; (with_reducible refine (laws_heldAuto.calls kj39 t246 t247 t248 _ _ t263 1 t264 _ ?side1 ?side2 A58.out).mono ?_); (case side1 => exact zC (Kd.R_reads' HO_254003.out).2.2); (case side2 => rw [show t263.length = t249.length from (Kd.R_reads' HO_254003.out).1.symm]; exact (Kd.R_reads' HO_254003.out).2.1); rintro e w116 ⟨rfl, hb⟩; refine ⟨_, rfl, ?_⟩; replace HO_243003 := xR HO_243003 hb; replace HO_254003 := xR HO_254003 hb; replace BK242 := xB BK242 hb; replace BK253 := xB BK253 hb; replace HB := xS HB hb; (try clear hb); (try clear hb2); (try clear hk); (try clear hi)))
           go_ret; exact ⟨by first | rfl | (simp [errW_none, errW_some] <;> rfl) | (simp [*, errW_none, errW_some] <;> rfl), by repeat (first | (with_reducible first | exact HB.out | apply below_alloc | apply pw_below_drewN | apply below_drew1 | refine below_set ?_ GE242.out | refine below_set ?_ GE253.out) | exact HB.out)⟩
     ·replace c38 := Bool.eq_false_iff.mpr c38; subst c38
      have H1 : (some false) = some r := by rw [if_neg (show ¬ (false = true) by decide)] at H; exact H
      clear H; have H := H1; clear H1; obtain rfl := Option.some.inj H
      go_wp2_with (first | ((with_reducible refine gate_callee (f := 12) rfl ?_); refine goesL_ (some 55) rfl rfl Try.func12 (by kernel_rfl) rfl #[.slice A3 l3.length c3] rfl (by (try simp only [m3]); first | done | rfl | (simp only [d2]; rfl)) ?_; (with_reducible refine (laws_toEdgeS.calls kj10 _ _ l3 t255 _ ?side1 ?side2 A36.out).mono ?_); (case side1 => exact zC (Kd.C_below HR3.out HB.out)); (case side2 => exact HC3.out); rintro e w117 ⟨v256, rfl, ho0, hb⟩; refine ⟨_, rfl, ?_⟩; have HO257 := Aside0.mk (Kd.R_lower (Kd.R_new' (Kd.R_new' (Kd.R_new' ho0 (Kd.R_lt (zR HO_12.out))) (Kd.R_lt (zR HO_243003.out))) (Kd.R_lt (zR HO_254003.out))) (below_size (zS HB.out))); replace HO_12 := xE HO_12 ho0 hb; replace HO_243003 := xE HO_243003 ho0 hb; replace HO_254003 := xE HO_254003 ho0 hb; replace BK242 := xB BK242 hb; replace BK253 := xB BK253 hb; replace HB := xS HB hb; (try clear hb); (try clear hb2); (try clear hk); (try clear hi); (try clear ho0); obtain ⟨Ao118, co118, eo118⟩ := Kd.R_slice HO257.out; subst eo118) | ((with_reducible refine gate_callee (f := 14) rfl ?_); refine goesL_ (some 56) rfl rfl Try.func14 (by kernel_rfl) rfl #[.slice Ao19 t243.length co19, .slice Ao118 t255.length co118] rfl (by (try simp only [m3]); first | done | rfl | (simp only [d2]; rfl)) ?_; (with_reducible refine (laws_eqEdgeS.calls kj10 _ _ t243 _ _ t255 false _ ?side1 ?side2 ?side3 ?side4 A37.out).mono ?_); (case side1 => exact zC (Kd.R_reads' HO_12.out).2.2); (case side2 => exact (Kd.R_reads' HO_12.out).2.1); (case side3 => exact zC (Kd.R_reads' HO257.out).2.2); (case side4 => exact (Kd.R_reads' HO257.out).2.1); rintro e w119 ⟨rfl, hb⟩; refine ⟨_, rfl, ?_⟩; replace HO_12 := xR HO_12 hb; replace HO_243003 := xR HO_243003 hb; replace HO_254003 := xR HO_254003 hb; replace HO257 := xR HO257 hb; replace BK242 := xB BK242 hb; replace BK253 := xB BK253 hb; replace HB := xS HB hb; (try clear hb); (try clear hb2); (try clear hk); (try clear hi)))
      go_ret; exact ⟨by first | rfl | (simp [errW_none, errW_some] <;> rfl) | (simp [*, errW_none, errW_some] <;> rfl), by repeat (first | (with_reducible first | exact HB.out | apply below_alloc | apply pw_below_drewN | apply below_drew1 | refine below_set ?_ GE242.out | refine below_set ?_ GE253.out) | exact HB.out)⟩

/-- THE ONE PURE STATEMENT of laws_FnExactAutoMake. -/
def laws_FnExactAutoMake.Pure : Prop := ∀ (a0 : Int) (a1 : Int) (a2 : Int) (l3 : List (S57)), (Lit.int .i64 a0).wf = true → (Lit.int .i64 a1).wf = true → (Lit.int .i64 a2).wf = true → l3.length ≤ 9223372036854775807 → (∀ x ∈ l3, ((Lit.int .i64 x.f0).wf = true ∧ (Lit.int .i64 x.f1).wf = true ∧ (Lit.int .i64 x.f2).wf = true)) → ∃ k, laws_FnExactAutoMake.f k a0 a1 a2 l3 = some true

end Go.Proofs.Ytigmokdcanebeaa.MFnExactAutoMake
